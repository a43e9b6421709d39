/- What the functions of this chapter give: their contracts over the machine. -/
import Derived.Test.YtinfnpbglapjhaaAm3
import Derived.Test.YtinfnpbglapjhaaCt14
import Derived.Test.YtinfnpbglapjhaaC14
/- pack.Reader: take, number, U8, U64, Bytes, Text, as plain parses. -/
namespace Go.Proofs.Ytinfnpbglapjhaa.AM
open Go.RowKit
set_option maxRecDepth 100000
set_option linter.unusedVariables false
set_option linter.unusedSimpArgs false

/-- A reader in memory: r its block; what is left; c the block of the bytes. -/
def RR (σ : St) (r : Nat) (l : List UInt8) (c : Option Nat) : Prop := ∃ v, σ.mem.get r = some (.cells 1 [v]) ∧ RdB σ v l c ∧ c ≠ some r ∧ r < σ.next
theorem RR.keep {σ σ' : St} {r : Nat} {l : List UInt8} {c : Option Nat} (h : RR σ r l c) (hn : σ.next ≤ σ'.next) (hm : ∀ a, a < σ.next → a = r ∨ c = some a → σ'.mem.get a = σ.mem.get a) : RR σ' r l c := by
  obtain ⟨v, h1, h2, h3, h4⟩ := h
  exact ⟨v, (hm r h4 (.inl rfl)).trans h1, h2.keep hn fun a ha hc => hm a ha (.inr hc), h3, by omega⟩
structure RStp (r : Nat) (σ σ' : St) : Prop where
  next : σ.next ≤ σ'.next
  keep : ∀ a, a < σ.next → a ≠ r → σ'.mem.get a = σ.mem.get a
theorem RStp.trans {r : Nat} {a b d : St} (h : RStp r a b) (k : RStp r b d) : RStp r a d := ⟨Nat.le_trans h.next k.next, fun x hx hr => (k.keep x (Nat.lt_of_lt_of_le hx h.next) hr).trans (h.keep x hx hr)⟩
theorem Grow.rstp {σ σ' : St} (h : Grow σ σ') (r : Nat) : RStp r σ σ' := ⟨h.1, fun a ha _ => h.2 a ha⟩
theorem RR.grow {σ σ' : St} {r : Nat} {l : List UInt8} {c : Option Nat} (h : RR σ r l c) (hg : Grow σ σ') : RR σ' r l c := h.keep hg.1 fun a ha _ => hg.2 a ha

def pNum (k : Nat) (l : List UInt8) : Except Nat (Nat × List UInt8) := if l.length < k then .error 4 else .ok (be (l.take k), l.drop k)
theorem pNum_len {k : Nat} {l : List UInt8} {n : Nat} {r : List UInt8} (h : pNum k l = .ok (n, r)) : r.length + k = l.length ∧ n < 256 ^ k := by
  unfold pNum at h
  split at h
  · cases h
  · rename_i hk
    cases h
    have := be_lt (l.take k)
    rw [List.length_take, Nat.min_eq_left (by omega)] at this
    exact ⟨by rw [List.length_drop]; omega, this⟩
section
variable {T : AVal → St → Prop} {σ : St} {r : Nat} {l : List UInt8} {c : Option Nat} {Q : AVal → St → Prop}
theorem rtake_c (h : RR σ r l c) (hl : l.length < 4611686018427387904) {n : Nat} (hT : l.length < n → T (thrownV 4) σ)
    (hQ : n ≤ l.length → ∀ v1 σ', RR σ' r (l.drop n) c → RdB σ' v1 (l.take n) c → σ'.next = σ.next → (∀ a, a ≠ r → σ'.mem.get a = σ.mem.get a) → Q v1 σ') : ACall (Env.th Try.prog T) 91 [.ptr r 0, .int .u64 (n : Int)] σ Q := by
  refine ACall.of_compF hmx (fun a w => Try.call91 a w) Try.func91 cf91 (n := 2) (by decide) rfl ?_
  obtain ⟨v, h1, h2, h3, h4⟩ := h
  have hlen := h2.len
  have w1 : IntKind.u64.wrap (l.length : Int) = l.length := by rw [IntWalk.u64_in] <;> omega
  by_cases hn : l.length < n
  · have hn' : (l.length : Int) < n := by omega
    simp [ac91, rs91, lk_cons, h1, ↓hlen, w1, hn, hn', fillL, storeL]
    exact hT hn
  · have hn' : ¬ (l.length : Int) < n := by omega
    obtain ⟨v1, s1, r1⟩ := h2.pre (n := n) (by omega) .u64 rfl
    obtain ⟨v2, s2, r2⟩ := h2.cut (n := n) (by omega) .u64 rfl
    have s1 := s1 σ (fun _ _ => rfl)
    have s2 := s2 σ (fun _ _ => rfl)
    simp [ac91, rs91, lk_cons, h1, ↓hlen, w1, hn, hn', optM, ↓s1, ↓s2, r2.one, storeL]
    have kp : ∀ a, a ≠ r → (σ.mem.set r (.cells 1 [v2])).get a = σ.mem.get a := fun a ha => by simp [ha]
    have rk : ∀ {w : AVal} {m : List UInt8}, RdB σ w m c → RdB ⟨σ.mem.set r (.cells 1 [v2]), σ.next⟩ w m c := fun hw => hw.keep (Nat.le_refl _) fun a _ hc => kp a fun e => h3 (by rw [hc, e])
    exact hQ (by omega) v1 _ ⟨v2, by simp, rk r2, h3, h4⟩ (rk r1) rfl kp
def NuJ (v1 : AVal) (l1 : List UInt8) (σ0 : St) (mm : Nat) (rg : Regs) (σ' : St) : Prop := ∃ i, mm = l1.length - i ∧ i ≤ l1.length ∧ σ' = σ0 ∧
  rg = [(5, .int .u64 (be (l1.take i) : Nat)), (10, v1), (11, .int .i64 (l1.length : Nat)), (12, .int .i64 (i : Nat))]
theorem rnum_c (h : RR σ r l c) (hl : l.length < 4611686018427387904) {n : Nat} (hn8 : n ≤ 8) (hT : ∀ e, pNum n l = .error e → T (thrownV (e : Int)) σ)
    (hQ : ∀ x l' σ', pNum n l = .ok (x, l') → RR σ' r l' c → RStp r σ σ' → Q (.int .u64 (x : Int)) σ') : ACall (Env.th Try.prog T) 89 [.ptr r 0, .int .u64 (n : Int)] σ Q := by
  refine ACall.of_compF hmx (fun a w => Try.call89 a w) Try.func89 cf89 (n := 2) (by decide) rfl ?_
  simp [ac89, rs89, lk_cons]
  refine rtake_c h hl (fun hn => by have := hT 4 (by rw [pNum, if_pos hn]); exact this) fun hn v1 σ1 h1 h2 hx hk => ?_
  have hq := hQ (be (l.take n)) (l.drop n) σ1 (by rw [pNum, if_neg (by omega)]) h1 ⟨by omega, fun a _ ha => hk a ha⟩
  have hlt : (l.take n).length = n := by simp [Nat.min_eq_left hn]
  revert h2 hq hlt
  generalize l.take n = l1
  intro h2 hq hlt
  subst hlt
  have hlen1 := h2.len
  simp [lk_cons, ↓hlen1]
  refine wp_loop (NuJ v1 l1 σ1) l1.length ?_ ?_
  · exact ⟨0, rfl, Nat.zero_le _, rfl, by simp [be_nil, lk_cons]⟩
  · rintro mm rg σ' ⟨i, rfl, hi, rfl, rfl⟩
    by_cases hc : i < l1.length
    · obtain ⟨x, hx⟩ : ∃ x, l1[i]? = some x := ⟨_, List.getElem?_eq_getElem (by omega)⟩
      obtain ⟨k, hk⟩ : ∃ k, i + 1 = k := ⟨_, rfl⟩
      have w1 : IntKind.i64.wrap ((i : Int) + 1) = (k : Int) := by rw [IntWalk.i64_in] <;> omega
      have htk := take_snoc hx
      have hbe : be (l1.take k) = be (l1.take i) * 256 + x.toNat := by rw [← hk, htk, be_snoc]
      have hbl : be (l1.take k) < 18446744073709551616 := by
        have := be_lt (l1.take k)
        have hle : (l1.take k).length ≤ 8 := by simp; omega
        have := Nat.pow_le_pow_right (n := 256) (by decide) hle
        have e : 256 ^ 8 = 18446744073709551616 := by decide
        omega
      have e1 := shl8 (x := be (l1.take i)) (by omega) σ'
      have e2 := or8 (x := be (l1.take i)) (b := x) (by omega) σ'
      obtain ⟨p, a1, a2⟩ := h2.at hx rfl
      have a2 := a2 σ' (fun _ _ => rfl)
      have wx : IntKind.u64.wrap (x.toNat : Int) = x.toNat := by have := x.toNat_lt; rw [IntWalk.u64_in] <;> omega
      simp [lk_cons, hc, w1, ↓a1, ↓a2, wx, ↓e1, ↓e2]
      exact ⟨l1.length - k, by omega, k, rfl, by omega, rfl, by rw [hbe]; simp⟩
    · have : i = l1.length := by omega
      subst this
      simp [lk_cons]
      exact hq
theorem ru64_c (h : RR σ r l c) (hl : l.length < 4611686018427387904) (hT : ∀ e, pNum 8 l = .error e → T (thrownV (e : Int)) σ)
    (hQ : ∀ x l' σ', pNum 8 l = .ok (x, l') → RR σ' r l' c → RStp r σ σ' → Q (.int .u64 (x : Int)) σ') : ACall (Env.th Try.prog T) 81 [.ptr r 0] σ Q := by
  refine ACall.of_compF hmx (fun a w => Try.call81 a w) Try.func81 cf81 (n := 1) (by decide) rfl ?_
  simp [ac81, rs81, lk_cons]
  refine rnum_c h hl (n := 8) (by decide) hT fun x l' σ' h1 h2 h3 => ?_
  simp [lk_cons]
  exact hQ x l' σ' h1 h2 h3
end
section
variable {T : AVal → St → Prop} {σ : St} {r : Nat} {l : List UInt8} {c : Option Nat} {Q : AVal → St → Prop}
end
section
variable {T : AVal → St → Prop} {σ : St} {r : Nat} {l : List UInt8} {c : Option Nat} {Q : AVal → St → Prop}
theorem ru16_c (h : RR σ r l c) (hl : l.length < 4611686018427387904) (hT : ∀ e, pNum 2 l = .error e → T (thrownV (e : Int)) σ)
    (hQ : ∀ x l' σ', pNum 2 l = .ok (x, l') → RR σ' r l' c → RStp r σ σ' → Q (.int .u16 (x : Int)) σ') : ACall (Env.th Try.prog T) 82 [.ptr r 0] σ Q := by
  refine ACall.of_compF hmx (fun a w => Try.call82 a w) Try.func82 cf82 (n := 1) (by decide) rfl ?_
  simp [ac82, rs82, lk_cons]
  refine rnum_c h hl (n := 2) (by decide) hT fun x l' σ' h1 h2 h3 => ?_
  have hx := (pNum_len h1).2
  have w1 : IntKind.u16.wrap (x : Int) = x := by rw [IntWalk.u16_in] <;> omega
  simp [lk_cons, w1]
  exact hQ x l' σ' h1 h2 h3
end
theorem pNum_err {k : Nat} {l : List UInt8} {e : Nat} (h : pNum k l = .error e) : e ≠ 0 := by
  unfold pNum at h
  split at h
  · cases h; decide
  · cases h
end Go.Proofs.Ytinfnpbglapjhaa.AM

/- The document's Reader: what it says, told once for what is read and for a fault. -/
namespace Go.Proofs.Ytinfnpbglapjhaa.AM
open Go.RowKit
set_option maxRecDepth 100000
set_option linter.unusedVariables false
set_option linter.unusedSimpArgs false

abbrev RSt := Except Nat (List UInt8)
/-- The document's reader in memory. -/
def SR (σ : St) (r : Nat) (st : RSt) (c : Option Nat) : Prop := r < σ.next ∧ c ≠ some r ∧ (∀ x, c = some x → x < σ.next) ∧ match st with
  | .ok l => ∃ v, σ.mem.get r = some (.cells 2 [v, .int .i64 0]) ∧ RdB σ v l c ∧ l.length ≤ 1000000
  | .error e => e ≠ 0 ∧ ∃ v, v.one = true ∧ σ.mem.get r = some (.cells 2 [v, .int .i64 (e : Int)])
theorem SR.keep {σ σ' : St} {r : Nat} {st : RSt} {c : Option Nat} (h : SR σ r st c) (hn : σ.next ≤ σ'.next) (hm : ∀ a, a < σ.next → a = r ∨ c = some a → σ'.mem.get a = σ.mem.get a) : SR σ' r st c := by
  obtain ⟨h1, h2, h3, h4⟩ := h
  refine ⟨by omega, h2, fun x hx => by have := h3 x hx; omega, ?_⟩
  cases st with
  | ok l =>
    obtain ⟨v, k1, k2, k3⟩ := h4
    exact ⟨v, (hm r h1 (.inl rfl)).trans k1, k2.keep hn fun a ha hc => hm a ha (.inr hc), k3⟩
  | error e =>
    obtain ⟨k0, v, k1, k2⟩ := h4
    exact ⟨k0, v, k1, (hm r h1 (.inl rfl)).trans k2⟩
def sNum (k : Nat) : RSt → Nat × RSt
  | .error e => (0, .error e)
  | .ok l => match pNum k l with
    | .error e => (0, .error e)
    | .ok (x, l') => (x, .ok l')
def sFail (e : Nat) : RSt → RSt
  | .error c => .error c
  | .ok _ => .error e
def sEnd : RSt → Nat
  | .error e => e
  | .ok l => if l = [] then 0 else 5

def SnJ (r k : Nat) (l : List UInt8) (σ0 : St) (mm : Nat) (rg : Regs) (σ' : St) : Prop := ∃ i, mm = k - i ∧ i ≤ k ∧ σ' = σ0 ∧ rg = [(0, .ptr r 0), (1, .int .i64 (k : Int)), (5, .int .u64 (be (l.take i) : Nat)), (6, .int .i64 (i : Nat))]
theorem snum_c {σ : St} {r : Nat} {st : RSt} {c : Option Nat} (h : SR σ r st c) {k : Nat} (hk : k ≤ 8) (Q : AVal → St → Prop)
    (hQ : ∀ σ', SR σ' r (sNum k st).2 c → σ'.next = σ.next → (∀ a, a ≠ r → σ'.mem.get a = σ.mem.get a) → Q (.int .u64 ((sNum k st).1 : Nat)) σ') : ACall Try.prog 64 [.ptr r 0, .int .i64 (k : Int)] σ Q := by
  refine ACall.of_compF hmx (fun a w => Try.call64 a w) Try.func64 cf64 (n := 2) (by decide) rfl ?_
  obtain ⟨h1, h2, h3, h4⟩ := h
  cases st with
  | error e =>
    obtain ⟨k0, v, k1, k2⟩ := h4
    have e0 : ¬ (e : Int) = 0 := by omega
    have hq := hQ σ ⟨h1, h2, h3, k0, v, k1, k2⟩ rfl fun _ _ => rfl
    simp only [sNum] at hq
    simp [ac64, rs64, lk_cons, k2, k0, e0]
    simpa using hq
  | ok l =>
    obtain ⟨v, k1, k2, k3⟩ := h4
    have hlen := k2.len
    by_cases hl : l.length < k
    · have hl' : (l.length : Int) < k := by omega
      have hp : pNum k l = .error 4 := by rw [pNum, if_pos hl]
      have hq := hQ ⟨σ.mem.set r (.cells 2 [v, .int .i64 4]), σ.next⟩
      simp only [sNum, hp] at hq
      simp [ac64, rs64, lk_cons, k1, ↓hlen, hl, hl', storeL]
      have := hq ⟨h1, h2, h3, by decide, v, k2.one.1, by simp⟩ (by trivial) (fun a ha => by simp [ha])
      simpa using this
    · have hl' : ¬ (l.length : Int) < k := by omega
      have hp : pNum k l = .ok (be (l.take k), l.drop k) := by rw [pNum, if_neg hl]
      obtain ⟨v2, s2, r2⟩ := k2.cut (n := k) (by omega) .i64 rfl
      have s2 := s2 σ (fun _ _ => rfl)
      have hkl : k ≤ l.length := by omega
      simp [ac64, rs64, lk_cons, k1, ↓hlen, hl, hl']
      refine wp_loop (SnJ r k l σ) k ?_ ?_
      · exact ⟨0, rfl, Nat.zero_le _, rfl, by simp [be_nil, lk_cons]⟩
      · rintro mm rg σ' ⟨i, rfl, hi, rfl, rfl⟩
        by_cases hc : i < k
        · obtain ⟨x, hx⟩ : ∃ x, l[i]? = some x := ⟨_, List.getElem?_eq_getElem (by omega)⟩
          obtain ⟨m, hm⟩ : ∃ m, i + 1 = m := ⟨_, rfl⟩
          have hc' : (i : Int) < k := by omega
          have w1 : IntKind.i64.wrap ((i : Int) + 1) = (m : Int) := by rw [IntWalk.i64_in] <;> omega
          have htk : l.take (i + 1) = l.take i ++ [x] := by rw [List.take_add_one, hx]; rfl
          have hbe : be (l.take m) = be (l.take i) * 256 + x.toNat := by rw [← hm, htk, be_snoc]
          have hbl : be (l.take m) < 18446744073709551616 := by
            have := be_lt (l.take m)
            have hle : (l.take m).length ≤ 8 := by simp; omega
            have := Nat.pow_le_pow_right (n := 256) (by decide) hle
            have e : 256 ^ 8 = 18446744073709551616 := by decide
            omega
          obtain ⟨p, a1, a2⟩ := k2.at hx rfl
          have a2 := a2 σ' (fun _ _ => rfl)
          have wx : IntKind.u64.wrap (x.toNat : Int) = x.toNat := by have := x.toNat_lt; rw [IntWalk.u64_in] <;> omega
          obtain ⟨y, hy⟩ : ∃ y, be (l.take i) = y := ⟨_, rfl⟩
          obtain ⟨z, hz⟩ : ∃ z, be (l.take m) = z := ⟨_, rfl⟩
          rw [hy, hz] at hbe
          rw [hz] at hbl
          have wm : IntKind.u64.wrap ((y : Int) * 256) = (y : Int) * 256 := by rw [IntWalk.u64_in] <;> omega
          have wa : IntKind.u64.wrap ((y : Int) * 256 + x.toNat) = (z : Int) := by rw [IntWalk.u64_in] <;> omega
          simp [lk_cons, hc, hc', w1, k1, ↓a1, ↓a2, wx, hy, wm, wa]
          exact ⟨k - m, by omega, m, rfl, by omega, rfl, by rw [hz]⟩
        · have : i = k := by omega
          subst this
          have hq := hQ ⟨σ'.mem.set r (.cells 2 [v2, .int .i64 0]), σ'.next⟩
          simp only [sNum, hp] at hq
          simp [lk_cons, k1, optM, ↓s2, r2.one, storeL]
          exact hq ⟨h1, h2, h3, v2, by simp, r2.keep (Nat.le_refl _) fun a _ hc => by
            have : a ≠ r := fun e => h2 (by rw [hc, e])
            simp [this], by rw [List.length_drop]; omega⟩ (by trivial) fun a ha => by simp [ha]
end Go.Proofs.Ytinfnpbglapjhaa.AM

/- The document's Reader: Bytes, Text, Fail, End. -/
namespace Go.Proofs.Ytinfnpbglapjhaa.AM
open Go.RowKit
set_option maxRecDepth 100000
set_option linter.unusedVariables false
set_option linter.unusedSimpArgs false

theorem sfail_c {σ : St} {r : Nat} {st : RSt} {c : Option Nat} (h : SR σ r st c) {e : Nat} (he : e ≠ 0) (Q : AVal → St → Prop)
    (hQ : ∀ σ', SR σ' r (sFail e st) c → σ'.next = σ.next → (∀ a, a ≠ r → σ'.mem.get a = σ.mem.get a) → Q (.tup []) σ') : ACall Try.prog 65 [.ptr r 0, .int .i64 (e : Int)] σ Q := by
  refine ACall.of_compF hmx (fun a w => Try.call65 a w) Try.func65 cf65 (n := 2) (by decide) rfl ?_
  have h' := h
  obtain ⟨g1, g2, g3, g4⟩ := h
  cases st with
  | error e1 =>
    obtain ⟨k0, v, k1, k2⟩ := g4
    have e0 : ¬ (e1 : Int) = 0 := by omega
    simp [ac65, rs65, lk_cons, k2, k0, e0]
    exact hQ σ h' rfl fun _ _ => rfl
  | ok l =>
    obtain ⟨v, k1, k2, k3⟩ := g4
    simp [ac65, rs65, lk_cons, k1, storeL]
    exact hQ _ ⟨g1, g2, g3, he, v, k2.one.1, by simp⟩ rfl fun a ha => by simp [ha]
theorem send_c {σ : St} {r : Nat} {st : RSt} {c : Option Nat} (h : SR σ r st c) (Q : AVal → St → Prop)
    (hQ : ∀ σ', σ'.next = σ.next → (∀ a, a ≠ r → σ'.mem.get a = σ.mem.get a) → Q (.int .i64 (sEnd st : Nat)) σ') : ACall Try.prog 33 [.ptr r 0] σ Q := by
  refine ACall.of_compF hmx (fun a w => Try.call33 a w) Try.func33 cf33 (n := 1) (by decide) rfl ?_
  obtain ⟨g1, g2, g3, g4⟩ := h
  cases st with
  | error e =>
    obtain ⟨k0, v, k1, k2⟩ := g4
    have e0 : ¬ (e : Int) = 0 := by omega
    simp [ac33, rs33, lk_cons, k2, k0, e0]
    exact hQ σ rfl fun _ _ => rfl
  | ok l =>
    obtain ⟨v, k1, k2, k3⟩ := g4
    have hlen := k2.len
    cases l with
    | nil =>
      simp [ac33, rs33, lk_cons, k1, ↓hlen]
      exact hQ σ rfl fun _ _ => rfl
    | cons y l =>
      obtain ⟨N, hN⟩ : ∃ N, (y :: l).length = N := ⟨_, rfl⟩
      have hp : (0 : Int) < (N : Int) := by rw [← hN]; simp only [List.length_cons]; omega
      have hp' : 0 < N := by omega
      simp only [hN] at hlen
      simp [ac33, rs33, lk_cons, k1, ↓hlen, hp, hp', storeL]
      have := hQ ⟨σ.mem.set r (.cells 2 [v, .int .i64 5]), σ.next⟩ (by trivial) fun a ha => by simp [ha]
      simpa [sEnd] using this
end Go.Proofs.Ytinfnpbglapjhaa.AM

/- Notes: a note's bytes as a plain parse; items in memory. -/
namespace Go.Proofs.Ytinfnpbglapjhaa.AM
open Go.RowKit
set_option maxRecDepth 100000
set_option linter.unusedVariables false
set_option linter.unusedSimpArgs false

abbrev Prs (α : Type) := List UInt8 → Except Nat (α × List UInt8)
/-- Parses, one behind the other. -/
def pB {α β : Type} (p : Prs α) (f : α → Prs β) : Prs β := fun l => match p l with
  | .error e => .error e
  | .ok x => f x.1 x.2
theorem pB_err {α β : Type} {p : Prs α} {f : α → Prs β} {l : List UInt8} {e : Nat} (h : p l = .error e) : pB p f l = .error e := by simp only [pB, h]
theorem pB_ok {α β : Type} {p : Prs α} {f : α → Prs β} {l r : List UInt8} {x : α} (h : p l = .ok (x, r)) : pB p f l = f x r := by simp only [pB, h]
theorem pB_assoc {α β γ : Type} (p : Prs α) (f : α → Prs β) (g : β → Prs γ) : pB (pB p f) g = pB p fun x => pB (f x) g := by
  funext l
  simp only [pB]
  cases p l <;> rfl
def pR {α : Type} (x : α) : Prs α := fun l => .ok (x, l)
theorem pB_pR {α β : Type} (x : α) (f : α → Prs β) : pB (pR x) f = f x := rfl
theorem pB_inv {α β : Type} {p : Prs α} {f : α → Prs β} {l r : List UInt8} {y : β} (h : pB p f l = .ok (y, r)) : ∃ x m, p l = .ok (x, m) ∧ f x m = .ok (y, r) := by
  cases hp : p l with
  | error e => rw [pB_err hp] at h; cases h
  | ok x => exact ⟨x.1, x.2, rfl, by rw [pB_ok (r := x.2) (x := x.1) hp] at h; exact h⟩
theorem pB_inve {α β : Type} {p : Prs α} {f : α → Prs β} {l : List UInt8} {e : Nat} (h : pB p f l = .error e) : p l = .error e ∨ ∃ x m, p l = .ok (x, m) ∧ f x m = .error e := by
  cases hp : p l with
  | error e' => rw [pB_err hp] at h; cases h; exact .inl rfl
  | ok x => exact .inr ⟨x.1, x.2, rfl, by rw [pB_ok (r := x.2) (x := x.1) hp] at h; exact h⟩
def pMany {α : Type} (p : Prs α) : Nat → Prs (List α)
  | 0 => pR []
  | k + 1 => pB p fun x => pB (pMany p k) fun xs => pR (x :: xs)
theorem pMany_step {α β : Type} (p : Prs α) (k : Nat) (F : List α → Prs β) : pB (pMany p (k + 1)) F = pB p fun x => pB (pMany p k) fun xs => F (x :: xs) := by
  rw [pMany, pB_assoc]
  congr 1
  funext x
  rw [pB_assoc]
  rfl
theorem ne0 {α β : Type} {p : Prs α} {f : α → Prs β} (hp : ∀ l e, p l = .error e → e ≠ 0) (hf : ∀ x l e, f x l = .error e → e ≠ 0) (l : List UInt8) (e : Nat) (h : pB p f l = .error e) : e ≠ 0 := by
  rcases pB_inve h with h | ⟨x, m, _, h⟩
  · exact hp _ _ h
  · exact hf _ _ _ h
theorem pR_ne0 {α : Type} (x : α) (l : List UInt8) (e : Nat) (h : pR x l = .error e) : e ≠ 0 := by cases h
theorem pMany_ne0 {α : Type} {p : Prs α} (hp : ∀ l e, p l = .error e → e ≠ 0) : ∀ k l e, pMany p k l = .error e → e ≠ 0
  | 0, l, e, h => by cases h
  | k + 1, l, e, h => ne0 hp (fun x => ne0 (pMany_ne0 hp k) fun y => pR_ne0 _) l e h
theorem sNum_st (k : Nat) (l : List UInt8) : (∃ x r, pNum k l = .ok (x, r) ∧ sNum k (.ok l) = (x, .ok r)) ∨ ∃ e, pNum k l = .error e ∧ sNum k (.ok l) = (0, .error e) := by
  cases hp : pNum k l with
  | error e => exact .inr ⟨e, rfl, by simp [sNum, hp]⟩
  | ok x => exact .inl ⟨x.1, x.2, rfl, by simp [sNum, hp]⟩
/-- The document's reader goes along with a parse. -/
def Tr {β : Type} (res : Except Nat (β × List UInt8)) (st : RSt) (G : Prs β) : Prop := (∃ m, st = .ok m ∧ res = G m) ∨ ∃ e, st = .error e ∧ res = .error e
section
variable {β : Type} {res : Except Nat (β × List UInt8)} {st : RSt}
theorem Tr.num {k : Nat} {F : Nat → Prs β} (h : Tr res st (pB (pNum k) F)) : Tr res (sNum k st).2 (F (sNum k st).1) := by
  rcases h with ⟨m, rfl, h⟩ | ⟨e, rfl, h⟩
  · rcases sNum_st k m with ⟨x, r, h1, h2⟩ | ⟨e, h1, h2⟩
    · rw [h2]; exact .inl ⟨r, rfl, by rw [h, pB_ok h1]⟩
    · rw [h2]; exact .inr ⟨e, rfl, by rw [h, pB_err h1]⟩
  · exact .inr ⟨e, rfl, h⟩
end
theorem sNum_lt (k : Nat) (st : RSt) : (sNum k st).1 < 256 ^ k := by
  cases st with
  | error e => exact Nat.pow_pos (by decide)
  | ok l =>
    rcases sNum_st k l with ⟨x, r, h1, h2⟩ | ⟨e, h1, h2⟩
    · rw [h2]; exact (pNum_len h1).2
    · rw [h2]; exact Nat.pow_pos (by decide)
theorem SR.code {σ : St} {r : Nat} {st : RSt} {c : Option Nat} (h : SR σ r st c) : ∃ v e, σ.mem.get r = some (.cells 2 [v, .int .i64 ((e : Nat) : Int)]) ∧ (e = 0 ∧ (∃ l, st = .ok l) ∨ e ≠ 0 ∧ st = .error e) := by
  obtain ⟨h1, h2, h3, h4⟩ := h
  cases st with
  | ok l => obtain ⟨v, k1, _⟩ := h4; exact ⟨v, 0, k1, .inl ⟨rfl, l, rfl⟩⟩
  | error e => obtain ⟨k0, v, _, k1⟩ := h4; exact ⟨v, e, k1, .inr ⟨k0, rfl⟩⟩
end Go.Proofs.Ytinfnpbglapjhaa.AM

/- A cursor as bytes: Write. -/
namespace Go.Proofs.Ytinfnpbglapjhaa.AM
open Go.RowKit
set_option maxRecDepth 100000
set_option linter.unusedVariables false
set_option linter.unusedSimpArgs false

theorem wu16_c {σ : St} {w : Nat} {l : List UInt8} {b : Option Nat} (h : WB σ w l b) {n : Nat} (hn : n < 65536) (hl : l.length ≤ 1000000000) (Q : AVal → St → Prop)
    (hQ : ∀ σ' b', WB σ' w (l ++ beN 2 n) b' → WStp w b b' σ σ' → Q (.tup []) σ') : ACall Try.prog 78 [.ptr w 0, .int .u16 (n : Int)] σ Q := by
  refine ACall.of_compF hmx (fun a w => Try.call78 a w) Try.func78 cf78 (n := 2) (by decide) rfl ?_
  have w1 : IntKind.u64.wrap (n : Int) = n := by rw [IntWalk.u64_in] <;> omega
  simp [ac78, rs78, lk_cons, w1]
  refine wnum_c h (size := 2) (by decide) hl _ fun σ' b' h1 h2 => ?_
  simp [lk_cons]
  exact hQ σ' b' h1 h2
def rgB (z : S25) : List UInt8 := beN 8 z.f0.toNat ++ beN 8 z.f1.toNat
def rgsB (l : List S25) : List UInt8 := (l.map rgB).flatten
def hdB (x : Hd) : List UInt8 := beN 8 x.f0.toNat ++ beN 2 (x.f1.length % 65536) ++ rgsB x.f1
def hdsB (h : List Hd) : List UInt8 := (h.map hdB).flatten
def cuB (ml me : Int) (h : List Hd) : List UInt8 := beN 8 ml.toNat ++ beN 8 me.toNat ++ beN 2 (h.length % 65536) ++ hdsB h
theorem rgsB_snoc (l : List S25) (x : S25) : rgsB (l ++ [x]) = rgsB l ++ rgB x := by simp [rgsB]
theorem hdsB_snoc (l : List Hd) (x : Hd) : hdsB (l ++ [x]) = hdsB l ++ hdB x := by simp [hdsB]
theorem rgsB_len : ∀ l : List S25, (rgsB l).length = 16 * l.length
  | [] => rfl
  | x :: l => by
    have := rgsB_len l
    simp only [rgsB, List.map_cons, List.flatten_cons, List.length_append, rgB, beN_len, List.length_cons] at this ⊢
    omega
def In64 (a : Int) : Prop := 0 ≤ a ∧ a < 18446744073709551616
/-- Few, and of numbers. -/
structure HSm (h : List Hd) : Prop where
  len : h.length ≤ 600
  each : ∀ x ∈ h, x.f1.length ≤ 600
  led : ∀ x ∈ h, In64 x.f0
  rg : ∀ x ∈ h, ∀ z ∈ x.f1, In64 z.f0 ∧ In64 z.f1
theorem hdsB_len {h : List Hd} (he : ∀ x ∈ h, x.f1.length ≤ 600) : (hdsB h).length ≤ 9610 * h.length := by
  induction h with
  | nil => simp [hdsB]
  | cons x l ih =>
    have h1 := he x (by simp)
    have h2 := ih fun y hy => he y (by simp [hy])
    simp only [hdsB, List.map_cons, List.flatten_cons, List.length_append, hdB, rgsB_len, beN_len, List.length_cons] at h2 ⊢
    omega
theorem nat_of {a : Int} (h : In64 a) : ∃ n : Nat, a = (n : Int) ∧ a.toNat = n ∧ n < 18446744073709551616 := ⟨a.toNat, by have := h.1; omega, rfl, by have := h.2; have := h.1; omega⟩
def WoJ (w : Nat) (hv : AVal) (h : List Hd) (l : List UInt8) (b : Option Nat) (S : St) (mm : Nat) (rg : Regs) (σ' : St) : Prop := ∃ (i : Nat) (b' : Option Nat), mm = h.length - i ∧ i ≤ h.length ∧ WB σ' w (l ++ hdsB (h.take i)) b' ∧ WStp w b b' S σ' ∧ rg = [(0, .ptr w 0), (25, hv), (26, i64 h.length), (27, i64 i)]
def WiJ (w : Nat) (hv rv : AVal) (N i : Nat) (r : List S25) (l : List UInt8) (b : Option Nat) (S : St) (mm : Nat) (rg : Regs) (σ' : St) : Prop := ∃ (j : Nat) (b' : Option Nat), mm = r.length - j ∧ j ≤ r.length ∧ WB σ' w (l ++ rgsB (r.take j)) b' ∧ WStp w b b' S σ' ∧ rg = [(0, .ptr w 0), (25, hv), (26, i64 N), (27, i64 i), (42, rv), (43, i64 r.length), (44, i64 j)]
theorem WStp.grow {w : Nat} {b b' : Option Nat} {σ σ' τ : St} (h : WStp w b b' σ σ') (hb : ∀ x, b' = some x → x < σ'.next) (g : Grow σ' τ) (hw : w < σ.next) : WStp w b b' σ τ := ⟨Nat.le_trans h.next g.1, h.own, fun a ha h1 h2 => (g.2 a (Nat.lt_of_lt_of_le ha h.next)).trans (h.keep a ha h1 h2)⟩
theorem WB.lt {σ : St} {w : Nat} {l : List UInt8} {b : Option Nat} (h : WB σ w l b) : (∀ x, b = some x → x < σ.next) ∧ w < σ.next := by
  obtain ⟨_, _, hg, _, hw⟩ := h
  exact ⟨fun x hx => hg.lt hx, hw⟩
theorem WB.grow {σ τ : St} {w : Nat} {l : List UInt8} {b : Option Nat} (h : WB σ w l b) (g : Grow σ τ) : WB τ w l b := h.keep g.1 fun a ha _ => g.2 a ha
set_option maxHeartbeats 2000000 in
theorem cwrite_c {σ : St} {w : Nat} {l : List UInt8} {b : Option Nat} (h0 : WB σ w l b) {hv : AVal} {h : List Hd} (hh : HI hv h) (hs : HSm h) {ml me : Int} (hml : In64 ml) (hme : In64 me) (hl : l.length ≤ 100000000) (Q : AVal → St → Prop)
    (hQ : ∀ σ' b', WB σ' w (l ++ cuB ml me h) b' → WStp w b b' σ σ' → Q (.tup []) σ') : ACall Try.prog 58 [.ptr w 0, cv ml me hv] σ Q := by
  refine ACall.of_compF hmx (fun a w => Try.call58 a w) Try.func58 cf58 (n := 2) (by decide) rfl ?_
  have k1 := hh.one.1
  have k2 := hh.one.2
  have l1 := hh.len
  have hlen := hs.len
  obtain ⟨nl, rfl, tnl, _⟩ := nat_of hml
  obtain ⟨ne, rfl, tne, _⟩ := nat_of hme
  simp [ac58, rs58, lk_cons, k1, k2]
  obtain ⟨S, hS⟩ : ∃ S : St, S = ⟨σ.mem.set σ.next (.cells 3 [u64 (nl : Int), u64 (ne : Int), hv]), σ.next + 1⟩ := ⟨_, rfl⟩
  have gS : Grow σ S := ⟨by rw [hS]; exact Nat.le_succ _, fun a ha => by rw [hS]; simp [show ¬ a = σ.next by omega]⟩
  have nS : S.next = σ.next + 1 := by rw [hS]
  have mS : S.mem.get σ.next = some (.cells 3 [u64 (nl : Int), u64 (ne : Int), hv]) := by rw [hS]; simp
  obtain ⟨hbl, hwl⟩ := h0.lt
  have mm : ∀ {σ' : St} {b' : Option Nat}, WStp w b b' S σ' → σ'.mem.get σ.next = S.mem.get σ.next := fun t => t.keep σ.next (by omega) (by omega) (fun e => by have := hbl _ e; omega)
  have toS : ∀ {σ' : St} {b' : Option Nat}, WStp w b b' S σ' → WStp w b b' σ σ' := fun t => ⟨by have := t.next; omega, fun x hx => (t.own x hx).imp id fun h => by omega, fun a ha h1 h2 => (t.keep a (by omega) h1 h2).trans (gS.2 a ha)⟩
  rw [← hS]
  refine wu64_c (h0.grow gS) (by omega) _ fun σ1 b1 h1 t1 => ?_
  simp [lk_cons, mm t1, mS]
  refine wu64_c h1 (by simp [beN_len]; omega) _ fun σ2 b2 h2 t2 => ?_
  have t2 := t1.trans t2
  have wl : IntKind.u16.wrap (h.length : Int) = h.length := by rw [IntWalk.u16_in] <;> omega
  simp [lk_cons, mm t2, mS, ↓l1, wl]
  refine wu16_c h2 (by omega) (by simp [beN_len]; omega) _ fun σ3 b3 h3 t3 => ?_
  have t3 := t2.trans t3
  simp [lk_cons, mm t3, mS, ↓l1]
  obtain ⟨L0, hL0⟩ : ∃ L0, l ++ beN 8 nl ++ beN 8 ne ++ beN 2 h.length = L0 := ⟨_, rfl⟩
  have hL0l : L0.length = l.length + 18 := by rw [← hL0]; simp [beN_len]
  rw [hL0] at h3
  refine wp_loop (WoJ w hv h L0 b S) h.length ?_ ?_
  · exact ⟨0, b3, rfl, Nat.zero_le _, by simpa [hdsB] using h3, t3, by simp [lk_cons]⟩
  rintro m rg σ4 ⟨i, b4, rfl, hi, h4, t4, rfl⟩
  by_cases hlt : i < h.length
  · obtain ⟨x, hx⟩ : ∃ x, h[i]? = some x := ⟨_, List.getElem?_eq_getElem hlt⟩
    have hxm := List.mem_of_getElem? hx
    have w1 : IntKind.i64.wrap ((i : Int) + 1) = ((i + 1 : Nat) : Int) := by rw [IntWalk.i64_in] <;> omega
    obtain ⟨p, r, hr, p1, p2, _, _⟩ := hh.at hx σ4
    have r1 := hr.one.1
    have r2 := hr.one.2
    have l2 := (hr.w σ4).len
    have hxe := hs.each x hxm
    obtain ⟨nx, ex, tx, _⟩ := nat_of (hs.led x hxm)
    rw [ex] at p2
    have htk : h.take (i + 1) = h.take i ++ [x] := by rw [List.take_add_one, hx]; rfl
    have hdl := hdsB_len (h := h.take i) fun y hy => hs.each y (List.mem_of_mem_take hy)
    rw [List.length_take] at hdl
    simp [lk_cons, hlt, ↓p1, ↓p2, storeL, r1, r2]
    obtain ⟨S4, hS4⟩ : ∃ S4 : St, S4 = ⟨(σ4.mem.set σ4.next (.cells 2 [.int .u64 0, .nilsl])).set σ4.next (.cells 2 [u64 (nx : Int), r]), σ4.next + 1⟩ := ⟨_, rfl⟩
    have gS4 : Grow σ4 S4 := ⟨by rw [hS4]; exact Nat.le_succ _, fun a ha => by rw [hS4]; simp [show ¬ a = σ4.next by omega]⟩
    have nS4 : S4.next = σ4.next + 1 := by rw [hS4]
    have mS4 : S4.mem.get σ4.next = some (.cells 2 [u64 (nx : Int), r]) := by rw [hS4]; simp
    obtain ⟨hb4, hw4⟩ := h4.lt
    have mm4 : ∀ {σ' : St} {b' : Option Nat}, WStp w b4 b' S4 σ' → σ'.mem.get σ4.next = S4.mem.get σ4.next := fun t => t.keep σ4.next (by omega) (by omega) (fun e => by have := hb4 _ e; omega)
    have t4S : WStp w b b4 S S4 := t4.grow hb4 gS4 (by omega)
    rw [← hS4]
    refine wu64_c (h4.grow gS4) (by rw [List.length_append]; omega) _ fun σ5 b5 h5 t5 => ?_
    have wl2 : IntKind.u16.wrap (x.f1.length : Int) = x.f1.length := by rw [IntWalk.u16_in] <;> omega
    simp [lk_cons, mm4 t5, mS4, ↓l2, wl2]
    refine wu16_c h5 (by omega) (by simp only [List.length_append, beN_len]; omega) _ fun σ6 b6 h6 t6 => ?_
    have t6 := t5.trans t6
    simp [lk_cons, mm4 t6, mS4, ↓l2]
    obtain ⟨L1, hL1⟩ : ∃ L1, L0 ++ hdsB (h.take i) ++ beN 8 nx ++ beN 2 x.f1.length = L1 := ⟨_, rfl⟩
    have hL1l : L1.length ≤ l.length + 6000000 := by rw [← hL1]; simp only [List.length_append, beN_len]; omega
    rw [hL1] at h6
    refine wp_loop (WiJ w hv r h.length i x.f1 L1 b S) x.f1.length ?_ ?_
    · exact ⟨0, b6, rfl, Nat.zero_le _, by simpa [rgsB] using h6, t4S.trans t6, by simp [lk_cons]⟩
    rintro m rg σ7 ⟨j, b7, rfl, hj, h7, t7, rfl⟩
    by_cases hjl : j < x.f1.length
    · obtain ⟨z, hz⟩ : ∃ z, x.f1[j]? = some z := ⟨_, List.getElem?_eq_getElem hjl⟩
      have w2 : IntKind.i64.wrap ((j : Int) + 1) = ((j + 1 : Nat) : Int) := by rw [IntWalk.i64_in] <;> omega
      obtain ⟨q, q1, q2, _, _⟩ := (hr.w σ7).at hz (ρ := σ7) fun _ _ => rfl
      obtain ⟨⟨na, ea, ta, _⟩, ⟨nb, eb, tb, _⟩⟩ := And.intro (nat_of (hs.rg x hxm z (List.mem_of_getElem? hz)).1) (nat_of (hs.rg x hxm z (List.mem_of_getElem? hz)).2)
      rw [ea, eb] at q2
      have htk2 : x.f1.take (j + 1) = x.f1.take j ++ [z] := by rw [List.take_add_one, hz]; rfl
      have hrl := rgsB_len (x.f1.take j)
      rw [List.length_take] at hrl
      simp [lk_cons, hjl, ↓q1, ↓q2, storeL]
      obtain ⟨S7, hS7⟩ : ∃ S7 : St, S7 = ⟨(σ7.mem.set σ7.next (.cells 2 [.int .u64 0, .int .u64 0])).set σ7.next (.cells 2 [u64 (na : Int), u64 (nb : Int)]), σ7.next + 1⟩ := ⟨_, rfl⟩
      have gS7 : Grow σ7 S7 := ⟨by rw [hS7]; exact Nat.le_succ _, fun a ha => by rw [hS7]; simp [show ¬ a = σ7.next by omega]⟩
      have nS7 : S7.next = σ7.next + 1 := by rw [hS7]
      have mS7 : S7.mem.get σ7.next = some (.cells 2 [u64 (na : Int), u64 (nb : Int)]) := by rw [hS7]; simp
      obtain ⟨hb7, hw7⟩ := h7.lt
      have mm7 : ∀ {σ' : St} {b' : Option Nat}, WStp w b7 b' S7 σ' → σ'.mem.get σ7.next = S7.mem.get σ7.next := fun t => t.keep σ7.next (by omega) (by omega) (fun e => by have := hb7 _ e; omega)
      rw [← hS7]
      refine wu64_c (h7.grow gS7) (by rw [List.length_append]; omega) _ fun σ8 b8 h8 t8 => ?_
      simp [lk_cons, mm7 t8, mS7]
      refine wu64_c h8 (by simp only [List.length_append, beN_len]; omega) _ fun σ9 b9 h9 t9 => ?_
      have t9 := t8.trans t9
      simp [lk_cons, w2]
      refine ⟨x.f1.length - (j + 1), by omega, j + 1, b9, rfl, by omega, ?_, (t7.grow hb7 gS7 (by omega)).trans t9, rfl⟩
      rw [htk2, rgsB_snoc, rgB, ta, tb]
      simpa [List.append_assoc] using h9
    have : j = x.f1.length := by omega
    subst this
    rw [List.take_length] at h7
    simp [lk_cons, w1]
    refine ⟨h.length - (i + 1), by omega, i + 1, b7, rfl, by omega, ?_, t7, rfl⟩
    rw [htk, hdsB_snoc, hdB, tx, Nat.mod_eq_of_lt (by omega)]
    rw [← hL1] at h7
    simpa [List.append_assoc] using h7
  have : i = h.length := by omega
  subst this
  rw [List.take_length] at h4
  simp [lk_cons]
  refine hQ σ4 b4 ?_ (toS t4)
  rw [cuB, tnl, tne, Nat.mod_eq_of_lt (by omega)]
  rw [← hL0] at h4
  simpa [List.append_assoc] using h4
end Go.Proofs.Ytinfnpbglapjhaa.AM

/- The document's Put, PutBytes. -/
namespace Go.Proofs.Ytinfnpbglapjhaa.AM
set_option maxRecDepth 100000
set_option linter.unusedVariables false
set_option linter.unusedSimpArgs false

def PuJ (n size : Nat) (l : List UInt8) (b : Option Nat) (σ0 : St) (mm : Nat) (rg : Regs) (σ' : St) : Prop := ∃ (k : Nat) (v : AVal) (l1 : List UInt8) (b1 : Option Nat), mm = k ∧ k ≤ size ∧ l1 ++ beN k n = l ++ beN size n ∧ GS rwB σ' v l1 b1 ∧ BStp b b1 σ0 σ' ∧ rg = [(0, v), (1, .int .u64 (n : Int)), (7, .int .i64 ((k : Int) - 1))]
def PvJ (n i : Nat) (v : AVal) (σ1 : St) (mm : Nat) (rg : Regs) (σ' : St) : Prop := ∃ j, mm = i - j ∧ j ≤ i ∧ σ' = σ1 ∧ rg = [(0, v), (1, .int .u64 (n : Int)), (7, .int .i64 (i : Int)), (8, .int .u64 ((n / 256 ^ j : Nat) : Int)), (9, .int .i64 (j : Int))]
theorem rput_c {σ : St} {v : AVal} {l : List UInt8} {b : Option Nat} (h : GS rwB σ v l b) {n size : Nat} (hs : size ≤ 8) (hl : l.length ≤ 1000000000) (hn : n < 18446744073709551616) (Q : AVal → St → Prop)
    (hQ : ∀ v' σ' b', GS rwB σ' v' (l ++ beN size n) b' → BStp b b' σ σ' → Q v' σ') : ACall Try.prog 60 [v, .int .u64 (n : Int), .int .i64 (size : Int)] σ Q := by
  refine ACall.of_compF hmx (fun a w => Try.call60 a w) Try.func60 cf60 (n := 3) (by decide) rfl ?_
  have w0 : IntKind.i64.wrap ((size : Int) - 1) = (size : Int) - 1 := by rw [IntWalk.i64_in] <;> omega
  simp [ac60, rs60, lk_cons, w0]
  refine wp_loop (PuJ n size l b σ) size ?_ ?_
  · exact ⟨size, v, l, b, rfl, Nat.le_refl _, rfl, h, BStp.refl _ _, rfl⟩
  · rintro mm rg σ1 ⟨k, v1, l1, b1, rfl, hk, hl1, g1, g2, rfl⟩
    cases mm with
    | zero =>
      simp [beN] at hl1
      subst hl1
      simp [lk_cons]
      exact hQ v1 σ1 b1 g1 g2
    | succ i =>
      have e0 : ((i + 1 : Nat) : Int) - 1 = (i : Int) := by omega
      have c0 : (i : Int) ≥ 0 := by omega
      rw [e0]
      simp [lk_cons, c0]
      refine wp_loop (PvJ n i v1 σ1) i ?_ ?_
      · exact ⟨0, rfl, by omega, rfl, by simp [lk_cons]⟩
      · rintro mm rg σ2 ⟨j, rfl, hj, rfl, rfl⟩
        obtain ⟨q, hq⟩ : ∃ q, n / 256 ^ j = q := ⟨_, rfl⟩
        have hqn : q ≤ n := by rw [← hq]; exact Nat.div_le_self _ _
        rw [hq]
        by_cases hc : j < i
        · have w1 : IntKind.i64.wrap ((j : Int) + 1) = ((j + 1 : Nat) : Int) := by rw [IntWalk.i64_in] <;> omega
          have hc' : (j : Int) < i := by omega
          have w2 : IntKind.u64.wrap ((q : Int) / 256) = ((q / 256 : Nat) : Int) := by rw [IntWalk.u64_in] <;> omega
          have w3 : IntKind.u64.wrap ((q : Int).tdiv 256) = ((q / 256 : Nat) : Int) := by
            rw [Int.tdiv_eq_ediv_of_nonneg (by omega), w2]
          obtain ⟨q', hq'⟩ : ∃ q', q / 256 = q' := ⟨_, rfl⟩
          rw [hq'] at w2 w3
          simp [lk_cons, hc, hc', w1, w2, w3]
          refine ⟨i - (j + 1), by omega, j + 1, rfl, by omega, rfl, ?_⟩
          have : n / 256 ^ (j + 1) = q' := by rw [Nat.pow_succ, ← Nat.div_div_eq_div_mul, hq, hq']
          simp [this]
        · have : j = i := by omega
          subst this
          have w3 : (q : Int).tmod 256 = ((q % 256 : Nat) : Int) := by
            rw [Int.tmod_eq_emod_of_nonneg (by omega)]; omega
          have w4 := byte_wrap (q % 256)
          have w5 : (UInt8.ofNat (q % 256)).toNat = (UInt8.ofNat q).toNat := by simp
          rw [w5, show ((q % 256 : Nat) : Int) = (q : Int) % 256 by omega] at w4
          have w6 : IntKind.i64.wrap ((j : Int) - 1) = (j : Int) - 1 := by rw [IntWalk.i64_in] <;> omega
          have hb : GS rwB ⟨σ2.mem.set σ2.next (.cells 1 (rwB.a (UInt8.ofNat q))), σ2.next + 1⟩ v1 l1 b1 := g1.keep (by simp) fun a ha _ => by simp [show ¬ a = σ2.next by omega]
          have hll := congrArg List.length hl1
          simp only [List.length_append, beN_len] at hll
          obtain ⟨σ', e1, e2, e3, e4⟩ := gs_app1 hb (nb := σ2.next) (by_ := 1) (t := true) (x := UInt8.ofNat q) (by decide) (by simp) (fun e => by have := g1.lt e; omega) (by omega) (by omega)
          simp only [rwB] at e1
          generalize (UInt8.ofNat q).toNat = z at w4 e1
          simp [lk_cons, w3, w4, fillL, repL, storeL, ↓e1, w6]
          refine ⟨j, Nat.lt_succ_self _, j, _, l1 ++ [UInt8.ofNat q], _, rfl, by omega, ?_, e2, g2.trans ⟨by rw [e3]; simp; omega, fun x hx => ?_, fun a ha hb => ?_⟩, rfl⟩
          · rw [← hl1]; simp [beN, hq]
          · cases hx; exact .inr (by simp)
          · rw [e4 a (by simp; omega) hb]; simp [show ¬ a = σ2.next by omega]
end Go.Proofs.Ytinfnpbglapjhaa.AM

/- A cursor as bytes, by the document. -/
namespace Go.Proofs.Ytinfnpbglapjhaa.AM
open Go.RowKit
set_option maxRecDepth 100000
set_option linter.unusedVariables false
set_option linter.unusedSimpArgs false

def BoJ (p : Nat) (h : List Hd) (l : List UInt8) (b : Option Nat) (S : St) (mm : Nat) (rg : Regs) (σ' : St) : Prop := ∃ (i : Nat) (v : AVal) (b' : Option Nat), mm = h.length - i ∧ i ≤ h.length ∧ GS rwB σ' v (l ++ hdsB (h.take i)) b' ∧ BStp b b' S σ' ∧ rg = [(0, v), (3, .ptr p 0), (5, i64 i)]
def BiJ (p : Nat) (rv : AVal) (i : Nat) (r : List S25) (l : List UInt8) (b : Option Nat) (S : St) (mm : Nat) (rg : Regs) (σ' : St) : Prop := ∃ (j : Nat) (v : AVal) (b' : Option Nat), mm = r.length - j ∧ j ≤ r.length ∧ GS rwB σ' v (l ++ rgsB (r.take j)) b' ∧ BStp b b' S σ' ∧ rg = [(0, v), (3, .ptr p 0), (5, i64 i), (6, rv), (7, i64 j)]
theorem GS.grow {α : Type} {k : Nat} {R : Rw α k} {σ τ : St} {v : AVal} {l : List α} {b : Option Nat} (h : GS R σ v l b) (g : Grow σ τ) : GS R τ v l b := h.keep g.1 fun a ha _ => g.2 a ha
set_option maxHeartbeats 2000000 in
theorem cbytes_c {σ : St} {v0 : AVal} {l : List UInt8} {b : Option Nat} (h0 : GS rwB σ v0 l b) {hv : AVal} {h : List Hd} (hh : HI hv h) (hs : HSm h) {ml me : Int} (hml : In64 ml) (hme : In64 me) (hl : l.length ≤ 10000000) (Q : AVal → St → Prop)
    (hQ : ∀ v σ' b', GS rwB σ' v (l ++ cuB ml me h) b' → BStp b b' σ σ' → Q v σ') : ACall Try.prog 30 [v0, cv ml me hv] σ Q := by
  refine ACall.of_compF hmx (fun a w => Try.call30 a w) Try.func30 cf30 (n := 2) (by decide) rfl ?_
  have k1 := hh.one.1
  have k2 := hh.one.2
  have l1 := hh.len
  have hlen := hs.len
  obtain ⟨nl, rfl, tnl, bnl⟩ := nat_of hml
  obtain ⟨ne, rfl, tne, bne⟩ := nat_of hme
  simp [ac30, rs30, lk_cons, k1, k2]
  obtain ⟨S, hS⟩ : ∃ S : St, S = ⟨σ.mem.set σ.next (.cells 3 [u64 (nl : Int), u64 (ne : Int), hv]), σ.next + 1⟩ := ⟨_, rfl⟩
  have gS : Grow σ S := ⟨by rw [hS]; exact Nat.le_succ _, fun a ha => by rw [hS]; simp [show ¬ a = σ.next by omega]⟩
  have nS : S.next = σ.next + 1 := by rw [hS]
  have mS : S.mem.get σ.next = some (.cells 3 [u64 (nl : Int), u64 (ne : Int), hv]) := by rw [hS]; simp
  have hbl : ∀ x, b = some x → x < σ.next := fun x hx => h0.lt hx
  have mm : ∀ {σ' : St} {b' : Option Nat}, BStp b b' S σ' → σ'.mem.get σ.next = S.mem.get σ.next := fun t => t.keep σ.next (by omega) (fun e => by have := hbl _ e; omega)
  have toS : ∀ {σ' : St} {b' : Option Nat}, BStp b b' S σ' → BStp b b' σ σ' := fun t => ⟨by have := t.next; omega, fun x hx => (t.own x hx).imp id fun h => by omega, fun a ha h1 => (t.keep a (by omega) h1).trans (gS.2 a ha)⟩
  rw [← hS]
  refine rput_c (h0.grow gS) (n := nl) (size := 8) (by decide) (by omega) bnl _ fun v1 σ1 b1 h1 t1 => ?_
  simp [lk_cons, mm t1, mS]
  refine rput_c h1 (n := ne) (size := 8) (by decide) (by simp [beN_len]; omega) bne _ fun v2 σ2 b2 h2 t2 => ?_
  have t2 := t1.trans t2
  have wl : IntKind.u64.wrap (h.length : Int) = h.length := by rw [IntWalk.u64_in] <;> omega
  simp [lk_cons, mm t2, mS, ↓l1, wl]
  refine rput_c h2 (n := h.length) (size := 2) (by decide) (by simp [beN_len]; omega) (by omega) _ fun v3 σ3 b3 h3 t3 => ?_
  have t3 := t2.trans t3
  simp [lk_cons]
  obtain ⟨L0, hL0⟩ : ∃ L0, l ++ beN 8 nl ++ beN 8 ne ++ beN 2 h.length = L0 := ⟨_, rfl⟩
  have hL0l : L0.length = l.length + 18 := by rw [← hL0]; simp [beN_len]
  rw [hL0] at h3
  refine wp_loop (BoJ σ.next h L0 b S) h.length ?_ ?_
  · exact ⟨0, v3, b3, rfl, Nat.zero_le _, by simpa [hdsB] using h3, t3, by simp [lk_cons]⟩
  rintro m rg σ4 ⟨i, v4, b4, rfl, hi, h4, t4, rfl⟩
  have m4 := (mm t4).trans mS
  by_cases hlt : i < h.length
  · obtain ⟨x, hx⟩ : ∃ x, h[i]? = some x := ⟨_, List.getElem?_eq_getElem hlt⟩
    have hxm := List.mem_of_getElem? hx
    have w1 : IntKind.i64.wrap ((i : Int) + 1) = ((i + 1 : Nat) : Int) := by rw [IntWalk.i64_in] <;> omega
    obtain ⟨p, r, hr, p1, p2, ⟨q0, p3, p4⟩, ⟨q1, p5, p6⟩⟩ := hh.at hx σ4
    have l2 := (hr.w σ4).len
    have hxe := hs.each x hxm
    obtain ⟨nx, ex, tx, bx⟩ := nat_of (hs.led x hxm)
    rw [ex] at p4
    have htk : h.take (i + 1) = h.take i ++ [x] := by rw [List.take_add_one, hx]; rfl
    have hdl := hdsB_len (h := h.take i) fun y hy => hs.each y (List.mem_of_mem_take hy)
    rw [List.length_take] at hdl
    simp [lk_cons, hlt, m4, ↓l1, ↓p1, ↓p3, ↓p4]
    refine rput_c h4 (n := nx) (size := 8) (by decide) (by rw [List.length_append]; omega) bx _ fun v5 σ5 b5 h5 t5 => ?_
    have t5 := t4.trans t5
    have m5 := (mm t5).trans mS
    obtain ⟨p', r', hr', p1', p2', _, ⟨q1', p5', p6'⟩⟩ := hh.at hx σ5
    have l3 := (hr'.w σ5).len
    have wl2 : IntKind.u64.wrap (x.f1.length : Int) = x.f1.length := by rw [IntWalk.u64_in] <;> omega
    simp [lk_cons, m5, ↓l1, ↓p1', ↓p5', ↓p6', ↓l3, wl2]
    refine rput_c h5 (n := x.f1.length) (size := 2) (by decide) (by simp only [List.length_append, beN_len]; omega) (by omega) _ fun v6 σ6 b6 h6 t6 => ?_
    have t6 := t5.trans t6
    simp [lk_cons]
    obtain ⟨L1, hL1⟩ : ∃ L1, L0 ++ hdsB (h.take i) ++ beN 8 nx ++ beN 2 x.f1.length = L1 := ⟨_, rfl⟩
    have hL1l : L1.length ≤ l.length + 6000000 := by rw [← hL1]; simp only [List.length_append, beN_len]; omega
    rw [hL1] at h6
    refine wp_loop (BiJ σ.next r' i x.f1 L1 b S) x.f1.length ?_ ?_
    · exact ⟨0, v6, b6, rfl, Nat.zero_le _, by simpa [rgsB] using h6, t6, by simp [lk_cons]⟩
    rintro m rg σ7 ⟨j, v7, b7, rfl, hj, h7, t7, rfl⟩
    by_cases hjl : j < x.f1.length
    · obtain ⟨z, hz⟩ : ∃ z, x.f1[j]? = some z := ⟨_, List.getElem?_eq_getElem hjl⟩
      have w2 : IntKind.i64.wrap ((j : Int) + 1) = ((j + 1 : Nat) : Int) := by rw [IntWalk.i64_in] <;> omega
      obtain ⟨q, s1, _, ⟨q2, s2, s3⟩, ⟨q3, s4, s5⟩⟩ := (hr'.w σ7).at hz (ρ := σ7) fun _ _ => rfl
      obtain ⟨⟨na, ea, ta, ba⟩, ⟨nb, eb, tb, bb⟩⟩ := And.intro (nat_of (hs.rg x hxm z (List.mem_of_getElem? hz)).1) (nat_of (hs.rg x hxm z (List.mem_of_getElem? hz)).2)
      rw [ea] at s3
      rw [eb] at s5
      have htk2 : x.f1.take (j + 1) = x.f1.take j ++ [z] := by rw [List.take_add_one, hz]; rfl
      have hrl := rgsB_len (x.f1.take j)
      rw [List.length_take] at hrl
      simp [lk_cons, ↓l3, hjl, ↓s1, ↓s2, ↓s3, ↓s4, ↓s5]
      refine rput_c h7 (n := na) (size := 8) (by decide) (by rw [List.length_append]; omega) ba _ fun v8 σ8 b8 h8 t8 => ?_
      obtain ⟨q', s1', _, ⟨q2', s2', s3'⟩, ⟨q3', s4', s5'⟩⟩ := (hr'.w σ8).at hz (ρ := σ8) fun _ _ => rfl
      rw [ea] at s3'
      rw [eb] at s5'
      have eq1 : q' = q := by
        rcases hr' with ⟨rfl, h0⟩ | ⟨t, rfl⟩
        · rw [h0] at hz; simp at hz
        · simp [hjl] at s1 s1'
          rw [← s1, ← s1']
      subst eq1
      have eq2 : q2' = q2 ∧ q3' = q3 := by
        rcases hr' with ⟨rfl, h0⟩ | ⟨t, rfl⟩
        · rw [h0] at hz; simp at hz
        · simp [hjl] at s1
          subst s1
          simp at s2 s2' s4 s4'
          exact ⟨by rw [← s2, ← s2'], by rw [← s4, ← s4']⟩
      obtain ⟨rfl, rfl⟩ := eq2
      simp [lk_cons, ↓l3, hjl, ↓s1', ↓s2', ↓s3', ↓s4', ↓s5']
      refine rput_c h8 (n := nb) (size := 8) (by decide) (by simp only [List.length_append, beN_len]; omega) bb _ fun v9 σ9 b9 h9 t9 => ?_
      have t9 := t8.trans t9
      simp [lk_cons, w2]
      refine ⟨x.f1.length - (j + 1), by omega, j + 1, v9, b9, rfl, by omega, ?_, t7.trans t9, rfl⟩
      rw [htk2, rgsB_snoc, rgB, ta, tb]
      simpa [List.append_assoc] using h9
    have : j = x.f1.length := by omega
    subst this
    rw [List.take_length] at h7
    simp [lk_cons, ↓l3, w1]
    refine ⟨h.length - (i + 1), by omega, i + 1, v7, b7, rfl, by omega, ?_, t7, rfl⟩
    rw [htk, hdsB_snoc, hdB, tx, Nat.mod_eq_of_lt (by omega)]
    rw [← hL1] at h7
    simpa [List.append_assoc] using h7
  have : i = h.length := by omega
  subst this
  rw [List.take_length] at h4
  simp [lk_cons, m4, ↓l1]
  refine hQ v4 σ4 b4 ?_ (toS t4)
  rw [cuB, tnl, tne, Nat.mod_eq_of_lt (by omega)]
  rw [← hL0] at h4
  simpa [List.append_assoc] using h4
end Go.Proofs.Ytinfnpbglapjhaa.AM

/- A cursor from a reader: Take. -/
namespace Go.Proofs.Ytinfnpbglapjhaa.AM
open Go.RowKit
set_option maxRecDepth 100000
set_option linter.unusedVariables false
set_option linter.unusedSimpArgs false

def rgOkB (l : List S25) : Bool := (List.range l.length).all fun i => match l[i]? with
  | none => true
  | some x => decide (x.f0 < x.f1) && (decide (i = 0) || match l[i - 1]? with
    | none => true
    | some y => decide (y.f1 < x.f0))
theorem rgOkB_iff (l : List S25) : rgOkB l = true ↔ rgOk l := by
  simp only [rgOkB, List.all_eq_true, List.mem_range, rgOk]
  refine forall_congr' fun i => forall_congr' fun hi => ?_
  obtain ⟨x, hx⟩ : ∃ x, l[i]? = some x := ⟨_, List.getElem?_eq_getElem hi⟩
  simp only [hx, rgCond, Bool.and_eq_true, decide_eq_true_eq, Bool.or_eq_true]
  constructor
  · rintro ⟨h1, h2⟩ z hz
    cases hz
    refine ⟨h1, fun y h0 hy => ?_⟩
    rcases h2 with h2 | h2
    · omega
    · rw [hy] at h2; simpa using h2
  · intro h
    obtain ⟨h1, h2⟩ := h x rfl
    refine ⟨h1, ?_⟩
    by_cases h0 : i = 0
    · exact .inl h0
    · right
      cases hy : l[i - 1]? with
      | none => rfl
      | some y => simpa using h2 y (by omega) hy
def cuOkB (ml me : Int) (h : List Hd) : Bool := (List.range h.length).all fun i => match h[i]? with
  | none => true
  | some x => !x.f1.isEmpty && rgOkB x.f1 && (decide (i = 0) || match h[i - 1]? with
    | none => true
    | some y => decide (y.f0 < x.f0)) && match x.f1[0]? with
    | none => true
    | some z => decide (¬ ordM x.f0 z.f0 ml me < 0)
theorem cuOkB_iff (ml me : Int) (h : List Hd) : cuOkB ml me h = true ↔ cuOk ml me h := by
  simp only [cuOkB, List.all_eq_true, List.mem_range, cuOk]
  refine forall_congr' fun i => forall_congr' fun hi => ?_
  obtain ⟨x, hx⟩ : ∃ x, h[i]? = some x := ⟨_, List.getElem?_eq_getElem hi⟩
  simp only [hx, cuCond, Bool.and_eq_true, decide_eq_true_eq, Bool.or_eq_true, rgOkB_iff]
  constructor
  · rintro ⟨⟨⟨h1, h2⟩, h3⟩, h4⟩ z hz
    cases hz
    refine ⟨fun e => by rw [e] at h1; simp at h1, h2, fun y h0 hy => ?_, fun z hz => ?_⟩
    · rcases h3 with h3 | h3
      · omega
      · rw [hy] at h3; simpa using h3
    · rw [hz] at h4; simpa using h4
  · intro hh
    obtain ⟨h1, h2, h3, h4⟩ := hh x rfl
    refine ⟨⟨⟨by simpa using h1, h2⟩, ?_⟩, ?_⟩
    · by_cases h0 : i = 0
      · exact .inl h0
      · right
        cases hy : h[i - 1]? with
        | none => rfl
        | some y => simpa using h3 y (by omega) hy
    · cases hz : x.f1[0]? with
      | none => rfl
      | some z => simpa using h4 z hz

def pRg : Prs S25 := pB (pNum 8) fun a => pB (pNum 8) fun b => pR ⟨(a : Int), (b : Int)⟩
def pHd : Prs Hd := pB (pNum 8) fun L => pB (pNum 2) fun n => pB (pMany pRg n) fun r => pR ⟨(L : Int), r⟩
structure Cu where
  ml : Int
  me : Int
  h : List Hd
def pCu0 : Prs Cu := pB (pNum 8) fun a => pB (pNum 8) fun b => pB (pNum 2) fun n => pB (pMany pHd n) fun h => pR ⟨(a : Int), (b : Int), h⟩
def pCu : Prs Cu := pB pCu0 fun c l => if cuOkB c.ml c.me c.h then .ok (c, l) else .error 23
theorem pRg_ne0 : ∀ l e, pRg l = .error e → e ≠ 0 := ne0 (fun l e => pNum_err) fun _ => ne0 (fun l e => pNum_err) fun _ => pR_ne0 _
theorem pHd_ne0 : ∀ l e, pHd l = .error e → e ≠ 0 := ne0 (fun l e => pNum_err) fun _ => ne0 (fun l e => pNum_err) fun n => ne0 (pMany_ne0 pRg_ne0 n) fun _ => pR_ne0 _
theorem pCu_ne0 : ∀ l e, pCu l = .error e → e ≠ 0 := ne0 (ne0 (fun l e => pNum_err) fun _ => ne0 (fun l e => pNum_err) fun _ => ne0 (fun l e => pNum_err) fun n => ne0 (pMany_ne0 pHd_ne0 n) fun _ => pR_ne0 _) fun c l e h => by
  split at h
  · cases h
  · cases h; decide
theorem Out.rgn {lo : Nat} {σ' : St} {v : AVal} {l : List S25} (h : Out lo σ' v l) {lo' hi : Nat} {m : Mem} (h1 : lo' ≤ lo) (h2 : σ'.next ≤ hi) (hm : ∀ a, lo ≤ a → a < σ'.next → m.get a = σ'.mem.get a) : RgN lo' hi m v l := by
  rcases h with h | ⟨o, rfl, h0, h3, h4, h5⟩
  · exact .inl (.inl h)
  · exact .inr ⟨o, l.length, false, rfl, by omega, by omega, (hm o h3 h4).trans h5⟩
theorem Out.frame {lo : Nat} {σ σ' : St} {v : AVal} {l : List S25} (h : Out lo σ v l) (hn : σ.next ≤ σ'.next) (hm : ∀ a, lo ≤ a → a < σ.next → σ'.mem.get a = σ.mem.get a) : Out lo σ' v l := by
  rcases h with h | ⟨o, h1, h2, h3, h4, h5⟩
  · exact .inl h
  · exact .inr ⟨o, h1, h2, h3, by omega, (hm o h3 h4).trans h5⟩
theorem Out.one {lo : Nat} {σ : St} {v : AVal} {l : List S25} (h : Out lo σ v l) : v.one = true ∧ cellsOf v = [v] := by
  rcases h with ⟨rfl, _⟩ | ⟨o, rfl, _⟩ <;> simp
theorem HOut.mono {lo lo' : Nat} {σ : St} {v : AVal} {h : List Hd} (hh : HOut lo σ v h) (hl : lo' ≤ lo) : HOut lo' σ v h := by
  rcases hh with hh | ⟨o, cs, h1, h2, h3, h4, h5, h6⟩
  · exact .inl hh
  · exact .inr ⟨o, cs, h1, h2, by omega, h4, h5, h6.mono hl (Nat.le_refl _) fun _ _ _ => rfl⟩
/-- The reader r; the cells A and B. -/
def TkJ (res : Except Nat (Cu × List UInt8)) (r A B : Nat) (c : Option Nat) (ml me : Int) (N : Nat) (σ0 : St) (mm : Nat) (rg : Regs) (σ' : St) : Prop := ∃ (i : Nat) (l : List UInt8) (acc : List Hd) (ov : AVal), mm = N - i ∧ i ≤ N ∧ acc.length = i ∧ RR σ' r l c ∧ l.length ≤ 1000000 ∧ (∀ x ∈ acc, x.f1.length < 65536) ∧
  (B + 1 ≤ σ'.next ∧ ∀ a, a < A → a ≠ r → σ'.mem.get a = σ0.mem.get a) ∧ σ'.mem.get A = some (.cells 3 [u64 0, u64 0, .nilsl]) ∧ σ'.mem.get B = some (.cells 3 [u64 ml, u64 me, ov]) ∧ HOut (B + 1) σ' ov acc ∧ res = pB (pMany pHd (N - i)) (fun hs => pR ⟨ml, me, acc ++ hs⟩) l ∧ rg = [(0, .ptr r 0), (2, .ptr A 0), (3, .ptr B 0), (12, .int .u16 N), (13, .int .u16 i)]
def TlJ (res : Except Nat (Cu × List UInt8)) (F : List S25 → Prs Cu) (r A B H : Nat) (c : Option Nat) (L : Int) (N i M : Nat) (S : St) (mm : Nat) (rg : Regs) (σ' : St) : Prop := ∃ (j : Nat) (l : List UInt8) (rs : List S25) (rv : AVal), mm = M - j ∧ j ≤ M ∧ rs.length = j ∧ RR σ' r l c ∧ l.length ≤ 1000000 ∧
  (S.next ≤ σ'.next ∧ ∀ a, a < S.next → a ≠ r → a ≠ H → σ'.mem.get a = S.mem.get a) ∧ σ'.mem.get H = some (.cells 2 [u64 L, rv]) ∧ Out S.next σ' rv rs ∧ res = pB (pMany pRg (M - j)) (fun hs => F (rs ++ hs)) l ∧ rg = [(0, .ptr r 0), (2, .ptr A 0), (3, .ptr B 0), (4, .ptr H 0), (12, .int .u16 N), (13, .int .u16 i), (19, .int .u16 M), (20, .int .u16 j)]
set_option maxHeartbeats 4000000 in
theorem ctake_c {T : AVal → St → Prop} {σ : St} {r : Nat} {l : List UInt8} {c : Option Nat} {K : AVal → St → Prop} (h : RR σ r l c) (hl : l.length ≤ 1000000)
    (hT : ∀ e σ', pCu l = .error e → RStp r σ σ' → T (thrownV (e : Int)) σ')
    (hK : ∀ x l' v σ', pCu l = .ok (x, l') → RR σ' r l' c → HOut σ.next σ' v x.h → HFew x.h → RStp r σ σ' → K (cv x.ml x.me v) σ') : ACall (Env.th Try.prog T) 63 [.ptr r 0] σ K := by
  refine ACall.of_compF hmx (fun a w => Try.call63 a w) Try.func63 cf63 (n := 1) (by decide) rfl ?_
  have hrl : r < σ.next := by obtain ⟨_, _, _, _, h⟩ := h; exact h
  have hcl : ∀ x, c = some x → x < σ.next := fun x hx => by obtain ⟨_, _, h, _, _⟩ := h; exact h.lt hx
  simp [ac63, rs63, lk_cons]
  obtain ⟨S, hS⟩ : ∃ S : St, S = ⟨σ.mem.set σ.next (.cells 3 [u64 0, u64 0, .nilsl]), σ.next + 1⟩ := ⟨_, rfl⟩
  have gS : Grow σ S := ⟨by rw [hS]; exact Nat.le_succ _, fun a ha => by rw [hS]; simp [show ¬ a = σ.next by omega]⟩
  have nS : S.next = σ.next + 1 := by rw [hS]
  have mS : S.mem.get σ.next = some (.cells 3 [u64 0, u64 0, .nilsl]) := by rw [hS]; simp
  have er : ¬ σ.next = r := by omega
  rw [← hS]
  have bad0 : ∀ e, pCu0 l = .error e → pCu l = .error e := fun e he => by rw [pCu, pB_err he]
  refine ru64_c (h.grow gS) (by omega) (fun e he => hT e S (bad0 e (by rw [pCu0]; exact pB_err he)) (gS.rstp r)) fun nl l1 σ1 h1 h2 h3 => ?_
  have q1 := (pNum_len h1).1
  simp [lk_cons]
  refine ru64_c h2 (by omega) (fun e he => hT e σ1 (bad0 e (by rw [pCu0, pB_ok h1]; exact pB_err he)) ((gS.rstp r).trans h3)) fun ne l2 σ2 k1 k2 k3 => ?_
  have q2 := (pNum_len k1).1
  have s2 := ((gS.rstp r).trans h3).trans k3
  have n2 := (h3.trans k3).next
  have m2 := ((h3.trans k3).keep σ.next (by omega) er).trans mS
  have hr2 : pCu0 l = pB (pNum 2) (fun n => pB (pMany pHd n) fun h => pR ⟨(nl : Int), (ne : Int), h⟩) l2 := by rw [pCu0, pB_ok h1, pB_ok k1]
  simp [lk_cons, fillL, storeL]
  obtain ⟨S2, hS2⟩ : ∃ S2 : St, S2 = ⟨(σ2.mem.set σ2.next (.cells 3 [.int .u64 0, .int .u64 0, .nilsl])).set σ2.next (.cells 3 [.int .u64 (nl : Int), .int .u64 (ne : Int), .nilsl]), σ2.next + 1⟩ := ⟨_, rfl⟩
  have gS2 : Grow σ2 S2 := ⟨by rw [hS2]; exact Nat.le_succ _, fun a ha => by rw [hS2]; simp [show ¬ a = σ2.next by omega]⟩
  have nS2 : S2.next = σ2.next + 1 := by rw [hS2]
  have mS2 : S2.mem.get σ2.next = some (.cells 3 [u64 (nl : Int), u64 (ne : Int), .nilsl]) := by rw [hS2]; simp
  have sS2 := s2.trans (gS2.rstp r)
  obtain ⟨B, hB⟩ : ∃ B, σ2.next = B := ⟨_, rfl⟩
  rw [← hS2]
  refine ru16_c (k2.grow gS2) (by omega) (fun e he => hT e S2 (bad0 e (by rw [hr2]; exact pB_err he)) sS2) fun N l3 σ3 u1 u2 u3 => ?_
  have q3 := (pNum_len u1).1
  have hN := (pNum_len u1).2
  have s3 := sS2.trans u3
  have n3 := u3.next
  have hr3 : pCu0 l = pB (pMany pHd N) (fun h => pR ⟨(nl : Int), (ne : Int), h⟩) l3 := by rw [hr2, pB_ok u1]
  have mA3 := (u3.keep σ.next (by omega) er).trans ((gS2.2 _ (by omega)).trans m2)
  have mB3 := (u3.keep σ2.next (by omega) (by omega)).trans mS2
  simp [lk_cons]
  rw [hB] at mB3
  rw [hB]
  refine wp_loop (TkJ (pCu0 l) r σ.next B c (nl : Int) (ne : Int) N σ) N ?_ ?_
  · exact ⟨0, l3, [], .nilsl, rfl, Nat.zero_le _, rfl, u2, by omega, by simp, ⟨by omega, fun a ha hr => s3.keep a ha hr⟩, mA3, mB3, .inl ⟨rfl, rfl⟩, hr3, by simp [lk_cons]⟩
  rintro mm rg σ4 ⟨i, l4, acc, ov, rfl, hi, hacc, h4, hl4, hxs, ⟨n4, k4⟩, mA4, mB4, ho4, hr4, rfl⟩
  have s4 : RStp r σ σ4 := ⟨by omega, k4⟩
  by_cases hlt : i < N
  · have hlt' : (i : Int) < N := by omega
    have w1 : IntKind.u16.wrap ((i : Int) + 1) = ((i + 1 : Nat) : Int) := by rw [IntWalk.u16_in] <;> omega
    obtain ⟨j0, hj0⟩ : ∃ j, N - i = j + 1 := ⟨N - i - 1, by omega⟩
    rw [hj0, pMany_step, pHd, pB_assoc] at hr4
    simp [lk_cons, hlt, hlt']
    refine ru64_c h4 (by omega) (fun e he => hT e σ4 (bad0 e (by rw [hr4]; exact pB_err he)) s4) fun L l5 σ5 v1 v2 v3 => ?_
    have q5 := (pNum_len v1).1
    have n5 := v3.next
    rw [pB_ok v1, pB_assoc] at hr4
    simp [lk_cons, fillL, storeL]
    obtain ⟨S5, hS5⟩ : ∃ S5 : St, S5 = ⟨(σ5.mem.set σ5.next (.cells 2 [.int .u64 0, .nilsl])).set σ5.next (.cells 2 [.int .u64 (L : Int), .nilsl]), σ5.next + 1⟩ := ⟨_, rfl⟩
    have gS5 : Grow σ5 S5 := ⟨by rw [hS5]; exact Nat.le_succ _, fun a ha => by rw [hS5]; simp [show ¬ a = σ5.next by omega]⟩
    have nS5 : S5.next = σ5.next + 1 := by rw [hS5]
    have mS5 : S5.mem.get σ5.next = some (.cells 2 [u64 (L : Int), .nilsl]) := by rw [hS5]; simp
    have s5 := (s4.trans v3).trans (gS5.rstp r)
    rw [← hS5]
    refine ru16_c (v2.grow gS5) (by omega) (fun e he => hT e S5 (bad0 e (by rw [hr4]; exact pB_err he)) s5) fun M l6 σ6 x1 x2 x3 => ?_
    have q6 := (pNum_len x1).1
    have hM := (pNum_len x1).2
    have n6 := x3.next
    have s6 := s5.trans x3
    rw [pB_ok x1, pB_assoc] at hr4
    have m6 := (x3.keep σ5.next (by omega) (by omega)).trans mS5
    have k46 : ∀ a, a < σ4.next → a ≠ r → σ6.mem.get a = σ4.mem.get a := fun a ha hr => (x3.keep a (by omega) hr).trans ((gS5.2 a (by omega)).trans (v3.keep a ha hr))
    obtain ⟨H, hH⟩ : ∃ H, σ5.next = H := ⟨_, rfl⟩
    rw [hH] at m6
    simp [lk_cons]
    rw [hH]
    refine wp_loop (TlJ (pCu0 l) (fun rs => pB (pMany pHd j0) fun hs => pR ⟨(nl : Int), (ne : Int), acc ++ (⟨(L : Int), rs⟩ : Hd) :: hs⟩) r σ.next B H c (L : Int) N i M σ6) M ?_ ?_
    · exact ⟨0, l6, [], .nilsl, rfl, Nat.zero_le _, rfl, x2, by omega, ⟨Nat.le_refl _, fun _ _ _ _ => rfl⟩, m6, .inl ⟨rfl, rfl⟩, hr4, by simp [lk_cons]⟩
    rintro mm rg σ7 ⟨j, l7, rs, rv, rfl, hj, hrs, h7, hl7, ⟨n7, k7⟩, mH7, ho7, hr7, rfl⟩
    have s7 : RStp r σ σ7 := ⟨by omega, fun a ha hr => (k7 a (by omega) hr (by omega)).trans (s6.keep a ha hr)⟩
    by_cases hjl : j < M
    · have hjl' : (j : Int) < M := by omega
      have w2 : IntKind.u16.wrap ((j : Int) + 1) = ((j + 1 : Nat) : Int) := by rw [IntWalk.u16_in] <;> omega
      obtain ⟨j1, hj1⟩ : ∃ k, M - j = k + 1 := ⟨M - j - 1, by omega⟩
      rw [hj1, pMany_step, pRg, pB_assoc] at hr7
      have hHr : ¬ H = r := by omega
      simp [lk_cons, hjl, hjl', mH7]
      refine ru64_c h7 (by omega) (fun e he => hT e σ7 (bad0 e (by rw [hr7]; exact pB_err he)) s7) fun za l8 σ8 y1 y2 y3 => ?_
      have q8 := (pNum_len y1).1
      rw [pB_ok y1, pB_assoc] at hr7
      have m8 := (y3.keep H (by omega) hHr).trans mH7
      simp [lk_cons, m8]
      refine ru64_c y2 (by omega) (fun e he => hT e σ8 (bad0 e (by rw [hr7]; exact pB_err he)) (s7.trans y3)) fun zb l9 σ9 z1 z2 z3 => ?_
      have q9 := (pNum_len z1).1
      rw [pB_ok z1] at hr7
      have t9 := y3.trans z3
      have n9 := t9.next
      have m9 := (z3.keep H (by have := y3.next; omega) hHr).trans m8
      have ho9 : Out σ6.next σ9 rv rs := ho7.frame n9 fun a ha hb => t9.keep a hb (by omega)
      obtain ⟨SA, hSA⟩ : ∃ SA : St, SA = ⟨σ9.mem.set σ9.next (.cells 2 [u64 (za : Int), u64 (zb : Int)]), σ9.next + 1⟩ := ⟨_, rfl⟩
      have nSA : SA.next = σ9.next + 1 := by rw [hSA]
      have kSA : ∀ a, a < σ9.next → SA.mem.get a = σ9.mem.get a := fun a ha => by rw [hSA]; simp [show ¬ a = σ9.next by omega]
      obtain ⟨w, σb, e1, e2, e3, e4⟩ := out_app (ho9.frame (σ' := SA) (by omega) fun a _ ha => kSA a ha) (by omega) (b := σ9.next) (x := (za : Int)) (y := (zb : Int)) (by rw [hSA]; simp) (by omega)
      rw [hSA] at e1
      have mb : σb.mem.get H = some (.cells 2 [u64 (L : Int), rv]) := (e4 H (by omega)).trans ((kSA H (by omega)).trans m9)
      have ow := e2.one
      simp [lk_cons, m9, fillL, repL, storeL, ↓e1, mb, ow, w2]
      have kB : ∀ a, a < σ6.next → a ≠ H → (σb.mem.set H (.cells 2 [u64 (L : Int), w])).get a = σ9.mem.get a := fun a ha hne => by
        simp [hne]
        exact (e4 a ha).trans (kSA a (by omega))
      refine ⟨M - (j + 1), by omega, j + 1, l9, rs ++ [⟨(za : Int), (zb : Int)⟩], w, rfl, by omega, by simp [hrs], ?_, by omega, ⟨by show σ6.next ≤ σb.next; omega, fun a ha h1 h2 => ?_⟩, by simp, ?_, ?_, rfl⟩
      · refine z2.keep (by show σ9.next ≤ σb.next; omega) fun a ha hac => kB a ?_ ?_
        · rcases hac with rfl | hac
          · omega
          · have := hcl a hac; omega
        · rcases hac with rfl | hac
          · omega
          · have := hcl a hac; omega
      · rw [kB a ha h2, t9.keep a (by omega) h1]
        exact k7 a ha h1 h2
      · refine e2.frame (Nat.le_refl _) fun a ha hb => ?_
        simp [show ¬ a = H by omega]
      · rw [hr7, show M - (j + 1) = j1 by omega]
        simp [pB_pR]
        rfl
    have : j = M := by omega
    subst this
    rw [Nat.sub_self] at hr7
    have hr7 : pCu0 l = pB (pMany pHd j0) (fun hs => pR ⟨(nl : Int), (ne : Int), acc ++ (⟨(L : Int), rs⟩ : Hd) :: hs⟩) l7 := by rw [hr7]; simp [pMany, pB_pR]
    have mB7 : σ7.mem.get B = some (.cells 3 [u64 (nl : Int), u64 (ne : Int), ov]) := (k7 B (by omega) (by omega) (by omega)).trans ((k46 B (by omega) (by omega)).trans mB4)
    have k47 : ∀ a, a < σ4.next → a ≠ r → σ7.mem.get a = σ4.mem.get a := fun a ha hr => (k7 a (by omega) hr (by omega)).trans (k46 a ha hr)
    have orv := ho7.one
    obtain ⟨SA, hSA⟩ : ∃ SA : St, SA = ⟨σ7.mem.set σ7.next (.cells 2 [u64 (L : Int), rv]), σ7.next + 1⟩ := ⟨_, rfl⟩
    have nSA : SA.next = σ7.next + 1 := by rw [hSA]
    have kSA : ∀ a, a < σ7.next → SA.mem.get a = σ7.mem.get a := fun a ha => by rw [hSA]; simp [show ¬ a = σ7.next by omega]
    obtain ⟨w, σb, e1, e2, e3, e4⟩ := hout_app ho4 (ρ := SA) (by omega) (fun a ha hb => (kSA a (by omega)).trans (k47 a hb (by omega))) (by omega) (b := σ7.next) (L := (L : Int)) (rv := rv) (r := rs) (by rw [hSA]; simp) (ho7.rgn (by omega) (by omega) fun a _ ha => kSA a ha) (by omega)
    rw [hSA] at e1
    have mb : σb.mem.get B = some (.cells 3 [u64 (nl : Int), u64 (ne : Int), ov]) := (e4 B (by omega) (.inl (by omega))).trans ((kSA B (by omega)).trans mB7)
    have ow := e2.one
    have eH : ¬ H = σ7.next := by omega
    have eB : ¬ B = σ7.next := by omega
    simp [lk_cons, mB7, mH7, fillL, repL, storeL, ↓e1, mb, ow, orv, w1]
    have kB : ∀ a, a < B → (σb.mem.set B (.cells 3 [u64 (nl : Int), u64 (ne : Int), w])).get a = σ7.mem.get a := fun a ha => by
      simp [show ¬ a = B by omega]
      exact (e4 a (by omega) (.inl (by omega))).trans (kSA a (by omega))
    refine ⟨N - (i + 1), by omega, i + 1, l7, acc ++ [⟨(L : Int), rs⟩], w, rfl, by omega, by simp [hacc], ?_, by omega, ?_, ⟨by show B + 1 ≤ σb.next; omega, fun a ha hr => ?_⟩, ?_, by simp, ?_, ?_, rfl⟩
    · refine h7.keep (by show σ7.next ≤ σb.next; omega) fun a ha hac => kB a ?_
      rcases hac with rfl | hac
      · omega
      · have := hcl a hac; omega
    · intro x hx
      rcases List.mem_append.1 hx with hx | hx
      · exact hxs x hx
      · simp at hx; subst hx; simp only; omega
    · rw [kB a (by omega), k47 a (by omega) hr]
      exact k4 a ha hr
    · rw [kB σ.next (by omega), k47 σ.next (by omega) er]
      exact mA4
    · refine e2.frame (Nat.le_refl _) fun a ha hb => ?_
      simp [show ¬ a = B by omega]
    · rw [hr7, show N - (i + 1) = j0 by omega]
      simp
  have : i = N := by omega
  subst this
  rw [Nat.sub_self] at hr4
  have hr4 : pCu0 l = .ok (⟨(nl : Int), (ne : Int), acc⟩, l4) := by rw [hr4]; simp [pMany, pB_pR, pR]
  have hfew : HFew acc := ⟨by omega, fun x hx => by have := hxs x hx; omega⟩
  have ow := ho4.one
  simp [lk_cons, mB4]
  refine ACall.into (ccheck_g (.inr ⟨B + 1, ho4⟩) hfew _ _ _ fun b hb => ?_)
  cases b with
  | false =>
    have hc : cuOkB nl ne acc = false := by
      cases hq : cuOkB nl ne acc with
      | false => rfl
      | true => exact absurd (hb.2 ((cuOkB_iff _ _ _).1 hq)) (by simp)
    simp [lk_cons]
    refine fail_c (fun _ => hT 23 σ4 (by rw [pCu, pB_ok hr4]; simp [hc]) s4) fun e => by cases e
  | true =>
    have hc : cuOkB nl ne acc = true := (cuOkB_iff _ _ _).2 (hb.1 rfl)
    simp [lk_cons, mB4, mA4, storeL, ow]
    have hAB : σ.next ≤ B := by omega
    refine hK ⟨(nl : Int), (ne : Int), acc⟩ l4 ov _ (by rw [pCu, pB_ok hr4]; simp [hc]) (h4.keep (Nat.le_refl _) fun a ha hac => ?_) (HOut.mono (lo := B + 1) (lo' := σ.next) (ho4.frame (Nat.le_refl _) fun a ha hb => ?_) (by omega)) hfew ⟨by show σ.next ≤ σ4.next; omega, fun a ha hr => ?_⟩
    · have : a ≠ σ.next := by
        rcases hac with rfl | hac
        · omega
        · have := hcl a hac; omega
      simp [this]
    · simp [show ¬ a = σ.next by omega]
    · simp [show ¬ a = σ.next by omega]
      exact k4 a ha hr
end Go.Proofs.Ytinfnpbglapjhaa.AM

/- A cursor's bytes: read back, and what is read. -/
namespace Go.Proofs.Ytinfnpbglapjhaa.AM
open Go.RowKit
set_option maxRecDepth 100000
set_option linter.unusedVariables false
set_option linter.unusedSimpArgs false

theorem be_cons (x : UInt8) (l : List UInt8) : be (x :: l) = x.toNat * 256 ^ l.length + be l := by
  have gen : ∀ (l : List UInt8) (a : Nat), l.foldl (fun a b => a * 256 + b.toNat) a = a * 256 ^ l.length + be l := by
    intro l
    induction l with
    | nil => intro a; simp [be]
    | cons y l ih =>
      intro a
      simp only [be, List.foldl_cons, List.length_cons] at ih ⊢
      rw [ih, ih (0 * 256 + y.toNat), Nat.pow_succ]
      rw [Nat.add_mul, Nat.add_mul, Nat.mul_assoc, Nat.mul_comm 256]
      omega
  have := gen l (0 * 256 + x.toNat)
  simpa [be] using this
theorem be_beN (n : Nat) : ∀ k, be (beN k n) = n % 256 ^ k
  | 0 => by simp [beN, be, Nat.mod_one]
  | k + 1 => by
    rw [beN, be_cons, beN_len, be_beN n k, Nat.pow_succ]
    have h1 : (UInt8.ofNat (n / 256 ^ k)).toNat = n / 256 ^ k % 256 := by simp
    rw [h1, Nat.mod_mul, Nat.add_comm, Nat.mul_comm]
theorem be_inj : ∀ l m : List UInt8, l.length = m.length → be l = be m → l = m
  | [], [], _, _ => rfl
  | x :: l, y :: m, h, e => by
    simp only [List.length_cons, Nat.add_right_cancel_iff] at h
    rw [be_cons, be_cons, h] at e
    have h1 := be_lt l
    have h2 := be_lt m
    rw [h] at h1
    have hp : 0 < 256 ^ m.length := Nat.pow_pos (by decide)
    have e1 : x.toNat = y.toNat := by
      have := congrArg (· / 256 ^ m.length) e
      simp only [Nat.mul_comm _ (256 ^ m.length), Nat.mul_add_div hp, Nat.div_eq_of_lt h1, Nat.div_eq_of_lt h2, Nat.add_zero] at this
      exact this
    have e2 : be l = be m := by rw [e1] at e; omega
    rw [be_inj l m h e2, UInt8.toNat_inj.1 e1]
  | [], _ :: _, h, _ => by simp at h
  | _ :: _, [], h, _ => by simp at h
theorem beN_be (l : List UInt8) : beN l.length (be l) = l :=
  be_inj _ _ (beN_len _ _) (by rw [be_beN, Nat.mod_eq_of_lt (be_lt l)])
/-- What is read is B of it and what is left. -/
def One {α : Type} (p : Prs α) (B : α → List UInt8) : Prop := ∀ l x r, p l = .ok (x, r) → l = B x ++ r
theorem pNum_one (k : Nat) : One (pNum k) (beN k) := fun l x r h => by
  unfold pNum at h
  split at h
  · cases h
  · rename_i hk
    cases h
    have hl : (l.take k).length = k := by rw [List.length_take]; omega
    have := beN_be (l.take k)
    rw [hl] at this
    rw [this, List.take_append_drop]
theorem pMany_one {α : Type} {p : Prs α} {B : α → List UInt8} (hp : One p B) : ∀ n, One (pMany p n) fun xs => (xs.map B).flatten
  | 0, l, x, r, h => by cases h; simp
  | n + 1, l, x, r, h => by
    obtain ⟨y, m, h1, h2⟩ := pB_inv h
    obtain ⟨ys, m2, h3, h4⟩ := pB_inv h2
    cases h4
    rw [hp _ _ _ h1, pMany_one hp n _ _ _ h3]
    simp
theorem pMany_cnt {α : Type} {p : Prs α} : ∀ n l x r, pMany p n l = .ok (x, r) → x.length = n
  | 0, l, x, r, h => by cases h; rfl
  | n + 1, l, x, r, h => by
    obtain ⟨y, m, h1, h2⟩ := pB_inv h
    obtain ⟨ys, m2, h3, h4⟩ := pB_inv h2
    cases h4
    rw [List.length_cons, pMany_cnt n _ _ _ h3]
theorem pRg_one : One pRg rgB := fun l x r h => by
  obtain ⟨a, m, h1, h⟩ := pB_inv h
  obtain ⟨b, m2, h2, h⟩ := pB_inv h
  cases h
  rw [pNum_one 8 _ _ _ h1, pNum_one 8 _ _ _ h2]
  simp [rgB]
theorem pHd_one : One pHd hdB := fun l x r h => by
  obtain ⟨a, m, h1, h⟩ := pB_inv h
  obtain ⟨n, m2, h2, h⟩ := pB_inv h
  obtain ⟨rs, m3, h3, h⟩ := pB_inv h
  cases h
  have hc := pMany_cnt _ _ _ _ h3
  have hn := (pNum_len h2).2
  rw [pNum_one 8 _ _ _ h1, pNum_one 2 _ _ _ h2, pMany_one pRg_one _ _ _ _ h3]
  simp only [hdB, rgsB, hc]
  rw [Nat.mod_eq_of_lt (by omega)]
  simp
theorem pCu_one : One pCu fun c => cuB c.ml c.me c.h := fun l x r h => by
  obtain ⟨c, m0, h0, h⟩ := pB_inv h
  split at h
  · cases h
    obtain ⟨a, m, h1, h⟩ := pB_inv h0
    obtain ⟨b, m1, h2, h⟩ := pB_inv h
    obtain ⟨n, m2, h3, h⟩ := pB_inv h
    obtain ⟨hs, m3, h4, h⟩ := pB_inv h
    cases h
    have hc := pMany_cnt _ _ _ _ h4
    have hn := (pNum_len h3).2
    rw [pNum_one 8 _ _ _ h1, pNum_one 8 _ _ _ h2, pNum_one 2 _ _ _ h3, pMany_one pHd_one _ _ _ _ h4]
    simp only [cuB, hdsB, hc]
    rw [Nat.mod_eq_of_lt (by omega)]
    simp
  · cases h
theorem pNum_beN {k n : Nat} (h : n < 256 ^ k) (l : List UInt8) : pNum k (beN k n ++ l) = .ok (n, l) := by
  have hl : (beN k n ++ l).length = k + l.length := by simp [beN_len]
  have h1 : (beN k n ++ l).take k = beN k n := by rw [List.take_append_of_le_length (by rw [beN_len]; exact Nat.le_refl _), List.take_of_length_le (by rw [beN_len]; exact Nat.le_refl _)]
  have h2 : (beN k n ++ l).drop k = l := by rw [List.drop_append_of_le_length (by rw [beN_len]; exact Nat.le_refl _), List.drop_of_length_le (by rw [beN_len]; exact Nat.le_refl _)]; rfl
  rw [pNum, if_neg (by omega), h1, h2, be_beN, Nat.mod_eq_of_lt h]
def Fwd {α : Type} (p : Prs α) (B : α → List UInt8) (P : α → Prop) : Prop := ∀ x r, P x → p (B x ++ r) = .ok (x, r)
theorem pNum8_f {a : Int} (h : In64 a) (r : List UInt8) : pNum 8 (beN 8 a.toNat ++ r) = .ok (a.toNat, r) ∧ ((a.toNat : Nat) : Int) = a := by
  obtain ⟨n, rfl, e, hn⟩ := nat_of h
  rw [e]
  exact ⟨pNum_beN (by rw [show (256 : Nat) ^ 8 = 18446744073709551616 by decide]; exact hn) r, rfl⟩
theorem pMany_f {α : Type} {p : Prs α} {B : α → List UInt8} {P : α → Prop} (hp : Fwd p B P) : ∀ (xs : List α) (r : List UInt8), (∀ x ∈ xs, P x) → pMany p xs.length ((xs.map B).flatten ++ r) = .ok (xs, r)
  | [], r, _ => rfl
  | x :: xs, r, h => by
    have ih := pMany_f hp xs r fun y hy => h y (by simp [hy])
    rw [List.length_cons, pMany, List.map_cons, List.flatten_cons, List.append_assoc, pB_ok (hp x _ (h x (by simp))), pB_ok ih]
    rfl
theorem pRg_f : Fwd pRg rgB fun x => In64 x.f0 ∧ In64 x.f1 := fun x r h => by
  obtain ⟨a1, a2⟩ := pNum8_f h.1 (beN 8 x.f1.toNat ++ r)
  obtain ⟨b1, b2⟩ := pNum8_f h.2 r
  rw [rgB, List.append_assoc, pRg, pB_ok a1, pB_ok b1, a2, b2]
  rfl
def HdF (x : Hd) : Prop := In64 x.f0 ∧ x.f1.length < 65536 ∧ ∀ z ∈ x.f1, In64 z.f0 ∧ In64 z.f1
theorem pHd_f : Fwd pHd hdB HdF := fun x r h => by
  obtain ⟨a1, a2⟩ := pNum8_f h.1 (beN 2 x.f1.length ++ ((x.f1.map rgB).flatten ++ r))
  have e : hdB x ++ r = beN 8 x.f0.toNat ++ (beN 2 x.f1.length ++ ((x.f1.map rgB).flatten ++ r)) := by
    simp only [hdB, rgsB]; rw [Nat.mod_eq_of_lt h.2.1]; simp
  rw [e, pHd, pB_ok a1, pB_ok (pNum_beN h.2.1 _), pB_ok (pMany_f pRg_f _ _ h.2.2), a2]
  rfl
def CuF (c : Cu) : Prop := (In64 c.ml ∧ In64 c.me) ∧ c.h.length < 65536 ∧ (∀ x ∈ c.h, HdF x) ∧ cuOk c.ml c.me c.h
theorem pCu_f : Fwd pCu (fun c => cuB c.ml c.me c.h) CuF := fun c r h => by
  obtain ⟨a1, a2⟩ := pNum8_f h.1.1 (beN 8 c.me.toNat ++ (beN 2 c.h.length ++ ((c.h.map hdB).flatten ++ r)))
  obtain ⟨b1, b2⟩ := pNum8_f h.1.2 (beN 2 c.h.length ++ ((c.h.map hdB).flatten ++ r))
  have e : cuB c.ml c.me c.h ++ r = beN 8 c.ml.toNat ++ (beN 8 c.me.toNat ++ (beN 2 c.h.length ++ ((c.h.map hdB).flatten ++ r))) := by
    simp only [cuB, hdsB]; rw [Nat.mod_eq_of_lt h.2.1]; simp
  have e0 : pCu0 (cuB c.ml c.me c.h ++ r) = .ok (c, r) := by
    rw [e, pCu0, pB_ok a1, pB_ok b1, pB_ok (pNum_beN h.2.1 _), pB_ok (pMany_f pHd_f _ _ h.2.2.1), a2, b2]
    rfl
  rw [pCu, pB_ok e0, if_pos ((cuOkB_iff _ _ _).2 h.2.2.2)]
theorem hdsB_ge : ∀ h : List Hd, 10 * h.length ≤ (hdsB h).length ∧ ∀ x ∈ h, 16 * x.f1.length ≤ (hdsB h).length
  | [] => by simp
  | x :: h => by
    obtain ⟨h1, h2⟩ := hdsB_ge h
    have h3 := rgsB_len x.f1
    have e : (hdsB (x :: h)).length = 10 + (rgsB x.f1).length + (hdsB h).length := by
      simp only [hdsB, List.map_cons, List.flatten_cons, List.length_append, hdB, beN_len]
    refine ⟨by rw [e, List.length_cons]; omega, fun y hy => ?_⟩
    rcases List.mem_cons.1 hy with rfl | hy
    · omega
    · have := h2 y hy; omega
end Go.Proofs.Ytinfnpbglapjhaa.AM

/- Same, of equal cursors that can be read. -/
namespace Go.Proofs.Ytinfnpbglapjhaa.AM
open Go.RowKit
set_option maxRecDepth 100000
set_option linter.unusedVariables false
set_option linter.unusedSimpArgs false

theorem rsame_w {σ : St} {v w : AVal} {l m : List S25} (hv : RgW σ v l) (hw : RgW σ w m) (hl : l.length ≤ 100000) (Q : AVal → St → Prop) (h : Q (.bool (decide (l = m))) σ) : ACall Try.prog 41 [v, w] σ Q := by
  refine ACall.of_compF hmx (fun a w => Try.call41 a w) Try.func41 cf41 (n := 2) (by decide) rfl ?_
  have l1 := hv.len
  have l2 := hw.len
  simp [ac41, rs41, lk_cons, ↓l1, ↓l2]
  by_cases hlen : l.length = m.length
  · have hlen' : (l.length : Int) = m.length := by omega
    simp [lk_cons, hlen, hlen']
    refine wp_loop (SamJ v w l m σ) l.length ?_ ?_
    · exact ⟨0, rfl, Nat.zero_le _, rfl, rfl, rfl⟩
    · rintro mm rg σ' ⟨i, rfl, hi, hp, rfl, rfl⟩
      by_cases hlt : i < l.length
      · have hlt2 : i < m.length := by omega
        obtain ⟨x, hx⟩ : ∃ x, l[i]? = some x := ⟨_, List.getElem?_eq_getElem hlt⟩
        obtain ⟨y, hy⟩ : ∃ y, m[i]? = some y := ⟨_, List.getElem?_eq_getElem hlt2⟩
        obtain ⟨k, hk⟩ : ∃ k, i + 1 = k := ⟨_, rfl⟩
        have w1 : IntKind.i64.wrap ((i : Int) + 1) = (k : Int) := by rw [IntWalk.i64_in] <;> omega
        obtain ⟨p, p1, p2, _, _⟩ := hv.at hx (ρ := σ') fun _ _ => rfl
        obtain ⟨q, q1, q2, _, _⟩ := hw.at hy (ρ := σ') fun _ _ => rfl
        by_cases hxy : x = y
        · subst hxy
          have ke : keysEq [u64 x.f0, u64 x.f1] [u64 x.f0, u64 x.f1] = some true := by simp [keysEq, keyEq]
          simp [lk_cons, ↓l1, ↓l2, hlt, hlt2, ↓p1, ↓p2, ↓q1, ↓q2, shapeOk, kShape, ke, w1]
          exact ⟨l.length - k, by omega, k, rfl, by omega, by rw [← hk, List.take_add_one, List.take_add_one, hp, hx, hy], rfl, rfl⟩
        · have ke : keysEq [u64 x.f0, u64 x.f1] [u64 y.f0, u64 y.f1] = some false := by
            obtain ⟨a, b⟩ := x; obtain ⟨c, d⟩ := y
            by_cases h1 : a = c
            · have h2 : ¬ b = d := fun e => hxy (by rw [h1, e])
              have h3 : (b == d) = false := by simpa using h2
              simp [keysEq, keyEq, h1, h3]
            · have h3 : (a == c) = false := by simpa using h1
              simp [keysEq, keyEq, h3]
          have hne : ¬ l = m := fun e => hxy (by subst e; rw [hx] at hy; cases hy; rfl)
          rw [decide_eq_false hne] at h
          simp [lk_cons, ↓l1, ↓l2, hlt, hlt2, ↓p1, ↓p2, ↓q1, ↓q2, shapeOk, kShape, ke]
          exact h
      · have : i = l.length := by omega
        subst this
        have : l = m := by rw [List.take_length, hlen, List.take_length] at hp; exact hp
        rw [decide_eq_true this] at h
        simp [lk_cons, ↓l1]
        exact h
  · have hlen' : ¬ (l.length : Int) = m.length := by omega
    have hne : ¬ l = m := fun e => hlen (by rw [e])
    rw [decide_eq_false hne] at h
    simp [lk_cons, hlen, hlen']
    exact h
def HSm6 (h : List Hd) : Prop := h.length ≤ 100000 ∧ ∀ x ∈ h, x.f1.length ≤ 100000
/-- Two that are one are the same. -/
theorem csame_w {v w : AVal} {h : List Hd} {σ : St} (hv : HR σ v h) (hw : HR σ w h) (hH : HSm6 h) (ml me : Int) (Q : AVal → St → Prop) (hq : Q (.bool true) σ) : ACall Try.prog 15 [cv ml me v, cv ml me w] σ Q := by
  refine ACall.scrub ?_
  refine ACall.of_compF hmx (fun a w => Try.call15 a w) Try.func15 cf15 (n := 2) (by decide) rfl ?_
  have l1 := hv.len
  have l2 := hw.len
  have v1 := hv.one.1
  have v2 := hv.one.2
  have w1 := hw.one.1
  have w2 := hw.one.2
  have hl := hH.1
  have eqt : ∀ ρ : St, evalV ρ (.eqs true [1, 1] (.agg [u64 ml, u64 me]) (.agg [u64 ml, u64 me])) = some (.bool false, ρ) := fun ρ => by
    simp [evalV, shapeOk, keysEq, kShape, keyEq]
  simp only [ac15, rs15]
  simp [lk_cons, v1, v2, w1, w2, ↓eqt, ↓l1, ↓l2]
  refine wp_loop (CsJ v w h ml me σ) h.length ?_ ?_
  · exact ⟨0, rfl, Nat.zero_le _, rfl, by simp [lk_cons]⟩
  · rintro mm rg σ' ⟨i, rfl, hi, rfl, rfl⟩
    by_cases hlt : i < h.length
    · obtain ⟨x, hx⟩ : ∃ x, h[i]? = some x := ⟨_, List.getElem?_eq_getElem hlt⟩
      obtain ⟨k, hk⟩ : ∃ k, i + 1 = k := ⟨_, rfl⟩
      have w5 : IntKind.i64.wrap ((i : Int) + 1) = (k : Int) := by rw [IntWalk.i64_in] <;> omega
      have gold : ∀ a, a < σ.next → ((σ.mem.set σ.next (.cells 3 [u64 ml, u64 me, v])).set (σ.next + 1) (.cells 3 [u64 ml, u64 me, w])).get a = σ.mem.get a := fun a ha => by simp [show ¬ a = σ.next by omega, show ¬ a = σ.next + 1 by omega]
      obtain ⟨p, r, hr, p1, _, ⟨q0, a1, a2⟩, ⟨q1, b1, b2⟩⟩ := hv.at hx (ρ := ⟨(σ.mem.set σ.next (.cells 3 [u64 ml, u64 me, v])).set (σ.next + 1) (.cells 3 [u64 ml, u64 me, w]), σ.next + 1 + 1⟩) gold
      obtain ⟨p', r', hr', p1', _, ⟨q0', a1', a2'⟩, ⟨q1', b1', b2'⟩⟩ := hw.at hx (ρ := ⟨(σ.mem.set σ.next (.cells 3 [u64 ml, u64 me, v])).set (σ.next + 1) (.cells 3 [u64 ml, u64 me, w]), σ.next + 1 + 1⟩) gold
      have hxr := hH.2 x (List.mem_of_getElem? hx)
      simp [lk_cons, ↓l1, hlt, ↓p1, ↓a1, ↓a2, ↓b1, ↓b2, ↓p1', ↓a1', ↓a2', ↓b1', ↓b2']
      refine rsame_w (hr.frame (by simp; omega) gold) (hr'.frame (by simp; omega) gold) (by omega) _ ?_
      simp [lk_cons, w5]
      exact ⟨h.length - k, by omega, k, rfl, by omega, rfl, by simp [lk_cons]⟩
    · have : i = h.length := by omega
      subst this
      simp [lk_cons, ↓l1]
      exact ⟨fun a ha => by simp [show ¬ a = σ.next by omega, show ¬ a = σ.next + 1 by omega], hq⟩
end Go.Proofs.Ytinfnpbglapjhaa.AM

/- Notes: the document's ReadNote, walked. -/
namespace Go.Proofs.Ytinfnpbglapjhaa.AM
open Go.RowKit
set_option maxRecDepth 100000
set_option linter.unusedVariables false
set_option linter.unusedSimpArgs false

/-- The reader r and the cell tc, that is filled. -/
structure RN {β : Type} (S : St) (r tc k : Nat) (c : Option Nat) (res : Except Nat (β × List UInt8)) (σ : St) (st : RSt) (G : Prs β) (cells : List AVal) : Prop where
  sr : SR σ r st c
  tr : Tr res st G
  cell : σ.mem.get tc = some (.cells k cells)
  next : σ.next = S.next
  keep : ∀ a, a ≠ r → a ≠ tc → σ.mem.get a = S.mem.get a
  ne : tc ≠ r
  nc : c ≠ some tc
section
variable {β : Type} {S : St} {r tc w : Nat} {c : Option Nat} {res : Except Nat (β × List UInt8)} {σ : St} {st : RSt} {cells : List AVal}
theorem RN.step {G G' : Prs β} (R : RN S r tc w c res σ st G cells) {st' : RSt} {σ2 : St} (h : SR σ2 r st' c) (hn : σ2.next = σ.next) (hm : ∀ a, a ≠ r → σ2.mem.get a = σ.mem.get a) (ht : Tr res st' G') (cells' : List AVal) : RN S r tc w c res ⟨σ2.mem.set tc (.cells w cells'), σ2.next⟩ st' G' cells' :=
  ⟨h.keep (Nat.le_refl _) fun a _ hac => by
    have : a ≠ tc := by
      rcases hac with rfl | hac
      · exact Ne.symm R.ne
      · exact fun e => R.nc (by rw [hac, e])
    simp [this], ht, by simp, hn.trans R.next, fun a h1 h2 => by simp [h2]; exact (hm a h1).trans (R.keep a h1 h2), R.ne, R.nc⟩
theorem rn_num {k : Nat} {F : Nat → Prs β} (R : RN S r tc w c res σ st (pB (pNum k) F) cells) (hk : k ≤ 8) (Q : AVal → St → Prop)
    (hQ : ∀ n st' σ2, n < 256 ^ k → σ2.mem.get tc = some (.cells w cells) → (∀ cells', RN S r tc w c res ⟨σ2.mem.set tc (.cells w cells'), σ2.next⟩ st' (F n) cells') → Q (.int .u64 (n : Nat)) σ2) : ACall Try.prog 64 [.ptr r 0, .int .i64 (k : Int)] σ Q :=
  snum_c R.sr hk Q fun σ2 h1 h2 h3 => hQ _ _ σ2 (sNum_lt k st) ((h3 tc R.ne).trans R.cell) (R.step h1 h2 h3 R.tr.num)
theorem rn_num0 {k : Nat} {F : Nat → Prs β} (R : RN S r tc w c res σ st (pB (pNum k) F) cells) (hk : k ≤ 8) (Q : AVal → St → Prop)
    (hQ : ∀ n st' σ2, n < 256 ^ k → RN S r tc w c res σ2 st' (F n) cells → Q (.int .u64 (n : Nat)) σ2) : ACall Try.prog 64 [.ptr r 0, .int .i64 (k : Int)] σ Q :=
  snum_c R.sr hk Q fun σ2 h1 h2 h3 => hQ _ _ σ2 (sNum_lt k st) ⟨h1, R.tr.num, (h3 tc R.ne).trans R.cell, h2.trans R.next, fun a h1 h2 => (h3 a h1).trans (R.keep a h1 h2), R.ne, R.nc⟩
end
end Go.Proofs.Ytinfnpbglapjhaa.AM

/- The document's reader takes a cursor. -/
namespace Go.Proofs.Ytinfnpbglapjhaa.AM
open Go.RowKit
set_option maxRecDepth 100000
set_option linter.unusedVariables false
set_option linter.unusedSimpArgs false

def pChk (a b : Int) (h : List Hd) : Prs Cu := fun l => if cuOkB a b h then .ok (⟨a, b, h⟩, l) else .error 23
theorem pCu_flat : pCu = pB (pNum 8) fun a => pB (pNum 8) fun b => pB (pNum 2) fun n => pB (pMany pHd n) fun h => pChk (a : Int) (b : Int) h := by
  unfold pCu pCu0
  simp only [pB_assoc, pB_pR]
  rfl
theorem Tr.any {β : Type} {res : Except Nat (β × List UInt8)} {e : Nat} {G G' : Prs β} (h : Tr res (.error e) G) : Tr res (.error e) G' := by
  rcases h with ⟨m, h, _⟩ | ⟨e', h, h'⟩
  · cases h
  · exact .inr ⟨e', h, h'⟩
theorem Tr.eq {β : Type} {res : Except Nat (β × List UInt8)} {st : RSt} {G G' : Prs β} (h : Tr res st G) (e : G = G') : Tr res st G' := e ▸ h
theorem pHd_step {β : Type} (j : Nat) (F : List Hd → Prs β) : pB (pMany pHd (j + 1)) F = pB (pNum 8) fun L => pB (pNum 2) fun n => pB (pMany pRg n) fun rs => pB (pMany pHd j) fun hs => F ((⟨(L : Int), rs⟩ : Hd) :: hs) := by
  rw [pMany_step]
  show pB (pB (pNum 8) _) _ = _
  rw [pB_assoc]; congr 1; funext L
  rw [pB_assoc]; congr 1; funext n
  rw [pB_assoc]; congr 1
theorem pRg_step {β : Type} (j : Nat) (F : List S25 → Prs β) : pB (pMany pRg (j + 1)) F = pB (pNum 8) fun a => pB (pNum 8) fun b => pB (pMany pRg j) fun rs => F ((⟨(a : Int), (b : Int)⟩ : S25) :: rs) := by
  rw [pMany_step]
  show pB (pB (pNum 8) _) _ = _
  rw [pB_assoc]; congr 1; funext a
  rw [pB_assoc]; congr 1
def DtJ (res : Except Nat (Cu × List UInt8)) (r A B : Nat) (c : Option Nat) (ml me : Int) (N : Nat) (σ0 : St) (mm : Nat) (rg : Regs) (σ' : St) : Prop := ∃ (i : Nat) (st : RSt) (acc : List Hd) (ov : AVal), mm = N - i ∧ i ≤ N ∧ acc.length = i ∧ SR σ' r st c ∧ Tr res st (pB (pMany pHd (N - i)) fun hs => pChk ml me (acc ++ hs)) ∧ (∀ x ∈ acc, x.f1.length < 65536) ∧
  (B + 1 ≤ σ'.next ∧ ∀ a, a < A → a ≠ r → σ'.mem.get a = σ0.mem.get a) ∧ σ'.mem.get A = some (.cells 3 [u64 0, u64 0, .nilsl]) ∧ σ'.mem.get B = some (.cells 3 [u64 ml, u64 me, ov]) ∧ HOut (B + 1) σ' ov acc ∧ rg = [(0, .ptr r 0), (2, .ptr A 0), (3, .ptr B 0), (4, i64 N), (5, i64 i)]
def DlJ (res : Except Nat (Cu × List UInt8)) (F : List S25 → Prs Cu) (r A B H : Nat) (c : Option Nat) (L : Int) (N i M : Nat) (S : St) (mm : Nat) (rg : Regs) (σ' : St) : Prop := ∃ (j : Nat) (st : RSt) (rs : List S25) (rv : AVal), mm = M - j ∧ j ≤ M ∧ rs.length = j ∧ SR σ' r st c ∧ Tr res st (pB (pMany pRg (M - j)) fun hs => F (rs ++ hs)) ∧
  (S.next ≤ σ'.next ∧ ∀ a, a < S.next → a ≠ r → a ≠ H → σ'.mem.get a = S.mem.get a) ∧ σ'.mem.get H = some (.cells 2 [u64 L, rv]) ∧ Out S.next σ' rv rs ∧ rg = [(0, .ptr r 0), (2, .ptr A 0), (3, .ptr B 0), (4, i64 N), (5, i64 i), (6, .ptr H 0), (7, i64 M), (8, i64 j)]
set_option maxHeartbeats 4000000 in
theorem dtake_c {σ : St} {r : Nat} {l : List UInt8} {c : Option Nat} (h : SR σ r (.ok l) c) (Q : AVal → St → Prop)
    (hQ : ∀ v st' σ' x, SR σ' r st' c → σ.next ≤ σ'.next → (∀ a, a < σ.next → a ≠ r → σ'.mem.get a = σ.mem.get a) → HOut σ.next σ' v x.h → Tr (pCu l) st' (pR x) → Q (cv x.ml x.me v) σ') : ACall Try.prog 32 [.ptr r 0] σ Q := by
  refine ACall.of_compF hmx (fun a w => Try.call32 a w) Try.func32 cf32 (n := 1) (by decide) rfl ?_
  have hrl : r < σ.next := h.1
  have hrc : c ≠ some r := h.2.1
  have hcl : ∀ x, c = some x → x < σ.next := h.2.2.1
  simp [ac32, rs32, lk_cons, fillL, storeL]
  obtain ⟨S, hS⟩ : ∃ S : St, S = ⟨((σ.mem.set σ.next (.cells 3 [.int .u64 0, .int .u64 0, .nilsl])).set (σ.next + 1) (.cells 3 [.int .u64 0, .int .u64 0, .nilsl])).set (σ.next + 1) (.cells 3 [.int .u64 0, .int .u64 0, .nilsl]), σ.next + 1 + 1⟩ := ⟨_, rfl⟩
  have nS : S.next = σ.next + 2 := by rw [hS]
  have kS : ∀ a, a < σ.next → S.mem.get a = σ.mem.get a := fun a ha => by rw [hS]; simp [show ¬ a = σ.next by omega, show ¬ a = σ.next + 1 by omega]
  have mA : S.mem.get σ.next = some (.cells 3 [u64 0, u64 0, .nilsl]) := by rw [hS]; simp
  have mB : S.mem.get (σ.next + 1) = some (.cells 3 [u64 0, u64 0, .nilsl]) := by rw [hS]; simp
  obtain ⟨B, hB⟩ : ∃ B, σ.next + 1 = B := ⟨_, rfl⟩
  have hSR : SR S r (.ok l) c := h.keep (by omega) fun a ha _ => kS a ha
  obtain ⟨res, hres⟩ : ∃ res, pCu l = res := ⟨_, rfl⟩
  have R0 : RN S r B 3 c res S (.ok l) pCu [u64 0, u64 0, .nilsl] := ⟨hSR, .inl ⟨l, rfl, hres.symm⟩, hB ▸ mB, rfl, fun _ _ _ => rfl, by omega, fun e => by have := hcl _ e; omega⟩
  rw [pCu_flat] at R0
  rw [hres] at hQ
  rw [← hS]
  simp only [hB]
  refine rn_num R0 (k := 8) (by decide) _ fun ml s1 σ1 l1 m1 R1 => ?_
  simp [lk_cons, m1, storeL]
  refine rn_num (R1 _) (k := 8) (by decide) _ fun me s2 σ2 l2 m2 R2 => ?_
  simp [lk_cons, m2, storeL]
  refine rn_num0 (R2 _) (k := 2) (by decide) _ fun N s3 σ3 l3 R3 => ?_
  have w3 : IntKind.i64.wrap (N : Int) = N := by rw [IntWalk.i64_in] <;> omega
  simp [lk_cons, w3]
  have n3 : σ3.next = σ.next + 2 := R3.next.trans nS
  refine wp_loop (DtJ res r σ.next B c (ml : Int) (me : Int) N σ) N ?_ ?_
  · exact ⟨0, s3, [], .nilsl, rfl, Nat.zero_le _, rfl, R3.sr, R3.tr, by simp, ⟨by omega, fun a ha hr => (R3.keep a hr (by omega)).trans (kS a ha)⟩, (R3.keep σ.next (by omega) (by omega)).trans mA, R3.cell, .inl ⟨rfl, rfl⟩, by simp [lk_cons]⟩
  clear R0 R1 R2 R3
  rintro mm rg σ4 ⟨i, st, acc, ov, rfl, hi, hacc, h4, t4, hxs, ⟨n4, k4⟩, mA4, mB4, ho4, rfl⟩
  obtain ⟨rv, e, hm, he⟩ := h4.code
  by_cases hgo : i < N ∧ e = 0
  · obtain ⟨hlt, rfl⟩ := hgo
    have hlt' : (i : Int) < N := by omega
    have w1 : IntKind.i64.wrap ((i : Int) + 1) = ((i + 1 : Nat) : Int) := by rw [IntWalk.i64_in] <;> omega
    obtain ⟨j0, hj0⟩ : ∃ j, N - i = j + 1 := ⟨N - i - 1, by omega⟩
    rw [hj0, pHd_step] at t4
    simp [lk_cons, hlt, hlt', hm]
    refine snum_c h4 (k := 8) (by decide) _ fun σ5 h5 n5 k5 => ?_
    have t5 := t4.num
    have hL := sNum_lt 8 st
    revert h5 t5 hL
    generalize (sNum 8 st).1 = L
    generalize (sNum 8 st).2 = st5
    intro h5 t5 hL
    simp [lk_cons, fillL, storeL]
    obtain ⟨S5, hS5⟩ : ∃ S5 : St, S5 = ⟨(σ5.mem.set σ5.next (.cells 2 [.int .u64 0, .nilsl])).set σ5.next (.cells 2 [.int .u64 (L : Int), .nilsl]), σ5.next + 1⟩ := ⟨_, rfl⟩
    have nS5 : S5.next = σ5.next + 1 := by rw [hS5]
    have kS5 : ∀ a, a < σ5.next → S5.mem.get a = σ5.mem.get a := fun a ha => by rw [hS5]; simp [show ¬ a = σ5.next by omega]
    have mS5 : S5.mem.get σ5.next = some (.cells 2 [u64 (L : Int), .nilsl]) := by rw [hS5]; simp
    obtain ⟨H, hH⟩ : ∃ H, σ5.next = H := ⟨_, rfl⟩
    rw [← hS5]
    simp only [hH]
    refine snum_c (h5.keep (by omega) fun a ha _ => kS5 a ha) (k := 2) (by decide) _ fun σ6 h6 n6 k6 => ?_
    have t6 := t5.num
    have hM := sNum_lt 2 st5
    revert h6 t6 hM
    generalize (sNum 2 st5).1 = M
    generalize (sNum 2 st5).2 = st6
    intro h6 t6 hM
    have w6 : IntKind.i64.wrap (M : Int) = M := by rw [IntWalk.i64_in] <;> omega
    have k46 : ∀ a, a < σ4.next → a ≠ r → σ6.mem.get a = σ4.mem.get a := fun a ha hr => (k6 a hr).trans ((kS5 a (by omega)).trans (k5 a hr))
    have m6 : σ6.mem.get H = some (.cells 2 [u64 (L : Int), .nilsl]) := (k6 H (by omega)).trans (hH ▸ mS5)
    simp [lk_cons, w6]
    refine wp_loop (DlJ res (fun rs => pB (pMany pHd j0) fun hs => pChk (ml : Int) (me : Int) (acc ++ (⟨(L : Int), rs⟩ : Hd) :: hs)) r σ.next B H c (L : Int) N i M σ6) M ?_ ?_
    · exact ⟨0, st6, [], .nilsl, rfl, Nat.zero_le _, rfl, h6, t6, ⟨Nat.le_refl _, fun _ _ _ _ => rfl⟩, m6, .inl ⟨rfl, rfl⟩, by simp [lk_cons]⟩
    rintro mm rg σ7 ⟨j, st7, rs, rv7, rfl, hj, hrs, h7, t7, ⟨n7, k7⟩, mH7, ho7, rfl⟩
    obtain ⟨rvv, e7, hm7, he7⟩ := h7.code
    by_cases hgo7 : j < M ∧ e7 = 0
    · obtain ⟨hjl, rfl⟩ := hgo7
      have hjl' : (j : Int) < M := by omega
      have w2 : IntKind.i64.wrap ((j : Int) + 1) = ((j + 1 : Nat) : Int) := by rw [IntWalk.i64_in] <;> omega
      obtain ⟨j1, hj1⟩ : ∃ k, M - j = k + 1 := ⟨M - j - 1, by omega⟩
      rw [hj1, pRg_step] at t7
      simp [lk_cons, hjl, hjl', hm7, fillL, storeL]
      obtain ⟨X, hX⟩ : ∃ X, σ7.next = X := ⟨_, rfl⟩
      obtain ⟨S7, hS7⟩ : ∃ S7 : St, S7 = ⟨(σ7.mem.set σ7.next (.cells 2 [.int .u64 0, .int .u64 0])).set σ7.next (.cells 2 [.int .u64 0, .int .u64 0]), σ7.next + 1⟩ := ⟨_, rfl⟩
      have nS7 : S7.next = σ7.next + 1 := by rw [hS7]
      have kS7 : ∀ a, a < σ7.next → S7.mem.get a = σ7.mem.get a := fun a ha => by rw [hS7]; simp [show ¬ a = σ7.next by omega]
      have mS7 : S7.mem.get σ7.next = some (.cells 2 [u64 0, u64 0]) := by rw [hS7]; simp
      rw [← hS7]
      simp only [hX]
      have R7 : RN S7 r X 2 c res S7 st7 _ [u64 0, u64 0] := ⟨h7.keep (by omega) fun a ha _ => kS7 a ha, t7, hX ▸ mS7, rfl, fun _ _ _ => rfl, by omega, fun e => by have := hcl _ e; omega⟩
      refine rn_num R7 (k := 8) (by decide) _ fun za s8 σ8 l8 m8 R8 => ?_
      simp [lk_cons, m8, storeL]
      refine rn_num (R8 _) (k := 8) (by decide) _ fun zb s9 σ9 l9 m9 R9 => ?_
      obtain ⟨S9, hS9⟩ : ∃ S9 : St, S9 = ⟨σ9.mem.set X (.cells 2 [u64 (za : Int), u64 (zb : Int)]), σ9.next⟩ := ⟨_, rfl⟩
      have R9 := R9 [u64 (za : Int), u64 (zb : Int)]
      rw [← hS9] at R9
      have n9 : S9.next = σ7.next + 1 := R9.next.trans nS7
      have n9' : σ9.next = σ7.next + 1 := by rw [hS9] at n9; exact n9
      have k9 : ∀ a, a < σ7.next → a ≠ r → S9.mem.get a = σ7.mem.get a := fun a ha hr => (R9.keep a hr (by omega)).trans (kS7 a ha)
      have mH9 : S9.mem.get H = some (.cells 2 [u64 (L : Int), rv7]) := (k9 H (by omega) (by omega)).trans mH7
      have ho9 : Out σ6.next S9 rv7 rs := ho7.frame (by omega) fun a h1 h2 => k9 a h2 (by omega)
      have mX9 := R9.cell
      obtain ⟨SA, hSA⟩ : ∃ SA : St, SA = ⟨S9.mem.set S9.next (.cells 2 [u64 (za : Int), u64 (zb : Int)]), S9.next + 1⟩ := ⟨_, rfl⟩
      have nSA : SA.next = S9.next + 1 := by rw [hSA]
      have kSA : ∀ a, a < S9.next → SA.mem.get a = S9.mem.get a := fun a ha => by rw [hSA]; simp [show ¬ a = S9.next by omega]
      obtain ⟨w, σb, e1, e2, e3, e4⟩ := out_app (ho9.frame (σ' := SA) (by omega) fun a _ ha => kSA a ha) (by omega) (b := S9.next) (x := (za : Int)) (y := (zb : Int)) (by rw [hSA]; simp) (by omega)
      rw [hSA, hS9] at e1
      simp only at e1
      have mb : σb.mem.get H = some (.cells 2 [u64 (L : Int), rv7]) := (e4 H (by omega)).trans ((kSA H (by omega)).trans mH9)
      have ow := e2.one
      have eHX : ¬ H = X := by omega
      have mH9' : σ9.mem.get H = some (.cells 2 [u64 (L : Int), rv7]) := by rw [hS9] at mH9; simpa [eHX] using mH9
      simp [lk_cons, m9, eHX, mH9', fillL, repL, storeL, ↓e1, mb, ow, w2]
      have kB : ∀ a, a < σ6.next → a ≠ H → a ≠ r → (σb.mem.set H (.cells 2 [u64 (L : Int), w])).get a = σ7.mem.get a := fun a ha hne hr => by
        simp [hne]
        exact (e4 a ha).trans ((kSA a (by omega)).trans (k9 a (by omega) hr))
      refine ⟨M - (j + 1), by omega, j + 1, s9, rs ++ [⟨(za : Int), (zb : Int)⟩], w, rfl, by omega, by simp [hrs], ?_, ?_, ⟨by show σ6.next ≤ σb.next; omega, fun a ha h1 h2 => ?_⟩, by simp, ?_, rfl⟩
      · refine R9.sr.keep (by show S9.next ≤ σb.next; omega) fun a ha hac => ?_
        have hlt6 : a < σ6.next := by
          rcases hac with rfl | hac
          · omega
          · have := hcl a hac; omega
        have hne : a ≠ H := by
          rcases hac with rfl | hac
          · omega
          · have := hcl a hac; omega
        simp [hne]
        exact (e4 a hlt6).trans (kSA a (by omega))
      · refine R9.tr.eq ?_
        rw [show M - (j + 1) = j1 by omega]
        simp
      · rw [kB a ha h2 h1]
        exact k7 a ha h1 h2
      · refine e2.frame (Nat.le_refl _) fun a ha hb => ?_
        simp [show ¬ a = H by omega]
    · have key : Tr res st7 (pB (pMany pHd j0) fun hs => pChk (ml : Int) (me : Int) (acc ++ (⟨(L : Int), rs⟩ : Hd) :: hs)) := by
        rcases he7 with ⟨e0, _⟩ | ⟨e0, rfl⟩
        · have : M - j = 0 := by omega
          rw [this] at t7
          refine t7.eq ?_
          simp [pMany, pB_pR]
        · exact t7.any
      have mB7 : σ7.mem.get B = some (.cells 3 [u64 (ml : Int), u64 (me : Int), ov]) := (k7 B (by omega) (by omega) (by omega)).trans ((k46 B (by omega) (by omega)).trans mB4)
      have k47 : ∀ a, a < σ4.next → a ≠ r → σ7.mem.get a = σ4.mem.get a := fun a ha hr => (k7 a (by omega) hr (by omega)).trans (k46 a ha hr)
      have orv := ho7.one
      obtain ⟨SA, hSA⟩ : ∃ SA : St, SA = ⟨σ7.mem.set σ7.next (.cells 2 [u64 (L : Int), rv7]), σ7.next + 1⟩ := ⟨_, rfl⟩
      have nSA : SA.next = σ7.next + 1 := by rw [hSA]
      have kSA : ∀ a, a < σ7.next → SA.mem.get a = σ7.mem.get a := fun a ha => by rw [hSA]; simp [show ¬ a = σ7.next by omega]
      obtain ⟨w, σb, e1, e2, e3, e4⟩ := hout_app ho4 (ρ := SA) (by omega) (fun a ha hb => (kSA a (by omega)).trans (k47 a hb (by omega))) (by omega) (b := σ7.next) (L := (L : Int)) (rv := rv7) (r := rs) (by rw [hSA]; simp) (ho7.rgn (by omega) (by omega) fun a _ ha => kSA a ha) (by omega)
      rw [hSA] at e1
      have mb : σb.mem.get B = some (.cells 3 [u64 (ml : Int), u64 (me : Int), ov]) := (e4 B (by omega) (.inl (by omega))).trans ((kSA B (by omega)).trans mB7)
      have ow := e2.one
      have eH : ¬ H = σ7.next := by omega
      have eB : ¬ B = σ7.next := by omega
      have kB : ∀ a, a < B → (σb.mem.set B (.cells 3 [u64 (ml : Int), u64 (me : Int), w])).get a = σ7.mem.get a := fun a ha => by
        simp [show ¬ a = B by omega]
        exact (e4 a (by omega) (.inl (by omega))).trans (kSA a (by omega))
      have fin : ∃ mm, mm < N - i ∧ DtJ res r σ.next B c (ml : Int) (me : Int) N σ mm [(0, .ptr r 0), (2, .ptr σ.next 0), (3, .ptr B 0), (4, i64 N), (5, i64 ((i + 1 : Nat) : Int))] ⟨σb.mem.set B (.cells 3 [u64 (ml : Int), u64 (me : Int), w]), σb.next⟩ := by
        refine ⟨N - (i + 1), by omega, i + 1, st7, acc ++ [⟨(L : Int), rs⟩], w, rfl, by omega, by simp [hacc], ?_, ?_, ?_, ⟨by show B + 1 ≤ σb.next; omega, fun a ha hr => ?_⟩, ?_, by simp, ?_, rfl⟩
        · refine h7.keep (by show σ7.next ≤ σb.next; omega) fun a ha hac => kB a ?_
          rcases hac with rfl | hac
          · omega
          · have := hcl a hac; omega
        · refine key.eq ?_
          rw [show N - (i + 1) = j0 by omega]
          simp
        · intro x hx
          rcases List.mem_append.1 hx with hx | hx
          · exact hxs x hx
          · simp at hx; subst hx; simp only; omega
        · rw [kB a (by omega), k47 a (by omega) hr]
          exact k4 a ha hr
        · rw [kB σ.next (by omega), k47 σ.next (by omega) (by omega)]
          exact mA4
        · refine e2.frame (Nat.le_refl _) fun a ha hb => ?_
          simp [show ¬ a = B by omega]
      by_cases hjl : j < M
      · have hjl' : (j : Int) < M := by omega
        have hne : ¬ e7 = 0 := fun e => hgo7 ⟨hjl, e⟩
        have hne' : ¬ (e7 : Int) = 0 := by omega
        simp [lk_cons, hjl, hjl', hm7, hne, hne', mB7, mH7, fillL, repL, storeL, ↓e1, mb, ow, orv, w1]
        exact fin
      · have hjl' : ¬ (j : Int) < M := by omega
        simp [lk_cons, hjl, hjl', mB7, mH7, fillL, repL, storeL, ↓e1, mb, ow, orv, w1]
        exact fin
  · have key : Tr res st (pChk (ml : Int) (me : Int) acc) := by
      rcases he with ⟨e0, _⟩ | ⟨e0, rfl⟩
      · have : N - i = 0 := by omega
        rw [this] at t4
        refine t4.eq ?_
        simp [pMany, pB_pR]
      · exact t4.any
    have hfew : HFew acc := ⟨by omega, fun x hx => by have := hxs x hx; omega⟩
    have ow := ho4.one
    have fin : ∀ (st' : RSt) (σ5 : St), SR σ5 r st' c → σ5.next = σ4.next → (∀ a, a ≠ r → σ5.mem.get a = σ4.mem.get a) → Tr res st' (pR ⟨(ml : Int), (me : Int), acc⟩) → Q (cv (ml : Int) (me : Int) ov) ⟨σ5.mem.set σ.next (.cells 3 [u64 (ml : Int), u64 (me : Int), ov]), σ5.next⟩ := fun st' σ5 g1 g2 g3 g4 => by
      refine hQ ov st' _ ⟨(ml : Int), (me : Int), acc⟩ (g1.keep (Nat.le_refl _) fun a ha hac => ?_) (by show σ.next ≤ σ5.next; omega) (fun a ha hr => ?_) (HOut.mono (lo := B + 1) (lo' := σ.next) (ho4.frame (by show σ4.next ≤ σ5.next; omega) fun a ha hb => ?_) (by omega)) g4
      · have : a ≠ σ.next := by
          rcases hac with rfl | hac
          · omega
          · have := hcl a hac; omega
        simp [this]
      · simp [show ¬ a = σ.next by omega]
        exact (g3 a hr).trans (k4 a ha hr)
      · simp [show ¬ a = σ.next by omega]
        exact g3 a (by omega)
    by_cases he0 : e = 0
    · subst he0
      have hlt : ¬ i < N := fun h => hgo ⟨h, rfl⟩
      have hlt' : ¬ (i : Int) < N := by omega
      obtain ⟨l4, hl4⟩ : ∃ l, st = .ok l := by
        rcases he with ⟨_, h⟩ | ⟨h, _⟩
        · exact h
        · exact absurd rfl h
      subst hl4
      have hres4 : res = pChk (ml : Int) (me : Int) acc l4 := by
        rcases key with ⟨m, h1, h2⟩ | ⟨e, h1, _⟩
        · cases h1; exact h2
        · cases h1
      simp [lk_cons, hlt, hlt', hm, mB4]
      refine ACall.into (cright_g (.inr ⟨B + 1, ho4⟩) hfew _ _ _ fun b hb => ?_)
      cases b with
      | false =>
        have hc : cuOkB ml me acc = false := by
          cases hq : cuOkB ml me acc with
          | false => rfl
          | true => exact absurd (hb.2 ((cuOkB_iff _ _ _).1 hq)) (by simp)
        simp [lk_cons]
        refine sfail_c h4 (e := 23) (by decide) _ fun σ5 g1 g2 g3 => ?_
        have mA5 := (g3 σ.next (by omega)).trans mA4
        have mB5 := (g3 B (by omega)).trans mB4
        simp [lk_cons, mB5, mA5, storeL, ow]
        exact fin _ σ5 g1 g2 g3 (.inr ⟨23, rfl, by rw [hres4, pChk, hc]; rfl⟩)
      | true =>
        have hc : cuOkB ml me acc = true := (cuOkB_iff _ _ _).2 (hb.1 rfl)
        simp [lk_cons, mB4, mA4, storeL, ow]
        exact fin _ σ4 h4 rfl (fun _ _ => rfl) (.inl ⟨l4, rfl, by rw [hres4, pChk, hc]; rfl⟩)
    · have he0' : ¬ (e : Int) = 0 := by omega
      obtain rfl : st = .error e := by
        rcases he with ⟨h, _⟩ | ⟨_, h⟩
        · exact absurd h he0
        · exact h
      by_cases hlt : i < N
      · have hlt' : (i : Int) < N := by omega
        simp [lk_cons, hlt, hlt', hm, he0, he0', mB4, mA4, storeL, ow]
        exact fin _ σ4 h4 rfl (fun _ _ => rfl) key.any
      · have hlt' : ¬ (i : Int) < N := by omega
        simp [lk_cons, hlt, hlt', hm, he0, he0', mB4, mA4, storeL, ow]
        exact fin _ σ4 h4 rfl (fun _ _ => rfl) key.any
end Go.Proofs.Ytinfnpbglapjhaa.AM

/- Encode. -/
namespace Go.Proofs.Ytinfnpbglapjhaa.AM
open Go.RowKit
set_option maxRecDepth 100000
set_option linter.unusedVariables false
set_option linter.unusedSimpArgs false

theorem many_c {σ : St} {rv : AVal} {r : List S25} (hr : RgW σ rv r) (hl : r.length ≤ 65535) (L : Int) (Q : AVal → St → Prop) (hQ : Q (.bool false) σ) : ACall Try.prog 56 [.agg [u64 L, rv]] σ Q := by
  refine ACall.scrub ?_
  refine ACall.of_compF hmx (fun a w => Try.call56 a w) Try.func56 cf56 (n := 1) (by decide) rfl ?_
  have o1 := hr.one
  have l1 := hr.len
  have hl' : ¬ (65535 : Int) < r.length := by omega
  have hl2 : ¬ 65535 < r.length := by omega
  simp [ac56, rs56, lk_cons, o1, ↓l1, hl', hl2]
  exact ⟨fun a ha => by simp [show ¬ a = σ.next by omega], hQ⟩
def IxJ (hv : AVal) (h : List Hd) (σ0 : St) (mm : Nat) (rg : Regs) (σ' : St) : Prop := ∃ i : Nat, mm = h.length - i ∧ i ≤ h.length ∧ σ' = σ0 ∧ rg = [(0, hv), (1, .fn 56 [] []), (7, i64 h.length), (8, i64 i)]
theorem index_c {σ : St} {hv : AVal} {h : List Hd} (hh : HR σ hv h) (hl : h.length ≤ 100000) (hs : ∀ x ∈ h, x.f1.length ≤ 65535) (Q : AVal → St → Prop) (hQ : Q (i64 (-1)) σ) : ACall Try.prog 76 [hv, .fn 56 [] []] σ Q := by
  refine ACall.of_compF hmx (fun a w => Try.call76 a w) Try.func76 cf76 (n := 2) (by decide) rfl ?_
  have l1 := hh.len
  simp [ac76, rs76, lk_cons, ↓l1]
  refine wp_loop (IxJ hv h σ) h.length ?_ ?_
  · exact ⟨0, rfl, Nat.zero_le _, rfl, by simp [lk_cons]⟩
  · rintro mm rg σ' ⟨i, rfl, hi, rfl, rfl⟩
    by_cases hlt : i < h.length
    · obtain ⟨x, hx⟩ : ∃ x, h[i]? = some x := ⟨_, List.getElem?_eq_getElem hlt⟩
      obtain ⟨k, hk⟩ : ∃ k, i + 1 = k := ⟨_, rfl⟩
      have w1 : IntKind.i64.wrap ((i : Int) + 1) = (k : Int) := by rw [IntWalk.i64_in] <;> omega
      obtain ⟨p, r, hr, p1, p2, _, _⟩ := hh.at hx (ρ := σ') fun _ _ => rfl
      simp [lk_cons, hlt, ↓p1, ↓p2]
      refine many_c hr (hs x (List.mem_of_getElem? hx)) x.f0 _ ?_
      simp [lk_cons, w1]
      exact ⟨h.length - k, by omega, k, rfl, by omega, rfl, by simp [lk_cons]⟩
    · have : i = h.length := by omega
      subst this
      simp [lk_cons]
      exact hQ
theorem contains_c {σ : St} {hv : AVal} {h : List Hd} (hh : HR σ hv h) (hl : h.length ≤ 100000) (hs : ∀ x ∈ h, x.f1.length ≤ 65535) (Q : AVal → St → Prop) (hQ : Q (.bool false) σ) : ACall Try.prog 57 [hv, .fn 56 [] []] σ Q := by
  refine ACall.of_compF hmx (fun a w => Try.call57 a w) Try.func57 cf57 (n := 2) (by decide) rfl ?_
  simp [ac57, rs57, lk_cons]
  refine index_c hh hl hs _ ?_
  simp [lk_cons]
  exact hQ
theorem HI.r {hv : AVal} {h : List Hd} (hh : HI hv h) (σ : St) : HR σ hv h := .inl hh
theorem HSm.few {h : List Hd} (hs : HSm h) : HFew h := ⟨by have := hs.len; omega, fun x hx => by have := hs.each x hx; omega⟩
set_option maxHeartbeats 2000000 in
theorem encode_c {σ : St} {hv : AVal} {h : List Hd} (hh : HI hv h) (hs : HSm h) {ml me : Int} (hml : In64 ml) (hme : In64 me) (Q : AVal → St → Prop)
    (hN : ∀ σ', Grow σ σ' → ¬ cuOk ml me h → Q (.tup [.nilsl, i64 23]) σ')
    (hQ : ∀ v b σ', Grow σ σ' → cuOk ml me h → GS rwB σ' v (cuB ml me h) b → Q (.tup [v, i64 0]) σ') : ACall Try.prog 29 [cv ml me hv] σ Q := by
  refine ACall.of_compF hmx (fun a w => Try.call29 a w) Try.func29 cf29 (n := 1) (by decide) rfl ?_
  have k1 := hh.one.1
  have k2 := hh.one.2
  have l1 := hh.len
  have hl := hs.len
  simp [ac29, rs29, lk_cons, k1, k2]
  obtain ⟨S, hS⟩ : ∃ S : St, S = ⟨σ.mem.set σ.next (.cells 3 [u64 ml, u64 me, hv]), σ.next + 1⟩ := ⟨_, rfl⟩
  have gS : Grow σ S := ⟨by rw [hS]; exact Nat.le_succ _, fun a ha => by rw [hS]; simp [show ¬ a = σ.next by omega]⟩
  have nS : S.next = σ.next + 1 := by rw [hS]
  have mS : S.mem.get σ.next = some (.cells 3 [u64 ml, u64 me, hv]) := by rw [hS]; simp
  rw [← hS]
  refine ACall.into (ccheck_g (hh.r S) hs.few ml me _ fun b hb => ?_)
  cases b with
  | false =>
    simp [lk_cons]
    exact hN S gS fun e => by have := hb.2 e; cases this
  | true =>
    have hok := hb.1 rfl
    have hl1 : ¬ (65535 : Int) < h.length := by omega
    have hl2 : ¬ 65535 < h.length := by omega
    simp [lk_cons, mS, ↓l1, hl1, hl2]
    refine contains_c (hh.r S) (by omega) (fun x hx => by have := hs.each x hx; omega) _ ?_
    have e0 : ¬ σ.next = S.next := by omega
    simp [lk_cons, mS, fillL, repL, e0]
    obtain ⟨S1, hS1⟩ : ∃ S1 : St, S1 = ⟨S.mem.set S.next (.cells 1 [.nilsl]), S.next + 1⟩ := ⟨_, rfl⟩
    have gS1 : Grow S S1 := ⟨by rw [hS1]; exact Nat.le_succ _, fun a ha => by rw [hS1]; simp [show ¬ a = S.next by omega]⟩
    have w0 : WB S1 S.next [] none := ⟨.nilsl, by rw [hS1]; simp, GS.nil _, by simp, by rw [hS1]; exact Nat.lt_succ_self _⟩
    rw [← hS1]
    refine cwrite_c w0 hh hs hml hme (by simp) _ fun σ2 b2 h2 t2 => ?_
    simp only [List.nil_append] at h2
    have g2 : Grow σ σ2 := gS.trans ⟨by have := gS1.1; have := t2.next; omega, fun a ha => (t2.keep a (by have := gS1.1; omega) (by omega) (by simp)).trans (gS1.2 a ha)⟩
    simp [lk_cons]
    have hB := hdsB_len hs.each
    refine wdone_c h2 (by simp only [cuB, List.length_append, beN_len]; omega) _ fun σ3 v b3 h3 _ g3 => ?_
    simp [lk_cons]
    exact hQ v b3 σ3 (g2.trans g3) hok h3
end Go.Proofs.Ytinfnpbglapjhaa.AM

/- pack.Read, by what takes the bytes and may write as it goes. -/
namespace Go.Proofs.Ytinfnpbglapjhaa.AM
open Go.RowKit
set_option maxRecDepth 100000
set_option linter.unusedVariables false
set_option linter.unusedSimpArgs false

structure RStpC (r cell : Nat) (σ σ' : St) : Prop where
  next : σ.next ≤ σ'.next
  keep : ∀ a, a < σ.next → a ≠ r → a ≠ cell → σ'.mem.get a = σ.mem.get a
theorem read_h {X : Type} {σ : St} {bv : AVal} {l : List UInt8} {c : Option Nat} (hb : RdB σ bv l c) {g cell : Nat} (hcell : cell < σ.next) {res : Except Nat (X × List UInt8)} {Post : X → St → St → Prop} (Q : AVal → St → Prop)
    (hcall : ∀ (T : AVal → St → Prop) (r : Nat) (σ1 : St) (K : AVal → St → Prop), RR σ1 r l c → σ.next ≤ r → Grow σ σ1 → (∀ e σ', res = .error e → RStpC r cell σ1 σ' → T (thrownV (e : Int)) σ') →
      (∀ x l' σ', res = .ok (x, l') → RR σ' r l' c → Post x σ1 σ' → σ1.next ≤ σ'.next → (∀ a, a < σ1.next → a ≠ r → a ≠ cell → σ'.mem.get a = σ1.mem.get a) → K (.tup []) σ') → ACall (Env.th Try.prog T) g [.ptr r 0, .ptr cell 0] σ1 K)
    (hE : ∀ e σ', res = .error e → σ.next ≤ σ'.next → (∀ a, a < σ.next → a ≠ cell → σ'.mem.get a = σ.mem.get a) → Q (.int .i64 (e : Int)) σ')
    (hK : ∀ x l' σ1 σ' σ2, res = .ok (x, l') → Post x σ1 σ' → Grow σ σ1 → σ.next < σ1.next → (∀ a, a ≠ σ.next → σ2.mem.get a = σ'.mem.get a) → σ2.next = σ'.next → σ1.next ≤ σ'.next → (∀ a, a < σ.next → a ≠ cell → σ'.mem.get a = σ.mem.get a) → Q (.int .i64 (if l' = [] then 0 else 5)) σ2) : ACall Try.prog 61 [bv, .fn g [] [.ptr cell 0]] σ Q := by
  refine read_c Q ?_
  have hone := hb.one
  have e1 : ¬ σ.next = σ.next + 1 := by omega
  simp [cOf, ac61, lk_cons, fillL, storeL, hone]
  refine hcall _ (σ.next + 1) _ _ ⟨bv, by simp [storeL], hb.keep (by simp; omega) fun a ha _ => by simp [show ¬ a = σ.next by omega, show ¬ a = σ.next + 1 by omega], fun e => by have := hb.lt e; omega, by simp⟩ (by omega) ⟨by simp; omega, fun a ha => by simp [show ¬ a = σ.next by omega, show ¬ a = σ.next + 1 by omega]⟩ (fun e σ' he hs => ?_) (fun x l' σ' hx hr hp hn hk => ?_)
  · have hm := hs.keep σ.next (by simp; omega) (by omega) (by omega)
    simp [e1] at hm
    refine ⟨(e : Int), rfl, ⟨0, hm⟩, hE e _ he (by have := hs.next; simp at this ⊢; omega) (fun a ha hac => ?_)⟩
    have := hs.keep a (by simp; omega) (by omega) hac
    simp [show ¬ a = σ.next by omega, show ¬ a = σ.next + 1 by omega] at this ⊢
    exact this
  · obtain ⟨v', h1, h2, h3, h4⟩ := hr
    have hlen := h2.len
    have hm := hk σ.next (by simp; omega) (by omega) (by omega)
    simp [e1] at hm
    have hn' : σ.next + 1 + 1 ≤ σ'.next := by simpa using hn
    have hg : Grow σ ⟨(σ.mem.set σ.next (.cells 1 [.int .i64 0])).set (σ.next + 1) (.cells 1 [bv]), σ.next + 1 + 1⟩ := ⟨by simp; omega, fun a ha => by simp [show ¬ a = σ.next by omega, show ¬ a = σ.next + 1 by omega]⟩
    have hq := fun (b : Blk) => hK x l' _ σ' ⟨σ'.mem.set σ.next b, σ'.next⟩ hx hp (by simpa [storeL] using hg) (by simp; omega) (fun a ha => by simp [ha]) rfl hn (fun a ha hac => by
      have := hk a (by simp; omega) (by omega) hac
      simp [show ¬ a = σ.next by omega, show ¬ a = σ.next + 1 by omega] at this
      exact this)
    cases l' with
    | nil =>
      simp [lk_cons, h1, ↓hlen, hm, storeL, rs61]
      simpa using hq _
    | cons y l' =>
      have hp : (0 : Int) < ((y :: l').length : Int) := by simp only [List.length_cons]; omega
      obtain ⟨N, hN⟩ : ∃ N, (y :: l').length = N := ⟨_, rfl⟩
      simp only [hN] at hlen hp
      have hp' : 0 < N := by omega
      simp [lk_cons, h1, ↓hlen, hm, storeL, rs61, hp, hp']
      simpa using hq _
end Go.Proofs.Ytinfnpbglapjhaa.AM

/- Decode. -/
namespace Go.Proofs.Ytinfnpbglapjhaa.AM
open Go.RowKit
set_option maxRecDepth 100000
set_option linter.unusedVariables false
set_option linter.unusedSimpArgs false

theorem RStp.c {r cell : Nat} {σ σ' : St} (h : RStp r σ σ') : RStpC r cell σ σ' := ⟨h.next, fun a ha h1 _ => h.keep a ha h1⟩
def CuM (tc : Nat) (x : Cu) (σ σ' : St) : Prop := ∃ v, σ'.mem.get tc = some (.cells 3 [u64 x.ml, u64 x.me, v]) ∧ HOut σ.next σ' v x.h ∧ HFew x.h
theorem decc_c {T : AVal → St → Prop} {σ : St} {r tc : Nat} {l : List UInt8} {c : Option Nat} {K : AVal → St → Prop} (h : RR σ r l c) (hl : l.length ≤ 1000000) (htc : σ.mem.get tc = some (.cells 3 [.int .u64 0, .int .u64 0, .nilsl])) (htl : tc < σ.next) (hrt : tc ≠ r) (hct : c ≠ some tc)
    (hT : ∀ e σ', pCu l = .error e → RStpC r tc σ σ' → T (thrownV (e : Int)) σ')
    (hK : ∀ x l' σ', pCu l = .ok (x, l') → RR σ' r l' c → CuM tc x σ σ' → RStpC r tc σ σ' → K (.tup []) σ') : ACall (Env.th Try.prog T) 62 [.ptr r 0, .ptr tc 0] σ K := by
  refine ACall.of_compF hmx (fun a w => Try.call62 a w) Try.func62 cf62 (n := 2) (by decide) rfl ?_
  simp [ac62, rs62, lk_cons]
  refine ctake_c h hl (fun e σ' he hs => hT e σ' he hs.c) fun x l' v σ' hx h1 h2 h3 h4 => ?_
  have m1 := (h4.keep tc htl hrt).trans htc
  have ow := h2.one
  simp [lk_cons, m1, storeL, ow]
  refine hK x l' _ hx (h1.keep (Nat.le_refl _) fun a ha hac => ?_) ⟨v, by simp, h2.frame (Nat.le_refl _) fun a ha hb => ?_, h3⟩ ⟨h4.next, fun a ha h5 h6 => ?_⟩
  · have : a ≠ tc := by
      rcases hac with rfl | hac
      · exact Ne.symm hrt
      · exact fun e => hct (by rw [hac, e])
    simp [this]
  · simp [show ¬ a = tc by omega]
  · simp [h6]
    exact h4.keep a ha h5
def cuZ : List AVal := [.int .u64 0, .int .u64 0, .nilsl]
def DecRel (l : List UInt8) (gv : AVal) (code : Nat) : Prop := (pCu l = .error code ∧ gv = .agg cuZ) ∨ (∃ x l', pCu l = .ok (x, l') ∧ l' ≠ [] ∧ gv = .agg cuZ ∧ code = 5) ∨ ∃ x hv, pCu l = .ok (x, []) ∧ gv = cv x.ml x.me hv ∧ HI hv x.h ∧ HFew x.h ∧ code = 0
theorem cuZ_frz (lo : Nat) (m : Mem) (e : Int) : frzD lo m 4 (.tup [.agg cuZ, i64 e]) = some (.tup [.agg cuZ, i64 e]) := by
  simp [frzD, cuZ]
set_option maxHeartbeats 4000000 in
theorem decode_c {σ : St} {bv : AVal} {l : List UInt8} {c : Option Nat} (hb : RdB σ bv l c) (hl : l.length ≤ 1000000) (Q : AVal → St → Prop) (hQ : ∀ gv code, DecRel l gv code → Q (.tup [gv, i64 (code : Nat)]) σ) : ACall Try.prog 31 [bv] σ Q := by
  refine ACall.freezeD 4 ?_
  refine ACall.of_compF hmx (fun a w => Try.call31 a w) Try.func31 cf31 (n := 1) (by decide) rfl ?_
  simp [ac31, rs31, lk_cons]
  obtain ⟨S, hS⟩ : ∃ S : St, S = ⟨(σ.mem.set σ.next (.cells 3 cuZ)).set (σ.next + 1) (.cells 3 cuZ), σ.next + 1 + 1⟩ := ⟨_, rfl⟩
  have nS : S.next = σ.next + 2 := by rw [hS]
  have kS : ∀ a, a < σ.next → S.mem.get a = σ.mem.get a := fun a ha => by rw [hS]; simp [show ¬ a = σ.next by omega, show ¬ a = σ.next + 1 by omega]
  have m2 : S.mem.get σ.next = some (.cells 3 cuZ) := by rw [hS]; simp
  have m4 : S.mem.get (σ.next + 1) = some (.cells 3 cuZ) := by rw [hS]; simp
  unfold cuZ at hS
  rw [← hS]
  refine read_h (X := Cu) (res := pCu l) (Post := fun x σ1 σ' => CuM (σ.next + 1) x σ1 σ') (hb.keep (by omega) fun a ha _ => kS a ha) (cell := σ.next + 1) (by omega) _ (fun T r σa K k1 k2 k3 k4 k5 => ?_) (fun e σb he hn hk => ?_) (fun x l' σa σb σc hx hpost hga hna hmem hnx hnab hkeep => ?_)
  · have htc := (k3.2 (σ.next + 1) (by omega)).trans m4
    exact decc_c k1 hl htc (by have := k3.1; omega) (by omega) (fun ec => by have := hb.lt ec; omega) (fun e σ' he hs => k4 e σ' he hs) fun x l' σ' h1 h2 h3 h4 => k5 x l' σ' h1 h2 h3 h4.next h4.keep
  · have he0 := pCu_ne0 _ _ he
    have he0' : ¬ (e : Int) = 0 := by omega
    have hm := (hk σ.next (by omega) (by omega)).trans m2
    unfold cuZ at hm
    simp [lk_cons, he0, he0', hm, storeL, fillL]
    refine ⟨fun a ha => ?_, _, cuZ_frz _ _ _, hQ _ e (.inl ⟨he, rfl⟩)⟩
    simp [show ¬ a = σ.next by omega]
    exact (hk a (by omega) (by omega)).trans (kS a ha)
  · obtain ⟨v, z1, z2, z3⟩ := hpost
    have hm : σc.mem.get (σ.next + 1) = some (.cells 3 [u64 x.ml, u64 x.me, v]) := (hmem (σ.next + 1) (by omega)).trans z1
    have hm2 : σc.mem.get σ.next = some (.cells 3 cuZ) := (hmem σ.next (by omega)).trans ((hkeep σ.next (by omega) (by omega)).trans m2)
    have gk : ∀ a, a < σ.next → σc.mem.get a = σ.mem.get a := fun a ha => by
      rw [hmem a (by omega), hkeep a (by omega) (by omega), kS a ha]
    unfold cuZ at hm2
    obtain ⟨o1, o2⟩ := z2.one
    cases l' with
    | nil =>
      simp [lk_cons, hm, hm2, storeL, o1]
      obtain ⟨F, hF⟩ : ∃ F : St, F = ⟨σc.mem.set σ.next (.cells 3 [u64 x.ml, u64 x.me, v]), σc.next⟩ := ⟨_, rfl⟩
      have nF : F.next = σc.next := by rw [hF]
      have kF : ∀ a, a ≠ σ.next → F.mem.get a = σc.mem.get a := fun a ha => by rw [hF]; simp [ha]
      have eF : F.mem = σc.mem.set σ.next (.cells 3 [u64 x.ml, u64 x.me, v]) := by rw [hF]
      rw [← hF, ← eF]
      have n1 := hga.1
      have kk : ∀ a, σa.next ≤ a → F.mem.get a = σb.mem.get a := fun a ha => (kF a (by omega)).trans (hmem a (by omega))
      have go : HOut σa.next F v x.h := z2.frame (by omega) fun a ha _ => kk a ha
      obtain ⟨hv, f1, f2⟩ := go.frz (lo' := σ.next) (by omega) x.ml x.me
      refine ⟨fun a ha => (kF a (by omega)).trans (gk a ha), .tup [cv x.ml x.me hv, i64 0], ?_, hQ _ 0 (.inr (.inr ⟨x, hv, hx, rfl, f2, z3, rfl⟩))⟩
      have e4 : frzD σ.next F.mem 3 (.int .i64 0) = some (.int .i64 0) := by simp [frzD]
      show (listM (frzD σ.next F.mem 3) [.agg [u64 x.ml, u64 x.me, v], i64 0]).map AVal.tup = _
      rw [listM_cons, f1, listM_cons, e4]
      rfl
    | cons y l' =>
      simp [lk_cons, hm, hm2, storeL, fillL]
      refine ⟨fun a ha => ?_, _, cuZ_frz _ _ _, hQ _ 5 (.inr (.inl ⟨x, y :: l', hx, by simp, rfl, rfl⟩))⟩
      simp [show ¬ a = σ.next by omega]
      exact gk a ha
end Go.Proofs.Ytinfnpbglapjhaa.AM

/- What an ack comes to. -/
namespace Go.Proofs.Ytinfnpbglapjhaa.AM
set_option maxRecDepth 100000
set_option linter.unusedVariables false
set_option linter.unusedSimpArgs false

section
variable {lv hv : AVal} {t : List Ld} {h : List Hd} {o : Int} {n : Nat}
end

end Go.Proofs.Ytinfnpbglapjhaa.AM

/- The example of chapter 14 is as it should be. -/
namespace Go.Proofs.Ytinfnpbglapjhaa.AM
set_option maxRecDepth 100000
set_option linter.unusedVariables false
set_option linter.unusedSimpArgs false

def tabL : TabL := [(9, ac9, rs9, 0), (13, ac13, rs13, 4), (18, ac18, rs18, 2), (20, ac20, rs20, 2), (22, ac22, rs22, 3), (35, ac35, rs35, 3), (36, ac36, rs36, 2), (45, ac45, rs45, 2), (46, ac46, rs46, 2), (48, ac48, rs48, 1), (49, ac49, rs49, 2), (51, ac51, rs51, 3), (52, ac52, rs52, 2), (67, ac67, rs67, 2), (68, ac68, rs68, 1), (69, ac69, rs69, 2), (72, ac72, rs72, 2), (73, ac73, rs73, 1), (74, ac74, rs74, 2), (75, ac75, rs75, 2), (85, ac85, rs85, 1), (86, ac86, rs86, 3), (87, ac87, rs87, 2), (90, ac90, rs90, 2)]
theorem tabOk : TabOk Try.prog (look tabL) := by
  unfold tabL
  refine tab_cons ?_ (fun a w => Try.call9 a w) Try.func9 cf9 (by decide)
  refine tab_cons ?_ (fun a w => Try.call13 a w) Try.func13 cf13 (by decide)
  refine tab_cons ?_ (fun a w => Try.call18 a w) Try.func18 cf18 (by decide)
  refine tab_cons ?_ (fun a w => Try.call20 a w) Try.func20 cf20 (by decide)
  refine tab_cons ?_ (fun a w => Try.call22 a w) Try.func22 cf22 (by decide)
  refine tab_cons ?_ (fun a w => Try.call35 a w) Try.func35 cf35 (by decide)
  refine tab_cons ?_ (fun a w => Try.call36 a w) Try.func36 cf36 (by decide)
  refine tab_cons ?_ (fun a w => Try.call45 a w) Try.func45 cf45 (by decide)
  refine tab_cons ?_ (fun a w => Try.call46 a w) Try.func46 cf46 (by decide)
  refine tab_cons ?_ (fun a w => Try.call48 a w) Try.func48 cf48 (by decide)
  refine tab_cons ?_ (fun a w => Try.call49 a w) Try.func49 cf49 (by decide)
  refine tab_cons ?_ (fun a w => Try.call51 a w) Try.func51 cf51 (by decide)
  refine tab_cons ?_ (fun a w => Try.call52 a w) Try.func52 cf52 (by decide)
  refine tab_cons ?_ (fun a w => Try.call67 a w) Try.func67 cf67 (by decide)
  refine tab_cons ?_ (fun a w => Try.call68 a w) Try.func68 cf68 (by decide)
  refine tab_cons ?_ (fun a w => Try.call69 a w) Try.func69 cf69 (by decide)
  refine tab_cons ?_ (fun a w => Try.call72 a w) Try.func72 cf72 (by decide)
  refine tab_cons ?_ (fun a w => Try.call73 a w) Try.func73 cf73 (by decide)
  refine tab_cons ?_ (fun a w => Try.call74 a w) Try.func74 cf74 (by decide)
  refine tab_cons ?_ (fun a w => Try.call75 a w) Try.func75 cf75 (by decide)
  refine tab_cons ?_ (fun a w => Try.call85 a w) Try.func85 cf85 (by decide)
  refine tab_cons ?_ (fun a w => Try.call86 a w) Try.func86 cf86 (by decide)
  refine tab_cons ?_ (fun a w => Try.call87 a w) Try.func87 cf87 (by decide)
  refine tab_cons ?_ (fun a w => Try.call90 a w) Try.func90 cf90 (by decide)
  exact tab_nil hmx

def runOk (x : Option (AVal × St)) : Bool := match x with
  | some (.bool true, _) => true
  | _ => false
theorem awake_run : runOk (callT (look tabL) 300 20 9 [] σ0) = true := by kernel_rfl
theorem awake (σ : St) (Q : AVal → St → Prop) (hq : Q (.bool true) σ) : ACall Try.prog 9 [] σ Q := by
  refine ACall.frame ?_ rfl
  have h := awake_run
  unfold runOk at h
  split at h
  · rename_i σ hs; exact ACall.of_run tabOk 300 20 hs ⟨rfl, hq⟩
  · cases h
end Go.Proofs.Ytinfnpbglapjhaa.AM

/- The law of acks. -/
namespace Go.Proofs.Ytinfnpbglapjhaa.AM
set_option maxRecDepth 100000
set_option linter.unusedVariables false
set_option linter.unusedSimpArgs false

theorem b_arg {ok : List AVal → Prop} {v : AVal} (hok : ∀ x, ok x → ∃ n, x = [.int .u8 n] ∧ (Lit.int .u8 n).wf = true) (h : [v] = [.nilsl] ∨ ∃ xs : List (List AVal), [v] = [.isl xs.flatten xs.length false] ∧ (∀ x ∈ xs, x.length = 1 ∧ ok x) ∧ xs.length ≤ 9223372036854775807 ∧ xs.length * 1 ≤ 140737488351232) :
    ∃ l : List UInt8, BytesOf v l ∧ l.length ≤ 9223372036854775806 := by
  rcases h with h | ⟨xs, h, hx, _, hl⟩
  · cases h; exact ⟨[], .inl ⟨rfl, rfl⟩, by simp⟩
  · cases h
    have : ∀ xs : List (List AVal), (∀ x ∈ xs, x.length = 1 ∧ ok x) → ∃ l : List UInt8, xs.flatten = bytesV l ∧ l.length = xs.length := by
      intro xs
      induction xs with
      | nil => intro _; exact ⟨[], rfl, rfl⟩
      | cons x xs ih =>
        intro h
        obtain ⟨l, h1, h2⟩ := ih (fun y hy => h y (by simp [hy]))
        obtain ⟨n, rfl, hw⟩ := hok x (h x (by simp)).2
        obtain ⟨k, rfl, hk⟩ := wf_u8 hw
        refine ⟨UInt8.ofNat k :: l, ?_, by simp [h2]⟩
        have : (UInt8.ofNat k).toNat = k := by simp; omega
        simp [bytesV, h1, this]
    obtain ⟨l, h1, h2⟩ := this xs hx
    exact ⟨l, .inr ⟨false, by rw [h1, h2]⟩, by omega⟩
def HdArg (x : List AVal) : Prop := ∃ a b, x = a ++ b ∧ (∃ n, a = [.int .u64 n] ∧ (Lit.int .u64 n).wf = true) ∧ (b = [.nilsl] ∨ ∃ xs : List (List AVal), b = [.isl xs.flatten xs.length false] ∧ (∀ x ∈ xs, x.length = 2 ∧ RgArg x) ∧ xs.length ≤ 9223372036854775807 ∧ xs.length * 16 ≤ 140737488351232)
def PsArg (x : List AVal) : Prop := ∃ a b, x = a ++ b ∧ (∃ n, a = [.int .u64 n] ∧ (Lit.int .u64 n).wf = true) ∧ (∃ n, b = [.int .u64 n] ∧ (Lit.int .u64 n).wf = true)
theorem p_arg {x : List AVal} (h : PsArg x) : ∃ p q : Int, x = [u64 p, u64 q] ∧ (0 ≤ p ∧ p ≤ 18446744073709551615) ∧ 0 ≤ q ∧ q ≤ 18446744073709551615 := by
  obtain ⟨_, _, rfl, ⟨p, rfl, hp⟩, ⟨q, rfl, hq⟩⟩ := h
  exact ⟨p, q, rfl, u64_of hp, u64_of hq⟩

end Go.Proofs.Ytinfnpbglapjhaa.AM

/- The law CursorChecks. -/
namespace Go.Proofs.Ytinfnpbglapjhaa.AM
open Go.RowKit
set_option maxRecDepth 100000
set_option linter.unusedVariables false
set_option linter.unusedSimpArgs false

theorem rgsCells : ∀ xs : List (List AVal), (∀ x ∈ xs, x.length = 2 ∧ RgArg x) → ∃ t : List S25, xs.flatten = rc t ∧ t.length = xs.length ∧ ∀ x ∈ t, In64 x.f0 ∧ In64 x.f1
  | [], _ => ⟨[], rfl, rfl, by simp⟩
  | x :: xs, h => by
    obtain ⟨t, h1, h2, h3⟩ := rgsCells xs fun y hy => h y (by simp [hy])
    obtain ⟨_, _, _, rfl, ⟨a, rfl, ha⟩, ⟨b, rfl, hb⟩⟩ := h x (by simp)
    obtain ⟨a, rfl, ha'⟩ := wf_u64 ha
    obtain ⟨b, rfl, hb'⟩ := wf_u64 hb
    refine ⟨⟨a, b⟩ :: t, by simp [h1, rc], by simp [h2], fun y hy => ?_⟩
    rcases List.mem_cons.1 hy with rfl | hy
    · exact ⟨⟨by show (0 : Int) ≤ a; omega, by show (a : Int) < _; omega⟩, by show (0 : Int) ≤ b; omega, by show (b : Int) < _; omega⟩
    · exact h3 y hy
def HdOk (x : Hd) : Prop := (0 ≤ x.f0 ∧ x.f0 ≤ 18446744073709551615) ∧ (∀ z ∈ x.f1, In64 z.f0 ∧ In64 z.f1) ∧ x.f1.length ≤ 9223372036854775806
theorem hdsCells : ∀ xs : List (List AVal), (∀ x ∈ xs, x.length = 2 ∧ HdArg x) → ∃ h : List Hd, HC xs.flatten h ∧ h.length = xs.length ∧ ∀ x ∈ h, HdOk x
  | [], _ => ⟨[], trivial, rfl, by simp⟩
  | x :: xs, h => by
    obtain ⟨t, h1, h2, h3⟩ := hdsCells xs fun y hy => h y (by simp [hy])
    obtain ⟨_, a, b, rfl, ⟨n, rfl, hn⟩, hb⟩ := h x (by simp)
    obtain ⟨n, rfl, hn'⟩ := wf_u64 hn
    rcases hb with rfl | ⟨ys, rfl, hys, _, hyl⟩
    · exact ⟨⟨n, []⟩ :: t, ⟨rfl, .inl ⟨rfl, rfl⟩, h1⟩, by simp [h2], fun y hy => by
        rcases List.mem_cons.1 hy with rfl | hy
        · exact ⟨⟨by show (0 : Int) ≤ n; omega, by show (n : Int) ≤ _; omega⟩, fun z hz => absurd hz List.not_mem_nil, by simp⟩
        · exact h3 y hy⟩
    · obtain ⟨l, e1, e2, e3⟩ := rgsCells ys hys
      exact ⟨⟨n, l⟩ :: t, ⟨rfl, .inr ⟨false, by rw [e1, e2]⟩, h1⟩, by simp [h2], fun y hy => by
        rcases List.mem_cons.1 hy with rfl | hy
        · exact ⟨⟨by show (0 : Int) ≤ n; omega, by show (n : Int) ≤ _; omega⟩, e3, by show l.length ≤ _; omega⟩
        · exact h3 y hy⟩
theorem h_arg2 {v : AVal} (h : [v] = [.nilsl] ∨ ∃ xs : List (List AVal), [v] = [.isl xs.flatten xs.length false] ∧ (∀ x ∈ xs, x.length = 2 ∧ HdArg x) ∧ xs.length ≤ 9223372036854775807 ∧ xs.length * 32 ≤ 140737488351232) : ∃ h : List Hd, HI v h ∧ HArg h ∧ ∀ y ∈ h, ∀ z ∈ y.f1, In64 z.f0 ∧ In64 z.f1 := by
  rcases h with h | ⟨xs, h, hx, _, hl⟩
  · cases h; exact ⟨[], .inl ⟨rfl, rfl⟩, ⟨by simp, by simp⟩, by simp⟩
  · cases h
    obtain ⟨t, h1, h2, h3⟩ := hdsCells xs hx
    exact ⟨t, .inr ⟨_, false, by rw [h2], h1⟩, ⟨by omega, fun x hx => ⟨(h3 x hx).1, fun z hz => by have := (h3 x hx).2.1 z hz; exact ⟨this.1.1, this.2.1, by have := this.2.2; omega⟩, (h3 x hx).2.2⟩⟩, fun y hy => (h3 y hy).2.1⟩
theorem HSm.ofC {ml me : Int} {h : List Hd} (hC : COk ml me h) (h7 : h.length ≤ 7) (h14 : ∀ x ∈ h, x.f1.length ≤ 14) : HSm h := by
  refine ⟨by omega, fun x hx => by have := h14 x hx; omega, fun x hx => ?_, fun x hx z hz => ?_⟩
  · have h1 := (hok_mem hC.1 x hx).1
    have h2 := hC.2.1 x hx
    exact ⟨by omega, by omega⟩
  · have h1 := good_mem (hok_mem hC.1 x hx).2.1 z hz
    exact ⟨⟨by omega, by omega⟩, by omega, by omega⟩
theorem HSm.ofA {h : List Hd} (ha : HArg h) (hz : ∀ y ∈ h, ∀ z ∈ y.f1, In64 z.f0 ∧ In64 z.f1) (h1 : h.length ≤ 100) (h2 : ∀ x ∈ h, x.f1.length ≤ 100) : HSm h :=
  ⟨by omega, fun x hx => by have := h2 x hx; omega, fun x hx => by have := (ha.2 x hx).1; exact ⟨by omega, by omega⟩, hz⟩
/-- A cursor that can be told. -/
structure CuG (ml me : Int) (hv : AVal) (h : List Hd) : Prop where
  hi : HI hv h
  sm : HSm h
  ml : In64 ml
  me : In64 me
  few : h.length ≤ 100 ∧ ∀ x ∈ h, x.f1.length ≤ 100
theorem hdsB_len1 {h : List Hd} (he : ∀ x ∈ h, x.f1.length ≤ 100) : (hdsB h).length ≤ 1610 * h.length := by
  induction h with
  | nil => simp [hdsB]
  | cons x l ih =>
    have h1 := he x (by simp)
    have h2 := ih fun y hy => he y (by simp [hy])
    simp only [hdsB, List.map_cons, List.flatten_cons, List.length_append, hdB, rgsB_len, beN_len, List.length_cons] at h2 ⊢
    omega
theorem DecRel.cv {l : List UInt8} {gv : AVal} {code : Nat} (h : DecRel l gv code) : ∃ ml me v, gv = cv ml me v ∧ v.one = true ∧ cellsOf v = [v] := by
  rcases h with ⟨_, rfl⟩ | ⟨x, l', _, _, rfl, _⟩ | ⟨x, hv, _, rfl, h, _⟩
  · exact ⟨0, 0, .nilsl, rfl, rfl, rfl⟩
  · exact ⟨0, 0, .nilsl, rfl, rfl, rfl⟩
  · exact ⟨x.ml, x.me, hv, rfl, h.one.1, h.one.2⟩
theorem HSm.cuf {ml me : Int} {h : List Hd} (hs : HSm h) (h1 : In64 ml) (h2 : In64 me) (ok : cuOk ml me h) : CuF ⟨ml, me, h⟩ :=
  ⟨⟨h1, h2⟩, by have := hs.len; show h.length < 65536; omega, fun x hx => ⟨hs.led x hx, by have := hs.each x hx; omega, hs.rg x hx⟩, ok⟩
theorem HSm.six {h : List Hd} (hs : HSm h) : HSm6 h := ⟨by have := hs.len; omega, fun x hx => by have := hs.each x hx; omega⟩
theorem pCu_six {l : List UInt8} {x : Cu} (h : pCu l = .ok (x, [])) (hl : l.length ≤ 5000) : HSm6 x.h := by
  have e := pCu_one l x [] h
  rw [List.append_nil] at e
  have e2 := congrArg List.length e
  simp only [cuB, List.length_append] at e2
  obtain ⟨h1, h2⟩ := hdsB_ge x.h
  exact ⟨by omega, fun y hy => by have := h2 y hy; omega⟩
theorem same_zero {σ : St} (Q : AVal → St → Prop) (hq : Q (.bool true) σ) : ACall Try.prog 15 [cv 0 0 .nilsl, cv 0 0 .nilsl] σ Q :=
  csame_w (h := []) (.inl (.inl ⟨rfl, rfl⟩)) (.inl (.inl ⟨rfl, rfl⟩)) ⟨by simp, by simp⟩ 0 0 Q hq
def L1J (a b : Int) (hv bv : AVal) (raw : Bool) (h : List Hd) (mm : Nat) (rg : Regs) (σ' : St) : Prop := ∃ i : Nat, mm = h.length - i ∧ i ≤ h.length ∧ 1 ≤ σ'.next ∧ σ'.mem.get 0 = some (.cells 3 [u64 a, u64 b, hv]) ∧ (∀ j x, j < i → h[j]? = some x → x.f1.length ≤ 100) ∧ rg = [(1, bv), (2, .bool raw), (3, .ptr 0 0), (32, hv), (33, i64 h.length), (34, i64 i)]
def L2J (bv : AVal) (P : Nat) (CS : List AVal) (mm : Nat) (rg : Regs) (σ' : St) : Prop := ∃ i : Nat, mm = 2 - i ∧ i ≤ 2 ∧ P < σ'.next ∧ σ'.mem.get P = some (.cells 3 CS) ∧ rg = [(1, bv), (47, .sl P 0 2 2 true), (48, .int .i64 2), (49, i64 i)]
set_option maxHeartbeats 4000000 in
theorem checks_c {hv bv : AVal} {l : List UInt8} {h : List Hd} (hb : BytesOf bv l) (hl : l.length ≤ 9223372036854775806) (hh : HI hv h) (ha : HArg h) (hz : ∀ y ∈ h, ∀ z ∈ y.f1, In64 z.f0 ∧ In64 z.f1) (a b : Int) (hab : (0 ≤ a ∧ a ≤ 18446744073709551615) ∧ 0 ≤ b ∧ b ≤ 18446744073709551615) (raw : Bool) :
    ACall Try.prog 8 [cv a b hv, bv, .bool raw] σ0 fun v _ => v = .bool true := by
  refine ACall.of_compF hmx (fun a w => Try.call8 a w) Try.func8 cf8 (n := 3) (by decide) rfl ?_
  have k1 := hh.one.1
  have k2 := hh.one.2
  have l1 := hh.len
  have lb := hb.len
  have hal := ha.1
  simp only [ac8, rs8]
  simp [lk_cons, k1, k2]
  refine awake _ _ ?_
  simp [lk_cons, k1, k2, ↓lb]
  by_cases h5 : 5000 < l.length
  · have h5' : (5000 : Int) < l.length := by omega
    simp [lk_cons, h5, h5']
  have h5' : ¬ (5000 : Int) < l.length := by omega
  by_cases h1 : 100 < h.length
  · have h1' : (100 : Int) < h.length := by omega
    simp [lk_cons, h5, h5', ↓l1, h1, h1']
  have h1' : ¬ (100 : Int) < h.length := by omega
  simp [lk_cons, h5, h5', ↓l1, h1, h1']
  refine wp_loop (L1J a b hv bv raw h) h.length ?_ ?_
  · exact ⟨0, rfl, Nat.zero_le _, by simp, by simp, by omega, by simp [lk_cons]⟩
  rintro mm rg σ1 ⟨i, rfl, hi, hn1, m1, hall, rfl⟩
  by_cases hlt : i < h.length
  · obtain ⟨x, hx⟩ : ∃ x, h[i]? = some x := ⟨_, List.getElem?_eq_getElem hlt⟩
    obtain ⟨k, hk⟩ : ∃ k, i + 1 = k := ⟨_, rfl⟩
    have w1 : IntKind.i64.wrap ((i : Int) + 1) = (k : Int) := by rw [IntWalk.i64_in] <;> omega
    obtain ⟨p, r, hr, p1, p2, _, _⟩ := hh.at hx σ1
    have r1 := hr.one.1
    have r2 := hr.one.2
    have l2 := (hr.w σ1).len
    have z1 : ¬ 0 = σ1.next := by omega
    simp [lk_cons, hlt, ↓p1, ↓p2, storeL, r1, r2, ↓l2]
    by_cases h100 : 100 < x.f1.length
    · have h100' : (100 : Int) < x.f1.length := by omega
      simp [lk_cons, h100, h100']
    have h100' : ¬ (100 : Int) < x.f1.length := by omega
    simp [lk_cons, h100, h100', w1]
    refine ⟨h.length - k, by omega, k, rfl, by omega, by simp, by simp [z1]; exact m1, fun j y hj hy => ?_, rfl⟩
    by_cases e : j = i
    · subst e; rw [hx] at hy; cases hy; omega
    · exact hall j y (by omega) hy
  have : i = h.length := by omega
  subst this
  have h100 : ∀ x ∈ h, x.f1.length ≤ 100 := fun x hx => by
    obtain ⟨j, hj⟩ := List.getElem?_of_mem hx
    exact hall j x (List.getElem?_eq_some_iff.1 hj).1 hj
  have hsm : HSm h := HSm.ofA ha hz (by omega) h100
  simp [lk_cons, m1]
  refine right14_c hh ha a b raw hab _ _ fun ml me cv1 H hml hme hH hC h7 h14 => ?_
  have c1 := hH.one.1
  have c2 := hH.one.2
  simp [lk_cons, m1, k1, k2, c1, c2, fillL, repL, storeL]
  have g1 : CuG a b hv h := ⟨hh, hsm, ⟨hab.1.1, by omega⟩, ⟨hab.2.1, by omega⟩, by omega, h100⟩
  have g2 : CuG ml me cv1 H := ⟨hH, HSm.ofC hC h7 h14, ⟨hml.1, by omega⟩, ⟨hme.1, by omega⟩, by omega, fun x hx => by have := h14 x hx; omega⟩
  obtain ⟨CS, hCS⟩ : ∃ CS, [u64 a, u64 b, hv, u64 ml, u64 me, cv1] = CS := ⟨_, rfl⟩
  have hCl : CS.length = 6 := by rw [← hCS]; rfl
  have hCa : ∀ i, i < 2 → ∃ ml me hv h, CuG ml me hv h ∧ (CS.drop (i * 3)).take 3 = [u64 ml, u64 me, hv] := fun i hi => by
    have : i = 0 ∨ i = 1 := by omega
    rw [← hCS]
    rcases this with rfl | rfl
    · exact ⟨a, b, hv, h, g1, rfl⟩
    · exact ⟨ml, me, cv1, H, g2, rfl⟩
  rw [hCS]
  clear hCS g1 g2 c1 c2 hC hH h7 h14 hml hme
  refine wp_loop (L2J bv σ1.next CS) 2 ?_ ?_
  · exact ⟨0, rfl, by omega, by simp, by simp, rfl⟩
  obtain ⟨P, hP⟩ : ∃ P, σ1.next = P := ⟨_, rfl⟩
  rw [hP]
  rintro mm rg σ2 ⟨i, rfl, hi2, hn2, mP, rfl⟩
  by_cases hlt2 : i < 2
  · obtain ⟨ml, me, xv, h, ⟨hi, sm, iml, ime, few⟩, hld⟩ := hCa i hlt2
    have hlt2' : (i : Int) < 2 := by omega
    have w1 : IntKind.i64.wrap ((i : Int) + 1) = ((i + 1 : Nat) : Int) := by rw [IntWalk.i64_in] <;> omega
    have hle : i * 3 + 3 ≤ CS.length := by omega
    have x1 := hi.one.1
    have x2 := hi.one.2
    have z1 : ¬ P = σ2.next := by omega
    simp [lk_cons, hlt2, hlt2', mP, hld, hle, storeL, x1, x2]
    obtain ⟨X, hX⟩ : ∃ X, σ2.next = X := ⟨_, rfl⟩
    obtain ⟨S, hS⟩ : ∃ S : St, S = ⟨(σ2.mem.set σ2.next (.cells 3 [.int .u64 0, .int .u64 0, .nilsl])).set σ2.next (.cells 3 [u64 ml, u64 me, xv]), σ2.next + 1⟩ := ⟨_, rfl⟩
    have nS : S.next = X + 1 := by rw [hS, ← hX]
    have mX : S.mem.get X = some (.cells 3 [u64 ml, u64 me, xv]) := by rw [hS, ← hX]; simp
    have mPS : S.mem.get P = some (.cells 3 CS) := by rw [hS]; simp [z1]; exact mP
    rw [← hS]
    simp only [hX]
    have fin : ∀ {σ' : St}, Grow S σ' → ∃ mm, mm < 2 - i ∧ L2J bv P CS mm [(1, bv), (47, .sl P 0 2 2 true), (48, .int .i64 2), (49, i64 ((i + 1 : Nat) : Int))] σ' := fun g =>
      ⟨2 - (i + 1), by omega, i + 1, rfl, by omega, by have := g.1; omega, (g.2 P (by omega)).trans mPS, rfl⟩
    refine encode_c hi sm iml ime _ (fun σ3 g3 hno => ?_) fun ev eb σ3 g3 hok hev => ?_
    · have mX3 := (g3.2 X (by omega)).trans mX
      have nof : ∀ {q : Bool}, (q = true ↔ cuOk ml me h) → q = false := fun {q} hq => by
        cases q with
        | false => rfl
        | true => exact absurd (hq.1 rfl) hno
      simp [lk_cons, mX3]
      refine ccheck_g (hi.r σ3) sm.few ml me _ fun q1 hq1 => ?_
      obtain rfl := nof hq1
      simp [lk_cons, mX3]
      refine cright_g (hi.r σ3) sm.few ml me _ fun q2 hq2 => ?_
      obtain rfl := nof hq2
      simp [lk_cons, mX3]
      refine ccheck_g (hi.r σ3) sm.few ml me _ fun q3 hq3 => ?_
      obtain rfl := nof hq3
      simp [lk_cons, mX3]
      refine decode_c (RdB.ofI (.inl ⟨rfl, rfl⟩) σ3) (by simp) _ fun gv code hd => ?_
      obtain ⟨ml2, me2, v2, rfl, o1, o2⟩ := hd.cv
      have z3 : ¬ X = σ3.next := by have := g3.1; omega
      simp [lk_cons, mX3, storeL, o1, o2, w1]
      refine fin (g3.trans ⟨by simp, fun a ha => by simp [show ¬ a = σ3.next by omega]⟩)
    · have mX3 := (g3.2 X (by omega)).trans mX
      have yes : ∀ {q : Bool}, (q = true ↔ cuOk ml me h) → q = true := fun {q} hq => hq.2 hok
      simp [lk_cons, mX3]
      refine ccheck_g (hi.r σ3) sm.few ml me _ fun q1 hq1 => ?_
      obtain rfl := yes hq1
      simp [lk_cons, mX3]
      refine cright_g (hi.r σ3) sm.few ml me _ fun q2 hq2 => ?_
      obtain rfl := yes hq2
      simp [lk_cons, mX3]
      refine ccheck_g (hi.r σ3) sm.few ml me _ fun q3 hq3 => ?_
      obtain rfl := yes hq3
      have s1 := (RdB.ofGS hev).str
      simp [lk_cons, mX3, ↓s1]
      refine cbytes_c (GS.nil σ3) hi sm iml ime (by simp) _ fun dv σ4 db hdv t4 => ?_
      simp only [List.nil_append] at hdv
      have g4 : Grow σ3 σ4 := ⟨t4.next, fun a ha => t4.keep a ha (by simp)⟩
      have hev4 := hev.grow g4
      have s2 := (RdB.ofGS hev4).str
      have s3 := (RdB.ofGS hdv).str
      have mX4 := (g4.2 X (by have := g3.1; omega)).trans mX3
      simp [lk_cons, mX3, mX4, ↓s1, ↓s2, ↓s3, str_ne]
      have hB := hdsB_len1 few.2
      have hlen := few.1
      refine decode_c (RdB.ofGS hev4) (by simp only [cuB, List.length_append, beN_len]; omega) _ fun gv code hd => ?_
      have hp := pCu_f ⟨ml, me, h⟩ [] (sm.cuf iml ime hok)
      rw [List.append_nil] at hp
      rcases hd with ⟨he, _⟩ | ⟨x, l', he, hne, _, _⟩ | ⟨x, hv2, he, rfl, hi2, _, rfl⟩
      · rw [hp] at he; cases he
      · rw [hp] at he; cases he; exact absurd rfl hne
      · rw [hp] at he
        cases he
        have z4 : ¬ X = σ4.next := by have := g3.1; have := g4.1; omega
        have o1 := hi2.one.1
        have o2 := hi2.one.2
        simp [lk_cons, mX4, storeL, o1, o2, z4]
        refine csame_w (hi2.r _) (hi.r _) sm.six ml me _ ?_
        simp [lk_cons, w1]
        exact fin (g3.trans (g4.trans ⟨by simp, fun a ha => by simp [show ¬ a = σ4.next by omega]⟩))
  · have : i = 2 := by omega
    subst this
    simp [lk_cons]
    refine decode_c (RdB.ofI hb σ2) (by omega) _ fun gv code hd => ?_
    obtain ⟨ml3, me3, v3, hgv, o1, o2⟩ := hd.cv
    subst hgv
    have ob := (RdB.ofI hb σ2).one
    simp [lk_cons, storeL, fillL, o1, o2, ob]
    obtain ⟨Y, hY⟩ : ∃ Y, σ2.next = Y := ⟨_, rfl⟩
    obtain ⟨S, hS⟩ : ∃ S : St, S = ⟨((σ2.mem.set σ2.next (.cells 3 [.int .u64 0, .int .u64 0, .nilsl])).set σ2.next (.cells 3 [u64 ml3, u64 me3, v3])).set (σ2.next + 1) (.cells 2 [bv, .int .i64 0]), σ2.next + 1 + 1⟩ := ⟨_, rfl⟩
    have nS : S.next = Y + 2 := by rw [hS, ← hY]
    have mY : S.mem.get Y = some (.cells 3 [u64 ml3, u64 me3, v3]) := by rw [hS, ← hY]; simp
    have mR : S.mem.get (Y + 1) = some (.cells 2 [bv, .int .i64 0]) := by rw [hS, ← hY]; simp
    rw [← hS]
    simp only [hY]
    have sr : SR S (Y + 1) (.ok l) none := ⟨by omega, by simp, by simp, bv, mR, RdB.ofI hb S, by omega⟩
    refine dtake_c sr _ fun v4 st' σ3 x4 h3 n3 k3 ho3 t3 => ?_
    have p1 := ho3.one.1
    have p2 := ho3.one.2
    have mY3 := (k3 Y (by omega) (by omega)).trans mY
    have z3 : ¬ Y = σ3.next := by omega
    have z4 : ¬ Y + 1 = σ3.next := by omega
    simp [lk_cons, storeL, fillL, p1, p2]
    obtain ⟨S4, hS4⟩ : ∃ S4 : St, S4 = ⟨(σ3.mem.set σ3.next (.cells 3 [.int .u64 0, .int .u64 0, .nilsl])).set σ3.next (.cells 3 [u64 x4.ml, u64 x4.me, v4]), σ3.next + 1⟩ := ⟨_, rfl⟩
    have nS4 : S4.next = σ3.next + 1 := by rw [hS4]
    have kS4 : ∀ a, a < σ3.next → S4.mem.get a = σ3.mem.get a := fun a ha => by rw [hS4]; simp [show ¬ a = σ3.next by omega]
    have mW : S4.mem.get σ3.next = some (.cells 3 [u64 x4.ml, u64 x4.me, v4]) := by rw [hS4]; simp
    have mY4 := (kS4 Y (by omega)).trans mY3
    rw [← hS4]
    refine send_c (h3.keep (by omega) fun a ha _ => kS4 a ha) _ fun σ5 n5 k5 => ?_
    have mY5 := (k5 Y (by omega)).trans mY4
    have mW5 := (k5 σ3.next (by omega)).trans mW
    have ho5 : HOut S.next σ5 v4 x4.h := ho3.frame (by omega) fun a h1 h2 => (k5 a (by omega)).trans (kS4 a h2)
    rcases t3 with ⟨m, rfl, hm⟩ | ⟨e, rfl, he⟩
    · cases m with
      | nil =>
        rcases hd with ⟨h1, h2⟩ | ⟨x, l', h1, h2, h3', h4⟩ | ⟨x, hv5, h1, h2, h3', h4, h5⟩
        · rw [hm] at h1; cases h1
        · rw [hm] at h1; cases h1; exact absurd rfl h2
        · rw [hm] at h1
          cases h1
          cases h2
          subst h5
          simp [lk_cons, sEnd, mY5, mW5]
          refine csame_w (h3'.r σ5) (.inr ⟨_, ho5⟩) (pCu_six hm (by omega)) x4.ml x4.me _ ?_
          simp [lk_cons]
      | cons y m =>
        rcases hd with ⟨h1, h2⟩ | ⟨x, l', h1, h2, h3', h4⟩ | ⟨x, hv5, h1, h2, h3', h4, h5⟩
        · rw [hm] at h1; cases h1
        · cases h3'
          subst h4
          simp [lk_cons, sEnd, mY5, fillL]
          refine same_zero _ ?_
          simp [lk_cons]
        · rw [hm] at h1; cases h1
    · have he0 := pCu_ne0 _ _ he
      have he0' : ¬ (e : Int) = 0 := by omega
      rcases hd with ⟨h1, h2⟩ | ⟨x, l', h1, h2, h3', h4⟩ | ⟨x, hv5, h1, h2, h3', h4, h5⟩
      · rw [he] at h1
        cases h1
        cases h2
        simp [lk_cons, sEnd, he0, he0', mY5, fillL]
        refine same_zero _ ?_
        simp [lk_cons]
      · rw [he] at h1; cases h1
      · rw [he] at h1; cases h1
end Go.Proofs.Ytinfnpbglapjhaa.AM
