/- What the functions of this chapter give: their contracts over the machine. -/
import Derived.Test.YtinfnpbglapjhaaC14
import Derived.Test.YtinfnpbglapjhaaAm3
import Derived.Tactics
import Derived.Tactics2
import Derived.Defers
import Derived.Recover
import Derived.Laws.Pointers
/- What only comes to what was there. -/
namespace Go.Proofs.Ytinfnpbglapjhaa.AM
def Grow (σ σ' : St) : Prop := σ.next ≤ σ'.next ∧ ∀ a, a < σ.next → σ'.mem.get a = σ.mem.get a
theorem Grow.refl (σ : St) : Grow σ σ := ⟨Nat.le_refl _, fun _ _ => rfl⟩
theorem Grow.trans {a b c : St} (h : Grow a b) (k : Grow b c) : Grow a c := ⟨Nat.le_trans h.1 k.1, fun x hx => by rw [k.2 x (by have := h.1; omega), h.2 x hx]⟩
end Go.Proofs.Ytinfnpbglapjhaa.AM

/- Ranges as plain lists. -/
namespace Go.Proofs.Ytinfnpbglapjhaa.AM
set_option linter.unusedVariables false
set_option linter.unusedSimpArgs false
structure S25 where
  f0 : Int
  f1 : Int
deriving DecidableEq
/-- A number that one of the ranges has. -/
def InP (l : List S25) (n : Int) : Prop := ∃ x ∈ l, x.f0 ≤ n ∧ n < x.f1
/-- Ranges in a row, none empty, none that touches the next. -/
def Can : Int → List S25 → Prop
  | _, [] => True
  | b, x :: t => b < x.f0 ∧ x.f0 < x.f1 ∧ Can x.f1 t
theorem in_nil (n : Int) : ¬ InP [] n := by simp [InP]
theorem in_cons (x : S25) (t : List S25) (n : Int) : InP (x :: t) n ↔ (x.f0 ≤ n ∧ n < x.f1) ∨ InP t n := by simp [InP]
theorem in_app (s t : List S25) (n : Int) : InP (s ++ t) n ↔ InP s n ∨ InP t n := by
  simp only [InP, List.mem_append]
  constructor
  · rintro ⟨x, h | h, r⟩
    · exact .inl ⟨x, h, r⟩
    · exact .inr ⟨x, h, r⟩
  · rintro (⟨x, h, r⟩ | ⟨x, h, r⟩)
    · exact ⟨x, .inl h, r⟩
    · exact ⟨x, .inr h, r⟩
theorem can_in : ∀ {l : List S25} {b n : Int}, Can b l → InP l n → b < n
  | [], _, _, _, h => absurd h (in_nil _)
  | x :: t, b, n, hc, h => by
    obtain ⟨h1, h2, h3⟩ := hc
    rcases (in_cons x t n).1 h with h | h
    · omega
    · have := can_in h3 h; omega
theorem can_mem : ∀ {l : List S25} {b : Int}, Can b l → ∀ x ∈ l, b < x.f0 ∧ x.f0 < x.f1
  | [], _, _, _, h => absurd h (List.not_mem_nil)
  | y :: t, b, hc, x, h => by
    obtain ⟨h1, h2, h3⟩ := hc
    rcases List.mem_cons.1 h with rfl | h
    · exact ⟨h1, h2⟩
    · have := can_mem h3 x h; omega
theorem can_snoc : ∀ {m : List S25} {b : Int} {z : S25}, Can b m → (∀ w ∈ m, w.f1 < z.f0) → b < z.f0 → z.f0 < z.f1 → Can b (m ++ [z])
  | [], _, _, _, _, h1, h2 => ⟨h1, h2, trivial⟩
  | x :: t, b, z, hc, hw, h1, h2 => ⟨hc.1, hc.2.1, can_snoc hc.2.2 (fun w h => hw w (List.mem_cons_of_mem _ h)) (hw x List.mem_cons_self) h2⟩
theorem can_snoc_inv : ∀ {m : List S25} {b : Int} {z : S25}, Can b (m ++ [z]) → Can b m ∧ (∀ w ∈ m, w.f1 < z.f0) ∧ b < z.f0 ∧ z.f0 < z.f1
  | [], _, _, h => ⟨trivial, fun _ h => absurd h List.not_mem_nil, h.1, h.2.1⟩
  | x :: t, b, z, h => by
    obtain ⟨h1, h2, h3⟩ := h
    obtain ⟨k1, k2, k3, k4⟩ := can_snoc_inv (m := t) h3
    refine ⟨⟨h1, h2, k1⟩, fun w hw => ?_, by omega, k4⟩
    rcases List.mem_cons.1 hw with rfl | hw
    · exact k3
    · exact k2 w hw

/-- Right ranges of 64-bit numbers. -/
def GoodR (l : List S25) : Prop := Can (-1) l ∧ ∀ n, InP l n → n < 18446744073709551615
theorem good_mem {l : List S25} (h : GoodR l) : ∀ x ∈ l, 0 ≤ x.f0 ∧ x.f0 < x.f1 ∧ x.f1 ≤ 18446744073709551615 := fun x hx => by
  have h1 := can_mem h.1 x hx
  have h2 := h.2 (x.f1 - 1) ⟨x, hx, by omega, by omega⟩
  omega
def inB (l : List S25) (n : Int) : Bool := l.any fun x => decide (x.f0 ≤ n ∧ n < x.f1)
theorem inB_iff (l : List S25) (n : Int) : inB l n = true ↔ InP l n := by
  simp [inB, InP]
def putM (e : Int) : List Int → List Int
  | [] => [e]
  | y :: t => if y < e then y :: putM e t else if y = e then y :: t else e :: y :: t
def Inc : Int → List Int → Prop
  | _, [] => True
  | b, y :: t => b < y ∧ Inc y t
theorem put_spec (e : Int) : ∀ (l : List Int) (b : Int), Inc b l → b < e → Inc b (putM e l) ∧ (∀ y, y ∈ putM e l ↔ y = e ∨ y ∈ l) ∧ (putM e l).length ≤ l.length + 1
  | [], b, _, h => ⟨⟨h, trivial⟩, fun y => by simp [putM], by simp [putM]⟩
  | x :: t, b, hi, h => by
    obtain ⟨h1, h2⟩ := hi
    unfold putM
    by_cases c1 : x < e
    · rw [if_pos c1]
      obtain ⟨r1, r2, r3⟩ := put_spec e t x h2 c1
      refine ⟨⟨h1, r1⟩, fun y => ?_, by simp only [List.length_cons]; omega⟩
      rw [List.mem_cons, r2, List.mem_cons]
      constructor
      · rintro (h | h | h)
        · exact .inr (.inl h)
        · exact .inl h
        · exact .inr (.inr h)
      · rintro (h | h | h)
        · exact .inr (.inl h)
        · exact .inl h
        · exact .inr (.inr h)
    · rw [if_neg c1]
      by_cases c2 : x = e
      · rw [if_pos c2]
        subst c2
        exact ⟨⟨h1, h2⟩, fun y => by simp, by simp⟩
      · rw [if_neg c2]
        exact ⟨⟨h, by omega, h2⟩, fun y => by simp, by simp⟩
def endsM : List S25 → List Int → List Int
  | [], acc => acc
  | x :: t, acc => endsM t (putM x.f1 (putM x.f0 acc))
theorem ends_spec : ∀ (l : List S25) (acc : List Int), (∀ x ∈ l, 0 ≤ x.f0 ∧ 0 ≤ x.f1) → Inc (-1) acc → Inc (-1) (endsM l acc) ∧ (∀ y, y ∈ endsM l acc ↔ y ∈ acc ∨ ∃ x ∈ l, y = x.f0 ∨ y = x.f1) ∧ (endsM l acc).length ≤ acc.length + 2 * l.length
  | [], acc, _, h => ⟨h, fun y => by simp [endsM], by simp [endsM]⟩
  | x :: t, acc, hp, h => by
    have hx := hp x List.mem_cons_self
    obtain ⟨a1, a2, a3⟩ := put_spec x.f0 acc (-1) h (by omega)
    obtain ⟨b1, b2, b3⟩ := put_spec x.f1 _ (-1) a1 (by omega)
    obtain ⟨r1, r2, r3⟩ := ends_spec t _ (fun z hz => hp z (List.mem_cons_of_mem _ hz)) b1
    refine ⟨r1, fun y => ?_, by simp only [endsM, List.length_cons]; omega⟩
    show y ∈ endsM t _ ↔ _
    rw [r2, b2, a2]
    simp only [List.mem_cons, exists_eq_or_imp]
    constructor
    · rintro ((h | h | h) | h)
      · exact .inr (.inl (.inr h))
      · exact .inr (.inl (.inl h))
      · exact .inl h
      · exact .inr (.inr h)
    · rintro (h | (h | h) | h)
      · exact .inl (.inr (.inr h))
      · exact .inl (.inr (.inl h))
      · exact .inl (.inl h)
      · exact .inr h
def pushM (acc : List S25) (a c : Int) : List S25 := match acc.getLast? with
  | some z => if z.f1 = a then acc.dropLast ++ [⟨z.f0, c⟩] else acc ++ [⟨a, c⟩]
  | none => [⟨a, c⟩]
theorem push_nil (a c : Int) : pushM [] a c = [⟨a, c⟩] := rfl
theorem push_snoc (m : List S25) (z : S25) (a c : Int) : pushM (m ++ [z]) a c = if z.f1 = a then m ++ [⟨z.f0, c⟩] else (m ++ [z]) ++ [⟨a, c⟩] := by
  unfold pushM
  simp
theorem push_spec (acc : List S25) (a c : Int) (hac : a < c) (h0 : 0 ≤ a) (hc : Can (-1) acc) (hb : ∀ z ∈ acc, z.f1 ≤ a) :
    Can (-1) (pushM acc a c) ∧ (∀ z ∈ pushM acc a c, z.f1 ≤ c) ∧ (∀ n, InP (pushM acc a c) n ↔ InP acc n ∨ (a ≤ n ∧ n < c)) ∧ (pushM acc a c).length ≤ acc.length + 1 := by
  rcases List.eq_nil_or_concat acc with rfl | ⟨m, z, rfl⟩
  · rw [push_nil]
    exact ⟨⟨by show -1 < a; omega, hac, trivial⟩, fun z hz => by rw [List.mem_singleton.1 hz]; exact Int.le_refl _, fun n => by simp [InP], by simp⟩
  · rw [List.concat_eq_append] at *
    rw [push_snoc]
    obtain ⟨k1, k2, k3, k4⟩ := can_snoc_inv hc
    have hz := hb z (by simp)
    have hm : ∀ w ∈ m, w.f1 ≤ a := fun w hw => hb w (by simp [hw])
    by_cases h : z.f1 = a
    · rw [if_pos h]
      refine ⟨can_snoc k1 k2 k3 (by show z.f0 < c; omega), fun w hw => ?_, fun n => ?_, by simp⟩
      · rcases List.mem_append.1 hw with hw | hw
        · have := hm w hw; omega
        · rw [List.mem_singleton.1 hw]; exact Int.le_refl _
      · rw [in_app, in_app, in_cons, in_cons]
        have := in_nil n
        have e : (z.f0 ≤ n ∧ n < c) ↔ (z.f0 ≤ n ∧ n < z.f1) ∨ (a ≤ n ∧ n < c) := by omega
        show InP m n ∨ (z.f0 ≤ n ∧ n < c) ∨ _ ↔ _
        rw [e]
        constructor
        · rintro (h | (h | h) | h)
          · exact .inl (.inl h)
          · exact .inl (.inr (.inl h))
          · exact .inr h
          · exact absurd h this
        · rintro ((h | h | h) | h)
          · exact .inl h
          · exact .inr (.inl (.inl h))
          · exact absurd h this
          · exact .inr (.inl (.inr h))
    · rw [if_neg h]
      refine ⟨can_snoc hc (fun w hw => ?_) (by show -1 < a; omega) hac, fun w hw => ?_, fun n => ?_, by simp⟩
      · show w.f1 < a
        rcases List.mem_append.1 hw with hw | hw
        · have := k2 w hw; omega
        · rw [List.mem_singleton.1 hw]; omega
      · rcases List.mem_append.1 hw with hw | hw
        · have := hb w hw; omega
        · rw [List.mem_singleton.1 hw]; exact Int.le_refl _
      · rw [in_app, in_cons]
        have := in_nil n
        constructor
        · rintro (h | h | h)
          · exact .inl h
          · exact .inr h
          · exact absurd h this
        · rintro (h | h)
          · exact .inl h
          · exact .inr (.inl h)
def keepB (x y : List S25) (a : Int) : Bool := inB x a && !inB y a
def setM (x y : List S25) : List S25 → List Int → List S25
  | acc, a :: c :: t => setM x y (if keepB x y a = true then pushM acc a c else acc) (c :: t)
  | acc, _ => acc
theorem seg_in {x : List S25} {e : List Int} (hx : ∀ z ∈ x, z.f0 ∈ e ∧ z.f1 ∈ e) {a c : Int} (hm : ∀ m ∈ e, m ≤ a ∨ c ≤ m) {n : Int} (h : a ≤ n ∧ n < c) : InP x n ↔ InP x a := by
  constructor
  · rintro ⟨z, hz, h1, h2⟩
    have := hm _ (hx z hz).1
    exact ⟨z, hz, by omega, by omega⟩
  · rintro ⟨z, hz, h1, h2⟩
    have := hm _ (hx z hz).2
    exact ⟨z, hz, by omega, by omega⟩
theorem inc_mem : ∀ {t : List Int} {a : Int}, Inc a t → ∀ m ∈ t, a < m
  | [], _, _, _, h => absurd h List.not_mem_nil
  | y :: t, a, hi, m, h => by
    rcases List.mem_cons.1 h with rfl | h
    · exact hi.1
    · have := inc_mem hi.2 m h
      have := hi.1
      omega
theorem set_spec {x y : List S25} {e : List Int} (hx : ∀ z ∈ x, z.f0 ∈ e ∧ z.f1 ∈ e) (hy : ∀ z ∈ y, z.f0 ∈ e ∧ z.f1 ∈ e) : ∀ (t : List Int) (a : Int) (acc : List S25), Inc a t → 0 ≤ a → (∀ m ∈ e, m ≤ a ∨ m ∈ t) → Can (-1) acc → (∀ z ∈ acc, z.f1 ≤ a) → (∀ n, InP acc n ↔ n < a ∧ InP x n ∧ ¬ InP y n) →
    Can (-1) (setM x y acc (a :: t)) ∧ (∀ n, InP (setM x y acc (a :: t)) n ↔ InP x n ∧ ¬ InP y n) ∧ (setM x y acc (a :: t)).length ≤ acc.length + t.length
  | [], a, acc, _, _, hm, hc, _, hn => by
    refine ⟨hc, fun n => ?_, by simp [setM]⟩
    show InP acc n ↔ _
    rw [hn]
    constructor
    · exact fun h => h.2
    · intro h
      obtain ⟨z, hz, h1, h2⟩ := h.1
      have := hm _ (hx z hz).2
      simp only [List.not_mem_nil, or_false] at this
      exact ⟨by omega, h⟩
  | c :: t, a, acc, hi, h0, hm, hc, hb, hn => by
    obtain ⟨hac, hi'⟩ := hi
    have hm' : ∀ m ∈ e, m ≤ a ∨ c ≤ m := fun m h => by
      rcases hm m h with h | h
      · exact .inl h
      · rcases List.mem_cons.1 h with rfl | h
        · exact .inr (Int.le_refl _)
        · have := inc_mem hi' m h; omega
    have hm2 : ∀ m ∈ e, m ≤ c ∨ m ∈ t := fun m h => by
      rcases hm m h with h | h
      · exact .inl (by omega)
      · rcases List.mem_cons.1 h with rfl | h
        · exact .inl (Int.le_refl _)
        · exact .inr h
    show Can (-1) (setM x y (if keepB x y a = true then pushM acc a c else acc) (c :: t)) ∧ (∀ n, InP (setM x y (if keepB x y a = true then pushM acc a c else acc) (c :: t)) n ↔ _) ∧ (setM x y (if keepB x y a = true then pushM acc a c else acc) (c :: t)).length ≤ _
    have hk : keepB x y a = true ↔ InP x a ∧ ¬ InP y a := by
      unfold keepB
      rw [Bool.and_eq_true, Bool.not_eq_true', inB_iff, ← inB_iff y, Bool.not_eq_true]
    by_cases h : keepB x y a = true
    · rw [if_pos h]
      obtain ⟨p1, p2, p3, p4⟩ := push_spec acc a c hac h0 hc hb
      obtain ⟨r1, r2, r3⟩ := set_spec hx hy t c (pushM acc a c) hi' (by omega) hm2 p1 p2 (fun n => by
        rw [p3, hn]
        constructor
        · rintro (⟨h1, h2⟩ | h1)
          · exact ⟨by omega, h2⟩
          · refine ⟨h1.2, ?_⟩
            rw [seg_in hx hm' h1, seg_in hy hm' h1]
            exact hk.1 h
        · rintro ⟨h1, h2⟩
          by_cases h3 : n < a
          · exact .inl ⟨h3, h2⟩
          · exact .inr ⟨by omega, h1⟩)
      exact ⟨r1, r2, by simp only [List.length_cons]; omega⟩
    · rw [if_neg h]
      obtain ⟨r1, r2, r3⟩ := set_spec hx hy t c acc hi' (by omega) hm2 hc (fun z hz => by have := hb z hz; omega) (fun n => by
        rw [hn]
        constructor
        · rintro ⟨h1, h2⟩
          exact ⟨by omega, h2⟩
        · rintro ⟨h1, h2⟩
          refine ⟨?_, h2⟩
          by_cases h3 : n < a
          · exact h3
          · rw [seg_in hx hm' ⟨by omega, h1⟩, seg_in hy hm' ⟨by omega, h1⟩] at h2
            exact absurd (hk.2 h2) h)
      exact ⟨r1, r2, by simp only [List.length_cons]; omega⟩
end Go.Proofs.Ytinfnpbglapjhaa.AM

/- Slices of ranges in memory. -/
namespace Go.Proofs.Ytinfnpbglapjhaa.AM
set_option maxRecDepth 100000
set_option linter.unusedVariables false
set_option linter.unusedSimpArgs false

theorem frz_sl {lo n o len cap es : Nat} {t : Bool} {m : Mem} {vals : List AVal} (hn : lo ≤ n) (hm : m.get n = some (.cells es vals)) (hl : o + len * es ≤ vals.length) (hu : uptoL lo vals = true) : frz lo m (.sl n o len cap t) = some (.isl ((vals.drop o).take (len * es)) len (t && decide (cap = len))) := by
  simp only [frz, frz1]
  rw [if_neg (by omega), hm]
  simp only
  rw [if_pos ⟨hl, hu⟩]
theorem uptoL_app (lo : Nat) : ∀ a b : List AVal, uptoL lo (a ++ b) = (uptoL lo a && uptoL lo b)
  | [], b => by simp [uptoL]
  | x :: a, b => by simp [uptoL, uptoL_app lo a b, Bool.and_assoc]
abbrev i64 (n : Int) : AVal := .int .i64 n
abbrev u64 (n : Int) : AVal := .int .u64 n
def rc : List S25 → List AVal
  | [] => []
  | x :: t => u64 x.f0 :: u64 x.f1 :: rc t
theorem rc_len : ∀ l : List S25, (rc l).length = l.length * 2
  | [] => rfl
  | x :: t => by simp [rc, rc_len t]; omega
theorem rc_drop : ∀ (l : List S25) (i : Nat), (rc l).drop (i * 2) = rc (l.drop i)
  | [], i => by simp [rc]
  | x :: t, 0 => by simp [rc]
  | x :: t, i + 1 => by rw [show (i + 1) * 2 = i * 2 + 1 + 1 by omega]; simp [rc, rc_drop t i]
theorem rc_app : ∀ (l m : List S25), rc (l ++ m) = rc l ++ rc m
  | [], m => rfl
  | x :: t, m => by simp [rc, rc_app t m]
theorem rc_upto (lo : Nat) : ∀ l : List S25, uptoL lo (rc l) = true
  | [] => rfl
  | x :: t => by simp [rc, rc_upto lo t]
theorem rc_get {l : List S25} {i : Nat} {x : S25} (h : l[i]? = some x) : ((rc l).drop (i * 2)).take 2 = [u64 x.f0, u64 x.f1] := by
  have hi := (List.getElem?_eq_some_iff.1 h).1
  rw [rc_drop, List.drop_eq_getElem_cons hi, (List.getElem?_eq_some_iff.1 h).2]
  simp [rc]

/-- A slice of ranges that does not change. -/
def RgI (v : AVal) (l : List S25) : Prop := v = .nilsl ∧ l = [] ∨ ∃ t, v = .isl (rc l) l.length t
/-- .. or one in memory. -/
def RgM (σ : St) (v : AVal) (l : List S25) : Prop := RgI v l ∨ ∃ a o c t vals, v = .sl a o l.length c t ∧ l.length ≤ c ∧ a < σ.next ∧ σ.mem.get a = some (.cells 2 vals) ∧ o + l.length * 2 ≤ vals.length ∧ (vals.drop o).take (l.length * 2) = rc l
theorem RgI.m {v : AVal} {l : List S25} (h : RgI v l) (σ : St) : RgM σ v l := .inl h
theorem RgM.len {σ : St} {v : AVal} {l : List S25} (h : RgM σ v l) (ρ : St) : evalV ρ (.len 1 v) = some (i64 l.length, ρ) := by
  rcases h with (⟨rfl, rfl⟩ | ⟨t, rfl⟩) | ⟨a, o, c, t, vals, rfl, _⟩ <;> simp
theorem RgM.frame {σ σ' : St} {v : AVal} {l : List S25} (h : RgM σ v l) (hn : σ.next ≤ σ'.next) (hm : ∀ a, a < σ.next → σ'.mem.get a = σ.mem.get a) : RgM σ' v l := by
  rcases h with h | ⟨a, o, c, t, vals, h1, h2, h3, h4, h5⟩
  · exact .inl h
  · exact .inr ⟨a, o, c, t, vals, h1, h2, by omega, (hm a h3).trans h4, h5⟩
theorem RgM.src {σ : St} {v : AVal} {l : List S25} (h : RgM σ v l) {ρ : St} (hm : ∀ a, a < σ.next → ρ.mem.get a = σ.mem.get a) : srcL ρ 2 v = some (rc l, l.length) := by
  rcases h with (⟨rfl, rfl⟩ | ⟨t, rfl⟩) | ⟨a, o, c, t, vals, rfl, h2, h3, h4, h5, h6⟩
  · rfl
  · simp [srcL, rc_len]
  · simp [srcL, hm a h3, h4, h5, h6]
/-- What stands at a place of a slice in memory. -/
theorem sl_get {vals : List AVal} {o : Nat} {l : List S25} {i : Nat} {x : S25} (h5 : o + l.length * 2 ≤ vals.length) (h6 : (vals.drop o).take (l.length * 2) = rc l) (h : l[i]? = some x) :
    vals[o + i * 2]? = some (u64 x.f0) ∧ vals[o + i * 2 + 1]? = some (u64 x.f1) ∧ o + i * 2 + 2 ≤ vals.length ∧ (vals.drop (o + i * 2)).take 2 = [u64 x.f0, u64 x.f1] := by
  have hi := (List.getElem?_eq_some_iff.1 h).1
  have hg := rc_get h
  have hd : (vals.drop (o + i * 2)).take 2 = [u64 x.f0, u64 x.f1] := by
    rw [← hg, ← h6, List.drop_take, List.drop_drop, List.take_take]
    congr 1; omega
  have e0 : vals[o + i * 2]? = ((vals.drop (o + i * 2)).take 2)[0]? := by simp
  have e1 : vals[o + i * 2 + 1]? = ((vals.drop (o + i * 2)).take 2)[1]? := by simp
  exact ⟨by rw [e0, hd]; rfl, by rw [e1, hd]; rfl, by omega, hd⟩
end Go.Proofs.Ytinfnpbglapjhaa.AM

/- Slices of ranges: Clone, Grow, Concat, Add. -/
namespace Go.Proofs.Ytinfnpbglapjhaa.AM
set_option maxRecDepth 100000
set_option linter.unusedVariables false
set_option linter.unusedSimpArgs false

theorem frz_rc {lo : Nat} {m : Mem} {b : Nat} {l : List S25} {c : Nat} {t : Bool} {rest : List AVal} (hb : lo ≤ b) (hm : m.get b = some (.cells 2 (rc l ++ rest))) (hr : uptoL lo rest = true) : ∃ v', frz lo m (.sl b 0 l.length c t) = some v' ∧ RgI v' l := by
  have h := frz_sl (o := 0) (len := l.length) (cap := c) (t := t) hb hm (by rw [List.length_append, rc_len]; omega) (by rw [uptoL_app, rc_upto, hr]; rfl)
  rw [List.drop_zero, List.take_append_of_le_length (by rw [rc_len]; omega), List.take_of_length_le (by rw [rc_len]; omega)] at h
  exact ⟨_, h, .inr ⟨_, rfl⟩⟩

end Go.Proofs.Ytinfnpbglapjhaa.AM

/- Ranges: Add. -/
namespace Go.Proofs.Ytinfnpbglapjhaa.AM
set_option maxRecDepth 100000
set_option linter.unusedVariables false
set_option linter.unusedSimpArgs false

end Go.Proofs.Ytinfnpbglapjhaa.AM

/- Ranges: Remove, Same, In, Has, Check. -/
namespace Go.Proofs.Ytinfnpbglapjhaa.AM
set_option maxRecDepth 100000
set_option linter.unusedVariables false
set_option linter.unusedSimpArgs false

/-- What is made up: nil, or a block that was not there. -/
def Out (lo : Nat) (σ' : St) (v : AVal) (l : List S25) : Prop := v = .nilsl ∧ l = [] ∨ ∃ o, v = .sl o 0 l.length l.length false ∧ 0 < l.length ∧ lo ≤ o ∧ o < σ'.next ∧ σ'.mem.get o = some (.cells 2 (rc l))
theorem Out.frz {lo lo' : Nat} {σ' : St} {v : AVal} {l : List S25} (h : Out lo σ' v l) (hl : lo' ≤ lo) : ∃ v', frz lo' σ'.mem v = some v' ∧ RgI v' l := by
  rcases h with ⟨rfl, rfl⟩ | ⟨o, rfl, h0, h1, h2, h3⟩
  · exact ⟨.nilsl, rfl, .inl ⟨rfl, rfl⟩⟩
  · exact frz_rc (rest := []) (Nat.le_trans hl h1) (by simpa using h3) rfl

/-- A range of a slice, read. -/
theorem RgM.at {σ : St} {v : AVal} {l : List S25} (hv : RgM σ v l) {i : Nat} {x : S25} (hx : l[i]? = some x) {ρ : St} (hm : ∀ a, a < σ.next → ρ.mem.get a = σ.mem.get a) :
    ∃ p, evalV ρ (.idxAddr 2 v (i64 i)) = some (p, ρ) ∧ evalV ρ (.ldn 2 p) = some (.agg [u64 x.f0, u64 x.f1], ρ) ∧ (∃ q, evalV ρ (.fieldAddr 0 p) = some (q, ρ) ∧ evalV ρ (.ld1 q) = some (u64 x.f0, ρ)) ∧ ∃ q, evalV ρ (.fieldAddr 1 p) = some (q, ρ) ∧ evalV ρ (.ld1 q) = some (u64 x.f1, ρ) := by
  have hi := (List.getElem?_eq_some_iff.1 hx).1
  rcases hv with (⟨rfl, rfl⟩ | ⟨t, rfl⟩) | ⟨a, o, c, t, vals, rfl, c2, c3, c4, c5, c6⟩
  · simp at hx
  · have e1 := rc_get hx
    exact ⟨.iptr [u64 x.f0, u64 x.f1], by simp [hi, e1], by simp, ⟨.iptr [u64 x.f0, u64 x.f1], by simp, by simp⟩, ⟨.iptr [u64 x.f1], by simp, by simp⟩⟩
  · obtain ⟨e1, e2, e3, e4⟩ := sl_get c5 c6 hx
    have ga := (hm a c3).trans c4
    exact ⟨.ptr a (o + i * 2), by simp [hi], by simp [ga, e3, e4], ⟨.ptr a (o + i * 2), by simp, by simp [ga, e1]⟩, ⟨.ptr a (o + i * 2 + 1), by simp, by simp [ga, e2]⟩⟩

end Go.Proofs.Ytinfnpbglapjhaa.AM

/- The document's ranges: Same, In, put. -/
namespace Go.Proofs.Ytinfnpbglapjhaa.AM
set_option maxRecDepth 100000
set_option linter.unusedVariables false
set_option linter.unusedSimpArgs false

def SamJ (v w : AVal) (l m : List S25) (σ0 : St) (mm : Nat) (rg : Regs) (σ' : St) : Prop := ∃ i : Nat, mm = l.length - i ∧ i ≤ l.length ∧ l.take i = m.take i ∧ σ' = σ0 ∧ rg = [(0, v), (1, w), (5, i64 i)]
def InJ (v : AVal) (n : Int) (l : List S25) (σ0 : St) (mm : Nat) (rg : Regs) (σ' : St) : Prop := ∃ i : Nat, mm = l.length - i ∧ i ≤ l.length ∧ inB (l.take i) n = false ∧ σ' = σ0 ∧ rg = [(0, v), (1, u64 n), (5, i64 i)]
theorem rin_c {σ : St} {v : AVal} {l : List S25} (hv : RgM σ v l) (n : Int) (hl : l.length ≤ 100000) (Q : AVal → St → Prop) (h : Q (.bool (inB l n)) σ) : ACall Try.prog 47 [v, u64 n] σ Q := by
  refine ACall.of_compF hmx (fun a w => Try.call47 a w) Try.func47 cf47 (n := 2) (by decide) rfl ?_
  have l1 := hv.len
  simp [ac47, rs47, lk_cons]
  refine wp_loop (InJ v n l σ) l.length ?_ ?_
  · exact ⟨0, rfl, Nat.zero_le _, rfl, rfl, rfl⟩
  · rintro mm rg σ' ⟨i, rfl, hi, hp, rfl, rfl⟩
    by_cases hlt : i < l.length
    · obtain ⟨x, hx⟩ : ∃ x, l[i]? = some x := ⟨_, List.getElem?_eq_getElem hlt⟩
      obtain ⟨k, hk⟩ : ∃ k, i + 1 = k := ⟨_, rfl⟩
      have w1 : IntKind.i64.wrap ((i : Int) + 1) = (k : Int) := by rw [IntWalk.i64_in] <;> omega
      obtain ⟨p, p1, _, ⟨q0, a1, a2⟩, ⟨q1, b1, b2⟩⟩ := hv.at hx (ρ := σ') fun _ _ => rfl
      have hst : inB (l.take k) n = decide (x.f0 ≤ n ∧ n < x.f1) := by
        rw [inB] at hp
        rw [← hk, List.take_add_one, hx, inB, List.any_append, hp]; simp
      by_cases h1 : x.f0 ≤ n
      · by_cases h2 : n < x.f1
        · have : inB l n = true := by rw [inB, List.any_eq_true]; exact ⟨x, List.mem_of_getElem? hx, by simp [h1, h2]⟩
          rw [this] at h
          simp [lk_cons, ↓l1, hlt, ↓p1, ↓a1, ↓a2, ↓b1, ↓b2, h1, h2]
          exact h
        · simp [lk_cons, ↓l1, hlt, ↓p1, ↓a1, ↓a2, ↓b1, ↓b2, h1, h2, w1]
          exact ⟨l.length - k, by omega, k, rfl, by omega, by rw [hst]; simp [h2], rfl, rfl⟩
      · simp [lk_cons, ↓l1, hlt, ↓p1, ↓a1, ↓a2, h1, w1]
        exact ⟨l.length - k, by omega, k, rfl, by omega, by rw [hst]; simp [h1], rfl, rfl⟩
    · have : i = l.length := by omega
      subst this
      rw [List.take_length] at hp
      rw [hp] at h
      simp [lk_cons, ↓l1]
      exact h

/-- Numbers that do not change. -/
def nc (ns : List Int) : List AVal := ns.map u64
def NI (v : AVal) (ns : List Int) : Prop := v = .nilsl ∧ ns = [] ∨ ∃ t, v = .isl (nc ns) ns.length t
theorem nc_len (ns : List Int) : (nc ns).length = ns.length := by simp [nc]
theorem nc_upto (lo : Nat) : ∀ ns : List Int, uptoL lo (nc ns) = true
  | [] => rfl
  | x :: t => by have := nc_upto lo t; simp [nc] at this ⊢; exact this
theorem NI.len {v : AVal} {ns : List Int} (h : NI v ns) (ρ : St) : evalV ρ (.len 1 v) = some (i64 ns.length, ρ) := by
  rcases h with ⟨rfl, rfl⟩ | ⟨t, rfl⟩ <;> simp
theorem NI.at {v : AVal} {ns : List Int} (h : NI v ns) {i : Nat} {y : Int} (hy : ns[i]? = some y) (ρ : St) : ∃ p, evalV ρ (.idxAddr 1 v (i64 i)) = some (p, ρ) ∧ evalV ρ (.ld1 p) = some (u64 y, ρ) := by
  have hi := (List.getElem?_eq_some_iff.1 hy).1
  rcases h with ⟨rfl, rfl⟩ | ⟨t, rfl⟩
  · simp at hy
  · have : ((nc ns).drop i).take 1 = [u64 y] := by
      rw [nc, ← List.map_drop, List.drop_eq_getElem_cons hi, (List.getElem?_eq_some_iff.1 hy).2]; rfl
    exact ⟨.iptr [u64 y], by simp [hi, this], by simp⟩

theorem putM_split (e : Int) : ∀ (l : List Int) (i : Nat), i ≤ l.length → (∀ y ∈ l.take i, y < e) → (∀ y, l[i]? = some y → ¬ y < e) → putM e l = l.take i ++ putM e (l.drop i)
  | l, 0, _, _, _ => by simp
  | [], i + 1, h, _, _ => by simp at h
  | y :: t, i + 1, h, h1, h2 => by
    have hy : y < e := h1 y (by simp)
    conv => lhs; unfold putM
    rw [if_pos hy, putM_split e t i (by simpa using h) (fun z hz => h1 z (by simp [hz])) (fun z hz => h2 z (by simpa using hz))]
    simp

def PutJ (v : AVal) (e : Int) (l : List Int) (σ0 : St) (mm : Nat) (rg : Regs) (σ' : St) : Prop := ∃ i : Nat, mm = l.length - i ∧ i ≤ l.length ∧ (∀ y ∈ l.take i, y < e) ∧ σ' = σ0 ∧ rg = [(0, v), (1, u64 e), (5, i64 i)]
theorem frz_nc {lo lo' : Nat} {m : Mem} {b : Nat} {l : List Int} {c : Nat} {t : Bool} (hb : lo ≤ b) (hm : m.get b = some (.cells 1 (nc l))) : ∃ v', frz lo m (.sl b 0 l.length c t) = some v' ∧ NI v' l := by
  have h := frz_sl (o := 0) (len := l.length) (cap := c) (t := t) hb hm (by rw [nc_len]; omega) (nc_upto _ l)
  rw [List.drop_zero, List.take_of_length_le (by rw [nc_len]; omega)] at h
  exact ⟨_, h, .inr ⟨_, rfl⟩⟩
theorem put_c (σ : St) {v : AVal} {l : List Int} (hv : NI v l) (e : Int) (hl : l.length ≤ 100000) (Q : AVal → St → Prop) (h : ∀ v', NI v' (putM e l) → Q v' σ) : ACall Try.prog 84 [v, u64 e] σ Q := by
  refine ACall.freeze ?_
  refine ACall.of_compF hmx (fun a w => Try.call84 a w) Try.func84 cf84 (n := 2) (by decide) rfl ?_
  have l1 := hv.len
  simp [ac84, rs84, lk_cons]
  refine wp_loop (PutJ v e l σ) l.length ?_ ?_
  · exact ⟨0, rfl, Nat.zero_le _, by simp, rfl, rfl⟩
  · rintro mm rg σ' ⟨i, rfl, hi, hp, rfl, rfl⟩
    by_cases hlt : i < l.length
    · obtain ⟨y, hy⟩ : ∃ y, l[i]? = some y := ⟨_, List.getElem?_eq_getElem hlt⟩
      have hye : l[i] = y := (List.getElem?_eq_some_iff.1 hy).2
      obtain ⟨k, hk⟩ : ∃ k, i + 1 = k := ⟨_, rfl⟩
      have w1 : IntKind.i64.wrap ((i : Int) + 1) = (k : Int) := by rw [IntWalk.i64_in] <;> omega
      obtain ⟨p, p1, p2⟩ := hv.at hy σ'
      by_cases h1 : y < e
      · simp [lk_cons, ↓l1, hlt, ↓p1, ↓p2, h1, w1]
        refine ⟨l.length - k, by omega, k, rfl, by omega, fun z hz => ?_, rfl, rfl⟩
        rw [← hk, List.take_add_one, hy] at hz
        rcases List.mem_append.1 hz with hz | hz
        · exact hp z hz
        · simp at hz; subst hz; exact h1
      · have hsp := putM_split e l i hi hp fun z hz => by rw [hy] at hz; cases hz; exact h1
        have hdr : l.drop i = y :: l.drop k := by rw [List.drop_eq_getElem_cons hlt, hye, hk]
        by_cases h2 : y = e
        · have : putM e l = l := by
            rw [hsp, hdr]; conv => lhs; unfold putM
            rw [if_neg h1, if_pos h2, ← hdr, List.take_append_drop]
          rw [this] at h
          simp [lk_cons, ↓l1, hlt, ↓p1, ↓p2, h1, h2]
          refine ⟨fun a ha => rfl, ?_⟩
          rcases hv with ⟨rfl, _⟩ | ⟨t, rfl⟩
          · exact ⟨_, rfl, h _ (.inl ⟨rfl, by assumption⟩)⟩
          · exact ⟨_, by simp only [frz, frz1]; simp [nc_upto], h _ (.inr ⟨t, rfl⟩)⟩
        · have hpm : putM e l = l.take i ++ e :: l.drop i := by
            rw [hsp, hdr]; conv => lhs; unfold putM
            rw [if_neg h1, if_neg h2]
          rw [hpm] at h
          rcases hv with ⟨rfl, rfl⟩ | ⟨t, rfl⟩
          · simp at hy
          have hc1 : ¬ l.length - i = 0 := by omega
          have fin : ∀ (nb : Nat) (σ'' : St) (kk : Nat), Old σ' σ'' → σ'.next ≤ nb → σ''.mem.get nb = some (.cells 1 (nc (l.take i ++ e :: l.drop i))) → kk = (l.take i ++ e :: l.drop i).length → Old σ' σ'' ∧ ∃ v', frz σ'.next σ''.mem (.sl nb 0 kk kk false) = some v' ∧ Q v' σ' := by
            intro nb σ'' kk a1 a2 a3 a5
            subst a5
            obtain ⟨v', f1, f2⟩ := frz_nc (lo' := 0) (c := (l.take i ++ e :: l.drop i).length) (t := false) a2 a3
            exact ⟨a1, v', f1, h v' f2⟩
          have hi8 : i * 8 ≤ 140737488355328 ∧ i ≤ 9223372036854775807 := by omega
          have hc8 : (i + 1) * 8 ≤ 140737488355328 ∧ i + 1 ≤ 9223372036854775807 := by omega
          have hd8 : (i + 1 + (l.length - i)) * 8 ≤ 140737488355328 ∧ i + 1 + (l.length - i) ≤ 9223372036854775807 := by omega
          simp [lk_cons, ↓l1, hlt, ↓p1, ↓p2, h1, h2, optM, asliceSl, bnd, hi, fillL, repL, srcL, storeL, nc_len, hc1]
          by_cases hi0 : i = 0
          · have hc9 : ¬ 1 + l.length ≤ 1 := by omega
            have hd9 : (1 + l.length) * 8 ≤ 140737488355328 ∧ 1 + l.length ≤ 9223372036854775807 := by omega
            have E1 : AVal.int .u64 e :: List.take l.length (nc l) = nc (l.take i ++ e :: l.drop i) := by
              rw [List.take_of_length_le (show (nc l).length ≤ l.length by rw [nc_len]; omega), hi0]; simp [nc]
            simp [lk_cons, hi0, fillL, repL, srcL, storeL, optM, asliceSl, bnd, nc_len, hc9, hd9]
            refine fin (σ'.next + 1 + 1 + 1) _ _ (fun a ha => by simp [show ¬ a = σ'.next by omega, show ¬ a = σ'.next + 1 by omega, show ¬ a = σ'.next + 1 + 1 by omega, show ¬ a = σ'.next + 1 + 1 + 1 by omega, show ¬ a = σ'.next + 1 + 1 + 1 + 1 by omega]) (by omega) (by rw [← E1]; simp) (by simp; omega)
          · have k1 : ¬ i + 1 ≤ i := by omega
            have k2 : ¬ i + 1 + (l.length - i) ≤ i + 1 := by omega
            have k3 : (nc l).length = l.length := nc_len l
            have k4 : min i l.length = i := by omega
            have k5 : ((nc l).take i).length = i := by rw [List.length_take, k3, k4]
            have E2 : List.take (i + 1) (List.take i (List.take i (nc l)) ++ [AVal.int .u64 e]) ++ List.take (l.length - i) (List.drop i (nc l)) = nc (l.take i ++ e :: l.drop i) := by
              rw [List.take_take, Nat.min_self, List.take_of_length_le (show ((nc l).take i ++ [AVal.int .u64 e]).length ≤ i + 1 by simp [k3, k4]), List.take_of_length_le (show ((nc l).drop i).length ≤ l.length - i by simp [k3])]
              simp [nc]
            simp [lk_cons, hi0, hi8, hc8, hd8, fillL, repL, srcL, storeL, optM, asliceSl, bnd, nc_len, hi, k1, k2, k4, hc1]
            refine fin (σ'.next + 1 + 1 + 1 + 1) _ _ (fun a ha => by simp [show ¬ a = σ'.next by omega, show ¬ a = σ'.next + 1 by omega, show ¬ a = σ'.next + 1 + 1 by omega, show ¬ a = σ'.next + 1 + 1 + 1 by omega, show ¬ a = σ'.next + 1 + 1 + 1 + 1 by omega]) (by omega) (by rw [← E2]; simp) (by simp; omega)
    · have hiN : i = l.length := by omega
      subst hiN
      have hpm : putM e l = l ++ [e] := by
        have := putM_split e l l.length (Nat.le_refl _) hp (fun y hy => by simp at hy)
        rw [this]; simp [putM]
      rw [hpm] at h
      have fin : ∀ (nb : Nat) (σ'' : St) (kk cc : Nat) (t : Bool), Old σ' σ'' → σ'.next ≤ nb → σ''.mem.get nb = some (.cells 1 (nc (l ++ [e]))) → kk = (l ++ [e]).length → Old σ' σ'' ∧ ∃ v', frz σ'.next σ''.mem (.sl nb 0 kk cc t) = some v' ∧ Q v' σ' := by
        intro nb σ'' kk cc t a1 a2 a3 a5
        subst a5
        obtain ⟨v', f1, f2⟩ := frz_nc (lo' := 0) (c := cc) (t := t) a2 a3
        exact ⟨a1, v', f1, h v' f2⟩
      have hi8 : l.length * 8 ≤ 140737488355328 ∧ l.length ≤ 9223372036854775807 := by omega
      have hc8 : (l.length + 1) * 8 ≤ 140737488355328 ∧ l.length + 1 ≤ 9223372036854775807 := by omega
      have k3 : (nc l).length = l.length := nc_len l
      have k1 : ¬ l.length + 1 ≤ l.length := by omega
      rcases hv with ⟨rfl, rfl⟩ | ⟨t, rfl⟩
      · simp [lk_cons, optM, asliceSl, bnd, fillL, repL, srcL, storeL, nc_len]
        exact fin (σ'.next + 1 + 1) _ 1 1 false (fun a ha => by simp [show ¬ a = σ'.next by omega, show ¬ a = σ'.next + 1 by omega, show ¬ a = σ'.next + 1 + 1 by omega]) (by omega) (by simp [nc]) (by simp)
      · by_cases hi0 : l.length = 0
        · have hl0 := List.length_eq_zero_iff.1 hi0
          subst hl0
          simp [lk_cons, optM, asliceSl, bnd, fillL, repL, srcL, storeL, nc_len, nc]
          exact fin (σ'.next + 1 + 1) _ 1 1 false (fun a ha => by simp [show ¬ a = σ'.next by omega, show ¬ a = σ'.next + 1 by omega, show ¬ a = σ'.next + 1 + 1 by omega]) (by omega) (by simp [nc]) (by simp)
        · have E3 : List.take l.length (List.take l.length (nc l)) ++ [AVal.int .u64 e] = nc (l ++ [e]) := by
            rw [List.take_take, Nat.min_self, List.take_of_length_le (show (nc l).length ≤ l.length by rw [nc_len]; omega)]; simp [nc]
          simp [lk_cons, optM, asliceSl, bnd, fillL, repL, srcL, storeL, k3, hi0, hi8, hc8, k1]
          exact fin (σ'.next + 1 + 1 + 1) _ _ _ false (fun a ha => by simp [show ¬ a = σ'.next by omega, show ¬ a = σ'.next + 1 by omega, show ¬ a = σ'.next + 1 + 1 by omega, show ¬ a = σ'.next + 1 + 1 + 1 by omega]) (by omega) (by rw [← E3]; simp) (by simp)
end Go.Proofs.Ytinfnpbglapjhaa.AM

/- The document's ranges: ends, Set. -/
namespace Go.Proofs.Ytinfnpbglapjhaa.AM
set_option maxRecDepth 100000
set_option linter.unusedVariables false
set_option linter.unusedSimpArgs false

theorem putM_len (e : Int) : ∀ l : List Int, (putM e l).length ≤ l.length + 1
  | [] => by simp [putM]
  | y :: t => by
    have := putM_len e t
    unfold putM
    split
    · simp; omega
    · split <;> simp
def EndJ (v : AVal) (l : List S25) (σ0 : St) (mm : Nat) (rg : Regs) (σ' : St) : Prop := ∃ (i : Nat) (ov : AVal) (acc : List Int), mm = l.length - i ∧ i ≤ l.length ∧ NI ov acc ∧ endsM l [] = endsM (l.drop i) acc ∧ acc.length ≤ 2 * i ∧ σ' = σ0 ∧ rg = [(0, v), (3, ov), (4, i64 i)]
theorem ends_c {σ : St} {v : AVal} {l : List S25} (hv : RgM σ v l) (hl : l.length ≤ 10000) (Q : AVal → St → Prop) (h : ∀ v', NI v' (endsM l []) → Q v' σ) : ACall Try.prog 66 [v] σ Q := by
  refine ACall.of_compF hmx (fun a w => Try.call66 a w) Try.func66 cf66 (n := 1) (by decide) rfl ?_
  have l1 := hv.len
  simp [ac66, rs66, lk_cons]
  refine wp_loop (EndJ v l σ) l.length ?_ ?_
  · exact ⟨0, .nilsl, [], rfl, Nat.zero_le _, .inl ⟨rfl, rfl⟩, rfl, Nat.zero_le _, rfl, rfl⟩
  · rintro mm rg σ' ⟨i, ov, acc, rfl, hi, ho, he, hal, rfl, rfl⟩
    by_cases hlt : i < l.length
    · obtain ⟨x, hx⟩ : ∃ x, l[i]? = some x := ⟨_, List.getElem?_eq_getElem hlt⟩
      have hdr : l.drop i = x :: l.drop (i + 1) := by rw [List.drop_eq_getElem_cons hlt, (List.getElem?_eq_some_iff.1 hx).2]
      obtain ⟨k, hk⟩ : ∃ k, i + 1 = k := ⟨_, rfl⟩
      have w1 : IntKind.i64.wrap ((i : Int) + 1) = (k : Int) := by rw [IntWalk.i64_in] <;> omega
      obtain ⟨p, p1, _, ⟨q0, a1, a2⟩, ⟨q1, b1, b2⟩⟩ := hv.at hx (ρ := σ') fun _ _ => rfl
      have g1 := putM_len x.f0 acc
      simp [lk_cons, ↓l1, hlt, ↓p1, ↓a1, ↓a2, ↓b1, ↓b2]
      refine put_c σ' ho x.f0 (by omega) _ fun v1 hv1 => ?_
      simp [lk_cons, ↓p1, ↓b1, ↓b2]
      refine put_c σ' hv1 x.f1 (by omega) _ fun v2 hv2 => ?_
      have g2 := putM_len x.f1 (putM x.f0 acc)
      simp [lk_cons, w1]
      exact ⟨l.length - k, by omega, k, v2, _, rfl, by omega, hv2, by rw [he, hdr, hk]; rfl, by omega, rfl, rfl⟩
    · have hiN : i = l.length := by omega
      subst hiN
      rw [List.drop_length] at he
      simp [lk_cons, ↓l1]
      exact h _ (he ▸ ho)

/-- The document's right ranges. -/
def rset (x y : List S25) : List S25 := setM x y [] (endsM (x ++ y) [])
theorem rset_spec {x y : List S25} (hx : ∀ z ∈ x, 0 ≤ z.f0 ∧ 0 ≤ z.f1 ∧ z.f1 ≤ 18446744073709551615) (hy : ∀ z ∈ y, 0 ≤ z.f0 ∧ 0 ≤ z.f1) : GoodR (rset x y) ∧ (∀ n, InP (rset x y) n ↔ InP x n ∧ ¬ InP y n) ∧ (rset x y).length ≤ 2 * (x.length + y.length) ∧ (endsM (x ++ y) []).length ≤ 2 * (x.length + y.length) := by
  have hp : ∀ z ∈ x ++ y, 0 ≤ z.f0 ∧ 0 ≤ z.f1 := fun z hz => by
    rcases List.mem_append.1 hz with h | h
    · exact ⟨(hx z h).1, (hx z h).2.1⟩
    · exact hy z h
  obtain ⟨e1, e2, e3⟩ := ends_spec (x ++ y) [] hp trivial
  simp only [List.length_append, List.length_nil] at e3
  have mx : ∀ z ∈ x, z.f0 ∈ endsM (x ++ y) [] ∧ z.f1 ∈ endsM (x ++ y) [] := fun z hz => ⟨(e2 _).2 (.inr ⟨z, List.mem_append.2 (.inl hz), .inl rfl⟩), (e2 _).2 (.inr ⟨z, List.mem_append.2 (.inl hz), .inr rfl⟩)⟩
  have my : ∀ z ∈ y, z.f0 ∈ endsM (x ++ y) [] ∧ z.f1 ∈ endsM (x ++ y) [] := fun z hz => ⟨(e2 _).2 (.inr ⟨z, List.mem_append.2 (.inr hz), .inl rfl⟩), (e2 _).2 (.inr ⟨z, List.mem_append.2 (.inr hz), .inr rfl⟩)⟩
  have key : Can (-1) (setM x y [] (endsM (x ++ y) [])) ∧ (∀ n, InP (setM x y [] (endsM (x ++ y) [])) n ↔ InP x n ∧ ¬ InP y n) ∧ (setM x y [] (endsM (x ++ y) [])).length ≤ 2 * (x.length + y.length) := by
    cases he : endsM (x ++ y) [] with
    | nil =>
      rw [he] at mx
      have hx0 : x = [] := by
        cases x with
        | nil => rfl
        | cons z t => exact absurd (mx z List.mem_cons_self).1 List.not_mem_nil
      subst hx0
      exact ⟨trivial, fun n => by simp [setM, InP], by simp [setM]⟩
    | cons a t =>
      rw [he] at mx my e1 e3
      obtain ⟨r1, r2, r3⟩ := set_spec mx my t a [] e1.2 (by have := e1.1; omega) (fun m hm => by
        rcases List.mem_cons.1 hm with rfl | h
        · exact .inl (Int.le_refl _)
        · exact .inr h) trivial (fun z hz => absurd hz List.not_mem_nil) (fun n => by
        constructor
        · exact fun h => absurd h (in_nil n)
        · rintro ⟨h1, ⟨z, hz, h2, h3⟩, _⟩
          have hm := (mx z hz).1
          rcases List.mem_cons.1 hm with h | h
          · omega
          · have := inc_mem e1.2 _ h; omega)
      refine ⟨r1, r2, ?_⟩
      simp only [List.length_cons, List.length_nil] at e3 r3
      omega
  refine ⟨⟨key.1, fun n hn => ?_⟩, key.2.1, key.2.2, by omega⟩
  obtain ⟨z, hz, h1, h2⟩ := ((key.2.1 n).1 hn).1
  have := hx z hz
  omega

def SetJ (v w ev : AVal) (x y : List S25) (e : List Int) (σ0 : St) (mm : Nat) (rg : Regs) (σ' : St) : Prop := ∃ (i : Nat) (ov : AVal) (acc : List S25), mm = e.length - i ∧ i ≤ e.length ∧ Grow σ0 σ' ∧ Out σ0.next σ' ov acc ∧ acc.length ≤ i ∧ setM x y [] e = setM x y acc (e.drop i) ∧ rg = [(0, v), (1, w), (5, ev), (6, ov), (7, i64 i)]

theorem Out.len {lo : Nat} {σ : St} {v : AVal} {l : List S25} (h : Out lo σ v l) (ρ : St) : evalV ρ (.len 1 v) = some (i64 l.length, ρ) := by
  rcases h with ⟨rfl, rfl⟩ | ⟨o, rfl, _⟩ <;> simp

theorem rc_at {l : List S25} {i : Nat} {x : S25} (h : l[i]? = some x) : (rc l)[i * 2 + 1]? = some (u64 x.f1) := by
  have hg := rc_get h
  have e1 : (rc l)[i * 2 + 1]? = (((rc l).drop (i * 2)).take 2)[1]? := by simp
  rw [e1, hg]; rfl
theorem rc_last (m : List S25) (z : S25) (c : Int) : (rc (m ++ [z])).set (m.length * 2 + 1) (u64 c) = rc (m ++ [⟨z.f0, c⟩]) := by
  rw [rc_app, rc_app, ← rc_len m]
  rw [List.set_append_right _ _ (by omega)]
  congr 1
  simp [rc]
theorem set_step (x y acc : List S25) (a c : Int) (t : List Int) : setM x y acc (a :: c :: t) = setM x y (if keepB x y a = true then pushM acc a c else acc) (c :: t) := rfl

set_option maxHeartbeats 2000000 in
theorem set_c {σ : St} {v w : AVal} {x y : List S25} (hv : RgM σ v x) (hw : RgM σ w y) (hlx : x.length + y.length ≤ 1000) (hx : ∀ z ∈ x, 0 ≤ z.f0 ∧ 0 ≤ z.f1 ∧ z.f1 ≤ 18446744073709551615) (hy : ∀ z ∈ y, 0 ≤ z.f0 ∧ 0 ≤ z.f1) (Q : AVal → St → Prop) (h : ∀ v', RgI v' (rset x y) → Q v' σ) : ACall Try.prog 34 [v, w] σ Q := by
  refine ACall.freeze ?_
  refine ACall.of_compF hmx (fun a w => Try.call34 a w) Try.func34 cf34 (n := 2) (by decide) rfl ?_
  obtain ⟨_, _, _, hel⟩ := rset_spec hx hy
  obtain ⟨e, he⟩ : ∃ e, endsM (x ++ y) [] = e := ⟨_, rfl⟩
  rw [he] at hel
  rw [rset, he] at h
  have main : ∀ (σ1 : St) (ev : AVal), Grow σ σ1 → NI ev e → SetJ v w ev x y e σ e.length [(0, v), (1, w), (5, ev), (6, .nilsl), (7, i64 0)] σ1 := fun σ1 ev hg hev => ⟨0, .nilsl, [], rfl, Nat.zero_le _, hg, .inl ⟨rfl, rfl⟩, Nat.zero_le _, rfl, rfl⟩
  have sx : ∀ ρ : St, (∀ a, a < σ.next → ρ.mem.get a = σ.mem.get a) → srcL ρ 2 v = some (rc x, x.length) := fun ρ hρ => hv.src hρ
  have sy : ∀ ρ : St, (∀ a, a < σ.next → ρ.mem.get a = σ.mem.get a) → srcL ρ 2 w = some (rc y, y.length) := fun ρ hρ => hw.src hρ
  have hb1 : x.length * 16 ≤ 140737488355328 ∧ x.length ≤ 9223372036854775807 := by omega
  have hb2 : y.length * 16 ≤ 140737488355328 ∧ y.length ≤ 9223372036854775807 := by omega
  have hb3 : (x.length + y.length) * 16 ≤ 140737488355328 ∧ x.length + y.length ≤ 9223372036854775807 := by omega
  have s1 := sx ⟨σ.mem.set σ.next (.cells 2 []), σ.next + 1⟩ fun a ha => by simp [show ¬ a = σ.next by omega]
  have u1 : ¬ σ.next + 1 = σ.next + 1 + 1 := by omega
  have g0 : ∀ (b1 b2 : Blk), Grow σ ⟨(σ.mem.set σ.next b1).set σ.next b2, σ.next + 1⟩ := fun b1 b2 => ⟨by simp, fun a ha => by simp [show ¬ a = σ.next by omega]⟩
  have g1 : ∀ (b1 b2 : Blk), Grow σ ⟨(σ.mem.set σ.next b1).set (σ.next + 1) b2, σ.next + 1 + 1⟩ := fun b1 b2 => ⟨by simp; omega, fun a ha => by simp [show ¬ a = σ.next by omega, show ¬ a = σ.next + 1 by omega]⟩
  have hl2 : (x ++ y).length ≤ 10000 := by simp; omega
  rcases Nat.eq_zero_or_pos x.length with hx0 | hx0 <;> rcases Nat.eq_zero_or_pos y.length with hy0 | hy0
  case' inl.inl =>
    have hxn := List.length_eq_zero_iff.1 hx0
    have hyn := List.length_eq_zero_iff.1 hy0
    have s2 := sy ⟨(σ.mem.set σ.next (.cells 2 [])).set σ.next (.cells 2 (storeL [] 0 (rc x))), σ.next + 1⟩ fun a ha => by simp [show ¬ a = σ.next by omega]
    simp [ac34, rs34, lk_cons, fillL, repL, s1, hx0, s2, hy0, hyn]
    refine ends_c (l := x ++ y) (.inr ⟨σ.next, 0, 0, true, [], by rw [hxn, hyn]; rfl, by rw [hxn, hyn]; simp, by simp, by simp [hxn, hyn, rc, storeL], by rw [hxn, hyn]; simp, by rw [hxn, hyn]; simp [rc]⟩) hl2 _ fun ev hev => ?_
    rw [he] at hev
    simp [lk_cons]
    refine wp_loop _ _ (main _ ev ?_ hev) ?_
    focus exact ⟨by simp, fun a ha => by simp [show ¬ a = σ.next by omega]⟩
  case' inl.inr =>
    replace hy0 : ¬ y.length = 0 := by omega
    have hxn := List.length_eq_zero_iff.1 hx0
    have hyn : ¬ y = [] := fun e => hy0 (by rw [e]; rfl)
    have s2 := sy ⟨(σ.mem.set σ.next (.cells 2 [])).set σ.next (.cells 2 (storeL [] 0 (rc x))), σ.next + 1⟩ fun a ha => by simp [show ¬ a = σ.next by omega]
    simp [ac34, rs34, lk_cons, fillL, repL, s1, hx0, s2, hy0, hyn, hb2]
    refine ends_c (l := x ++ y) (.inr ⟨σ.next + 1, 0, y.length, false, rc y, by rw [hxn]; rfl, by rw [hxn]; simp, by simp, by simp, by rw [hxn]; simp [rc_len], by rw [hxn]; simp [List.take_of_length_le (show (rc y).length ≤ y.length * 2 by rw [rc_len]; omega)]⟩) hl2 _ fun ev hev => ?_
    rw [he] at hev
    simp [lk_cons]
    refine wp_loop _ _ (main _ ev ?_ hev) ?_
    focus exact ⟨by simp; omega, fun a ha => by simp [show ¬ a = σ.next by omega, show ¬ a = σ.next + 1 by omega]⟩
  case' inr.inl =>
    replace hx0 : ¬ x.length = 0 := by omega
    have hyn := List.length_eq_zero_iff.1 hy0
    have s2 := sy ⟨(σ.mem.set σ.next (.cells 2 [])).set (σ.next + 1) (.cells 2 (rc x)), σ.next + 1 + 1⟩ fun a ha => by simp [show ¬ a = σ.next by omega, show ¬ a = σ.next + 1 by omega]
    have k1 : x.length * 2 ≤ (rc x).length := by rw [rc_len]; omega
    simp [ac34, rs34, lk_cons, fillL, repL, s1, hx0, s2, hb1, hy0, k1]
    refine ends_c (l := x ++ y) (.inr ⟨σ.next + 1, 0, x.length, false, rc x, by simp [hyn], by simp [hyn], by simp, by simp [hyn, rc, storeL], by rw [hyn]; simp [rc_len], by rw [hyn]; simp [List.take_of_length_le (show (rc x).length ≤ x.length * 2 by rw [rc_len]; omega)]⟩) hl2 _ fun ev hev => ?_
    rw [he] at hev
    simp [lk_cons]
    refine wp_loop _ _ (main _ ev ?_ hev) ?_
    focus exact ⟨by simp; omega, fun a ha => by simp [show ¬ a = σ.next by omega, show ¬ a = σ.next + 1 by omega]⟩
  case' inr.inr =>
    replace hx0 : ¬ x.length = 0 := by omega
    replace hy0 : ¬ y.length = 0 := by omega
    have s2 := sy ⟨(σ.mem.set σ.next (.cells 2 [])).set (σ.next + 1) (.cells 2 (rc x)), σ.next + 1 + 1⟩ fun a ha => by simp [show ¬ a = σ.next by omega, show ¬ a = σ.next + 1 by omega]
    have k1 : x.length * 2 ≤ (rc x).length := by rw [rc_len]; omega
    have k2 : ¬ x.length + y.length ≤ x.length := by omega
    have k3 : ¬ y = [] := fun e => hy0 (by rw [e]; rfl)
    have k4 : (rc x).take (x.length * 2) = rc x := List.take_of_length_le (by rw [rc_len]; omega)
    simp [ac34, rs34, lk_cons, fillL, repL, s1, hx0, s2, hb1, hy0, k1, k2, k3, hb3, k4]
    refine ends_c (l := x ++ y) (.inr ⟨σ.next + 1 + 1, 0, x.length + y.length, false, rc x ++ rc y, by rw [List.length_append], by rw [List.length_append]; exact Nat.le_refl _, by simp, by simp, by rw [List.length_append, List.length_append, rc_len, rc_len]; omega, by rw [rc_app]; simp [List.take_of_length_le (show (rc x ++ rc y).length ≤ (x.length + y.length) * 2 by simp [rc_len]; omega)]⟩) hl2 _ fun ev hev => ?_
    rw [he] at hev
    simp [lk_cons]
    refine wp_loop _ _ (main _ ev ?_ hev) ?_
    focus exact ⟨by simp; omega, fun a ha => by simp [show ¬ a = σ.next by omega, show ¬ a = σ.next + 1 by omega, show ¬ a = σ.next + 1 + 1 by omega]⟩
  all_goals
    clear s2 s1 u1 g0 g1
    rintro mm rg σ' ⟨i, ov, acc, rfl, hi, hg, ho, hal, hse, rfl⟩
    have l1 := hev.len
    have l2 := ho.len
    obtain ⟨k, hk⟩ : ∃ k, i + 1 = k := ⟨_, rfl⟩
    have w1 : IntKind.i64.wrap ((i : Int) + 1) = (k : Int) := by rw [IntWalk.i64_in] <;> omega
    have hvr : RgM σ' v x := hv.frame hg.1 hg.2
    have hwr : RgM σ' w y := hw.frame hg.1 hg.2
    by_cases hlt : k < e.length
    · obtain ⟨a, ha⟩ : ∃ a, e[i]? = some a := ⟨_, List.getElem?_eq_getElem (by omega)⟩
      obtain ⟨c, hc⟩ : ∃ c, e[k]? = some c := ⟨_, List.getElem?_eq_getElem hlt⟩
      obtain ⟨p, p1, p2⟩ := hev.at ha σ'
      obtain ⟨q, q1, q2⟩ := hev.at hc σ'
      have hd1 : e.drop i = a :: e.drop k := by rw [List.drop_eq_getElem_cons (by omega), (List.getElem?_eq_some_iff.1 ha).2, hk]
      have hd2 : e.drop k = c :: e.drop (k + 1) := by rw [List.drop_eq_getElem_cons hlt, (List.getElem?_eq_some_iff.1 hc).2]
      rw [hd1, hd2, set_step, ← hd2] at hse
      have skip : keepB x y a = false → ∃ m', m' < e.length - i ∧ SetJ v w ev x y e σ m' [(0, v), (1, w), (5, ev), (6, ov), (7, i64 k)] σ' := fun hkb => by
        rw [hkb] at hse
        exact ⟨e.length - k, by omega, k, ov, acc, rfl, by omega, hg, ho, by omega, hse, rfl⟩
      simp [lk_cons, ↓l1, w1, hlt, ↓p1, ↓p2]
      refine rin_c hvr a (by omega) _ ?_
      cases hbx : inB x a with
      | false =>
        simp [lk_cons, w1]
        exact skip (by simp [keepB, hbx])
      | true =>
        simp [lk_cons, ↓p1, ↓p2]
        refine rin_c hwr a (by omega) _ ?_
        cases hby : inB y a with
        | true =>
          simp [lk_cons, w1]
          exact skip (by simp [keepB, hby])
        | false =>
          have hkb : keepB x y a = true := by simp [keepB, hbx, hby]
          rw [hkb, if_pos rfl] at hse
          rcases List.eq_nil_or_concat acc with rfl | ⟨m, z, rfl⟩
          · rcases ho with ⟨rfl, _⟩ | ⟨o, rfl, h0, _⟩
            · simp [lk_cons, ↓l1, w1, ↓p1, ↓p2, ↓q1, ↓q2, fillL, repL, srcL, storeL]
              exact ⟨e.length - k, by omega, k, _, [⟨a, c⟩], rfl, by omega, ⟨by have := hg.1; simp; omega, fun b hb => by have := hg.1; simp [show ¬ b = σ'.next by omega, show ¬ b = σ'.next + 1 by omega]; exact hg.2 b hb⟩, .inr ⟨σ'.next + 1, rfl, by simp, by have := hg.1; omega, by simp, by simp [rc]⟩, by simp; omega, by rw [hse, push_nil], rfl⟩
            · simp at h0
          · rw [List.concat_eq_append] at *
            rcases ho with ⟨_, h0⟩ | ⟨o, rfl, h0, h1, h2, h3⟩
            · simp at h0
            · have hzz : (m ++ [z])[m.length]? = some z := by simp
              have hz1 := rc_at hzz
              have hl1 : (m ++ [z]).length = m.length + 1 := by simp
              have w2 : IntKind.i64.wrap (((m ++ [z]).length : Int) - 1) = (m.length : Int) := by rw [IntWalk.i64_in] <;> omega
              have hg1 := hg.1
              have w3 : IntKind.i64.wrap (((m.length + 1 : Nat) : Int) - 1) = (m.length : Int) := by rw [IntWalk.i64_in] <;> omega
              rw [hl1] at l2 hal
              have w4 : (0 : Int) < ((m.length + 1 : Nat) : Int) := by omega
              have hlt3 : (m.length : Int) < ((m.length + 1 : Nat) : Int) := by omega
              have hrl : m.length * 2 + 1 < (rc (m ++ [z])).length := by rw [rc_len, hl1]; omega
              have hl3 : m.length < m.length + 1 := by omega
              have i2 := push_snoc m z a c
              have w5 : IntKind.i64.wrap (m.length : Int) = (m.length : Int) := by rw [IntWalk.i64_in] <;> omega
              obtain ⟨hz2, hz3⟩ := List.getElem?_eq_some_iff.1 hz1
              have w7 : m.length * 2 + 1 + 1 ≤ (rc (m ++ [z])).length := by rw [rc_len, hl1]; omega
              have w6 : (m.length : Int) < (m.length : Int) + 1 := by omega
              by_cases hza : z.f1 = a
              · rw [if_pos hza] at i2
                rw [i2] at hse
                have hlast := rc_last m z c
                simp [lk_cons, ↓l1, ↓l2, w1, w5, w6, ↓p1, ↓p2, ↓q1, ↓q2, fillL, repL, srcL, storeL, h3, hz1, hz3, hza, hl1, hlast, hrl, w7]
                exact ⟨e.length - k, by omega, k, _, m ++ [⟨z.f0, c⟩], rfl, by omega, ⟨hg1, fun b hb => by simp [show ¬ b = o by omega]; exact hg.2 b hb⟩, .inr ⟨o, by simp, by simp, h1, h2, by simp⟩, by simp; omega, hse, rfl⟩
              · rw [if_neg hza] at i2
                have kk1 : ¬ m.length + 1 + 1 ≤ m.length + 1 := by omega
                have kk2 : (m.length + 1) * 2 ≤ (rc (m ++ [z])).length := by rw [rc_len, hl1]; omega
                have kk3 : (m.length + 1 + 1) * 16 ≤ 140737488355328 ∧ m.length + 1 + 1 ≤ 9223372036854775807 := by omega
                have kk4 : (rc (m ++ [z])).take ((m.length + 1) * 2) = rc (m ++ [z]) := List.take_of_length_le (by rw [rc_len, hl1]; omega)
                have kk5 : m.length ≤ 9223372036854775805 := by omega
                have kk6 : ¬ o = σ'.next := by omega
                rw [i2] at hse
                simp [lk_cons, ↓l1, ↓l2, w1, w5, w6, ↓p1, ↓p2, ↓q1, ↓q2, fillL, repL, srcL, storeL, h3, hz1, hz3, hza, hl1, kk1, kk2, kk3, kk4, kk5, kk6, Ne.symm kk6]
                exact ⟨e.length - k, by omega, k, _, m ++ [z] ++ [⟨a, c⟩], rfl, by omega, ⟨by simp; omega, fun b hb => by simp [show ¬ b = σ'.next by omega, show ¬ b = σ'.next + 1 by omega, show ¬ b = o by omega]; exact hg.2 b hb⟩, .inr ⟨σ'.next + 1, by simp, by simp, by omega, by simp, by rw [rc_app (m ++ [z])]; simp [rc]⟩, by simp; omega, hse, rfl⟩
    · have hsd : setM x y acc (e.drop i) = acc := by
        cases hd : e.drop i with
        | nil => rfl
        | cons a t =>
          have : t = [] := List.eq_nil_of_length_eq_zero (by have := congrArg List.length hd; simp at this; omega)
          subst this; rfl
      rw [hsd] at hse
      obtain ⟨v', f1, f2⟩ := ho.frz (Nat.le_refl _)
      simp [lk_cons, ↓l1, w1, hlt]
      exact ⟨fun a ha => hg.2 a ha, v', f1, h v' (hse ▸ f2)⟩
end Go.Proofs.Ytinfnpbglapjhaa.AM

/- Ranges: Right, Has, Check. -/
namespace Go.Proofs.Ytinfnpbglapjhaa.AM
set_option maxRecDepth 100000
set_option linter.unusedVariables false
set_option linter.unusedSimpArgs false

end Go.Proofs.Ytinfnpbglapjhaa.AM

/- What is added, what is taken away. -/
namespace Go.Proofs.Ytinfnpbglapjhaa.AM
open Go.RowKit
set_option maxRecDepth 100000
set_option linter.unusedVariables false
set_option linter.unusedSimpArgs false

theorem u64_of {n : Int} (h : (Lit.int .u64 n).wf = true) : 0 ≤ n ∧ n ≤ 18446744073709551615 := by
  obtain ⟨k, rfl, hk⟩ := wf_u64 h
  omega
def RgArg (x : List AVal) : Prop := ∃ a b, x = a ++ b ∧ (∃ n, a = [.int .u64 n] ∧ (Lit.int .u64 n).wf = true) ∧ (∃ n, b = [.int .u64 n] ∧ (Lit.int .u64 n).wf = true)
end Go.Proofs.Ytinfnpbglapjhaa.AM

/- Ledgers and cursors as plain lists. -/
namespace Go.Proofs.Ytinfnpbglapjhaa.AM
set_option linter.unusedVariables false
set_option linter.unusedSimpArgs false
structure Ld where
  f0 : Int
  f1 : Bool
  f2 : Int
deriving DecidableEq
structure Hd where
  f0 : Int
  f1 : List S25
deriving DecidableEq
def cmpM (a b : Int) : Int := if a < b then -1 else if a > b then 1 else 0
def ordM (al ae bl be : Int) : Int := if cmpM al bl = 0 then cmpM ae be else cmpM al bl
/-- What is held of a ledger. -/
def ofM (L : Int) : List Hd → List S25
  | [] => []
  | x :: t => if x.f0 = L then x.f1 else ofM L t
/-- Ledgers that rise, of each right ranges, some. -/
def HOk : Int → List Hd → Prop
  | _, [] => True
  | b, x :: t => b < x.f0 ∧ GoodR x.f1 ∧ x.f1 ≠ [] ∧ HOk x.f0 t
theorem hok_mem : ∀ {l : List Hd} {b : Int}, HOk b l → ∀ x ∈ l, b < x.f0 ∧ GoodR x.f1 ∧ x.f1 ≠ []
  | [], _, _, _, h => absurd h List.not_mem_nil
  | y :: t, b, hc, x, h => by
    obtain ⟨h1, h2, h3, h4⟩ := hc
    rcases List.mem_cons.1 h with rfl | h
    · exact ⟨h1, h2, h3⟩
    · have := hok_mem h4 x h
      exact ⟨by omega, this.2⟩
theorem hok_snoc : ∀ {m : List Hd} {b : Int} {z : Hd}, HOk b m → (∀ w ∈ m, w.f0 < z.f0) → b < z.f0 → GoodR z.f1 → z.f1 ≠ [] → HOk b (m ++ [z])
  | [], _, _, _, _, h1, h2, h3 => ⟨h1, h2, h3, trivial⟩
  | x :: t, b, z, hc, hw, h1, h2, h3 => ⟨hc.1, hc.2.1, hc.2.2.1, hok_snoc hc.2.2.2 (fun w h => hw w (List.mem_cons_of_mem _ h)) (hw x List.mem_cons_self) h2 h3⟩
theorem of_snoc (L : Int) (z : Hd) : ∀ m : List Hd, (∀ w ∈ m, w.f0 < z.f0) → ofM L (m ++ [z]) = if z.f0 = L then z.f1 else ofM L m
  | [], _ => rfl
  | x :: t, h => by
    have hx := h x List.mem_cons_self
    show (if x.f0 = L then x.f1 else ofM L (t ++ [z])) = if z.f0 = L then z.f1 else (if x.f0 = L then x.f1 else ofM L t)
    rw [of_snoc L z t fun w hw => h w (List.mem_cons_of_mem _ hw)]
    by_cases h1 : x.f0 = L
    · rw [if_pos h1, if_pos h1, if_neg (by omega)]
    · rw [if_neg h1, if_neg h1]
/-- A right cursor: nothing is held ahead of its mark. -/
def COk (pl pe : Int) (h : List Hd) : Prop := HOk (-1) h ∧ (∀ x ∈ h, x.f0 ≤ 18446744073709551615) ∧ ∀ L n, InP (ofM L h) n → pl < L ∨ (L = pl ∧ pe ≤ n)
end Go.Proofs.Ytinfnpbglapjhaa.AM

/- Ledgers: order, size, at. -/
namespace Go.Proofs.Ytinfnpbglapjhaa.AM
set_option maxRecDepth 100000
set_option linter.unusedVariables false
set_option linter.unusedSimpArgs false

abbrev ps (a b : Int) : AVal := .agg [u64 a, u64 b]
theorem eqs_ps (ρ : St) (a b c d : Int) : evalV ρ (.eqs false [1, 1] (.agg [u64 a, u64 b]) (.agg [u64 c, u64 d])) = some (.bool (decide (a = c ∧ b = d)), ρ) := by
  simp only [evalV, shapeOk, keysEq, kShape, keyEq]
  cases h1 : (a == c) <;> cases h2 : (b == d) <;> simp_all
theorem nan_c (a : Int) (σ : St) (Q : AVal → St → Prop) (h : Q (.bool false) σ) : ACall Try.prog 73 [u64 a] σ Q := by
  refine ACall.of_compF hmx (fun a w => Try.call73 a w) Try.func73 cf73 (n := 1) (by decide) rfl ?_
  simp [ac73, rs73, lk_cons]
  exact h
theorem cmpu_c (a b : Int) (σ : St) (Q : AVal → St → Prop) (h : Q (i64 (cmpM a b)) σ) : ACall Try.prog 49 [u64 a, u64 b] σ Q := by
  refine ACall.of_compF hmx (fun a w => Try.call49 a w) Try.func49 cf49 (n := 2) (by decide) rfl ?_
  simp [ac49, rs49, lk_cons]
  refine nan_c _ _ _ ?_
  simp [lk_cons]
  refine nan_c _ _ _ ?_
  simp [lk_cons]
  unfold cmpM at h
  by_cases h1 : a < b
  · rw [if_pos h1] at h
    simp [lk_cons, h1]
    exact h
  · rw [if_neg h1] at h
    by_cases h2 : a > b
    · rw [if_pos h2] at h
      simp [lk_cons, h1, h2]
      exact h
    · rw [if_neg h2] at h
      simp [lk_cons, h1, h2]
      exact h
def OrJ (n : Nat) (t : Bool) (a b : Int) (σ0 : St) (mm : Nat) (rg : Regs) (σ' : St) : Prop := ∃ i : Nat, mm = 2 - i ∧ i ≤ 2 ∧ (1 ≤ i → a = 0) ∧ (2 ≤ i → b = 0) ∧ σ' = σ0 ∧ rg = [(3, i64 0), (6, .sl n 0 2 2 t), (7, i64 2), (8, i64 i)]
theorem or_c (a b : Int) (n : Nat) (t : Bool) (σ : St) (hm : σ.mem.get n = some (.cells 1 [i64 a, i64 b])) (Q : AVal → St → Prop) (h : Q (i64 (if a = 0 then b else a)) σ) : ACall Try.prog 48 [.sl n 0 2 2 t] σ Q := by
  refine ACall.of_compF hmx (fun a w => Try.call48 a w) Try.func48 cf48 (n := 1) (by decide) rfl ?_
  simp [ac48, rs48, lk_cons]
  refine wp_loop (OrJ n t a b σ) 2 ?_ ?_
  · exact ⟨0, rfl, by omega, by omega, by omega, rfl, rfl⟩
  · rintro mm rg σ' ⟨i, rfl, hi, h1, h2, rfl, rfl⟩
    have w0 : IntKind.i64.wrap (0 + 1) = 1 := by rw [IntWalk.i64_in] <;> omega
    have w1 : IntKind.i64.wrap (1 + 1) = 2 := by rw [IntWalk.i64_in] <;> omega
    rcases (by omega : i = 0 ∨ i = 1 ∨ i = 2) with rfl | rfl | rfl
    · by_cases ha : a = 0
      · simp [lk_cons, hm, ha, w0]
        exact ⟨1, by omega, 1, by omega, by omega, fun _ => rfl, by omega, rfl, rfl⟩
      · rw [if_neg ha] at h
        simp [lk_cons, hm, ha]
        exact h
    · have ha := h1 (by omega)
      rw [if_pos ha] at h
      by_cases hb : b = 0
      · simp [lk_cons, hm, hb, w1]
        exact ⟨2, by omega, by omega, fun _ => ha, fun _ => rfl, rfl, rfl⟩
      · simp [lk_cons, hm, hb]
        exact h
    · have ha := h1 (by omega)
      have hb := h2 (by omega)
      rw [if_pos ha, hb] at h
      simp [lk_cons]
      exact h
theorem rorder_c (a b c d : Int) (σ : St) (Q : AVal → St → Prop) (h : Q (i64 (ordM a b c d)) σ) : ACall Try.prog 43 [ps a b, ps c d] σ Q := by
  refine ACall.scrub ?_
  refine ACall.of_compF hmx (fun a w => Try.call43 a w) Try.func43 cf43 (n := 2) (by decide) rfl ?_
  have fin : ∀ m : Mem, m = (σ.mem.set σ.next (.cells 2 [u64 a, u64 b])).set (σ.next + 1) (.cells 2 [u64 c, u64 d]) → ∀ x, x < σ.next → m.get x = σ.mem.get x := fun m hm x hx => by
    subst hm; simp [show ¬ x = σ.next by omega, show ¬ x = σ.next + 1 by omega]
  unfold ordM cmpM at h
  by_cases h1 : a < c
  · have : ¬ a > c := by omega
    simp [h1] at h
    simp [ac43, rs43, lk_cons, h1]
    exact ⟨fin _ rfl, h⟩
  · by_cases h2 : a = c
    · subst h2
      by_cases h3 : b < d
      · simp [h3] at h
        simp [ac43, rs43, lk_cons, h3]
        exact ⟨fin _ rfl, h⟩
      · by_cases h4 : b = d
        · subst h4
          simp at h
          simp [ac43, rs43, lk_cons, ↓eqs_ps]
          exact ⟨fin _ rfl, h⟩
        · have h5 : b > d := by omega
          simp [h3, h5] at h
          simp [ac43, rs43, lk_cons, h3, h4, ↓eqs_ps]
          exact ⟨fin _ rfl, h⟩
    · have h3 : a > c := by omega
      simp [h1, h3] at h
      simp [ac43, rs43, lk_cons, h1, h2, ↓eqs_ps]
      exact ⟨fin _ rfl, h⟩
theorem order_c (a b c d : Int) (σ : St) (Q : AVal → St → Prop) (h : Q (i64 (ordM a b c d)) σ) : ACall Try.prog 20 [ps a b, ps c d] σ Q := by
  refine ACall.scrub ?_
  refine ACall.of_compF hmx (fun a w => Try.call20 a w) Try.func20 cf20 (n := 2) (by decide) rfl ?_
  simp [ac20, rs20, lk_cons]
  refine cmpu_c _ _ _ _ ?_
  simp [lk_cons]
  refine cmpu_c _ _ _ _ ?_
  simp [lk_cons, fillL, storeL, repL]
  refine or_c (cmpM a c) (cmpM b d) _ _ _ (by simp) _ ?_
  simp [lk_cons]
  exact ⟨fun x hx => by simp [show ¬ x = σ.next by omega, show ¬ x = σ.next + 1 by omega, show ¬ x = σ.next + 1 + 1 by omega], h⟩

end Go.Proofs.Ytinfnpbglapjhaa.AM

/- Ledgers: Next, Between. -/
namespace Go.Proofs.Ytinfnpbglapjhaa.AM
set_option maxRecDepth 100000
set_option linter.unusedVariables false
set_option linter.unusedSimpArgs false

end Go.Proofs.Ytinfnpbglapjhaa.AM

/- Ledgers: Has, Between, All. -/
namespace Go.Proofs.Ytinfnpbglapjhaa.AM
set_option maxRecDepth 100000
set_option linter.unusedVariables false
set_option linter.unusedSimpArgs false

end Go.Proofs.Ytinfnpbglapjhaa.AM

/- Ledgers: All, the document's Next. -/
namespace Go.Proofs.Ytinfnpbglapjhaa.AM
set_option maxRecDepth 100000
set_option linter.unusedVariables false
set_option linter.unusedSimpArgs false

theorem Out.set {lo : Nat} {σ' : St} {v : AVal} {l : List S25} (h : Out lo σ' v l) (b : Blk) : Out lo ⟨σ'.mem.set σ'.next b, σ'.next + 1⟩ v l := by
  rcases h with h | ⟨o, h1, h2, h3, h4, h5⟩
  · exact .inl h
  · exact .inr ⟨o, h1, h2, h3, by show o < σ'.next + 1; omega, by show (σ'.mem.set σ'.next b).get o = _; rw [Mem.get_set_ne _ _ (by omega)]; exact h5⟩
theorem out_app {lo : Nat} {ρ : St} {ov : AVal} {acc : List S25} (ho : Out lo ρ ov acc) (hacc : acc.length ≤ 100000) {b : Nat} {x y : Int} (hb : ρ.mem.get b = some (.cells 2 [u64 x, u64 y])) (hlo : lo ≤ ρ.next) :
    ∃ w ρ', evalV ρ (.append 2 16 ov (.sl b 0 1 1 true)) = some (w, ρ') ∧ Out lo ρ' w (acc ++ [⟨x, y⟩]) ∧ ρ'.next = ρ.next + 1 ∧ ∀ a, a < lo → ρ'.mem.get a = ρ.mem.get a := by
  rcases ho with ⟨rfl, rfl⟩ | ⟨o, rfl, h2, h3, h4, h5⟩
  · refine ⟨.sl ρ.next 0 1 1 false, ⟨ρ.mem.set ρ.next (.cells 2 [u64 x, u64 y]), ρ.next + 1⟩, by simp [srcL, hb], .inr ⟨ρ.next, rfl, by simp, hlo, Nat.lt_succ_self _, by simp [rc]⟩, rfl, fun a ha => ?_⟩
    simp [show ¬ a = ρ.next by omega]
  · have k1 : ¬ acc.length + 1 ≤ acc.length := by omega
    have k2 : acc.length * 2 ≤ (rc acc).length := by rw [rc_len]; omega
    have k3 : (acc.length + 1) * 16 ≤ 140737488355328 ∧ acc.length ≤ 9223372036854775806 := by omega
    have k4 : (rc acc).take (acc.length * 2) = rc acc := List.take_of_length_le (by rw [rc_len]; omega)
    refine ⟨.sl ρ.next 0 (acc.length + 1) (acc.length + 1) false, ⟨(ρ.mem.del o).set ρ.next (.cells 2 (rc acc ++ [u64 x, u64 y])), ρ.next + 1⟩, by simp [srcL, hb, h5, k1, k2, k3, k4], .inr ⟨ρ.next, by simp, by simp, hlo, Nat.lt_succ_self _, by simp [rc_app, rc]⟩, rfl, fun a ha => ?_⟩
    simp [show ¬ a = ρ.next by omega, show ¬ a = o by omega]

end Go.Proofs.Ytinfnpbglapjhaa.AM

/- The document's Next and Has. -/
namespace Go.Proofs.Ytinfnpbglapjhaa.AM
set_option maxRecDepth 100000
set_option linter.unusedVariables false
set_option linter.unusedSimpArgs false

end Go.Proofs.Ytinfnpbglapjhaa.AM

/- Gaps; what is held. -/
namespace Go.Proofs.Ytinfnpbglapjhaa.AM
set_option maxRecDepth 100000
set_option linter.unusedVariables false
set_option linter.unusedSimpArgs false

end Go.Proofs.Ytinfnpbglapjhaa.AM

/- What is held; Acked. -/
namespace Go.Proofs.Ytinfnpbglapjhaa.AM
set_option maxRecDepth 100000
set_option linter.unusedVariables false
set_option linter.unusedSimpArgs false

theorem RgI.upto {v : AVal} {l : List S25} (h : RgI v l) (lo : Nat) : v.upto lo = true := by
  rcases h with ⟨rfl, rfl⟩ | ⟨t, rfl⟩
  · rfl
  · simp [rc_upto]
theorem RgI.one {v : AVal} {l : List S25} (h : RgI v l) : v.one = true ∧ cellsOf v = [v] := by
  rcases h with ⟨rfl, rfl⟩ | ⟨t, rfl⟩ <;> simp
def HC : List AVal → List Hd → Prop
  | [], [] => True
  | a :: b :: cs, x :: xs => a = u64 x.f0 ∧ RgI b x.f1 ∧ HC cs xs
  | _, _ => False
theorem HC.get : ∀ {cs : List AVal} {xs : List Hd} {i : Nat} {x : Hd}, HC cs xs → xs[i]? = some x → ∃ r, RgI r x.f1 ∧ (cs.drop (i * 2)).take 2 = [u64 x.f0, r]
  | a :: b :: cs, y :: xs, 0, x, h, hx => by
    simp at hx; subst hx
    exact ⟨b, h.2.1, by simp [h.1]⟩
  | a :: b :: cs, y :: xs, i + 1, x, h, hx => by
    obtain ⟨r, h1, h2⟩ := h.2.2.get (i := i) (by simpa using hx)
    exact ⟨r, h1, by rw [show (i + 1) * 2 = i * 2 + 1 + 1 by omega]; simpa using h2⟩
  | [], [], _, _, _, hx => by simp at hx
  | [], _ :: _, _, _, h, _ => h.elim
  | [_], _, _, _, h, _ => by cases ‹List Hd› <;> exact h.elim
  | _ :: _ :: _, [], _, _, h, _ => h.elim
/-- What is held, not changing. -/
def HI (v : AVal) (h : List Hd) : Prop := v = .nilsl ∧ h = [] ∨ ∃ cs t, v = .isl cs h.length t ∧ HC cs h
theorem HI.len {v : AVal} {h : List Hd} (hh : HI v h) (ρ : St) : evalV ρ (.len 1 v) = some (i64 h.length, ρ) := by
  rcases hh with ⟨rfl, rfl⟩ | ⟨cs, t, rfl, _⟩ <;> simp
theorem HI.one {v : AVal} {h : List Hd} (hh : HI v h) : v.one = true ∧ cellsOf v = [v] := by
  rcases hh with ⟨rfl, rfl⟩ | ⟨cs, t, rfl, _⟩ <;> simp
theorem HI.at {v : AVal} {h : List Hd} (hh : HI v h) {i : Nat} {x : Hd} (hx : h[i]? = some x) (ρ : St) :
    ∃ p r, RgI r x.f1 ∧ evalV ρ (.idxAddr 2 v (i64 i)) = some (p, ρ) ∧ evalV ρ (.ldn 2 p) = some (.agg [u64 x.f0, r], ρ) ∧ (∃ q, evalV ρ (.fieldAddr 0 p) = some (q, ρ) ∧ evalV ρ (.ld1 q) = some (u64 x.f0, ρ)) ∧ ∃ q, evalV ρ (.fieldAddr 1 p) = some (q, ρ) ∧ evalV ρ (.ld1 q) = some (r, ρ) := by
  have hi := (List.getElem?_eq_some_iff.1 hx).1
  rcases hh with ⟨rfl, rfl⟩ | ⟨cs, t, rfl, hc⟩
  · simp at hx
  · obtain ⟨r, hr, e⟩ := hc.get hx
    have h1 := hr.one.1
    exact ⟨.iptr [u64 x.f0, r], r, hr, by simp [hi, e], by simp [h1], ⟨.iptr [u64 x.f0, r], by simp, by simp⟩, ⟨.iptr [r], by simp, by simp⟩⟩

/-- A cursor. -/
abbrev cv (ml me : Int) (v : AVal) : AVal := .agg [u64 ml, u64 me, v]
end Go.Proofs.Ytinfnpbglapjhaa.AM

/- What is held, grown in memory; put. -/
namespace Go.Proofs.Ytinfnpbglapjhaa.AM
set_option maxRecDepth 100000
set_option linter.unusedVariables false
set_option linter.unusedSimpArgs false

/-- Ranges that do not change, or lie in a new block. -/
def RgN (lo hi : Nat) (m : Mem) (v : AVal) (l : List S25) : Prop := RgI v l ∨ ∃ b c t, v = .sl b 0 l.length c t ∧ lo ≤ b ∧ b < hi ∧ m.get b = some (.cells 2 (rc l))
theorem RgN.mono {lo lo' hi hi' : Nat} {m m' : Mem} {v : AVal} {l : List S25} (h : RgN lo hi m v l) (h1 : lo' ≤ lo) (h2 : hi ≤ hi') (hm : ∀ a, lo ≤ a → a < hi → m'.get a = m.get a) : RgN lo' hi' m' v l := by
  rcases h with h | ⟨b, c, t, e, k1, k2, k3⟩
  · exact .inl h
  · exact .inr ⟨b, c, t, e, Nat.le_trans h1 k1, Nat.lt_of_lt_of_le k2 h2, (hm b k1 k2).trans k3⟩
theorem rc_frz0 (lo : Nat) (m : Mem) (l : List S25) : listM (frzD lo m 0) (rc l) = some (rc l) := by
  refine listM_id ?_
  induction l with
  | nil => intro x hx; simp [rc] at hx
  | cons y t ih =>
    intro x hx
    simp only [rc, List.mem_cons] at hx
    rcases hx with rfl | rfl | hx
    · simp [frzD]
    · simp [frzD]
    · exact ih x hx
theorem RgN.frz {lo lo' hi : Nat} {m : Mem} {v : AVal} {l : List S25} (h : RgN lo hi m v l) (hl : lo' ≤ lo) : ∃ v', frzD lo' m 1 v = some v' ∧ RgI v' l := by
  rcases h with h | ⟨b, c, t, rfl, k1, k2, k3⟩
  · refine ⟨v, ?_, h⟩
    have := h.upto lo'
    rcases h with ⟨rfl, rfl⟩ | ⟨t, rfl⟩
    · simp [frzD]
    · simp only [frzD, this, if_true]
  · refine ⟨.isl (rc l) l.length (t && decide (c = l.length)), ?_, .inr ⟨_, rfl⟩⟩
    rw [frzD_sl (Nat.le_trans hl k1) k3 (by rw [rc_len]; omega), List.drop_zero, List.take_of_length_le (by rw [rc_len]; omega), rc_frz0]
    rfl
def HCM (lo hi : Nat) (m : Mem) : List AVal → List Hd → Prop
  | [], [] => True
  | a :: b :: cs, x :: xs => a = u64 x.f0 ∧ RgN lo hi m b x.f1 ∧ HCM lo hi m cs xs
  | _, _ => False
theorem HCM.len {lo hi : Nat} {m : Mem} : ∀ {cs : List AVal} {xs : List Hd}, HCM lo hi m cs xs → cs.length = xs.length * 2
  | [], [], _ => rfl
  | a :: b :: cs, x :: xs, h => by simp [h.2.2.len]; omega
  | [], _ :: _, h => h.elim
  | [_], _, h => by cases ‹List Hd› <;> exact h.elim
  | _ :: _ :: _, [], h => h.elim
theorem HCM.app {lo hi : Nat} {m : Mem} : ∀ {cs ds : List AVal} {xs ys : List Hd}, HCM lo hi m cs xs → HCM lo hi m ds ys → HCM lo hi m (cs ++ ds) (xs ++ ys)
  | [], ds, [], ys, _, h => h
  | a :: b :: cs, ds, x :: xs, ys, h, k => ⟨h.1, h.2.1, h.2.2.app k⟩
  | [], _, _ :: _, _, h, _ => h.elim
  | [_], _, _, _, h, _ => by cases ‹List Hd› <;> exact h.elim
  | _ :: _ :: _, _, [], _, h, _ => h.elim
theorem HCM.mono {lo lo' hi hi' : Nat} {m m' : Mem} (h1 : lo' ≤ lo) (h2 : hi ≤ hi') (hm : ∀ a, lo ≤ a → a < hi → m'.get a = m.get a) : ∀ {cs : List AVal} {xs : List Hd}, HCM lo hi m cs xs → HCM lo' hi' m' cs xs
  | [], [], _ => trivial
  | a :: b :: cs, x :: xs, h => ⟨h.1, h.2.1.mono h1 h2 hm, HCM.mono h1 h2 hm h.2.2⟩
  | [], _ :: _, h => h.elim
  | [_], _, h => by cases ‹List Hd› <;> exact h.elim
  | _ :: _ :: _, [], h => h.elim
theorem HCM.frz {lo lo' hi : Nat} {m : Mem} (hl : lo' ≤ lo) : ∀ {cs : List AVal} {xs : List Hd}, HCM lo hi m cs xs → ∃ cs', listM (frzD lo' m 1) cs = some cs' ∧ HC cs' xs
  | [], [], _ => ⟨[], rfl, trivial⟩
  | a :: b :: cs, x :: xs, h => by
    obtain ⟨cs', h1, h2⟩ := HCM.frz hl h.2.2
    obtain ⟨b', h3, h4⟩ := h.2.1.frz hl
    refine ⟨u64 x.f0 :: b' :: cs', ?_, rfl, h4, h2⟩
    have e : frzD lo' m 1 (u64 x.f0) = some (u64 x.f0) := by simp [frzD]
    rw [listM_cons, h.1, e, listM_cons, h3, h1]
    rfl
  | [], _ :: _, h => h.elim
  | [_], _, h => by cases ‹List Hd› <;> exact h.elim
  | _ :: _ :: _, [], h => h.elim
/-- What is held, grown by appends. -/
def HOut (lo : Nat) (σ' : St) (v : AVal) (h : List Hd) : Prop := v = .nilsl ∧ h = [] ∨ ∃ o cs, v = .sl o 0 h.length h.length false ∧ 0 < h.length ∧ lo ≤ o ∧ o < σ'.next ∧ σ'.mem.get o = some (.cells 2 cs) ∧ HCM lo o σ'.mem cs h
theorem HOut.one {lo : Nat} {σ' : St} {v : AVal} {h : List Hd} (hh : HOut lo σ' v h) : v.one = true ∧ cellsOf v = [v] := by
  rcases hh with ⟨rfl, _⟩ | ⟨o, cs, rfl, _⟩ <;> exact ⟨rfl, rfl⟩
theorem HOut.frame {lo : Nat} {σ1 σ2 : St} {v : AVal} {h : List Hd} (hh : HOut lo σ1 v h) (hn : σ1.next ≤ σ2.next) (hm : ∀ a, lo ≤ a → a < σ1.next → σ2.mem.get a = σ1.mem.get a) : HOut lo σ2 v h := by
  rcases hh with hh | ⟨o, cs, h1, h2, h3, h4, h5, h6⟩
  · exact .inl hh
  · exact .inr ⟨o, cs, h1, h2, h3, by omega, (hm o h3 h4).trans h5, h6.mono (Nat.le_refl _) (Nat.le_refl _) fun a ha hb => hm a ha (by omega)⟩
theorem HOut.frz {lo lo' : Nat} {σ' : St} {v : AVal} {h : List Hd} (hh : HOut lo σ' v h) (hl : lo' ≤ lo) (ml me : Int) : ∃ hv, frzD lo' σ'.mem 3 (cv ml me v) = some (cv ml me hv) ∧ HI hv h := by
  have e : ∀ n : Int, frzD lo' σ'.mem 2 (u64 n) = some (u64 n) := fun n => by simp [frzD]
  have ag : ∀ vs : List AVal, frzD lo' σ'.mem 3 (.agg vs) = (listM (frzD lo' σ'.mem 2) vs).map .agg := fun vs => by simp only [frzD]
  rcases hh with ⟨rfl, rfl⟩ | ⟨o, cs, rfl, h2, h3, h4, h5, h6⟩
  · refine ⟨.nilsl, ?_, .inl ⟨rfl, rfl⟩⟩
    rw [ag, listM_cons, e, listM_cons, e, listM_cons]
    simp [frzD, AM.listM]
  · obtain ⟨cs', k1, k2⟩ := h6.frz hl
    have hlen := h6.len
    have es : frzD lo' σ'.mem 2 (.sl o 0 h.length h.length false) = some (.isl cs' h.length false) := by
      rw [frzD_sl (Nat.le_trans hl h3) h5 (by rw [hlen]; omega), List.drop_zero, List.take_of_length_le (by rw [hlen]; omega), k1]
      rfl
    refine ⟨.isl cs' h.length false, ?_, .inr ⟨cs', false, rfl, k2⟩⟩
    rw [ag, listM_cons, e, listM_cons, e, listM_cons, es]
    rfl
theorem hout_app {lo : Nat} {ρ0 ρ : St} {ov : AVal} {h : List Hd} (ho : HOut lo ρ0 ov h) (hn : ρ0.next ≤ ρ.next) (hm : ∀ a, lo ≤ a → a < ρ0.next → ρ.mem.get a = ρ0.mem.get a) (hlen : h.length ≤ 100000) {b : Nat} {L : Int} {rv : AVal} {r : List S25}
    (hb : ρ.mem.get b = some (.cells 2 [u64 L, rv])) (hr : RgN ρ0.next ρ.next ρ.mem rv r) (hlo : lo ≤ ρ0.next) :
    ∃ w ρ', evalV ρ (.append 2 32 ov (.sl b 0 1 1 true)) = some (w, ρ') ∧ HOut lo ρ' w (h ++ [⟨L, r⟩]) ∧ ρ'.next = ρ.next + 1 ∧ ∀ a, a < ρ.next → (a < lo ∨ ρ0.next ≤ a) → ρ'.mem.get a = ρ.mem.get a := by
  rcases ho with ⟨rfl, rfl⟩ | ⟨o, cs, rfl, h2, h3, h4, h5, h6⟩
  · refine ⟨.sl ρ.next 0 1 1 false, ⟨ρ.mem.set ρ.next (.cells 2 [u64 L, rv]), ρ.next + 1⟩, by simp [srcL, hb], .inr ⟨ρ.next, [u64 L, rv], rfl, by simp, by omega, Nat.lt_succ_self _, by simp, rfl, ?_, trivial⟩, rfl, fun a ha _ => ?_⟩
    · exact hr.mono hlo (Nat.le_refl _) fun a ha hb => by simp [show ¬ a = ρ.next by omega]
    · simp [show ¬ a = ρ.next by omega]
  · have hl := h6.len
    have k1 : ¬ h.length + 1 ≤ h.length := by omega
    have k2 : h.length * 2 ≤ cs.length := by omega
    have k3 : (h.length + 1) * 32 ≤ 140737488355328 ∧ h.length ≤ 9223372036854775806 := by omega
    have k4 : cs.take (h.length * 2) = cs := List.take_of_length_le (by omega)
    have hmo := (hm o h3 h4).trans h5
    refine ⟨.sl ρ.next 0 (h.length + 1) (h.length + 1) false, ⟨(ρ.mem.del o).set ρ.next (.cells 2 (cs ++ [u64 L, rv])), ρ.next + 1⟩, by simp [srcL, hb, hmo, k1, k2, k3, k4], .inr ⟨ρ.next, cs ++ [u64 L, rv], by simp, by simp, by omega, Nat.lt_succ_self _, by simp, HCM.app ?_ ⟨rfl, ?_, trivial⟩⟩, rfl, fun a ha hb => ?_⟩
    · exact h6.mono (Nat.le_refl _) (by omega) fun a ha hb => by simp [show ¬ a = ρ.next by omega, show ¬ a = o by omega]; exact hm a ha (by omega)
    · exact hr.mono hlo (Nat.le_refl _) fun a ha hb => by simp [show ¬ a = ρ.next by omega, show ¬ a = o by omega]
    · simp [show ¬ a = ρ.next by omega, show ¬ a = o by omega]

end Go.Proofs.Ytinfnpbglapjhaa.AM

/- put. -/
namespace Go.Proofs.Ytinfnpbglapjhaa.AM
set_option maxRecDepth 100000
set_option linter.unusedVariables false
set_option linter.unusedSimpArgs false

end Go.Proofs.Ytinfnpbglapjhaa.AM

/- hold, of the document. -/
namespace Go.Proofs.Ytinfnpbglapjhaa.AM
set_option maxRecDepth 100000
set_option linter.unusedVariables false
set_option linter.unusedSimpArgs false

end Go.Proofs.Ytinfnpbglapjhaa.AM

/- tight. -/
namespace Go.Proofs.Ytinfnpbglapjhaa.AM
set_option maxRecDepth 100000
set_option linter.unusedVariables false
set_option linter.unusedSimpArgs false

theorem wp_cut {P : Program} {a b : ACode} {Q : Post} {r : Regs} {σ : St} (M : Regs → St → Prop) (h : a.wp P (fun e r σ => e = .normal ∧ M r σ) r σ) (hq : ∀ r σ, M r σ → b.wp P Q r σ) : ACode.wp P (.seq a b) Q r σ := by
  simp only [ACode.wp]
  refine wp_mono' h ?_
  rintro e r σ ⟨rfl, hm⟩
  exact hq r σ hm

end Go.Proofs.Ytinfnpbglapjhaa.AM

/- tight, of the document. -/
namespace Go.Proofs.Ytinfnpbglapjhaa.AM
set_option maxRecDepth 100000
set_option linter.unusedVariables false
set_option linter.unusedSimpArgs false

end Go.Proofs.Ytinfnpbglapjhaa.AM

/- Acked, Ack, AckAll. -/
namespace Go.Proofs.Ytinfnpbglapjhaa.AM
set_option maxRecDepth 100000
set_option linter.unusedVariables false
set_option linter.unusedSimpArgs false

end Go.Proofs.Ytinfnpbglapjhaa.AM

/- Ack and AckAll of the document; AckAll. -/
namespace Go.Proofs.Ytinfnpbglapjhaa.AM
set_option maxRecDepth 100000
set_option linter.unusedVariables false
set_option linter.unusedSimpArgs false

theorem wp_cutK {P : Program} {a : ACode} {Q : Post} {r : Regs} {σ : St} (M : Regs → St → Prop) (h : a.wp P (fun e r σ => e = .normal ∧ M r σ) r σ) (hq : ∀ r σ, M r σ → Q .normal r σ) : ACode.wp P a Q r σ := by
  refine wp_mono' h ?_
  rintro e r σ ⟨rfl, hm⟩
  exact hq r σ hm
end Go.Proofs.Ytinfnpbglapjhaa.AM

/- Same; Made, Place. -/
namespace Go.Proofs.Ytinfnpbglapjhaa.AM
set_option maxRecDepth 100000
set_option linter.unusedVariables false
set_option linter.unusedSimpArgs false

def CsJ (v w : AVal) (h : List Hd) (ml me : Int) (σ0 : St) (mm : Nat) (rg : Regs) (σ' : St) : Prop := ∃ i : Nat, mm = h.length - i ∧ i ≤ h.length ∧ σ' = ⟨(σ0.mem.set σ0.next (.cells 3 [u64 ml, u64 me, v])).set (σ0.next + 1) (.cells 3 [u64 ml, u64 me, w]), σ0.next + 1 + 1⟩ ∧ rg = [(2, .ptr σ0.next 0), (3, .ptr (σ0.next + 1) 0), (5, i64 i)]
theorem place_c (a b : Int) (raw : Bool) (ha : 0 ≤ a ∧ a ≤ 18446744073709551615) (hb : 0 ≤ b ∧ b ≤ 18446744073709551615) (σ : St) (Q : AVal → St → Prop) (h : ∀ x y : Int, (0 ≤ x ∧ x ≤ 18446744073709551615) → (0 ≤ y ∧ y ≤ 18446744073709551615) → (raw = false → y < 8 ∧ x < 16) → Q (ps x y) σ) : ACall Try.prog 12 [ps a b, .bool raw] σ Q := by
  refine ACall.scrub ?_
  refine ACall.of_compF hmx (fun a w => Try.call12 a w) Try.func12 cf12 (n := 2) (by decide) rfl ?_
  cases raw with
  | true =>
    simp [ac12, rs12, lk_cons, storeL, fillL]
    exact ⟨fun a ha => by simp [show ¬ a = σ.next by omega, show ¬ a = σ.next + 1 by omega], h a b ha hb (by simp)⟩
  | false =>
    have w1 : Int.tmod a 16 = a % 16 := Int.tmod_eq_emod_of_nonneg ha.1
    have w2 : Int.tmod b 8 = b % 8 := Int.tmod_eq_emod_of_nonneg hb.1
    simp [ac12, rs12, lk_cons, storeL, fillL, w1, w2]
    exact ⟨fun a ha => by simp [show ¬ a = σ.next by omega, show ¬ a = σ.next + 1 by omega], h (a % 16) (b % 8) (by omega) (by omega) (by omega)⟩

end Go.Proofs.Ytinfnpbglapjhaa.AM

/- Right. -/
namespace Go.Proofs.Ytinfnpbglapjhaa.AM
set_option maxRecDepth 100000
set_option linter.unusedVariables false
set_option linter.unusedSimpArgs false

def Bnd (l : List S25) : Prop := ∀ z ∈ l, 0 ≤ z.f0 ∧ 0 ≤ z.f1 ∧ z.f1 ≤ 18446744073709551615
/-- A cursor as it is given. -/
def HArg (h : List Hd) : Prop := h.length ≤ 9223372036854775806 ∧ ∀ x ∈ h, (0 ≤ x.f0 ∧ x.f0 ≤ 18446744073709551615) ∧ Bnd x.f1 ∧ x.f1.length ≤ 9223372036854775806
/-- What Right has made so far. -/
def RInv (ml me last : Int) (i : Nat) (out : List Hd) : Prop := COk ml me out ∧ out.length ≤ i ∧ out.length ≤ 7 ∧ (∀ x ∈ out, x.f1.length ≤ 14) ∧ (∀ x ∈ out, x.f0 ≤ last) ∧ 0 ≤ last
def RiJ (hv : AVal) (raw : Bool) (ml me : Int) (h : List Hd) (σ0 : St) (mm : Nat) (rg : Regs) (σ' : St) : Prop := ∃ (i : Nat) (last : Int) (ov : AVal) (acc : List Hd), mm = h.length - i ∧ i ≤ h.length ∧ i ≤ 7 ∧ RInv ml me last i acc ∧ (∀ a, a < σ0.next → σ'.mem.get a = σ0.mem.get a) ∧ σ0.next + 1 + 1 + 1 ≤ σ'.next ∧ HOut (σ0.next + 1 + 1 + 1) σ' ov acc ∧
  σ'.mem.get (σ0.next + 1) = some (.cells 3 [u64 0, u64 0, .nilsl]) ∧ σ'.mem.get (σ0.next + 1 + 1) = some (.cells 3 [u64 ml, u64 me, ov]) ∧
  rg = [(1, .bool raw), (4, .ptr (σ0.next + 1) 0), (5, .ptr (σ0.next + 1 + 1) 0), (6, u64 last), (19, hv), (20, i64 h.length), (21, i64 i)]
def RiJ2 (hv rv : AVal) (raw : Bool) (last : Int) (rs : List S25) (h : List Hd) (i : Nat) (n0 n8 : Nat) (σ1 : St) (mm : Nat) (rg : Regs) (σ' : St) : Prop := ∃ (j : Nat) (av : AVal) (acc : List S25), mm = rs.length - j ∧ j ≤ rs.length ∧ acc.length ≤ 6 ∧ acc.length ≤ j ∧ Bnd acc ∧ σ1.next ≤ σ'.next ∧ (∀ a, a < σ1.next → σ'.mem.get a = σ1.mem.get a) ∧ Out σ1.next σ' av acc ∧
  rg = [(1, .bool raw), (4, .ptr (n0 + 1) 0), (5, .ptr (n0 + 1 + 1) 0), (6, u64 last), (8, .ptr n8 0), (9, av), (19, hv), (20, i64 h.length), (21, i64 i), (57, rv), (58, i64 rs.length), (59, i64 j)]
theorem Out.rgm {lo : Nat} {σ' : St} {v : AVal} {l : List S25} (h : Out lo σ' v l) : RgM σ' v l := by
  rcases h with h | ⟨o, rfl, h1, h2, h3, h4⟩
  · exact .inl (.inl h)
  · exact .inr ⟨o, 0, l.length, false, rc l, rfl, Nat.le_refl _, h3, h4, by rw [rc_len]; omega, by rw [List.drop_zero, List.take_of_length_le (by rw [rc_len]; omega)]⟩
set_option maxHeartbeats 2000000 in
theorem right14_c {hv : AVal} {h : List Hd} (hh : HI hv h) (ha : HArg h) (a b : Int) (raw : Bool) (hab : (0 ≤ a ∧ a ≤ 18446744073709551615) ∧ 0 ≤ b ∧ b ≤ 18446744073709551615) (σ : St) (Q : AVal → St → Prop)
    (hq : ∀ ml me hv' h', (0 ≤ ml ∧ ml ≤ 18446744073709551615) → (0 ≤ me ∧ me ≤ 18446744073709551615) → HI hv' h' → COk ml me h' → h'.length ≤ 7 → (∀ x ∈ h', x.f1.length ≤ 14) → Q (cv ml me hv') σ) : ACall Try.prog 11 [cv a b hv, .bool raw] σ Q := by
  refine ACall.freezeD 3 ?_
  refine ACall.of_compF hmx (fun a w => Try.call11 a w) Try.func11 cf11 (n := 2) (by decide) rfl ?_
  have l1 := hh.len
  have h1 := hh.one.1
  have h2 := hh.one.2
  have u1 : ¬ σ.next = σ.next + 1 + 1 := by omega
  simp only [ac11, rs11]
  simp [lk_cons, h1, h2, fillL, storeL]
  refine place_c a b raw hab.1 hab.2 _ _ fun ml me hml hme _ => ?_
  simp [lk_cons, h1, h2, fillL, storeL, u1, ↓l1]
  refine wp_loop (RiJ hv raw ml me h σ) h.length ?_ ?_
  · exact ⟨0, 0, .nilsl, [], rfl, Nat.zero_le _, by omega, ⟨⟨trivial, by simp, fun L n hn => absurd hn (in_nil n)⟩, by simp, by simp, by simp, by simp, by omega⟩, fun k hk => by simp [show ¬ k = σ.next by omega, show ¬ k = σ.next + 1 by omega, show ¬ k = σ.next + 1 + 1 by omega], by simp, .inl ⟨rfl, rfl⟩, by simp, by simp, rfl⟩
  · rintro mm rg σ' ⟨i, last, ov, acc, rfl, hi, hi7, ⟨hC, hoi, ho7, hrl, hlast, hl0⟩, gold, hn, ho, m1, m2, rfl⟩
    have z1 : ¬ σ.next = σ'.next := by omega
    have z2 : ¬ σ.next + 1 = σ'.next := by omega
    have z3 : ¬ σ.next + 1 + 1 = σ'.next := by omega
    have o1 := ho.one.1
    have o2 := ho.one.2
    have olen : ∀ ρ : St, evalV ρ (.len 1 ov) = some (i64 acc.length, ρ) := fun ρ => by
      rcases ho with ⟨rfl, rfl⟩ | ⟨o, cs, rfl, _⟩ <;> simp
    have done : ∀ ρ : St, σ'.next ≤ ρ.next → (∀ k, k < σ'.next → ρ.mem.get k = σ'.mem.get k) → Old σ ⟨ρ.mem.set (σ.next + 1) (.cells 3 [u64 ml, u64 me, ov]), ρ.next⟩ ∧ ∃ v', frzD σ.next (ρ.mem.set (σ.next + 1) (.cells 3 [u64 ml, u64 me, ov])) 3 (.agg [u64 ml, u64 me, ov]) = some v' ∧ Q v' σ := by
      intro ρ hρ hm
      have e5 : HOut (σ.next + 1 + 1 + 1) ⟨ρ.mem.set (σ.next + 1) (.cells 3 [u64 ml, u64 me, ov]), ρ.next⟩ ov acc := ho.frame hρ fun k hk hb => by simp [show ¬ k = σ.next + 1 by omega]; exact hm k hb
      obtain ⟨hv', f1, f2⟩ := e5.frz (lo' := σ.next) (by omega) ml me
      refine ⟨fun k hk => ?_, cv ml me hv', f1, hq _ _ _ _ hml hme f2 hC ho7 hrl⟩
      simp [show ¬ k = σ.next + 1 by omega]
      rw [hm k (by omega)]
      exact gold k hk
    by_cases hlt : i < h.length
    · obtain ⟨x, hx⟩ : ∃ x, h[i]? = some x := ⟨_, List.getElem?_eq_getElem hlt⟩
      obtain ⟨k, hk⟩ : ∃ k, i + 1 = k := ⟨_, rfl⟩
      have w1 : IntKind.i64.wrap ((i : Int) + 1) = (k : Int) := by have := ha.1; rw [IntWalk.i64_in] <;> omega
      obtain ⟨p, xr, hri, p1, p2, _, _⟩ := hh.at hx σ'
      have r1 := hri.one.1
      have r2 := hri.one.2
      obtain ⟨hx0, hxb, hxl⟩ := ha.2 x (List.mem_of_getElem? hx)
      by_cases c6 : (6 : Int) < (i : Int)
      · simp [lk_cons, hlt, ↓p1, ↓p2, storeL, r1, r2, m1, m2, z1, z2, z3, c6, o1, o2]
        exact done ⟨(σ'.mem.set σ'.next (.cells 2 [.int .u64 0, .nilsl])).set σ'.next (.cells 2 [u64 x.f0, xr]), σ'.next + 1⟩ (by simp) fun k hk => by simp [show ¬ k = σ'.next by omega]
      · simp [lk_cons, hlt, ↓p1, ↓p2, storeL, r1, r2, m1, m2, z1, z2, z3, c6]
        have fin : ∀ (last' : Int) (w : AVal) (acc' : List Hd) (ρ' : St), RInv ml me last' k acc' → HOut (σ.next + 1 + 1 + 1) ρ' w acc' → σ'.next ≤ ρ'.next → (∀ a, a < σ.next + 1 + 1 → ρ'.mem.get a = σ'.mem.get a) → ρ'.mem.get (σ.next + 1 + 1) = some (.cells 3 [u64 ml, u64 me, w]) →
            ∃ mm, mm < h.length - i ∧ RiJ hv raw ml me h σ mm [(1, .bool raw), (4, .ptr (σ.next + 1) 0), (5, .ptr (σ.next + 1 + 1) 0), (6, u64 last'), (19, hv), (20, i64 h.length), (21, i64 k)] ρ' := by
          intro last' w acc' ρ' e0 e1 e2 e3 e6
          exact ⟨h.length - k, by omega, k, last', w, acc', rfl, by omega, by omega, e0, fun a ha => (e3 a (by omega)).trans (gold a ha), by omega, e1, (e3 _ (by omega)).trans m1, e6, rfl⟩
        have skip : ∀ s : St, s.next = σ'.next + 1 → (∀ k, k < σ'.next → s.mem.get k = σ'.mem.get k) → ∃ mm, mm < h.length - i ∧ RiJ hv raw ml me h σ mm [(1, .bool raw), (4, .ptr (σ.next + 1) 0), (5, .ptr (σ.next + 1 + 1) 0), (6, u64 last), (19, hv), (20, i64 h.length), (21, i64 k)] s := fun s hs hg =>
          fin last ov acc s ⟨hC, by omega, ho7, hrl, hlast, hl0⟩ (ho.frame (by omega) fun a _ hb => hg a hb) (by omega) (fun a ha => hg a (by omega)) ((hg _ (by omega)).trans m2)
        refine condK_mid (fun rg s => ∃ L : Int, (0 ≤ L ∧ L ≤ 18446744073709551615) ∧ s.next = σ'.next + 1 ∧ (∀ k, k < σ'.next → s.mem.get k = σ'.mem.get k) ∧ s.mem.get σ'.next = some (.cells 2 [u64 L, xr]) ∧ rg.lookup 1 = some (.bool raw) ∧ rg.lookup 4 = some (.ptr (σ.next + 1) 0) ∧ rg.lookup 5 = some (.ptr (σ.next + 1 + 1) 0) ∧ rg.lookup 6 = some (u64 last) ∧ rg.lookup 7 = some (i64 i) ∧ rg.lookup 8 = some (.ptr σ'.next 0) ∧ rg.lookup 19 = some hv ∧ rg.lookup 20 = some (i64 h.length) ∧ rg.lookup 21 = some (i64 i)) ?_ ?_
        · cases raw with
          | true =>
            simp [lk_cons]
            exact ⟨hx0, fun k hk => by simp [show ¬ k = σ'.next by omega]⟩
          | false =>
            simp [lk_cons, storeL]
            have e1 : Int.tmod x.f0 16 = x.f0 % 16 := Int.tmod_eq_emod_of_nonneg hx0.1
            exact ⟨by omega, fun k hk => by simp [show ¬ k = σ'.next by omega]⟩
        · rintro rg s ⟨L, hL, hsn, hsg, hs8, g1, g4, g5, g6, g7, g8, g19, g20, g21⟩
          have s2 := (hsg _ (show σ.next + 1 + 1 < σ'.next by omega)).trans m2
          have s1 := (hsg _ (show σ.next + 1 < σ'.next by omega)).trans m1
          simp only [seqK_normal, wp_seq]
          refine wp_cutK (fun rg' s' => s' = s ∧ rg' = [(1, .bool raw), (4, .ptr (σ.next + 1) 0), (5, .ptr (σ.next + 1 + 1) 0), (6, u64 last), (8, .ptr σ'.next 0), (19, hv), (20, i64 h.length), (21, i64 i), (55, .bool (decide (L < ml) || (decide (L ≤ last) && decide (0 < i) && decide (0 < acc.length))))]) ?_ ?_
          · by_cases c1 : L < ml
            · simp [lk_cons, g1, g4, g5, g6, g7, g8, g19, g20, g21, hs8, s2, c1]
            · by_cases c2 : L ≤ last
              · by_cases c3 : 0 < i
                · have c3' : (0 : Int) < (i : Int) := by omega
                  simp [lk_cons, g1, g4, g5, g6, g7, g8, g19, g20, g21, hs8, s2, c1, c2, c3, c3', o1, o2, ↓olen]
                · have c3' : ¬ (0 : Int) < (i : Int) := by omega
                  simp [lk_cons, g1, g4, g5, g6, g7, g8, g19, g20, g21, hs8, s2, c1, c2, c3, c3', o1, o2, ↓olen]
              · simp [lk_cons, g1, g4, g5, g6, g7, g8, g19, g20, g21, hs8, s2, c1, c2]
          · rintro _ _ ⟨rfl, rfl⟩
            cases hsk : (decide (L < ml) || (decide (L ≤ last) && decide (0 < i) && decide (0 < acc.length))) with
            | true =>
              simp [lk_cons, w1]
              exact skip _ hsn hsg
            | false =>
              rename_i s
              have hnot : ¬ L < ml ∧ (L ≤ last → 0 < i → acc = []) := by
                simp at hsk
                refine ⟨by omega, fun h1 h2 => hsk.2 h1 h2⟩
              simp [-wp_seq, lk_cons]
              refine wp_cut (fun rg s' => s' = s ∧ rg = [(1, .bool raw), (4, .ptr (σ.next + 1) 0), (5, .ptr (σ.next + 1 + 1) 0), (6, u64 last), (8, .ptr σ'.next 0), (9, .nilsl), (19, hv), (20, i64 h.length), (21, i64 i)]) (by simp [lk_cons]) ?_
              rintro _ s' ⟨hs', rfl⟩
              rw [hs']
              clear hs' s'
              refine wp_cut (fun rg s' => ∃ av ac, Out s.next s' av ac ∧ ac.length ≤ 6 ∧ Bnd ac ∧ s.next ≤ s'.next ∧ (∀ k, k < s.next → s'.mem.get k = s.mem.get k) ∧ rg.lookup 1 = some (.bool raw) ∧ rg.lookup 4 = some (.ptr (σ.next + 1) 0) ∧ rg.lookup 5 = some (.ptr (σ.next + 1 + 1) 0) ∧ rg.lookup 6 = some (u64 last) ∧ rg.lookup 8 = some (.ptr σ'.next 0) ∧ rg.lookup 9 = some av ∧ rg.lookup 19 = some hv ∧ rg.lookup 20 = some (i64 h.length) ∧ rg.lookup 21 = some (i64 i)) ?_ ?_
              · have xl := (hri.m σ).len
                simp [lk_cons, hs8, r1, r2, ↓xl]
                refine wp_loop (RiJ2 hv xr raw last x.f1 h i σ.next σ'.next s) x.f1.length ?_ ?_
                · exact ⟨0, .nilsl, [], rfl, Nat.zero_le _, by simp, by simp, fun z hz => absurd hz List.not_mem_nil, Nat.le_refl _, fun _ _ => rfl, .inl ⟨rfl, rfl⟩, rfl⟩
                · rintro m3 rg3 σ2 ⟨j, av, ac, rfl, hj, ha6, haj, hab2, hn2, hg2, hav, rfl⟩
                  by_cases hlt2 : j < x.f1.length
                  · obtain ⟨z, hz⟩ : ∃ z, x.f1[j]? = some z := ⟨_, List.getElem?_eq_getElem hlt2⟩
                    obtain ⟨j', hj'⟩ : ∃ k, j + 1 = k := ⟨_, rfl⟩
                    have w3 : IntKind.i64.wrap ((j : Int) + 1) = (j' : Int) := by rw [IntWalk.i64_in] <;> omega
                    obtain ⟨q, q1, q2, _, _⟩ := (hri.m σ2).at hz (ρ := σ2) fun _ _ => rfl
                    have hzb := hxb z (List.mem_of_getElem? hz)
                    have e8 : Int.tmod z.f0 8 = z.f0 % 8 := Int.tmod_eq_emod_of_nonneg hzb.1
                    have e9 : Int.tmod z.f1 9 = z.f1 % 9 := Int.tmod_eq_emod_of_nonneg hzb.2.1
                    have fin2 : ∀ (w : AVal) (ac' : List S25) (ρ' : St), Out s.next ρ' w ac' → σ2.next ≤ ρ'.next → (∀ k, k < s.next → ρ'.mem.get k = σ2.mem.get k) → ac'.length ≤ 6 → ac'.length ≤ j' → Bnd ac' →
                        ∃ mm, mm < x.f1.length - j ∧ RiJ2 hv xr raw last x.f1 h i σ.next σ'.next s mm [(1, .bool raw), (4, .ptr (σ.next + 1) 0), (5, .ptr (σ.next + 1 + 1) 0), (6, u64 last), (8, .ptr σ'.next 0), (9, w), (19, hv), (20, i64 h.length), (21, i64 i), (57, xr), (58, i64 x.f1.length), (59, i64 j')] ρ' := by
                      intro w ac' ρ' e1 e2 e3 e4 e5 e6
                      exact ⟨x.f1.length - j', by omega, j', w, ac', rfl, by omega, e4, e5, e6, by omega, fun k hk => (e3 k hk).trans (hg2 k hk), e1, rfl⟩
                    by_cases c7 : (j : Int) < 6
                    · have app : ∀ (y : S25) (M : Mem), (0 ≤ y.f0 ∧ 0 ≤ y.f1 ∧ y.f1 ≤ 18446744073709551615) → (∀ k, k < σ2.next → M.get k = σ2.mem.get k) → ∃ w ρ', evalV ⟨M.set (σ2.next + 1) (.cells 2 [u64 y.f0, u64 y.f1]), σ2.next + 1 + 1⟩ (.append 2 16 av (.sl (σ2.next + 1) 0 1 1 true)) = some (w, ρ') ∧ ∃ mm, mm < x.f1.length - j ∧ RiJ2 hv xr raw last x.f1 h i σ.next σ'.next s mm [(1, .bool raw), (4, .ptr (σ.next + 1) 0), (5, .ptr (σ.next + 1 + 1) 0), (6, u64 last), (8, .ptr σ'.next 0), (9, w), (19, hv), (20, i64 h.length), (21, i64 i), (57, xr), (58, i64 x.f1.length), (59, i64 j')] ρ' := by
                        intro y M hy hM
                        have hav' : Out s.next ⟨M.set (σ2.next + 1) (.cells 2 [u64 y.f0, u64 y.f1]), σ2.next + 1 + 1⟩ av ac := by
                          rcases hav with hav | ⟨o, k1, k2, k3, k4, k5⟩
                          · exact .inl hav
                          · exact .inr ⟨o, k1, k2, k3, by show o < σ2.next + 1 + 1; omega, by show (M.set _ _).get o = _; rw [Mem.get_set_ne _ _ (by omega), hM o k4]; exact k5⟩
                        obtain ⟨w, ρ', f1, f2, f3, f4⟩ := out_app (b := σ2.next + 1) (x := y.f0) (y := y.f1) hav' (by omega) (by simp) (by show s.next ≤ σ2.next + 1 + 1; omega)
                        refine ⟨w, ρ', f1, fin2 w _ ρ' f2 (by rw [f3]; simp; omega) (fun k hk => ?_) (by simp; omega) (by simp; omega) fun t ht => ?_⟩
                        · rw [f4 k hk]
                          simp [show ¬ k = σ2.next + 1 by omega]
                          exact hM k (by omega)
                        · rcases List.mem_append.1 ht with ht | ht
                          · exact hab2 t ht
                          · rw [List.mem_singleton.1 ht]; exact hy
                      cases raw with
                      | true =>
                        obtain ⟨w, ρ', f1, f2⟩ := app z ((σ2.mem.set σ2.next (.cells 2 [.int .u64 0, .int .u64 0])).set σ2.next (.cells 2 [u64 z.f0, u64 z.f1])) hzb fun k hk => by simp [show ¬ k = σ2.next by omega]
                        simp [lk_cons, hlt2, ↓q1, ↓q2, storeL, c7, fillL, repL, ↓f1, w3]
                        exact f2
                      | false =>
                        obtain ⟨w, ρ', f1, f2⟩ := app ⟨z.f0 % 8, z.f1 % 9⟩ (((σ2.mem.set σ2.next (.cells 2 [.int .u64 0, .int .u64 0])).set σ2.next (.cells 2 [u64 z.f0, u64 z.f1])).set σ2.next (.cells 2 [u64 (z.f0 % 8), u64 (z.f1 % 9)])) (by simp only; omega) fun k hk => by simp [show ¬ k = σ2.next by omega]
                        simp [lk_cons, hlt2, ↓q1, ↓q2, storeL, c7, fillL, repL, e8, e9, ↓f1, w3]
                        exact f2
                    · have keep : ∀ M : Mem, (∀ k, k < σ2.next → M.get k = σ2.mem.get k) → ∃ mm, mm < x.f1.length - j ∧ RiJ2 hv xr raw last x.f1 h i σ.next σ'.next s mm [(1, .bool raw), (4, .ptr (σ.next + 1) 0), (5, .ptr (σ.next + 1 + 1) 0), (6, u64 last), (8, .ptr σ'.next 0), (9, av), (19, hv), (20, i64 h.length), (21, i64 i), (57, xr), (58, i64 x.f1.length), (59, i64 j')] ⟨M, σ2.next + 1⟩ := fun M hM =>
                        fin2 av ac ⟨M, σ2.next + 1⟩ (by
                          rcases hav with hav | ⟨o, k1, k2, k3, k4, k5⟩
                          · exact .inl hav
                          · exact .inr ⟨o, k1, k2, k3, by show o < σ2.next + 1; omega, (hM o k4).trans k5⟩) (by simp) (fun k hk => hM k (by omega)) ha6 (by omega) hab2
                      cases raw with
                      | true =>
                        simp [lk_cons, hlt2, ↓q1, ↓q2, storeL, c7, fillL, repL, w3]
                        exact keep _ fun k hk => by simp [show ¬ k = σ2.next by omega]
                      | false =>
                        simp [lk_cons, hlt2, ↓q1, ↓q2, storeL, c7, fillL, repL, w3]
                        exact keep _ fun k hk => by simp [show ¬ k = σ2.next by omega]
                  · have : j = x.f1.length := by omega
                    subst this
                    simp [lk_cons]
                    exact ⟨av, ac, hav, ha6, hab2, hn2, hg2, rfl⟩
              · rintro rg2 s3 ⟨av, ac, hav, ha6, hab2, hn3, hg3, t1, t4, t5, t6, t8, t9, t19, t20, t21⟩
                have n8 := (hg3 _ (show σ'.next < s.next by omega)).trans hs8
                have n2 := (hg3 _ (show σ.next + 1 + 1 < s.next by omega)).trans s2
                have pos : ∀ x ∈ acc, x.f0 < L := fun y hy => by
                  have := hlast y hy
                  by_cases c2 : L ≤ last
                  · have h0 := hnot.2 c2 (by
                      have := List.length_pos_of_mem hy
                      omega)
                    rw [h0] at hy; cases hy
                  · omega
                have y2 : ∀ k : Nat, k < σ'.next → s3.mem.get k = σ'.mem.get k := fun k hk => (hg3 k (by omega)).trans (hsg k hk)
                -- behind the document's Set
                have after : ∀ (y : List S25) (bn : Nat) (r : List S25), r = rset ac y → y.length ≤ 1 → (∀ z ∈ y, 0 ≤ z.f0 ∧ 0 ≤ z.f1) → (∀ n, InP r n → L = ml → me ≤ n) → r ≠ [] → COk ml me (acc ++ [⟨L, r⟩]) ∧ r.length ≤ 14 := by
                  intro y bn r hr hy1 hy2 hin hne
                  obtain ⟨e1, e2, e3, _⟩ := rset_spec hab2 hy2
                  rw [← hr] at e1 e2 e3
                  refine ⟨⟨hok_snoc hC.1 pos (by show -1 < L; omega) e1 hne, fun t ht => ?_, fun K n hK => ?_⟩, by omega⟩
                  · rcases List.mem_append.1 ht with ht | ht
                    · exact hC.2.1 t ht
                    · rw [List.mem_singleton.1 ht]; exact hL.2
                  · rw [of_snoc K ⟨L, r⟩ acc pos] at hK
                    by_cases hKL : L = K
                    · rw [if_pos hKL] at hK
                      by_cases hm2 : L = ml
                      · exact .inr ⟨by omega, hin n hK hm2⟩
                      · exact .inl (by omega)
                    · rw [if_neg hKL] at hK
                      exact hC.2.2 K n hK
                have last3 : ∀ (y : List S25) (r : List S25) (vv : AVal) (ρ0 : St), r = rset ac y → y.length ≤ 1 → (∀ z ∈ y, 0 ≤ z.f0 ∧ 0 ≤ z.f1) → (∀ n, InP r n → L = ml → me ≤ n) → r ≠ [] → RgI vv r → σ'.next ≤ ρ0.next → (∀ k, k < σ'.next → ρ0.mem.get k = σ'.mem.get k) →
                    ∃ w ρ', evalV ⟨ρ0.mem.set ρ0.next (.cells 2 [u64 L, vv]), ρ0.next + 1⟩ (.append 2 32 ov (.sl ρ0.next 0 1 1 true)) = some (w, ρ') ∧ w.one = true ∧ cellsOf w = [w] ∧ ρ'.mem.get (σ.next + 1 + 1) = some (.cells 3 [u64 ml, u64 me, ov]) ∧ (∀ k, k < σ'.next → (k < σ.next + 1 + 1 + 1 ∨ σ'.next ≤ k) → ρ'.mem.get k = σ'.mem.get k) ∧ (σ'.next < ρ0.next → ρ'.mem.get σ'.next = ρ0.mem.get σ'.next) ∧
                    ∃ mm, mm < h.length - i ∧ RiJ hv raw ml me h σ mm [(1, .bool raw), (4, .ptr (σ.next + 1) 0), (5, .ptr (σ.next + 1 + 1) 0), (6, u64 L), (19, hv), (20, i64 h.length), (21, i64 k)] ⟨ρ'.mem.set (σ.next + 1 + 1) (.cells 3 [u64 ml, u64 me, w]), ρ'.next⟩ := by
                  intro y r vv ρ0 hr hy1 hy2 hin hne hvv hρ hρm
                  obtain ⟨hco, hr14⟩ := after y 0 r hr hy1 hy2 hin hne
                  obtain ⟨w, ρ', f1, f2, f3, f4⟩ := hout_app (b := ρ0.next) (L := L) (rv := vv) (r := r) (ρ0 := σ') (ρ := ⟨ρ0.mem.set ρ0.next (.cells 2 [u64 L, vv]), ρ0.next + 1⟩) ho (by show σ'.next ≤ ρ0.next + 1; omega) (fun k _ hk => by simp [show ¬ k = ρ0.next by omega]; exact hρm k hk) (by omega) (by simp) (.inl hvv) hn
                  have f5 : ∀ k, k < σ.next + 1 + 1 + 1 → ρ'.mem.get k = σ'.mem.get k := fun k hk => by
                    rw [f4 k (by show k < ρ0.next + 1; omega) (.inl hk)]
                    simp [show ¬ k = ρ0.next by omega]
                    exact hρm k (by omega)
                  refine ⟨w, ρ', f1, f2.one.1, f2.one.2, (f5 _ (by omega)).trans m2, fun k _ hk => ?_, fun hlt3 => ?_, ?_⟩
                  · rcases hk with hk | hk
                    · exact f5 k hk
                    · omega
                  · rw [f4 _ (by show σ'.next < ρ0.next + 1; omega) (.inr (Nat.le_refl _))]
                    simp [show ¬ σ'.next = ρ0.next by omega]
                  · refine fin L w (acc ++ [⟨L, r⟩]) _ ⟨hco, by simp; omega, by simp; omega, fun t ht => ?_, fun t ht => ?_, by omega⟩ (f2.frame (σ2 := ⟨ρ'.mem.set (σ.next + 1 + 1) (.cells 3 [u64 ml, u64 me, w]), ρ'.next⟩) (Nat.le_refl _) fun k hk _ => by simp [show ¬ k = σ.next + 1 + 1 by omega]) (by show σ'.next ≤ ρ'.next; rw [f3]; show _ ≤ ρ0.next + 1 + 1; omega) (fun k hk => by simp [show ¬ k = σ.next + 1 + 1 by omega]; exact f5 k (by omega)) (by simp)
                    · rcases List.mem_append.1 ht with ht | ht
                      · exact hrl t ht
                      · rw [List.mem_singleton.1 ht]; exact hr14
                    · rcases List.mem_append.1 ht with ht | ht
                      · have := pos t ht; omega
                      · rw [List.mem_singleton.1 ht]; exact Int.le_refl _
                have x1 : ¬ σ'.next = s3.next := by omega
                have x2 : ¬ σ.next + 1 + 1 = s3.next := by omega
                by_cases cL : ml < L
                · have hy2 : ∀ z ∈ ([] : List S25), 0 ≤ z.f0 ∧ 0 ≤ z.f1 := fun z hz => absurd hz List.not_mem_nil
                  simp [lk_cons, t1, t4, t5, t6, t8, t9, t19, t20, t21, n8, n2, fillL, storeL, repL, cL, x1, x2]
                  refine set_c (y := []) (hav.set (.cells 2 [u64 0, u64 me])).rgm (.inl (.inl ⟨rfl, rfl⟩)) (by simp; omega) hab2 hy2 _ fun sv hsv => ?_
                  have sl := (hsv.m σ).len
                  have v1 := hsv.one.1
                  have v2 := hsv.one.2
                  obtain ⟨r, hr⟩ : ∃ r, r = rset ac [] := ⟨_, rfl⟩
                  rw [← hr] at hsv sl
                  by_cases hr0 : r = []
                  · have c0 : ¬ 0 < r.length := by rw [hr0]; simp
                    simp [lk_cons, ↓sl, c0, w1]
                    exact fin last ov acc ⟨s3.mem.set s3.next (.cells 2 [u64 0, u64 me]), s3.next + 1⟩ ⟨hC, by omega, ho7, hrl, hlast, hl0⟩ (ho.frame (by show σ'.next ≤ s3.next + 1; omega) fun a _ hb => by simp [show ¬ a = s3.next by omega]; exact y2 a hb) (by show σ'.next ≤ s3.next + 1; omega) (fun a ha => by simp [show ¬ a = s3.next by omega]; exact y2 a (by omega)) (by simp [x2]; exact n2)
                  · have c0 : 0 < r.length := List.length_pos_iff.2 hr0
                    obtain ⟨w, ρ', f1, g1', g2', f2, f3, f4, f5⟩ := last3 [] r sv ⟨s3.mem.set s3.next (.cells 2 [u64 0, u64 me]), s3.next + 1⟩ hr (by simp) hy2 (fun n _ e => by omega) hr0 hsv (by show σ'.next ≤ s3.next + 1; omega) (fun k hk => by simp [show ¬ k = s3.next by omega]; exact y2 k hk)
                    have b8 : ρ'.mem.get σ'.next = some (.cells 2 [u64 L, xr]) := by
                      rw [f4 (by show σ'.next < s3.next + 1; omega)]
                      simp [x1]; exact n8
                    simp [lk_cons, ↓sl, c0, w1, x1, x2, n8, n2, v1, v2, fillL, storeL, repL, ↓f1, f2, g1', g2', b8, show ¬ σ'.next = σ.next + 1 + 1 by omega, show ¬ σ'.next = s3.next + 1 by omega]
                    exact f5
                · have hy2 : ∀ z ∈ ([⟨0, me⟩] : List S25), 0 ≤ z.f0 ∧ 0 ≤ z.f1 := fun z hz => by rw [List.mem_singleton.1 hz]; exact ⟨Int.le_refl _, hme.1⟩
                  simp [lk_cons, t1, t4, t5, t6, t8, t9, t19, t20, t21, n8, n2, fillL, storeL, repL, cL, x1, x2]
                  refine set_c (y := [⟨0, me⟩]) (hav.set (.cells 2 [u64 0, u64 me])).rgm (.inr ⟨s3.next, 0, 1, true, [u64 0, u64 me], rfl, by simp, by simp, by simp, by simp, by simp [rc]⟩) (by simp; omega) hab2 hy2 _ fun sv hsv => ?_
                  have sl := (hsv.m σ).len
                  have v1 := hsv.one.1
                  have v2 := hsv.one.2
                  obtain ⟨r, hr⟩ : ∃ r, r = rset ac [⟨0, me⟩] := ⟨_, rfl⟩
                  rw [← hr] at hsv sl
                  by_cases hr0 : r = []
                  · have c0 : ¬ 0 < r.length := by rw [hr0]; simp
                    simp [lk_cons, ↓sl, c0, w1]
                    exact fin last ov acc ⟨s3.mem.set s3.next (.cells 2 [u64 0, u64 me]), s3.next + 1⟩ ⟨hC, by omega, ho7, hrl, hlast, hl0⟩ (ho.frame (by show σ'.next ≤ s3.next + 1; omega) fun a _ hb => by simp [show ¬ a = s3.next by omega]; exact y2 a hb) (by show σ'.next ≤ s3.next + 1; omega) (fun a ha => by simp [show ¬ a = s3.next by omega]; exact y2 a (by omega)) (by simp [x2]; exact n2)
                  · have c0 : 0 < r.length := List.length_pos_iff.2 hr0
                    obtain ⟨w, ρ', f1, g1', g2', f2, f3, f4, f5⟩ := last3 [⟨0, me⟩] r sv ⟨s3.mem.set s3.next (.cells 2 [u64 0, u64 me]), s3.next + 1⟩ hr (by simp) hy2 (fun n hn e => by
                      obtain ⟨k1, k2, _, _⟩ := rset_spec hab2 hy2
                      rw [← hr] at k1 k2
                      have h3 := ((k2 n).1 hn).2
                      have h4 := can_in k1.1 hn
                      have h5 : ¬ (0 ≤ n ∧ n < me) := fun h' => h3 ⟨⟨0, me⟩, List.mem_singleton.2 rfl, h'⟩
                      omega) hr0 hsv (by show σ'.next ≤ s3.next + 1; omega) (fun k hk => by simp [show ¬ k = s3.next by omega]; exact y2 k hk)
                    have b8 : ρ'.mem.get σ'.next = some (.cells 2 [u64 L, xr]) := by
                      rw [f4 (by show σ'.next < s3.next + 1; omega)]
                      simp [x1]; exact n8
                    simp [lk_cons, ↓sl, c0, w1, x1, x2, n8, n2, v1, v2, fillL, storeL, repL, ↓f1, f2, g1', g2', b8, show ¬ σ'.next = σ.next + 1 + 1 by omega, show ¬ σ'.next = s3.next + 1 by omega]
                    exact f5
    · have : i = h.length := by omega
      subst this
      simp [lk_cons, m1, m2, z1, z2, z3, storeL, o1, o2]
      exact done σ' (Nat.le_refl _) fun _ _ => rfl

end Go.Proofs.Ytinfnpbglapjhaa.AM

/- Cursors: what hold, put and tight come to. -/
namespace Go.Proofs.Ytinfnpbglapjhaa.AM
set_option linter.unusedVariables false
set_option linter.unusedSimpArgs false

end Go.Proofs.Ytinfnpbglapjhaa.AM

/- Ranges, and what is held, that can be read: unchanging or in memory. -/
namespace Go.Proofs.Ytinfnpbglapjhaa.AM
open Go.RowKit
set_option maxRecDepth 100000
set_option linter.unusedVariables false
set_option linter.unusedSimpArgs false

def RgW (σ : St) (v : AVal) (l : List S25) : Prop := RgI v l ∨ ∃ a o c t vals, v = .sl a o l.length c t ∧ a < σ.next ∧ σ.mem.get a = some (.cells 2 vals) ∧ o + l.length * 2 ≤ vals.length ∧ (vals.drop o).take (l.length * 2) = rc l
theorem RgI.w {v : AVal} {l : List S25} (h : RgI v l) (σ : St) : RgW σ v l := .inl h
theorem RgN.w {lo hi : Nat} {σ : St} {v : AVal} {l : List S25} (h : RgN lo hi σ.mem v l) (hh : hi ≤ σ.next) : RgW σ v l := by
  rcases h with h | ⟨b, c, t, h1, h2, h3, h4⟩
  · exact .inl h
  · refine .inr ⟨b, 0, c, t, rc l, h1, by omega, h4, by rw [rc_len]; omega, ?_⟩
    rw [List.drop_zero, List.take_of_length_le (by rw [rc_len]; exact Nat.le_refl _)]
theorem RgW.len {σ : St} {v : AVal} {l : List S25} (h : RgW σ v l) (ρ : St) : evalV ρ (.len 1 v) = some (i64 l.length, ρ) := by
  rcases h with (⟨rfl, rfl⟩ | ⟨t, rfl⟩) | ⟨a, o, c, t, vals, rfl, _⟩ <;> simp
theorem RgW.one {σ : St} {v : AVal} {l : List S25} (h : RgW σ v l) : v.one = true ∧ cellsOf v = [v] := by
  rcases h with (⟨rfl, rfl⟩ | ⟨t, rfl⟩) | ⟨a, o, c, t, vals, rfl, _⟩ <;> simp
theorem RgW.frame {σ σ' : St} {v : AVal} {l : List S25} (h : RgW σ v l) (hn : σ.next ≤ σ'.next) (hm : ∀ a, a < σ.next → σ'.mem.get a = σ.mem.get a) : RgW σ' v l := by
  rcases h with h | ⟨a, o, c, t, vals, h1, h3, h4, h5, h6⟩
  · exact .inl h
  · exact .inr ⟨a, o, c, t, vals, h1, by omega, (hm a h3).trans h4, h5, h6⟩
theorem RgW.at {σ : St} {v : AVal} {l : List S25} (hv : RgW σ v l) {i : Nat} {x : S25} (hx : l[i]? = some x) {ρ : St} (hm : ∀ a, a < σ.next → ρ.mem.get a = σ.mem.get a) :
    ∃ p, evalV ρ (.idxAddr 2 v (i64 i)) = some (p, ρ) ∧ evalV ρ (.ldn 2 p) = some (.agg [u64 x.f0, u64 x.f1], ρ) ∧ (∃ q, evalV ρ (.fieldAddr 0 p) = some (q, ρ) ∧ evalV ρ (.ld1 q) = some (u64 x.f0, ρ)) ∧ ∃ q, evalV ρ (.fieldAddr 1 p) = some (q, ρ) ∧ evalV ρ (.ld1 q) = some (u64 x.f1, ρ) := by
  have hi := (List.getElem?_eq_some_iff.1 hx).1
  rcases hv with (⟨rfl, rfl⟩ | ⟨t, rfl⟩) | ⟨a, o, c, t, vals, rfl, c3, c4, c5, c6⟩
  · simp at hx
  · have e1 := rc_get hx
    exact ⟨.iptr [u64 x.f0, u64 x.f1], by simp [hi, e1], by simp, ⟨.iptr [u64 x.f0, u64 x.f1], by simp, by simp⟩, ⟨.iptr [u64 x.f1], by simp, by simp⟩⟩
  · obtain ⟨e1, e2, e3, e4⟩ := sl_get c5 c6 hx
    have ga := (hm a c3).trans c4
    exact ⟨.ptr a (o + i * 2), by simp [hi], by simp [ga, e3, e4], ⟨.ptr a (o + i * 2), by simp, by simp [ga, e1]⟩, ⟨.ptr a (o + i * 2 + 1), by simp, by simp [ga, e2]⟩⟩
theorem HCM.get {lo hi : Nat} {m : Mem} : ∀ {cs : List AVal} {xs : List Hd} {i : Nat} {x : Hd}, HCM lo hi m cs xs → xs[i]? = some x → ∃ r, RgN lo hi m r x.f1 ∧ (cs.drop (i * 2)).take 2 = [u64 x.f0, r] ∧ cs[i * 2]? = some (u64 x.f0) ∧ cs[i * 2 + 1]? = some r
  | a :: b :: cs, y :: xs, 0, x, h, hx => by
    simp at hx; subst hx
    exact ⟨b, h.2.1, by simp [h.1], by simp [h.1], by simp⟩
  | a :: b :: cs, y :: xs, i + 1, x, h, hx => by
    obtain ⟨r, h1, h2, h3, h4⟩ := h.2.2.get (i := i) (by simpa using hx)
    have e : (i + 1) * 2 = i * 2 + 1 + 1 := by omega
    exact ⟨r, h1, by rw [e]; simpa using h2, by rw [e]; simpa using h3, by rw [e]; simpa using h4⟩
  | [], [], _, _, _, hx => by simp at hx
  | [], _ :: _, _, _, h, _ => h.elim
  | [_], _, _, _, h, _ => by cases ‹List Hd› <;> exact h.elim
  | _ :: _ :: _, [], _, _, h, _ => h.elim
/-- What is held, to be read. -/
def HR (σ : St) (v : AVal) (h : List Hd) : Prop := HI v h ∨ ∃ lo, HOut lo σ v h
theorem HR.len {σ : St} {v : AVal} {h : List Hd} (hh : HR σ v h) (ρ : St) : evalV ρ (.len 1 v) = some (i64 h.length, ρ) := by
  rcases hh with hh | ⟨lo, ⟨rfl, rfl⟩ | ⟨o, cs, rfl, _⟩⟩
  · exact hh.len ρ
  · simp
  · simp
theorem HR.one {σ : St} {v : AVal} {h : List Hd} (hh : HR σ v h) : v.one = true ∧ cellsOf v = [v] := by
  rcases hh with hh | ⟨lo, hh⟩
  · exact hh.one
  · exact hh.one
theorem HR.at {σ : St} {v : AVal} {h : List Hd} (hh : HR σ v h) {i : Nat} {x : Hd} (hx : h[i]? = some x) {ρ : St} (hm : ∀ a, a < σ.next → ρ.mem.get a = σ.mem.get a) :
    ∃ p r, RgW σ r x.f1 ∧ evalV ρ (.idxAddr 2 v (i64 i)) = some (p, ρ) ∧ evalV ρ (.ldn 2 p) = some (.agg [u64 x.f0, r], ρ) ∧ (∃ q, evalV ρ (.fieldAddr 0 p) = some (q, ρ) ∧ evalV ρ (.ld1 q) = some (u64 x.f0, ρ)) ∧ ∃ q, evalV ρ (.fieldAddr 1 p) = some (q, ρ) ∧ evalV ρ (.ld1 q) = some (r, ρ) := by
  rcases hh with hh | ⟨lo, ⟨rfl, rfl⟩ | ⟨o, cs, rfl, h2, h3, h4, h5, h6⟩⟩
  · obtain ⟨p, r, h1, h2, h3, h4, h5⟩ := hh.at hx ρ
    exact ⟨p, r, h1.w σ, h2, h3, h4, h5⟩
  · simp at hx
  · obtain ⟨r, hr, e1, e2, e3⟩ := h6.get hx
    have hi := (List.getElem?_eq_some_iff.1 hx).1
    have hlen := h6.len
    have hb : i * 2 + 2 ≤ cs.length := by omega
    have ga := (hm o h4).trans h5
    exact ⟨.ptr o (i * 2), r, hr.w (by omega), by simp [hi], by simp [ga, e1, hb], ⟨.ptr o (i * 2), by simp, by simp [ga, e2]⟩, ⟨.ptr o (i * 2 + 1), by simp, by simp [ga, e3]⟩⟩
end Go.Proofs.Ytinfnpbglapjhaa.AM

/- Ranges of any kind: are they right? -/

namespace Go.Proofs.Ytinfnpbglapjhaa.AM
open Go.RowKit
set_option maxRecDepth 100000
set_option linter.unusedVariables false
set_option linter.unusedSimpArgs false

def rgCond (l : List S25) (i : Nat) : Prop := ∀ x, l[i]? = some x → x.f0 < x.f1 ∧ ∀ y, 0 < i → l[i - 1]? = some y → y.f1 < x.f0
def rgOk (l : List S25) : Prop := ∀ i, i < l.length → rgCond l i
theorem rgOk_step {l : List S25} {i : Nat} (h : ∀ j, j < i → rgCond l j) (hi : rgCond l i) : ∀ j, j < i + 1 → rgCond l j := fun j hj => by
  by_cases e : j = i
  · rw [e]; exact hi
  · exact h j (by omega)
def CgJ (v : AVal) (l : List S25) (σ0 : St) (mm : Nat) (rg : Regs) (σ' : St) : Prop := ∃ i : Nat, mm = l.length - i ∧ i ≤ l.length ∧ Grow σ0 σ' ∧ (∀ j, j < i → rgCond l j) ∧ rg = [(0, v), (5, v), (6, i64 l.length), (7, i64 i)]
theorem rgcheck_g {σ : St} {v : AVal} {l : List S25} (hv : RgW σ v l) (hl : l.length < 1000000) (Q : AVal → St → Prop) (h : ∀ b, (b = true ↔ rgOk l) → Q (.bool b) σ) : ACall Try.prog 50 [v] σ Q := by
  refine ACall.scrub ?_
  refine ACall.of_compF hmx (fun a w => Try.call50 a w) Try.func50 cf50 (n := 1) (by decide) rfl ?_
  have l1 := hv.len
  simp [ac50, rs50, lk_cons, ↓l1]
  refine wp_loop (CgJ v l σ) l.length ?_ ?_
  · exact ⟨0, rfl, Nat.zero_le _, Grow.refl _, by omega, rfl⟩
  · rintro mm rg σ' ⟨i, rfl, hi, hg, hall, rfl⟩
    by_cases hlt : i < l.length
    · obtain ⟨x, hx⟩ : ∃ x, l[i]? = some x := ⟨_, List.getElem?_eq_getElem hlt⟩
      obtain ⟨k, hk⟩ : ∃ k, i + 1 = k := ⟨_, rfl⟩
      have w1 : IntKind.i64.wrap ((i : Int) + 1) = (k : Int) := by rw [IntWalk.i64_in] <;> omega
      obtain ⟨p, p1, p2, _, _⟩ := hv.at hx (ρ := σ') hg.2
      have hg1 := hg.1
      have gr : ∀ b0 b1 : Blk, Grow σ ⟨(σ'.mem.set σ'.next b0).set σ'.next b1, σ'.next + 1⟩ := fun b0 b1 => ⟨by simp; omega, fun a ha => by simp [show ¬ a = σ'.next by omega]; exact hg.2 a ha⟩
      by_cases c1 : x.f1 ≤ x.f0
      · simp [lk_cons, hlt, ↓p1, ↓p2, storeL, c1]
        refine ⟨fun a ha => (gr _ _).2 a ha, h false ⟨fun e => (by simp at e), fun e => ?_⟩⟩
        have := (e i hlt x hx).1
        omega
      by_cases hi0 : i = 0
      · have hi1 : ¬ 0 < i := by omega
        simp [lk_cons, hlt, ↓p1, ↓p2, storeL, c1, hi1, w1]
        refine ⟨l.length - k, by omega, k, rfl, by omega, gr _ _, ?_, rfl⟩
        rw [← hk]
        refine rgOk_step hall fun z hz => ?_
        rw [hx] at hz; cases hz
        exact ⟨by omega, fun y h0 => absurd h0 hi1⟩
      · obtain ⟨j, hj⟩ : ∃ j, j + 1 = i := ⟨i - 1, by omega⟩
        obtain ⟨y, hy⟩ : ∃ y, l[j]? = some y := ⟨_, List.getElem?_eq_getElem (by omega)⟩
        have w2 : IntKind.i64.wrap ((i : Int) - 1) = (j : Int) := by rw [IntWalk.i64_in] <;> omega
        have hi1 : 0 < i := by omega
        have hji : i - 1 = j := by omega
        have hgm : ∀ a, a < σ.next → (⟨(σ'.mem.set σ'.next (.cells 2 [u64 0, u64 0])).set σ'.next (.cells 2 [u64 x.f0, u64 x.f1]), σ'.next + 1⟩ : St).mem.get a = σ.mem.get a := (gr _ _).2
        obtain ⟨q, q1, _, _, ⟨r, r1, r2⟩⟩ := hv.at hy hgm
        by_cases hlt2 : x.f0 ≤ y.f1
        · simp [lk_cons, hlt, ↓p1, ↓p2, storeL, c1, hi1, w1, w2, ↓q1, ↓r1, ↓r2, hlt2]
          refine ⟨fun a ha => (gr _ _).2 a ha, h false ⟨fun e => (by simp at e), fun e => ?_⟩⟩
          have := (e i hlt x hx).2 y hi1 (by rw [hji]; exact hy)
          omega
        · simp [lk_cons, hlt, ↓p1, ↓p2, storeL, c1, hi1, w1, w2, ↓q1, ↓r1, ↓r2, hlt2]
          refine ⟨l.length - k, by omega, k, rfl, by omega, gr _ _, ?_, rfl⟩
          rw [← hk]
          refine rgOk_step hall fun z hz => ?_
          rw [hx] at hz; cases hz
          refine ⟨by omega, fun w _ hw => ?_⟩
          rw [hji, hy] at hw; cases hw
          omega
    · have : i = l.length := by omega
      subst this
      simp [lk_cons]
      exact ⟨fun a ha => hg.2 a ha, h true ⟨fun _ => hall, fun _ => rfl⟩⟩
def CrJ (v : AVal) (l : List S25) (σ0 : St) (mm : Nat) (rg : Regs) (σ' : St) : Prop := ∃ i : Nat, mm = l.length - i ∧ i ≤ l.length ∧ σ' = σ0 ∧ (∀ j, j < i → rgCond l j) ∧ rg = [(0, v), (3, i64 i)]
theorem rgright_g {σ : St} {v : AVal} {l : List S25} (hv : RgW σ v l) (hl : l.length < 1000000) (Q : AVal → St → Prop) (h : ∀ b, (b = true ↔ rgOk l) → Q (.bool b) σ) : ACall Try.prog 55 [v] σ Q := by
  refine ACall.of_compF hmx (fun a w => Try.call55 a w) Try.func55 cf55 (n := 1) (by decide) rfl ?_
  have l1 := hv.len
  simp [ac55, rs55, lk_cons]
  refine wp_loop (CrJ v l σ) l.length ?_ ?_
  · exact ⟨0, rfl, Nat.zero_le _, rfl, by omega, rfl⟩
  · rintro mm rg σ' ⟨i, rfl, hi, rfl, hall, rfl⟩
    by_cases hlt : i < l.length
    · obtain ⟨x, hx⟩ : ∃ x, l[i]? = some x := ⟨_, List.getElem?_eq_getElem hlt⟩
      obtain ⟨k, hk⟩ : ∃ k, i + 1 = k := ⟨_, rfl⟩
      have w1 : IntKind.i64.wrap ((i : Int) + 1) = (k : Int) := by rw [IntWalk.i64_in] <;> omega
      obtain ⟨p, p1, _, ⟨q0, p2, p3⟩, ⟨q1, p4, p5⟩⟩ := hv.at hx (ρ := σ') fun _ _ => rfl
      by_cases c1 : x.f1 ≤ x.f0
      · simp [lk_cons, ↓l1, hlt, ↓p1, ↓p2, ↓p3, ↓p4, ↓p5, c1]
        refine h false ⟨fun e => (by simp at e), fun e => ?_⟩
        have := (e i hlt x hx).1
        omega
      by_cases hi0 : i = 0
      · have hi1 : ¬ 0 < i := by omega
        simp [lk_cons, ↓l1, hlt, ↓p1, ↓p2, ↓p3, ↓p4, ↓p5, c1, hi1, w1]
        refine ⟨l.length - k, by omega, k, rfl, by omega, rfl, ?_, rfl⟩
        rw [← hk]
        refine rgOk_step hall fun z hz => ?_
        rw [hx] at hz; cases hz
        exact ⟨by omega, fun y h0 => absurd h0 hi1⟩
      · obtain ⟨j, hj⟩ : ∃ j, j + 1 = i := ⟨i - 1, by omega⟩
        obtain ⟨y, hy⟩ : ∃ y, l[j]? = some y := ⟨_, List.getElem?_eq_getElem (by omega)⟩
        have w2 : IntKind.i64.wrap ((i : Int) - 1) = (j : Int) := by rw [IntWalk.i64_in] <;> omega
        have hi1 : 0 < i := by omega
        have hji : i - 1 = j := by omega
        obtain ⟨q, r0, _, _, ⟨r, r1, r2⟩⟩ := hv.at hy (ρ := σ') fun _ _ => rfl
        by_cases hlt2 : x.f0 ≤ y.f1
        · simp [lk_cons, ↓l1, hlt, ↓p1, ↓p2, ↓p3, ↓p4, ↓p5, c1, hi1, w1, w2, ↓r0, ↓r1, ↓r2, hlt2]
          refine h false ⟨fun e => (by simp at e), fun e => ?_⟩
          have := (e i hlt x hx).2 y hi1 (by rw [hji]; exact hy)
          omega
        · simp [lk_cons, ↓l1, hlt, ↓p1, ↓p2, ↓p3, ↓p4, ↓p5, c1, hi1, w1, w2, ↓r0, ↓r1, ↓r2, hlt2]
          refine ⟨l.length - k, by omega, k, rfl, by omega, rfl, ?_, rfl⟩
          rw [← hk]
          refine rgOk_step hall fun z hz => ?_
          rw [hx] at hz; cases hz
          refine ⟨by omega, fun w _ hw => ?_⟩
          rw [hji, hy] at hw; cases hw
          omega
    · have : i = l.length := by omega
      subst this
      simp [lk_cons, ↓l1]
      exact h true ⟨fun _ => hall, fun _ => rfl⟩
end Go.Proofs.Ytinfnpbglapjhaa.AM

/- Any cursor: is it right? -/
namespace Go.Proofs.Ytinfnpbglapjhaa.AM
open Go.RowKit
set_option maxRecDepth 100000
set_option linter.unusedVariables false
set_option linter.unusedSimpArgs false

def cuCond (ml me : Int) (h : List Hd) (i : Nat) : Prop := ∀ x, h[i]? = some x → x.f1 ≠ [] ∧ rgOk x.f1 ∧ (∀ y, 0 < i → h[i - 1]? = some y → y.f0 < x.f0) ∧ ∀ z, x.f1[0]? = some z → ¬ ordM x.f0 z.f0 ml me < 0
def cuOk (ml me : Int) (h : List Hd) : Prop := ∀ i, i < h.length → cuCond ml me h i
theorem cuOk_step {ml me : Int} {h : List Hd} {i : Nat} (hh : ∀ j, j < i → cuCond ml me h j) (hi : cuCond ml me h i) : ∀ j, j < i + 1 → cuCond ml me h j := fun j hj => by
  by_cases e : j = i
  · rw [e]; exact hi
  · exact hh j (by omega)
/-- As many as are gone through. -/
def HFew (h : List Hd) : Prop := h.length < 1000000 ∧ ∀ x ∈ h, x.f1.length < 1000000
def CcJ (hv : AVal) (ml me : Int) (h : List Hd) (σ0 : St) (mm : Nat) (rg : Regs) (σ' : St) : Prop := ∃ i : Nat, mm = h.length - i ∧ i ≤ h.length ∧ σ0.next + 1 ≤ σ'.next ∧ (∀ a, a < σ0.next → σ'.mem.get a = σ0.mem.get a) ∧ σ'.mem.get σ0.next = some (.cells 3 [u64 ml, u64 me, hv]) ∧ (∀ j, j < i → cuCond ml me h j) ∧
  rg = [(1, .ptr σ0.next 0), (6, hv), (7, i64 h.length), (8, i64 i)]
set_option maxHeartbeats 2000000 in
theorem ccheck_g {hv : AVal} {h : List Hd} {σ : St} (hh : HR σ hv h) (hf : HFew h) (ml me : Int) (Q : AVal → St → Prop) (hq : ∀ b, (b = true ↔ cuOk ml me h) → Q (.bool b) σ) : ACall Try.prog 21 [cv ml me hv] σ Q := by
  refine ACall.scrub ?_
  refine ACall.of_compF hmx (fun a w => Try.call21 a w) Try.func21 cf21 (n := 1) (by decide) rfl ?_
  have k1 := hh.one.1
  have k2 := hh.one.2
  have hl := hf.1
  have l1 := hh.len
  simp only [ac21, rs21]
  simp [lk_cons, k1, k2, ↓l1]
  refine wp_loop (CcJ hv ml me h σ) h.length ?_ ?_
  · exact ⟨0, rfl, Nat.zero_le _, by simp, fun a ha => by simp [show ¬ a = σ.next by omega], by simp, by omega, rfl⟩
  · rintro mm rg σ1 ⟨i, rfl, hi, hn1, gold, m1, hall, rfl⟩
    have no : ∀ {P : Prop}, (¬ P) → (false = true ↔ P) := fun hp => ⟨fun e => by simp at e, fun e => absurd e hp⟩
    by_cases hlt : i < h.length
    · obtain ⟨x, hx⟩ : ∃ x, h[i]? = some x := ⟨_, List.getElem?_eq_getElem hlt⟩
      obtain ⟨k, hk⟩ : ∃ k, i + 1 = k := ⟨_, rfl⟩
      have w1 : IntKind.i64.wrap ((i : Int) + 1) = (k : Int) := by rw [IntWalk.i64_in] <;> omega
      obtain ⟨p, r, hr, p1, p2, _, _⟩ := hh.at hx (ρ := σ1) gold
      have r1 := hr.one.1
      have r2 := hr.one.2
      have l2 := hr.len
      have hxf := hf.2 x (List.mem_of_getElem? hx)
      have z1 : ¬ σ.next = σ1.next := by omega
      have gold2 : ∀ (b0 b1 : Blk) (a : Nat), a < σ.next → (⟨(σ1.mem.set σ1.next b0).set σ1.next b1, σ1.next + 1⟩ : St).mem.get a = σ.mem.get a := fun b0 b1 a ha => by simp [show ¬ a = σ1.next by omega]; exact gold a ha
      by_cases h0 : x.f1.length = 0
      · simp [lk_cons, hlt, ↓p1, ↓p2, storeL, r1, r2, ↓l2, h0]
        exact ⟨fun a ha => gold2 _ _ a ha, hq false (no fun e => (e i hlt x hx).1 (List.eq_nil_of_length_eq_zero h0))⟩
      obtain ⟨w, hw0⟩ : ∃ w, x.f1[0]? = some w := ⟨_, List.getElem?_eq_getElem (by omega)⟩
      have hpos : ¬ x.f1.length = 0 := h0
      have fin : cuCond ml me h i → ∀ b0 b1 : Blk, ∃ mm, mm < h.length - i ∧ CcJ hv ml me h σ mm [(1, .ptr σ.next 0), (6, hv), (7, i64 h.length), (8, i64 k)] ⟨(σ1.mem.set σ1.next b0).set σ1.next b1, σ1.next + 1⟩ := fun hc b0 b1 =>
        ⟨h.length - k, by omega, k, rfl, by omega, by simp; omega, gold2 b0 b1, by simp [z1]; exact m1, by rw [← hk]; exact cuOk_step hall hc, rfl⟩
      have wl : IntKind.i64.wrap (x.f1.length : Int) = x.f1.length := by rw [IntWalk.i64_in] <;> omega
      simp [lk_cons, hlt, ↓p1, ↓p2, storeL, r1, r2, ↓l2, hpos]
      refine rgcheck_g (hr.frame (by simp; omega) (gold2 _ _)) hxf _ fun b hb => ?_
      obtain ⟨q, q1, _, ⟨q0, q2, q3⟩, _⟩ := hr.at hw0 (ρ := ⟨(σ1.mem.set σ1.next (.cells 2 [.int .u64 0, .nilsl])).set σ1.next (.cells 2 [u64 x.f0, r]), σ1.next + 1⟩) (gold2 _ _)
      have q1' : evalV ⟨(σ1.mem.set σ1.next (.cells 2 [.int .u64 0, .nilsl])).set σ1.next (.cells 2 [u64 x.f0, r]), σ1.next + 1⟩ (.idxAddr 2 r (.int .i64 0)) = some (q, ⟨(σ1.mem.set σ1.next (.cells 2 [.int .u64 0, .nilsl])).set σ1.next (.cells 2 [u64 x.f0, r]), σ1.next + 1⟩) := q1
      cases b with
      | false =>
        simp [lk_cons, ↓l2, hpos, fillL, storeL, r1, r2]
        exact ⟨fun a ha => gold2 _ _ a ha, hq false (no fun e => by have := hb.2 (e i hlt x hx).2.1; simp at this)⟩
      | true =>
        have hrg := hb.1 rfl
        have ord : ∀ (hc : ∀ y, 0 < i → h[i - 1]? = some y → y.f0 < x.f0), ordM x.f0 w.f0 ml me < 0 ∨ ¬ ordM x.f0 w.f0 ml me < 0 ∧ cuCond ml me h i := fun hc => by
          by_cases ho : ordM x.f0 w.f0 ml me < 0
          · exact .inl ho
          · refine .inr ⟨ho, fun x' hx' => ?_⟩
            rw [hx] at hx'; cases hx'
            refine ⟨fun e => h0 (by rw [e]; rfl), hrg, hc, fun z hz => ?_⟩
            rw [hw0] at hz; cases hz
            exact ho
        have bad : ordM x.f0 w.f0 ml me < 0 → ¬ cuOk ml me h := fun ho e => (e i hlt x hx).2.2.2 w hw0 ho
        by_cases hi0 : i = 0
        · have c0 : ¬ (0 : Int) < (i : Int) := by omega
          have c0' : ¬ 0 < i := by omega
          simp [lk_cons, ↓l2, hpos, c0, c0', m1, z1, k1, k2, ↓q1', ↓q2, ↓q3, fillL, storeL, r1, r2]
          refine order_c x.f0 w.f0 ml me _ _ ?_
          rcases ord fun y h0 => absurd h0 c0' with ho | ⟨ho, hc⟩
          · simp [lk_cons, ↓l2, hpos, c0, c0', ho]
            exact ⟨fun a ha => gold2 _ _ a ha, hq false (no (bad ho))⟩
          · simp [lk_cons, ↓l2, hpos, c0, c0', ho, w1]
            exact fin hc _ _
        · obtain ⟨j, hj⟩ : ∃ j, j + 1 = i := ⟨i - 1, by omega⟩
          obtain ⟨y, hy⟩ : ∃ y, h[j]? = some y := ⟨_, List.getElem?_eq_getElem (by omega)⟩
          have c0 : (0 : Int) < (i : Int) := by omega
          have c0' : 0 < i := by omega
          have hji : i - 1 = j := by omega
          have w2 : IntKind.i64.wrap ((i : Int) - 1) = (j : Int) := by rw [IntWalk.i64_in] <;> omega
          obtain ⟨s, _, _, s1, _, ⟨s0, s2, s3⟩, _⟩ := hh.at hy (ρ := ⟨(σ1.mem.set σ1.next (.cells 2 [.int .u64 0, .nilsl])).set σ1.next (.cells 2 [u64 x.f0, r]), σ1.next + 1⟩) (gold2 _ _)
          by_cases hlt2 : x.f0 ≤ y.f0
          · simp [lk_cons, ↓l2, hpos, c0, c0', m1, z1, k1, k2, w2, ↓s1, ↓s2, ↓s3, ↓q1', ↓q2, ↓q3, fillL, storeL, r1, r2, hlt2]
            refine ⟨fun a ha => gold2 _ _ a ha, hq false (no fun e => ?_)⟩
            have := (e i hlt x hx).2.2.1 y c0' (by rw [hji]; exact hy)
            omega
          · simp [lk_cons, ↓l2, hpos, c0, c0', m1, z1, k1, k2, w2, ↓s1, ↓s2, ↓s3, ↓q1', ↓q2, ↓q3, fillL, storeL, r1, r2, hlt2]
            refine order_c x.f0 w.f0 ml me _ _ ?_
            rcases ord fun z _ hz => (by rw [hji, hy] at hz; cases hz; omega) with ho | ⟨ho, hc⟩
            · simp [lk_cons, ↓l2, hpos, c0, c0', ho, hlt2, m1, z1, w2, ↓s1, ↓s2, ↓s3]
              exact ⟨fun a ha => gold2 _ _ a ha, hq false (no (bad ho))⟩
            · simp [lk_cons, ↓l2, hpos, c0, c0', ho, w1, hlt2, m1, z1, w2, ↓s1, ↓s2, ↓s3]
              exact fin hc _ _
    · have : i = h.length := by omega
      subst this
      simp [lk_cons]
      exact ⟨fun a ha => gold a ha, hq true ⟨fun _ => hall, fun _ => rfl⟩⟩
end Go.Proofs.Ytinfnpbglapjhaa.AM

/- Any cursor: is it right, by the document. -/
namespace Go.Proofs.Ytinfnpbglapjhaa.AM
open Go.RowKit
set_option maxRecDepth 100000
set_option linter.unusedVariables false
set_option linter.unusedSimpArgs false

def RcJ (hv : AVal) (ml me : Int) (h : List Hd) (σ0 : St) (mm : Nat) (rg : Regs) (σ' : St) : Prop := ∃ i : Nat, mm = h.length - i ∧ i ≤ h.length ∧ σ0.next + 1 ≤ σ'.next ∧ (∀ a, a < σ0.next → σ'.mem.get a = σ0.mem.get a) ∧ σ'.mem.get σ0.next = some (.cells 3 [u64 ml, u64 me, hv]) ∧ (∀ j, j < i → cuCond ml me h j) ∧
  rg = [(1, .ptr σ0.next 0), (3, i64 i)]
set_option maxHeartbeats 2000000 in
theorem cright_g {hv : AVal} {h : List Hd} {σ : St} (hh : HR σ hv h) (hf : HFew h) (ml me : Int) (Q : AVal → St → Prop) (hq : ∀ b, (b = true ↔ cuOk ml me h) → Q (.bool b) σ) : ACall Try.prog 28 [cv ml me hv] σ Q := by
  refine ACall.scrub ?_
  refine ACall.of_compF hmx (fun a w => Try.call28 a w) Try.func28 cf28 (n := 1) (by decide) rfl ?_
  have k1 := hh.one.1
  have k2 := hh.one.2
  have hl := hf.1
  have l1 := hh.len
  simp only [ac28, rs28]
  simp [lk_cons, k1, k2]
  refine wp_loop (RcJ hv ml me h σ) h.length ?_ ?_
  · exact ⟨0, rfl, Nat.zero_le _, by simp, fun a ha => by simp [show ¬ a = σ.next by omega], by simp, by omega, rfl⟩
  · rintro mm rg σ1 ⟨i, rfl, hi, hn1, gold, m1, hall, rfl⟩
    have no : ∀ {P : Prop}, (¬ P) → (false = true ↔ P) := fun hp => ⟨fun e => by simp at e, fun e => absurd e hp⟩
    by_cases hlt : i < h.length
    · obtain ⟨x, hx⟩ : ∃ x, h[i]? = some x := ⟨_, List.getElem?_eq_getElem hlt⟩
      obtain ⟨k, hk⟩ : ∃ k, i + 1 = k := ⟨_, rfl⟩
      have w1 : IntKind.i64.wrap ((i : Int) + 1) = (k : Int) := by rw [IntWalk.i64_in] <;> omega
      obtain ⟨p, r, hr, p1, p2, _, _⟩ := hh.at hx (ρ := σ1) gold
      have r1 := hr.one.1
      have r2 := hr.one.2
      have l2 := hr.len
      have hxf := hf.2 x (List.mem_of_getElem? hx)
      have z1 : ¬ σ.next = σ1.next := by omega
      have gold2 : ∀ (b0 b1 : Blk) (a : Nat), a < σ.next → (⟨(σ1.mem.set σ1.next b0).set σ1.next b1, σ1.next + 1⟩ : St).mem.get a = σ.mem.get a := fun b0 b1 a ha => by simp [show ¬ a = σ1.next by omega]; exact gold a ha
      by_cases h0 : x.f1.length = 0
      · simp [lk_cons, ↓l1, m1, hlt, ↓p1, ↓p2, storeL, r1, r2, ↓l2, h0]
        exact ⟨fun a ha => gold2 _ _ a ha, hq false (no fun e => (e i hlt x hx).1 (List.eq_nil_of_length_eq_zero h0))⟩
      obtain ⟨w, hw0⟩ : ∃ w, x.f1[0]? = some w := ⟨_, List.getElem?_eq_getElem (by omega)⟩
      have hpos : ¬ x.f1.length = 0 := h0
      have fin : cuCond ml me h i → ∀ b0 b1 : Blk, ∃ mm, mm < h.length - i ∧ RcJ hv ml me h σ mm [(1, .ptr σ.next 0), (3, i64 k)] ⟨(σ1.mem.set σ1.next b0).set σ1.next b1, σ1.next + 1⟩ := fun hc b0 b1 =>
        ⟨h.length - k, by omega, k, rfl, by omega, by simp; omega, gold2 b0 b1, by simp [z1]; exact m1, by rw [← hk]; exact cuOk_step hall hc, rfl⟩
      simp [lk_cons, ↓l1, m1, hlt, ↓p1, ↓p2, storeL, r1, r2, ↓l2, hpos]
      refine rgright_g (hr.frame (by simp; omega) (gold2 _ _)) hxf _ fun b hb => ?_
      obtain ⟨q, q1, _, ⟨q0, q2, q3⟩, _⟩ := hr.at hw0 (ρ := ⟨(σ1.mem.set σ1.next (.cells 2 [.int .u64 0, .nilsl])).set σ1.next (.cells 2 [u64 x.f0, r]), σ1.next + 1⟩) (gold2 _ _)
      have q1' : evalV ⟨(σ1.mem.set σ1.next (.cells 2 [.int .u64 0, .nilsl])).set σ1.next (.cells 2 [u64 x.f0, r]), σ1.next + 1⟩ (.idxAddr 2 r (.int .i64 0)) = some (q, ⟨(σ1.mem.set σ1.next (.cells 2 [.int .u64 0, .nilsl])).set σ1.next (.cells 2 [u64 x.f0, r]), σ1.next + 1⟩) := q1
      cases b with
      | false =>
        simp [lk_cons, ↓l2, hpos, fillL, storeL, r1, r2]
        exact ⟨fun a ha => gold2 _ _ a ha, hq false (no fun e => by have := hb.2 (e i hlt x hx).2.1; simp at this)⟩
      | true =>
        have hrg := hb.1 rfl
        have ord : ∀ (hc : ∀ y, 0 < i → h[i - 1]? = some y → y.f0 < x.f0), ordM x.f0 w.f0 ml me < 0 ∨ ¬ ordM x.f0 w.f0 ml me < 0 ∧ cuCond ml me h i := fun hc => by
          by_cases ho : ordM x.f0 w.f0 ml me < 0
          · exact .inl ho
          · refine .inr ⟨ho, fun x' hx' => ?_⟩
            rw [hx] at hx'; cases hx'
            refine ⟨fun e => h0 (by rw [e]; rfl), hrg, hc, fun z hz => ?_⟩
            rw [hw0] at hz; cases hz
            exact ho
        have bad : ordM x.f0 w.f0 ml me < 0 → ¬ cuOk ml me h := fun ho e => (e i hlt x hx).2.2.2 w hw0 ho
        by_cases hi0 : i = 0
        · have c0 : ¬ (0 : Int) < (i : Int) := by omega
          have c0' : ¬ 0 < i := by omega
          simp [lk_cons, ↓l2, hpos, c0, c0', m1, z1, k1, k2, ↓q1', ↓q2, ↓q3, fillL, storeL, r1, r2]
          refine rorder_c x.f0 w.f0 ml me _ _ ?_
          rcases ord fun y h0 => absurd h0 c0' with ho | ⟨ho, hc⟩
          · simp [lk_cons, ↓l2, hpos, c0, c0', ho]
            exact ⟨fun a ha => gold2 _ _ a ha, hq false (no (bad ho))⟩
          · simp [lk_cons, ↓l2, hpos, c0, c0', ho, w1]
            exact fin hc _ _
        · obtain ⟨j, hj⟩ : ∃ j, j + 1 = i := ⟨i - 1, by omega⟩
          obtain ⟨y, hy⟩ : ∃ y, h[j]? = some y := ⟨_, List.getElem?_eq_getElem (by omega)⟩
          have c0 : (0 : Int) < (i : Int) := by omega
          have c0' : 0 < i := by omega
          have hji : i - 1 = j := by omega
          have w2 : IntKind.i64.wrap ((i : Int) - 1) = (j : Int) := by rw [IntWalk.i64_in] <;> omega
          obtain ⟨s, _, _, s1, _, ⟨s0, s2, s3⟩, _⟩ := hh.at hy (ρ := ⟨(σ1.mem.set σ1.next (.cells 2 [.int .u64 0, .nilsl])).set σ1.next (.cells 2 [u64 x.f0, r]), σ1.next + 1⟩) (gold2 _ _)
          by_cases hlt2 : x.f0 ≤ y.f0
          · simp [lk_cons, ↓l2, hpos, c0, c0', m1, z1, k1, k2, w2, ↓s1, ↓s2, ↓s3, ↓q1', ↓q2, ↓q3, fillL, storeL, r1, r2, hlt2]
            refine ⟨fun a ha => gold2 _ _ a ha, hq false (no fun e => ?_)⟩
            have := (e i hlt x hx).2.2.1 y c0' (by rw [hji]; exact hy)
            omega
          · simp [lk_cons, ↓l2, hpos, c0, c0', m1, z1, k1, k2, w2, ↓s1, ↓s2, ↓s3, ↓q1', ↓q2, ↓q3, fillL, storeL, r1, r2, hlt2]
            refine rorder_c x.f0 w.f0 ml me _ _ ?_
            rcases ord fun z _ hz => (by rw [hji, hy] at hz; cases hz; omega) with ho | ⟨ho, hc⟩
            · simp [lk_cons, ↓l2, hpos, c0, c0', ho, hlt2, m1, z1, w2, ↓s1, ↓s2, ↓s3]
              exact ⟨fun a ha => gold2 _ _ a ha, hq false (no (bad ho))⟩
            · simp [lk_cons, ↓l2, hpos, c0, c0', ho, w1, hlt2, m1, z1, w2, ↓s1, ↓s2, ↓s3]
              exact fin hc _ _
    · have : i = h.length := by omega
      subst this
      simp [lk_cons, ↓l1, m1]
      exact ⟨fun a ha => gold a ha, hq true ⟨fun _ => hall, fun _ => rfl⟩⟩
end Go.Proofs.Ytinfnpbglapjhaa.AM

/- What pack.Read puts off. -/
namespace Go.Proofs.Ytinfnpbglapjhaa.AM
open Go.RowKit
set_option maxRecDepth 100000

theorem catch_idle (p : Addr) (w : World) :
    CallsD Try.prog 80 #[.pointer (some p)] .returning w fun e u' w' => e = .returned (.tuple #[]) ∧ u' = .returning ∧ w' = w := by
  refine callsD_of_wpS Try.func80 rfl fun c₀ cs hu => ?_
  apply wpS_seq
  apply wpS_region
  simp [wpOpsS, go_sem, recoverD, hu, Exit.thenS]
  have hnil : ∀ w : World, (binOp BinOp.eql 20 .nilIface .nilIface).run Try.prog w = .ok (.bool true) w := fun _ => by kernel_rfl
  refine wpS_of_wp ?_
  go_wp2
  cases c₀
  simp_all [bodyPostS, results, Try.f80]

set_option maxHeartbeats 8000000 in
theorem catch_thrown (p : Addr) (c : Int) (x : Value) (w : World) (hc : (w.alloc (.cells #[.int .i64 c] 115)).cell? p = some x) (hz : (w.alloc (.cells #[.int .i64 c] 115)).frozen? p = false) :
    CallsD Try.prog 80 #[.pointer (some p)] (.panicking [{ v := .iface 115 (.agg #[.int .i64 c]), recovered := false }]) w fun e u' w' => e = .returned (.tuple #[]) ∧ u' = .panicking [{ v := .iface 115 (.agg #[.int .i64 c]), recovered := true }] ∧ w' = (w.alloc (.cells #[.int .i64 c] 115)).setCell p (.int .i64 c) := by
  refine callsD_of_wpS Try.func80 rfl fun c₀ cs hu => ?_
  apply wpS_seq
  apply wpS_region
  simp [wpOpsS, go_sem, recoverD, hu, Exit.thenS]
  have hnil : ∀ w : World, (binOp BinOp.eql 20 (.iface 115 (.agg #[.int .i64 c])) .nilIface).run Try.prog w = .ok (.bool false) w := fun _ => by kernel_rfl
  have hta : ∀ w : World, (Instr.typeAssert (.iface 115 (.agg #[.int .i64 c])) 20 115 true).run Try.prog w = .ok (.tuple #[.agg #[.int .i64 c], .bool true]) w := fun _ => by kernel_rfl
  refine wpS_of_wp ?_
  go_wp2
  simp [bodyPostS, results, Try.f80]


end Go.Proofs.Ytinfnpbglapjhaa.AM

/- A register that a region does not write stays. -/
namespace Go.Proofs.Ytinfnpbglapjhaa.AM
open Go.RowKit

theorem put_keep {a : Act} {d : Option Tmp} {v : Value} {t : Nat} (h : d ≠ some t) : (a.put d v).tmps[t]? = a.tmps[t]? := by
  cases d with
  | none => rfl
  | some x =>
    show (a.tmps.setIfInBounds x v)[t]? = _
    rw [Array.getElem?_setIfInBounds_ne (fun e => h (by rw [e]))]

theorem wpList_keep {P : Program} {ops : Array Oper} {E : Exit → Act → World → Prop} {t : Nat} {x : Option Value} : ∀ (l : List Oper) (a : Act) (w : World), wpList P ops E l a w → (∀ o ∈ l, o.dst ≠ some t) → a.tmps[t]? = x →
    wpList P ops (fun e a' w' => E e a' w' ∧ (e = .outgrown ∨ a'.tmps[t]? = x)) l a w := by
  intro l
  induction l with
  | nil => intro a w h _ hx; exact ⟨h, .inr hx⟩
  | cons o l ih =>
    intro a w h hk hx
    have hko := hk o (by simp)
    have hkl : ∀ o ∈ l, o.dst ≠ some t := fun o ho => hk o (by simp [ho])
    have go : ∀ v w', wpList P ops E l (a.put o.dst v) w' → wpList P ops (fun e a' w' => E e a' w' ∧ (e = .outgrown ∨ a'.tmps[t]? = x)) l (a.put o.dst v) w' :=
      fun v w' h => ih _ _ h hkl ((put_keep hko).trans hx)
    simp only [wpList] at h ⊢
    split at h
    · rename_i hw
      rw [if_pos hw]
      rcases h with h | ⟨h1, b, c, h2⟩
      · left
        revert h
        unfold Oper.wp
        generalize (execOp a.eval o).run P w = R
        intro h
        cases R with
        | ok s w1 =>
          cases s with
          | value v => exact go _ _ h
          | skip => exact go _ _ h
          | defer d => exact ih _ _ h hkl ((put_keep (a := { a with defers := d :: a.defers }) hko).trans hx)
          | enter f args =>
            rw [Oper.upon_enter] at h ⊢
            refine h.mono fun e w' he => ?_
            cases e with
            | returned v => exact go _ _ he
            | panicked c => exact ⟨he, .inr hx⟩
            | outgrown => obtain ⟨b, c, he⟩ := he; exact ⟨b, c, he, .inl rfl⟩
          | row r args =>
            rw [Oper.upon_row] at h ⊢
            exact Rows.mono h fun v w' he => go _ _ he
          | _ => exact h
        | halt s w1 =>
          cases s with
          | panic v => exact ⟨h, .inr hx⟩
          | _ => exact h
      · exact .inr ⟨h1, b, c, h2, .inl rfl⟩
    · rename_i hw
      rw [if_neg hw]
      exact go _ _ h


theorem seq3_sound {P : Program} {T : AVal → St → Prop} {B : Nat} {w0 : Root} (hmx : P.follows .mixedOrders = true) {nt : Nat} {h : Hints} {x z : Code} {id : Nat} {ops : Array Oper} {ax az : ACode} {l' : List AOper} {keep : List Nat} {t b : Nat}
    (hcx : comp P nt h x = some ax) (hcl : listM (compOper P nt ops.toList) ops.toList = some l') (hcz : comp P nt h z = some az) (hk : ∀ o ∈ ops.toList, o.dst ≠ some t) (nx : ax.noR = true) (nz : az.noR = true) {Q : Post} {r : Regs} {σ : St} {ρ : Rho} {I : Imm} {a : Act} {w : World}
    (hx : ax.wp (Env.of P) (fun e r s => e = .normal ∧ r.lookup t = some (.ptr b 0) ∧ rwp (Env.th P T) l' r s (fun r s => az.wp (Env.of P) Q (norm keep r) s)) r σ)
    (hr : RegsRel ρ I r a.tmps) (rl : Rel B w0 ρ I σ w) (hd : a.defers = w0.ds) (hs : a.tmps.size = nt) (hb : b < σ.next) :
    (Code.seq x (.seq (.region id ops false) z)).wp P (fun e a2 w2 => LiftP0 nt B w0 ρ I σ T Q e a2 w2 ∧ ((∃ c, e = .panic c) → ∃ cv, a2.tmps[t]? = some cv ∧ VRel ρ I (.ptr b 0) cv)) a w := by
  refine Go.wp_seq (Code.wp_mono ?_ (code_sound (P := Env.of P) hmx x ax hcx _ r σ ρ I a w nx hx hr rl (YOk.of _ _ _ _ _) hd hs))
  intro e a1 w1 hl
  cases e with
  | normal =>
    obtain ⟨r1, σ1, ρ1, I1, g1, g2, g3, g4, g5, _, g6, g7⟩ := hl
    obtain ⟨cv, hp, hv⟩ := g4 t _ g6
    have hv0 : VRel ρ I (.ptr b 0) cv := by
      simp only [VRel] at hv ⊢
      rw [g5.1 b hb] at hv
      exact hv
    let E0 : Exit → Act → World → Prop := fun e a2 w2 => match e with
      | .normal => Lift nt B w0 ρ1 I1 σ1 (fun r s => az.wp (Env.of P) Q (norm keep r) s) a2 w2
      | .panic c => a2.defers = w0.ds ∧ LiftT B w0 ρ1 I1 σ1 T c w2
      | _ => False
    have h2 : wpList P ops E0 ops.toList a1 w1 := rwp_sound (P := (Env.th P T)) (fun _ _ _ _ h => h) ops.toList l' r1 σ1 ρ1 I1 a1 w1 _ hcl g7 g4 g3 g1 g2 (fun a w h => h) (fun c a w hd h => ⟨hd, h⟩)
    have h3 := wpList_keep ops.toList a1 w1 h2 hk hp
    have h4 := Go.wp_region_list (id := id) h3
    refine Go.wp_seq (Code.wp_mono ?_ h4)
    intro e a2 w2 hl
    obtain ⟨hl, hkp⟩ := hl
    cases e with
    | normal =>
      obtain ⟨r2, σ2, ρ2, I2, k1, k2, k3, k4, k5, k6⟩ := hl
      show Code.wp P z _ a2 w2
      refine Code.wp_mono ?_ (code_sound (P := Env.of P) hmx z az hcz Q (norm keep r2) σ2 ρ2 I2 a2 w2 nz k6 (k4.norm keep) k3 (YOk.of _ _ _ _ _) k1 k2)
      intro e a3 w3 hl
      have hex := g5.trans k5
      cases e with
      | normal => exact ⟨Lift.ext hex hl, fun ⟨_, h⟩ => by cases h⟩
      | ret => exact ⟨Lift.ext hex hl, fun ⟨_, h⟩ => by cases h⟩
      | exit id => exact ⟨Lift.ext hex hl, fun ⟨_, h⟩ => by cases h⟩
      | goto l => exact (hl : False).elim
      | panic c => exact hl.2.no.elim
      | outgrown => exact (hl : False).elim
    | panic c =>
      refine ⟨⟨hl.1, hl.2.ext g5⟩, fun _ => ⟨cv, ?_, hv0⟩⟩
      rcases hkp with h | h
      · cases h
      · exact h
    | ret => exact (hl : False).elim
    | exit id => exact (hl : False).elim
    | goto l => exact (hl : False).elim
    | outgrown => exact (hl : False).elim
  | ret => obtain ⟨_, _, _, _, _, _, _, _, _, g, _⟩ := hl; cases g
  | exit id => obtain ⟨_, _, _, _, _, _, _, _, _, g, _⟩ := hl; cases g
  | goto l => exact (hl : False).elim
  | panic c => exact hl.2.no.elim
  | outgrown => exact (hl : False).elim

end Go.Proofs.Ytinfnpbglapjhaa.AM

/- pack.Read's body in three. -/
namespace Go.Proofs.Ytinfnpbglapjhaa.AM
open Go.RowKit
set_option maxRecDepth 100000

def cOf : ACode → ACode
  | .seq _ (.seq _ c) => c
  | _ => .skip
def bodyC : Option Code → Code
  | some (.seq _ (.seq _ c)) => c
  | _ => .skip
def bX : Code → Code
  | .seq x _ => x
  | _ => .skip
def bZ : Code → Code
  | .seq _ (.seq _ z) => z
  | _ => .skip
def bR : Code → Array Oper
  | .seq _ (.seq (.region _ ops _) _) => ops
  | _ => #[]
def aX : ACode → ACode
  | .seq x _ => x
  | _ => .skip
def aZ : ACode → ACode
  | .seq _ (.seq _ z) => z
  | _ => .skip
def aR : ACode → List AOper
  | .seq _ (.seq (.reg _ ops) _) => ops
  | _ => []
theorem bodyC_eq : ∃ id, bodyC Try.f61.body = .seq (bX (bodyC Try.f61.body)) (.seq (.region id (bR (bodyC Try.f61.body)) false) (bZ (bodyC Try.f61.body))) := ⟨_, rfl⟩
theorem compX61 : comp Try.prog 19 h61 (bX (bodyC Try.f61.body)) = some (aX (cOf ac61)) := by kernel_rfl
theorem compZ61 : comp Try.prog 19 h61 (bZ (bodyC Try.f61.body)) = some (aZ (cOf ac61)) := by kernel_rfl
theorem compR61 : listM (compOper Try.prog 19 (bR (bodyC Try.f61.body)).toList) (bR (bodyC Try.f61.body)).toList = some (aR (cOf ac61)) := by kernel_rfl
theorem keepR61 : ∀ o ∈ (bR (bodyC Try.f61.body)).toList, o.dst ≠ some 4 := by
  intro o ho
  have : ((bR (bodyC Try.f61.body)).toList.all fun o => o.dst != some 4) = true := by kernel_rfl
  have := List.all_eq_true.1 this o ho
  simpa using this

theorem ins_mono {P : Env} : ∀ (i : AIns) (r : Regs) (σ : St) (Q Q' : AVal → St → Prop), i.wp P r σ Q → (∀ v σ, Q v σ → Q' v σ) → i.wp P r σ Q' := by
  intro i r σ Q Q' h hq
  cases i with
  | op o => simp only [AIns.wp] at h ⊢; split at h <;> simp_all
  | pick c a b =>
    simp only [AIns.wp] at h ⊢
    split at h
    · split at h
      · simp_all
      · exact h.elim
    · exact h.elim
  | call f args =>
    simp only [AIns.wp] at h ⊢
    split at h
    · rename_i g xs ys hf
      split at h
      · rename_i vs hvs; exact h.mono hq
      · exact h.elim
    · split at h
      · obtain ⟨K, h1, h2⟩ := h; exact ⟨K, h1, fun v σ hk => hq _ _ (h2 v σ hk)⟩
      · exact h.elim
    · exact h.elim
  | next x =>
    simp only [AIns.wp] at h ⊢
    split at h
    · exact fun p hp => hq _ _ (h p hp)
    · exact h.elim
  | panic x => simp only [AIns.wp] at h ⊢; exact h

theorem rwp_mono {P : Env} : ∀ (ops : List AOper) (r : Regs) (σ : St) (Q Q' : Regs → St → Prop), rwp P ops r σ Q → (∀ v σ, Q v σ → Q' v σ) → rwp P ops r σ Q' := by
  intro ops
  induction ops with
  | nil => intro r σ Q Q' h hq; exact hq _ _ h
  | cons o rest ih =>
    intro r σ Q Q' h hq
    simp only [rwp] at h ⊢
    split at h
    · rename_i hg; exact ins_mono _ _ _ _ _ h fun v σ h => ih _ _ _ _ h hq
    · split at h
      · rename_i hb
        split at h
        · rename_i hbw; simp only [if_pos hbw]; exact ins_mono _ _ _ _ _ h fun v σ h => ih _ _ _ _ h hq
        · rename_i hbw; simp only [if_neg hbw]; exact ih _ _ _ _ h hq
      · exact ih _ _ _ _ h hq
      · exact h.elim

theorem ops_keep {P : Program} {T : AVal → St → Prop} {t : Nat} {v : AVal} : ∀ (l : List AOper) (r : Regs) (σ : St) (Q : Regs → St → Prop), rwp (Env.th P T) l r σ Q → (∀ o ∈ l, ∃ d op, o = ⟨d, .op op, none⟩ ∧ d ≠ some t) → r.lookup t = some v → rwp (Env.of P) l r σ (fun r σ => r.lookup t = some v ∧ Q r σ) := by
  intro l
  induction l with
  | nil => intro r σ Q h _ hv; exact ⟨hv, h⟩
  | cons o l ih =>
    intro r σ Q h hk hv
    obtain ⟨d, op, rfl, hd⟩ := hk o (by simp)
    simp only [rwp, AIns.wp] at h ⊢
    split at h
    · rename_i v' σ' he
      exact ih _ _ _ h (fun o ho => hk o (by simp [ho])) ((lookup_setR_ne hd).trans hv)
    · exact h.elim

theorem quietZ {T : AVal → St → Prop} {Q : Post} {r : Regs} {σ : St} (h : (aZ (cOf ac61)).wp (Env.th Try.prog T) Q r σ) : (aZ (cOf ac61)).wp (Env.of Try.prog) Q r σ := by
  unfold ac61 cOf aZ at h ⊢
  exact h

theorem body_c {T : AVal → St → Prop} {Q : Post} {bv fv : AVal} {b : Nat} {σ : St} (h : (cOf ac61).wp (Env.th Try.prog T) Q [(0, bv), (1, fv), (4, .ptr b 0)] σ) :
    (aX (cOf ac61)).wp (Env.of Try.prog) (fun e r s => e = .normal ∧ r.lookup 4 = some (.ptr b 0) ∧ rwp (Env.th Try.prog T) (aR (cOf ac61)) r s (fun r s => (aZ (cOf ac61)).wp (Env.of Try.prog) Q (norm [4, 5] r) s)) [(0, bv), (1, fv), (4, .ptr b 0)] σ := by
  have hz : ∀ {r σ}, (aZ (cOf ac61)).wp (Env.th Try.prog T) Q r σ → (aZ (cOf ac61)).wp (Env.of Try.prog) Q r σ := quietZ
  revert h hz
  unfold ac61 cOf aX aR aZ
  intro h hz
  have h1 := ops_keep (t := 4) (v := .ptr b 0) _ _ _ _ h (by simp) rfl
  exact rwp_mono _ _ _ _ _ h1 fun r σ ⟨k1, k2⟩ => ⟨rfl, by simp [norm, k1, List.filterMap_cons]; cases List.lookup 1 r <;> simp [lk_cons], rwp_mono _ _ _ _ _ k2 fun r σ k => hz k⟩
end Go.Proofs.Ytinfnpbglapjhaa.AM

/- pack.Read (its code: cf61, cf80). -/
namespace Go.Proofs.Ytinfnpbglapjhaa.AM
open Go.RowKit
set_option maxRecDepth 100000
set_option linter.unusedSimpArgs false

def aOf : ACode → ACode
  | .seq a _ => a
  | _ => .skip
def bodyA : Option Code → Code
  | some (.seq a _) => a
  | _ => .skip
def bodyR : Option Code → Array Oper
  | some (.seq _ (.seq (.region _ ops _) _)) => ops
  | _ => #[]
theorem body61 : Try.f61.body = some (.seq (bodyA Try.f61.body) (.seq (.region 1 (bodyR Try.f61.body) false) (bodyC Try.f61.body))) := rfl
theorem compA61 : comp Try.prog 19 h61 (bodyA Try.f61.body) = some (aOf ac61) := by kernel_rfl
theorem read_c {σ : St} {bv fv : AVal} (Q : AVal → St → Prop)
    (h : (cOf ac61).wp (Env.th Try.prog fun v σ' => ∃ c x, v = .iface 115 (.agg [.int .i64 c]) ∧ σ'.mem.get σ.next = some (.cells 1 [.int .i64 x]) ∧ Q (.int .i64 c) ⟨σ'.mem.set σ.next (.cells 1 [.int .i64 c]), σ'.next⟩)
      (retPost rs61 Q) [(0, bv), (1, fv), (4, .ptr σ.next 0)] ⟨σ.mem.set σ.next (.cells 1 [.int .i64 0]), σ.next + 1⟩) : ACall Try.prog 61 [bv, fv] σ Q := by
  refine ACall.ofCalls (fun a w => Try.call61 a w) fun B w0 ρ I w cargs rl hsz hargs => ?_
  refine calls_of_wp_defers Try.func61 body61 ?_
  refine Go.wp_seq ?_
  have hA := code_sound (P := Env.of Try.prog) (w0 := { w0 with ds := [] }) (B := B) hmx (bodyA Try.f61.body) (aOf ac61) compA61 (fun e r s => e = .normal ∧ r = [(0, bv), (1, fv), (4, .ptr σ.next 0)] ∧ s = ⟨σ.mem.set σ.next (.cells 1 [.int .i64 0]), σ.next + 1⟩) (argR 0 [bv, fv]) σ ρ I { tmps := cargs ++ Array.replicate (Try.f61.ntmps - cargs.size) undef, defers := [] } w rfl (by simp [ac61, aOf, lk_cons, argR]) ?_ (rl.atDs []) (YOk.of _ _ _ _ _) rfl ?_
  · refine Code.wp_mono ?_ hA
    intro e a w1 hl
    cases e with
    | normal =>
      obtain ⟨r, σ1, ρ1, I1, g1, g2, g3, g4, g5, _, rfl, rfl⟩ := hl
      refine Go.wp_seq ?_
      refine Go.wp_region_list ?_
      obtain ⟨cvp, hp, hvp⟩ := g4 4 (.ptr σ.next 0) rfl
      simp only [VRel] at hvp
      have hmf : ∀ (fn : Fn) (first cap : Array Value) (w : World), (Instr.makeFunc fn first cap).run Try.prog w = .ok (.func fn first cap) w := fun _ _ _ _ => rfl
      have hev : a.eval (.tmp 4) = cvp := by
        have : a.tmps.getD 4 undef = cvp := by rw [Array.getD_eq_getD_getElem?, hp]; rfl
        exact this
      have hC0 : Code.wp Try.prog (bodyC Try.f61.body) (bodyPostD Try.prog Try.f61 fun e w' => ∃ v σ' ρ' I' cv, e = Ending.returned cv ∧ VRel ρ' I' v cv ∧ Rel B w0 ρ' I' σ' w' ∧ Ext ρ I σ ρ' I' σ' ∧ Q v σ')
          { tmps := a.tmps.setIfInBounds 6 (Value.func (Fn.func 80) #[] #[cvp]), defers := ⟨.fn (.func 80) #[cvp], #[]⟩ :: a.defers } w1 := by
        obtain ⟨pl, hpl, rfl⟩ := hvp
        have hinv : ∀ w, (invoke (.fn (.func 80) #[.pointer (some ⟨pl.b, pl.base + 0, none⟩)]) #[]).run Try.prog w = .ok (.enter 80 #[.pointer (some ⟨pl.b, pl.base + 0, none⟩)]) w := fun w => Try.call80 _ w
        have hR : RegsRel ρ1 I1 [(0, bv), (1, fv), (4, .ptr σ.next 0)] (a.tmps.setIfInBounds 6 (Value.func (Fn.func 80) #[] #[.pointer (some ⟨pl.b, pl.base + 0, none⟩)])) := by
          intro t v hv
          obtain ⟨cu, b1, b2⟩ := g4 t v hv
          have hne : t ≠ 6 := by
            intro h6; subst h6
            simp [lk_cons] at hv
          exact ⟨cu, by rw [Array.getElem?_setIfInBounds_ne (fun e => hne e.symm)]; exact b1, b2⟩
        obtain ⟨rid, hid⟩ := bodyC_eq
        have hC := seq3_sound (id := rid) (P := Try.prog) (B := B) (w0 := { w0 with ds := [⟨.fn (.func 80) #[.pointer (some ⟨pl.b, pl.base + 0, none⟩)], #[]⟩] }) (nt := 19)
          (a := { tmps := a.tmps.setIfInBounds 6 (Value.func (Fn.func 80) #[] #[.pointer (some ⟨pl.b, pl.base + 0, none⟩)]), defers := ⟨.fn (.func 80) #[.pointer (some ⟨pl.b, pl.base + 0, none⟩)], #[]⟩ :: a.defers })
          hmx compX61 compR61 compZ61 keepR61 rfl rfl (body_c h) hR (g3.ofDs.atDs _) (by rw [g1]) (by simp [g2]) (Nat.lt_succ_self _)
        rw [hid]
        · refine Code.wp_mono ?_ hC
          intro e a2 w2 hl
          obtain ⟨hl, hkp⟩ := hl
          have hlt0 : σ.next < σ.next + 1 := Nat.lt_succ_self _
          have key : Lift 19 B { w0 with ds := [⟨.fn (.func 80) #[.pointer (some ⟨pl.b, pl.base + 0, none⟩)], #[]⟩] } ρ1 I1 ⟨σ.mem.set σ.next (.cells 1 [.int .i64 0]), σ.next + 1⟩ (fun r σ => match resA r σ rs61 with | some v => Q v σ | none => False) a2 w2 →
              Leaves Try.prog Try.f61 a2.tmps (fun e w' => ∃ v σ' ρ' I' cv, e = Ending.returned cv ∧ VRel ρ' I' v cv ∧ Rel B w0 ρ' I' σ' w' ∧ Ext ρ I σ ρ' I' σ' ∧ Q v σ') a2.defers .returning w2 := by
            rintro ⟨r, σ', ρ', I', q1, q2, q3, q4, q5, q6⟩
            split at q6
            · rename_i v hv
              obtain ⟨cv, u1, u2⟩ := res_sound (P := Env.of Try.prog) (fn := Try.f61) q4 q3.ofDs (rs := rs61) (by kernel_rfl) hv
              rw [q1]
              refine ⟨by simp, _, _, 80, _, rfl, hinv _, (catch_idle _ w2).mono ?_⟩
              rintro e u' w' ⟨rfl, rfl, rfl⟩
              exact ⟨cv, u1, v, σ', ρ', I', cv, rfl, u2, q3.ofDs, g5.trans q5, q6⟩
            · exact q6.elim
          cases e with
          | normal => exact key hl
          | ret => exact key hl
          | exit id =>
            obtain ⟨r, σ', ρ', I', q1, q2, q3, q4, q5, q6⟩ := hl
            exact q6.elim
          | goto l => exact (hl : False).elim
          | outgrown => exact (hl : False).elim
          | panic chain =>
            obtain ⟨hd, v, σ', ρ', I', cv, rfl, q2, q3, q4, c, x, rfl, hm, hq⟩ := hl
            show Leaves Try.prog Try.f61 a2.tmps _ a2.defers _ w2
            rw [hd]
            obtain ⟨cw, t4, hv4⟩ := hkp ⟨_, rfl⟩
            simp only [VRel] at hv4
            obtain ⟨pl', hp4, rfl⟩ := hv4
            have hpp : pl' = pl := by rw [hpl] at hp4; exact (Option.some.inj hp4).symm
            subst hpp
            have hρ : ρ' σ.next = some pl' := (q4.1 _ hlt0).trans hpl
            have hcv : cv = .iface 115 (.agg #[.int .i64 c]) := by
              simp only [VRel] at q2
              obtain ⟨y, rfl, cs', rfl, hsz, _, hC⟩ := q2
              obtain ⟨u, hu1, hu2⟩ := hC.get 0 (.int .i64 c) rfl
              simp only [VRel] at hu2
              subst hu2
              have h1 : cs'.size = 1 := hsz
              have : cs' = #[.int .i64 c] := by
                apply Array.ext (by simp [h1])
                intro i hi1 hi2
                have : i = 0 := by omega
                subst this
                rw [Array.getElem?_eq_getElem hi1] at hu1
                simpa using hu1
              rw [this]
            subst hcv
            have ra : Rel B w0 ρ' I' σ' (w2.alloc (.cells #[.int .i64 c] 115)) :=
              Rel.below q3.ofDs ((Below.refl _ _).alloc (Nat.le_refl _) _)
            obtain ⟨⟨u, c1⟩, c2, c3, c4⟩ := ra.setCell hρ hm (o := 0) (by simp) (v := .int .i64 c) (cv := .int .i64 c) (by simp [VRel]) rfl
            refine ⟨by simp, _, _, 80, _, rfl, hinv _, (catch_thrown _ c u w2 c1 c2).mono ?_⟩
            rintro e u' w' ⟨rfl, rfl, rfl⟩
            have hregs : RegsRel ρ' I' [(4, .ptr σ.next 0)] a2.tmps := by
              intro t v hv
              by_cases h4 : t = 4
              · subst h4
                simp at hv; subst hv
                exact ⟨_, t4, by simp only [VRel]; exact ⟨pl', hρ, rfl⟩⟩
              · have : (t == 4) = false := by simp [h4]
                simp [List.lookup, this] at hv
            obtain ⟨cv2, u1, u2⟩ := res_sound (P := Env.of Try.prog) (fn := Try.f61) hregs c3 (rs := rs61) (v := .int .i64 c) (by kernel_rfl) (by simp [rs61, resA, lk_cons])
            exact ⟨cv2, u1, .int .i64 c, _, ρ', I', cv2, rfl, u2, c3, (g5.trans q4).trans c4, hq⟩
      have hev6 : Act.eval { tmps := a.tmps.setIfInBounds 6 (Value.func (Fn.func 80) #[] #[cvp]), defers := a.defers } (.tmp 6) = Value.func (Fn.func 80) #[] #[cvp] := by
        show (a.tmps.setIfInBounds 6 (Value.func (Fn.func 80) #[] #[cvp])).getD 6 undef = _
        rw [Array.getD_eq_getD_getElem?, Array.getElem?_setIfInBounds_self]
        simp [g2]
      have hC1 := hC0
      revert hC1
      generalize bodyC Try.f61.body = CC
      intro hC1
      generalize hbr : bodyR Try.f61.body = ops
      simp only [bodyR, Try.f61] at hbr
      subst hbr
      simp [wpList, Oper.wp, execOp, hmf, hev, Oper.upon, Region.wanted, Act.put, resolve, hev6, Deferred.ofValue]
      left
      have hE : ∀ N E, Exit.then N E .normal = N := fun _ _ => rfl
      rw [hE]
      exact .inl hC1
    | ret =>
      obtain ⟨r, σ1, ρ1, I1, g1, g2, g3, g4, g5, g6, _⟩ := hl
      cases g6
    | exit id =>
      obtain ⟨r, σ1, ρ1, I1, g1, g2, g3, g4, g5, g6, _⟩ := hl
      cases g6
    | goto l => exact (hl : False).elim
    | panic c => exact hl.2.no.elim
    | outgrown => exact (hl : False).elim
  · intro t v hv
    obtain ⟨_, h2⟩ := argR_lookup [bv, fv] 0 t v hv
    rw [Nat.sub_zero] at h2
    obtain ⟨u, h3, h4⟩ := hargs.get t v h2
    have hlt := (Array.getElem?_eq_some_iff.1 h3).1
    exact ⟨u, by rw [Array.getElem?_append_left hlt]; exact h3, h4⟩
  · have : cargs.size = 2 := hsz
    simp [this]

end Go.Proofs.Ytinfnpbglapjhaa.AM

/- pack.Reader.Fail. -/
namespace Go.Proofs.Ytinfnpbglapjhaa.AM
open Go.RowKit
set_option maxRecDepth 100000

theorem fail_c {T : AVal → St → Prop} {rv : AVal} {c : Int} {σ : St} {Q : AVal → St → Prop} (hT : c ≠ 0 → T (.iface 115 (.agg [.int .i64 c])) σ) (hQ : c = 0 → Q (.tup []) σ) : ACall (Env.th Try.prog T) 83 [rv, .int .i64 c] σ Q := by
  refine ACall.of_compF hmx (fun a w => Try.call83 a w) Try.func83 cf83 (n := 2) (by decide) rfl ?_
  by_cases hc : c = 0
  · simp [ac83, rs83, lk_cons, hc, hQ]
  · simp [ac83, rs83, lk_cons, hc, hT, fillL, storeL]
end Go.Proofs.Ytinfnpbglapjhaa.AM

/- pack.Reader.take. -/
namespace Go.Proofs.Ytinfnpbglapjhaa.AM
open Go.RowKit
set_option maxRecDepth 100000
set_option linter.unusedSimpArgs false

end Go.Proofs.Ytinfnpbglapjhaa.AM

/- pack.Reader: take, number, U64, U16, over bytes. -/
namespace Go.Proofs.Ytinfnpbglapjhaa.AM
open Go.RowKit
set_option maxRecDepth 100000
set_option linter.unusedVariables false
set_option linter.unusedSimpArgs false

/-- The number that bytes say, the greatest first. -/
def be (l : List UInt8) : Nat := l.foldl (fun a b => a * 256 + b.toNat) 0
theorem be_snoc (l : List UInt8) (b : UInt8) : be (l ++ [b]) = be l * 256 + b.toNat := by simp [be, List.foldl_append]
theorem be_nil : be [] = 0 := rfl
theorem be_lt_aux : ∀ (l : List UInt8) (a : Nat), l.foldl (fun a b => a * 256 + b.toNat) a + 1 ≤ (a + 1) * 256 ^ l.length
  | [], a => by simp
  | b :: l, a => by
    have h := be_lt_aux l (a * 256 + b.toNat)
    have hb := b.toNat_lt
    simp only [List.foldl_cons, List.length_cons, Nat.pow_succ]
    refine Nat.le_trans h ?_
    have : (a * 256 + b.toNat + 1) * 256 ^ l.length ≤ ((a + 1) * 256) * 256 ^ l.length := Nat.mul_le_mul_right _ (by omega)
    rw [Nat.mul_comm (256 ^ l.length) 256, ← Nat.mul_assoc]
    exact this
theorem be_lt (l : List UInt8) : be l < 256 ^ l.length := by
  have := be_lt_aux l 0
  unfold be
  omega
theorem take_snoc {l : List UInt8} {i : Nat} {x : UInt8} (h : l[i]? = some x) : l.take (i + 1) = l.take i ++ [x] := by
  rw [List.take_add_one, h]; rfl

/-- What a reader throws where too little is left. -/
abbrev thrownV (c : Int) : AVal := .iface 115 (.agg [.int .i64 c])

theorem shl8 {x : Nat} (h : x * 256 < 18446744073709551616) (ρ : St) : evalV ρ (.bin .shl (.int .u64 (x : Nat)) (.int .u64 8)) = some (.int .u64 ((x : Int) * 256), ρ) := by
  have h1 : IntKind.u64.wrap ((x : Int) * 2 ^ min (Int.toNat 8) IntKind.u64.bits) = (x : Int) * 256 := by
    have : (2 : Int) ^ min (Int.toNat 8) IntKind.u64.bits = 256 := by decide
    rw [this]
    rw [IntWalk.u64_in] <;> omega
  simp only [evalV, abin, ashift, h1]
  rfl
theorem or8 {x : Nat} {b : UInt8} (h : x * 256 + b.toNat < 18446744073709551616) (ρ : St) : evalV ρ (.bin .or (.int .u64 ((x : Int) * 256)) (.int .u64 (b.toNat : Int))) = some (.int .u64 ((x * 256 + b.toNat : Nat) : Int), ρ) := by
  have hb := b.toNat_lt
  have h0 : (x : Int) * 256 = ((x * 256 : Nat) : Int) := by omega
  rw [h0]
  have h2 : ((BitVec.ofInt IntKind.u64.bits ((x * 256 : Nat) : Int)) ||| (BitVec.ofInt IntKind.u64.bits (b.toNat : Int))).toNat = x * 256 + b.toNat := by
    have e : IntKind.u64.bits = 64 := rfl
    rw [e]
    simp only [BitVec.ofInt_natCast, BitVec.toNat_or, BitVec.toNat_ofNat]
    rw [Nat.mod_eq_of_lt (by omega), Nat.mod_eq_of_lt (by omega)]
    have := Nat.two_pow_add_eq_or_of_lt (i := 8) (b := b.toNat) hb x
    rw [Nat.mul_comm x 256]
    exact this.symm
  simp only [evalV, abin, abinI, abits, h2, if_true]
  rw [IntWalk.u64_in] <;> first | rfl | omega
end Go.Proofs.Ytinfnpbglapjhaa.AM

/- pack.Writer: numbers, bytes, texts. -/
namespace Go.Proofs.Ytinfnpbglapjhaa.AM
set_option maxRecDepth 100000
set_option linter.unusedVariables false
set_option linter.unusedSimpArgs false

theorem beN_drop (n : Nat) : ∀ (d s : Nat), (beN (d + s) n).drop d = beN s n
  | 0, s => by simp
  | d + 1, s => by
    rw [show d + 1 + s = (d + s) + 1 by omega]
    simp only [beN, List.drop_succ_cons]
    exact beN_drop n d s
/-- A writer in memory: w its block, b the block of what was put. -/
abbrev WB (σ : St) (w : Nat) (l : List UInt8) (b : Option Nat) : Prop := HB rwB σ w l b
theorem shr8 {n i q : Nat} (hi : i < 8) (hq : n / 256 ^ i = q) (ρ : St) : evalV ρ (.bin .shr (.int .u64 (n : Int)) (.int .i64 (8 * (i : Int)))) = some (.int .u64 (q : Int), ρ) := by
  rw [← hq]
  have h0 : (8 : Int) * (i : Int) = ((8 * i : Nat) : Int) := by omega
  rw [h0]
  have h1 : ¬ (((8 * i : Nat) : Int) < 0) := by omega
  have h2 : min ((8 * i : Nat) : Int).toNat (IntKind.bits .u64) = 8 * i := by
    have : IntKind.bits .u64 = 64 := rfl
    rw [this, Int.toNat_natCast]; omega
  have h3 : (2 : Nat) ^ (8 * i) = 256 ^ i := by rw [Nat.pow_mul]
  simp only [evalV, abin, ashift, if_neg h1, h2]
  rw [Int.fdiv_eq_ediv_of_nonneg _ (Int.pow_nonneg (by omega))]
  simp only [Option.map_some]
  congr 3
  have h4 : ((2 : Int) ^ (8 * i)) = ((256 ^ i : Nat) : Int) := by rw [← h3]; simp
  rw [h4]
  exact (Int.natCast_ediv _ _).symm
theorem byte_wrap (x : Nat) : IntKind.u8.wrap (x : Int) = ((UInt8.ofNat x).toNat : Int) := by
  have h1 : (UInt8.ofNat x).toNat = x % 256 := by simp
  rw [h1]
  have h2 : IntKind.u8.wrap (x : Int) = (x : Int) % 256 := by
    have : IntKind.wrap .u8 (x : Int) = IntKind.wrap .u8 ((x : Int) % 256) := by
      simp [IntKind.wrap, IntKind.bits, IntKind.signed]
    rw [this, IntWalk.u8_in] <;> omega
  rw [h2]; omega

def WnJ (w size n : Nat) (σ0 : St) (mm : Nat) (rg : Regs) (σ' : St) : Prop := ∃ i, mm = 8 - i ∧ i ≤ 8 ∧ σ'.next = σ0.next + 1 ∧ σ'.mem.get σ0.next = some (.cells 1 (List.replicate (8 - i) (AVal.int .u8 0) ++ bytesV (beN i n))) ∧
  (∀ a, a ≠ σ0.next → σ'.mem.get a = σ0.mem.get a) ∧ rg = [(0, .ptr w 0), (1, .int .u64 (n : Int)), (2, .int .i64 (size : Int)), (6, .ptr σ0.next 0), (8, .int .i64 (i : Int))]
theorem wnum_c {σ : St} {w : Nat} {l : List UInt8} {b : Option Nat} (h : WB σ w l b) {n size : Nat} (hs : 1 ≤ size ∧ size ≤ 8) (hl : l.length ≤ 1000000000) (Q : AVal → St → Prop)
    (hQ : ∀ σ' b', WB σ' w (l ++ beN size n) b' → WStp w b b' σ σ' → Q (.tup []) σ') : ACall Try.prog 88 [.ptr w 0, .int .u64 (n : Int), .int .i64 (size : Int)] σ Q := by
  refine ACall.of_compF hmx (fun a w => Try.call88 a w) Try.func88 cf88 (n := 3) (by decide) rfl ?_
  simp [ac88, rs88, lk_cons]
  refine wp_loop (WnJ w size n σ) 8 ?_ ?_
  · exact ⟨0, rfl, by omega, rfl, by simp [beN, bytesV, List.replicate], fun a ha => by simp [ha], rfl⟩
  · rintro mm rg σ' ⟨i, rfl, hi, g1, g2, g3, rfl⟩
    by_cases hc : i < 8
    · have w1 : IntKind.i64.wrap (7 - (i : Int)) = ((7 - i : Nat) : Int) := by rw [IntWalk.i64_in] <;> omega
      have w2 : IntKind.i64.wrap (8 * (i : Int)) = 8 * (i : Int) := by rw [IntWalk.i64_in] <;> omega
      have w3 : IntKind.i64.wrap ((i : Int) + 1) = ((i + 1 : Nat) : Int) := by rw [IntWalk.i64_in] <;> omega
      obtain ⟨q, hq⟩ : ∃ q, n / 256 ^ i = q := ⟨_, rfl⟩
      have e1 := shr8 hc hq σ'
      have e2 := byte_wrap q
      obtain ⟨k, hk⟩ : ∃ k, 7 - i = k := ⟨_, rfl⟩
      rw [hk] at w1
      have hlt : (i : Int) < 8 := by omega
      have k1 : (k : Int) < 8 := by omega
      have k2 : k ≤ 7 := by omega
      have hset : storeL (List.replicate (8 - i) (AVal.int .u8 0) ++ bytesV (beN i n)) k [AVal.int .u8 ((q : Int) % 256)] = List.replicate (8 - (i + 1)) (AVal.int .u8 0) ++ bytesV (beN (i + 1) n) := by
        have h8 : 8 - i = k + 1 := by omega
        have h7 : 8 - (i + 1) = k := by omega
        rw [h8, h7]
        simp only [storeL]
        rw [List.set_append, if_pos (by simp), List.replicate_succ', List.set_append, if_neg (by simp), List.length_replicate]
        simp [beN, bytesV, hq]
      have hlen : (List.replicate (8 - i) (AVal.int .u8 0) ++ bytesV (beN i n)).length = 8 := by simp [bytesV_len, beN_len]; omega
      generalize List.replicate (8 - i) (AVal.int .u8 0) ++ bytesV (beN i n) = arr at g2 hset hlen
      simp [lk_cons, hlt, w1, w2, w3, ↓e1, e2, g2, k1, k2, hlen, hset]
      exact ⟨8 - (i + 1), by omega, i + 1, rfl, by omega, g1, by simp, fun a ha => by simp [ha, g3 a ha], by simp⟩
    · have : i = 8 := by omega
      subst this
      obtain ⟨v, h1, h2, h3, h4⟩ := h
      have m1 : σ'.mem.get w = some (.cells 1 [v]) := by rw [g3 w (by omega)]; exact h1
      have w1 : IntKind.i64.wrap (8 - (size : Int)) = ((8 - size : Nat) : Int) := by rw [IntWalk.i64_in] <;> omega
      obtain ⟨d, hd⟩ : ∃ d, 8 - size = d := ⟨_, rfl⟩
      rw [hd] at w1
      have k1 : d ≤ 8 := by omega
      have h2' : GS rwB σ' v l b := h2.keep (by omega) fun a ha _ => g3 a (by omega)
      have hsrc : srcL σ' 1 (.sl σ.next d (8 - d) (8 - d) true) = some (rws rwB (beN size n), (beN size n).length) := by
        have e1 : 8 - d = size := by omega
        have e2 : bytesV (beN size n) = (bytesV (beN 8 n)).drop d := by
          have := beN_drop n d size
          rw [show d + size = 8 by omega] at this
          rw [← this]; simp [bytesV, List.map_drop]
        simp [srcL, g2, e1, beN_len, rwsB, bytesV_len, show d + size ≤ 8 by omega]
        rw [e2, List.take_of_length_le (by rw [List.length_drop, bytesV_len, beN_len]; omega)]
      obtain ⟨v', σ2, b', e1, e2, e3, e4, e5⟩ := gs_appN h2' (by_ := 1) (by decide) hsrc (by rw [beN_len]; omega) (by rw [beN_len]; omega)
      have m2 : σ2.mem.get w = some (.cells 1 [v]) := by rw [e5 w (by omega) h3]; exact m1
      have hgl : (8 : Nat) ≤ (List.replicate (8 - 8) (AVal.int .u8 0) ++ bytesV (beN 8 n)).length := by simp [bytesV_len, beN_len]
      simp [bytesV_len, beN_len] at g2
      simp [lk_cons, m1, g2, w1, optM, asliceSl, bnd, k1, bytesV_len, beN_len, ↓e1, m2, e2.one, storeL]
      have hwb : b' ≠ some w := fun e => by
        rcases e3 with e3 | e3
        · exact h3 (e3 ▸ e)
        · rw [e3] at e; cases e; omega
      refine hQ _ b' ⟨v', by simp, e2.keep (by simp) fun a ha hb => ?_, hwb, by simp; omega⟩ ⟨by simp; omega, fun x hx => ?_, fun a ha hw hb => ?_⟩
      · have : a ≠ w := fun e => hwb (by rw [hb, e])
        simp [this]
      · rcases e3 with e3 | e3
        · exact .inl (e3 ▸ hx)
        · rw [e3] at hx; cases hx; exact .inr (by omega)
      · simp [hw]
        rw [e5 a (by omega) hb, g3 a (by omega)]
end Go.Proofs.Ytinfnpbglapjhaa.AM

/- pack.Writer: U8, U64, Bytes, Text, Done. -/
namespace Go.Proofs.Ytinfnpbglapjhaa.AM
set_option maxRecDepth 100000
set_option linter.unusedVariables false
set_option linter.unusedSimpArgs false

section
variable {σ : St} {w : Nat} {l : List UInt8} {b : Option Nat}
theorem wu64_c (h : WB σ w l b) {n : Nat} (hl : l.length ≤ 1000000000) (Q : AVal → St → Prop)
    (hQ : ∀ σ' b', WB σ' w (l ++ beN 8 n) b' → WStp w b b' σ σ' → Q (.tup []) σ') : ACall Try.prog 77 [.ptr w 0, .int .u64 (n : Int)] σ Q := by
  refine ACall.of_compF hmx (fun a w => Try.call77 a w) Try.func77 cf77 (n := 2) (by decide) rfl ?_
  simp [ac77, rs77, lk_cons]
  refine wnum_c h (size := 8) (by decide) hl _ fun σ' b' h1 h2 => ?_
  simp [lk_cons]
  exact hQ σ' b' h1 h2
theorem wdone_c (h : WB σ w l b) (hl : l.length ≤ 1000000000) (Q : AVal → St → Prop)
    (hQ : ∀ σ' v' b', GS rwB σ' v' l b' → (∀ x, b' = some x → σ.next ≤ x) → Grow σ σ' → Q v' σ') : ACall Try.prog 59 [.ptr w 0] σ Q := by
  refine ACall.of_compF hmx (fun a w => Try.call59 a w) Try.func59 cf59 (n := 1) (by decide) rfl ?_
  obtain ⟨v, h1, h2, h3, h4⟩ := id h
  simp [ac59, rs59, lk_cons, h1]
  refine ACall.of_compF hmx (fun a w => Try.call79 a w) Try.func79 cf79 (n := 1) (by decide) rfl ?_
  rcases id h2 with ⟨rfl, rfl, rfl⟩ | ⟨o, t, rfl, rfl, h5, h6⟩
  · simp [ac79, rs79, lk_cons]
    exact hQ σ .nilsl none (GS.nil σ) (by simp) ⟨Nat.le_refl _, fun _ _ => rfl⟩
  · have hg : GS rwB ⟨σ.mem.set σ.next (.cells 1 []), σ.next + 1⟩ (.sl σ.next 0 0 0 true) [] (some σ.next) := .inr ⟨σ.next, true, rfl, rfl, by simp, by simp [rws]⟩
    have hsrc : srcL ⟨σ.mem.set σ.next (.cells 1 []), σ.next + 1⟩ 1 (.sl o 0 l.length l.length t) = some (rws rwB l, l.length) := (h2.keep (by simp) fun a ha _ => by simp [show ¬ a = σ.next by omega]).src
    obtain ⟨v', σ2, b', e1, e2, e3, e4, e5⟩ := gs_appN hg (by_ := 1) (by decide) hsrc (by simp; omega) (by simp; omega)
    simp only [List.nil_append] at e2
    simp [ac79, rs79, lk_cons, fillL, repL, ↓e1]
    simp at e4 e5
    refine hQ _ v' b' e2 (fun x hx => ?_) ⟨by omega, fun a ha => ?_⟩
    · rcases e3 with e3 | e3
      · rw [e3] at hx; cases hx; omega
      · rw [e3] at hx; cases hx; simp
    · rw [e5 a (by omega) (by omega)]
      simp [show ¬ a = σ.next by omega]
end
end Go.Proofs.Ytinfnpbglapjhaa.AM
