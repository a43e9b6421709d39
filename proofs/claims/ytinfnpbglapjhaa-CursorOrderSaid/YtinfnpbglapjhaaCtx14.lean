/- What the functions of this chapter give: their contracts over the machine. -/
import Derived.Test.YtinfnpbglapjhaaCt14
/- The document's Next and Has. -/
namespace Go.Proofs.Ytinfnpbglapjhaa.AM
set_option maxRecDepth 100000
set_option linter.unusedVariables false
set_option linter.unusedSimpArgs false

theorem end_snoc {o : Int} (x : Ld) : ∀ (m : List Ld) (el ee : Int), endM o el ee (m ++ [x]) = (x.f0, szM x o, false)
  | [], _, _ => rfl
  | y :: m, _, _ => end_snoc x m _ _
def RnJ (v w : AVal) (o pl pe : Int) (A : List S25) (σ0 : St) (mm : Nat) (rg : Regs) (σ' : St) : Prop := ∃ i : Nat, mm = A.length - i ∧ i ≤ A.length ∧ A.find? (geB pl pe) = (A.drop i).find? (geB pl pe) ∧ Grow σ0 σ' ∧ σ0.next + 1 + 1 ≤ σ'.next ∧
  σ'.mem.get σ0.next = some (.cells 2 [u64 pl, u64 pe]) ∧ σ'.mem.get (σ0.next + 1) = some (.cells 2 [u64 0, u64 0]) ∧
  rg = [(0, v), (1, u64 o), (5, .ptr σ0.next 0), (6, .ptr (σ0.next + 1) 0), (8, w), (9, i64 i)]
theorem rnext_c {v : AVal} {l : List Ld} (hv : LdI v l) (hl : l.length ≤ 64) {o : Int} (hs : ∀ x ∈ l, 0 ≤ szM x o ∧ szM x o ≤ 100) {pl pe : Int} (hpe : 0 ≤ pe) (σ : St) (Q : AVal → St → Prop) (h : Q (np (nextM o pl pe 0 0 l)) σ) : ACall Try.prog 70 [v, u64 o, ps pl pe] σ Q := by
  refine ACall.scrub ?_
  refine ACall.of_compF hmx (fun a w => Try.call70 a w) Try.func70 cf70 (n := 3) (by decide) rfl ?_
  have l1 := hv.len
  have hA := all_len l hs
  have hfe : nextM o pl pe 0 0 l = pickM ((allM o l).find? (geB pl pe)) (endM o 0 0 l) := next_find hpe l 0 0 hs
  rw [hfe] at h
  simp [ac70, rs70, lk_cons]
  refine all_c hv hl hs _ _ fun w hw => ?_
  have l2 := (hw.m σ).len
  simp [lk_cons]
  refine wp_loop (RnJ v w o pl pe (allM o l) σ) (allM o l).length ?_ ?_
  · exact ⟨0, rfl, Nat.zero_le _, rfl, ⟨by simp; omega, fun a ha => by simp [show ¬ a = σ.next by omega, show ¬ a = σ.next + 1 by omega]⟩, by simp, by simp, by simp, rfl⟩
  · rintro mm rg σ' ⟨i, rfl, hi, hp, hg, hn, m1, m2, rfl⟩
    have gold : ∀ a, a < σ.next → σ'.mem.get a = σ.mem.get a := hg.2
    by_cases hlt : i < (allM o l).length
    · obtain ⟨x, hx⟩ : ∃ x, (allM o l)[i]? = some x := ⟨_, List.getElem?_eq_getElem hlt⟩
      obtain ⟨k, hk⟩ : ∃ k, i + 1 = k := ⟨_, rfl⟩
      have w1 : IntKind.i64.wrap ((i : Int) + 1) = (k : Int) := by rw [IntWalk.i64_in] <;> omega
      obtain ⟨p, p1, p2, _, _⟩ := (hw.m σ').at hx (ρ := σ') fun _ _ => rfl
      have hdr : (allM o l).drop i = x :: (allM o l).drop k := by rw [List.drop_eq_getElem_cons hlt, (List.getElem?_eq_some_iff.1 hx).2, hk]
      rw [hdr] at hp
      simp [lk_cons, ↓l2, hlt, ↓p1, ↓p2, m1]
      refine rorder_c x.f0 x.f1 pl pe _ _ ?_
      by_cases hc : 0 ≤ ordM x.f0 x.f1 pl pe
      · have hr : (x :: (allM o l).drop k).find? (geB pl pe) = some x := List.find?_cons_of_pos (by simp [geB, hc])
        rw [hp, hr] at h
        simp [lk_cons, ↓l2, hlt, ↓p1, ↓p2, m1, m2, hc, storeL]
        refine ⟨fun a ha => ?_, h⟩
        simp [show ¬ a = σ.next + 1 by omega]; exact gold a ha
      · have hr : (x :: (allM o l).drop k).find? (geB pl pe) = ((allM o l).drop k).find? (geB pl pe) := List.find?_cons_of_neg (by simp [geB]; omega)
        simp [lk_cons, ↓l2, hlt, ↓p1, ↓p2, m1, m2, hc, w1]
        exact ⟨(allM o l).length - k, by omega, k, rfl, by omega, by rw [hp, hr], hg, hn, m1, m2, rfl⟩
    · have : i = (allM o l).length := by omega
      subst this
      rw [List.drop_length] at hp
      have hr : ([] : List S25).find? (geB pl pe) = none := rfl
      rw [hp, hr] at h
      have z1 : ¬ σ.next + 1 = σ'.next := by omega
      rcases List.eq_nil_or_concat l with rfl | ⟨m, x, rfl⟩
      · simp [lk_cons, ↓l2, ↓l1, storeL, m2, fillL]
        refine ⟨fun a ha => ?_, h⟩
        simp [show ¬ a = σ.next + 1 by omega]; exact gold a ha
      · rw [List.concat_eq_append] at *
        rw [end_snoc] at h
        have hx : (m ++ [x])[m.length]? = some x := by simp
        obtain ⟨p, p1, p2, _⟩ := hv.at hx σ'
        have w3 : IntKind.i64.wrap (m.length : Int) = (m.length : Int) := by simp at hl; rw [IntWalk.i64_in] <;> omega
        have n0 : ¬ (m.length : Int) + 1 = 0 := by omega
        have l1' : ∀ ρ : St, evalV ρ (.len 1 v) = some (i64 ((m.length : Int) + 1), ρ) := fun ρ => by rw [l1]; simp
        simp [lk_cons, ↓l2, ↓l1', n0, w3, ↓p1, ↓p2, storeL]
        refine rsize_c x o _ _ ?_
        simp [lk_cons, storeL, fillL, m2, z1]
        refine ⟨fun a ha => ?_, h⟩
        simp [show ¬ a = σ.next + 1 by omega, show ¬ a = σ'.next by omega]; exact gold a ha
theorem rhas13_c {v : AVal} {l : List Ld} (hv : LdI v l) (hl : l.length ≤ 64) {o : Int} (hs : ∀ x ∈ l, 0 ≤ szM x o ∧ szM x o ≤ 100) {pl pe : Int} (hpe : 0 ≤ pe) (σ : St) (Q : AVal → St → Prop) (h : Q (.bool (hasM o pl pe l)) σ) : ACall Try.prog 37 [v, u64 o, ps pl pe] σ Q := by
  refine ACall.scrub ?_
  refine ACall.of_compF hmx (fun a w => Try.call37 a w) Try.func37 cf37 (n := 3) (by decide) rfl ?_
  simp [ac37, rs37, lk_cons, storeL]
  refine rnext_c hv hl hs hpe _ _ ?_
  unfold hasM at h
  obtain ⟨r, hr⟩ : ∃ r, nextM o pl pe 0 0 l = r := ⟨_, rfl⟩
  rw [hr] at h ⊢
  obtain ⟨a, b, c⟩ := r
  cases c with
  | false =>
    simp at h
    simp [lk_cons, storeL]
    exact ⟨fun a ha => by simp [show ¬ a = σ.next by omega, show ¬ a = σ.next + 1 by omega], h⟩
  | true =>
    simp at h
    simp [lk_cons, storeL, ↓eqs_ps]
    exact ⟨fun a ha => by simp [show ¬ a = σ.next by omega, show ¬ a = σ.next + 1 by omega], h⟩

end Go.Proofs.Ytinfnpbglapjhaa.AM

/- Gaps; what is held. -/
namespace Go.Proofs.Ytinfnpbglapjhaa.AM
set_option maxRecDepth 100000
set_option linter.unusedVariables false
set_option linter.unusedSimpArgs false

def GpJ (v : AVal) (n : Int) (l : List S25) (σ0 : St) (mm : Nat) (rg : Regs) (σ' : St) : Prop := ∃ (i : Nat) (g : Int), mm = l.length - i ∧ i ≤ l.length ∧ gapM n l = gapM g (l.drop i) ∧ Grow σ0 σ' ∧ rg = [(1, u64 g), (7, v), (8, i64 l.length), (9, i64 i)]
theorem gap_c {v : AVal} {l : List S25} (hv : RgI v l) (hl : l.length ≤ 1000000) (n : Int) (σ : St) (Q : AVal → St → Prop) (h : Q (u64 (gapM n l)) σ) : ACall Try.prog 52 [v, u64 n] σ Q := by
  refine ACall.scrub ?_
  refine ACall.of_compF hmx (fun a w => Try.call52 a w) Try.func52 cf52 (n := 2) (by decide) rfl ?_
  have l1 := (hv.m σ).len
  simp [ac52, rs52, lk_cons, ↓l1]
  refine wp_loop (GpJ v n l σ) l.length ?_ ?_
  · exact ⟨0, n, rfl, Nat.zero_le _, rfl, Grow.refl _, rfl⟩
  · rintro mm rg σ' ⟨i, g, rfl, hi, hp, hg, rfl⟩
    have gold : ∀ a, a < σ.next → σ'.mem.get a = σ.mem.get a := hg.2
    have gn := hg.1
    by_cases hlt : i < l.length
    · obtain ⟨x, hx⟩ : ∃ x, l[i]? = some x := ⟨_, List.getElem?_eq_getElem hlt⟩
      obtain ⟨k, hk⟩ : ∃ k, i + 1 = k := ⟨_, rfl⟩
      have w1 : IntKind.i64.wrap ((i : Int) + 1) = (k : Int) := by rw [IntWalk.i64_in] <;> omega
      obtain ⟨p, p1, p2, _, _⟩ := (hv.m σ').at hx (ρ := σ') fun _ _ => rfl
      have hdr : l.drop i = x :: l.drop k := by rw [List.drop_eq_getElem_cons hlt, (List.getElem?_eq_some_iff.1 hx).2, hk]
      rw [hdr] at hp
      simp only [gapM] at hp
      have gr : ∀ b0 b : Blk, Grow σ ⟨(σ'.mem.set σ'.next b0).set σ'.next b, σ'.next + 1⟩ := fun b0 b => ⟨by simp; omega, fun a ha => by simp [show ¬ a = σ'.next by omega]; exact gold a ha⟩
      by_cases c1 : x.f0 ≤ g
      · by_cases c2 : g < x.f1
        · rw [if_pos ⟨c1, c2⟩] at hp
          simp [lk_cons, hlt, ↓p1, ↓p2, storeL, c1, c2, w1]
          exact ⟨l.length - k, by omega, k, x.f1, rfl, by omega, hp, gr _ _, rfl⟩
        · rw [if_neg (fun h => c2 h.2)] at hp
          simp [lk_cons, hlt, ↓p1, ↓p2, storeL, c1, c2, w1]
          exact ⟨l.length - k, by omega, k, g, rfl, by omega, hp, gr _ _, rfl⟩
      · rw [if_neg (fun h => c1 h.1)] at hp
        simp [lk_cons, hlt, ↓p1, ↓p2, storeL, c1, w1]
        exact ⟨l.length - k, by omega, k, g, rfl, by omega, hp, gr _ _, rfl⟩
    · have : i = l.length := by omega
      subst this
      rw [List.drop_length] at hp
      have : gapM n l = g := hp
      subst this
      simp [lk_cons]
      exact ⟨gold, h⟩

def RgJ2 (v : AVal) (k : Nat) (g0 : Int) (l : List S25) (σ0 : St) (mm : Nat) (rg : Regs) (σ' : St) : Prop := ∃ (i : Nat) (g : Int), mm = l.length - i ∧ i ≤ l.length ∧ gapM g0 l = gapM g (l.drop i) ∧ σ' = σ0 ∧ rg = [(0, v), (1, u64 g), (5, i64 k), (6, i64 i)]
def RgJ (v : AVal) (n : Int) (l : List S25) (σ0 : St) (mm : Nat) (rg : Regs) (σ' : St) : Prop := ∃ (k : Nat) (g : Int), mm = l.length + 1 - k ∧ k ≤ l.length + 1 ∧ (k = 0 → g = n) ∧ (1 ≤ k → g = gapM n l) ∧ σ' = σ0 ∧ rg = [(0, v), (1, u64 g), (5, i64 k)]
theorem rgap_c {v : AVal} {l : List S25} (hv : RgI v l) (hl : l.length ≤ 1000000) {b : Int} (hc : Can b l) (n : Int) (σ : St) (Q : AVal → St → Prop) (h : Q (u64 (gapM n l)) σ) : ACall Try.prog 71 [v, u64 n] σ Q := by
  refine ACall.of_compF hmx (fun a w => Try.call71 a w) Try.func71 cf71 (n := 2) (by decide) rfl ?_
  have l1 := (hv.m σ).len
  have hself : gapM (gapM n l) l = gapM n l := gap_out l _ (gap_spec l b n hc).1
  simp [ac71, rs71, lk_cons]
  refine wp_loop (RgJ v n l σ) (l.length + 1) ?_ ?_
  · exact ⟨0, n, rfl, Nat.zero_le _, fun _ => rfl, by omega, rfl, rfl⟩
  · rintro mm rg σ' ⟨k, g, rfl, hk, hk0, hk1, rfl, rfl⟩
    by_cases hle : k ≤ l.length
    · obtain ⟨k', hk'⟩ : ∃ k', k + 1 = k' := ⟨_, rfl⟩
      have w0 : IntKind.i64.wrap ((k : Int) + 1) = (k' : Int) := by rw [IntWalk.i64_in] <;> omega
      simp [lk_cons, ↓l1, hle]
      refine wp_loop (RgJ2 v k g l σ') l.length ?_ ?_
      · exact ⟨0, g, rfl, Nat.zero_le _, rfl, rfl, rfl⟩
      · rintro m2 rg2 σ2 ⟨i, g2, rfl, hi, hp, rfl, rfl⟩
        by_cases hlt : i < l.length
        · obtain ⟨x, hx⟩ : ∃ x, l[i]? = some x := ⟨_, List.getElem?_eq_getElem hlt⟩
          obtain ⟨i', hi'⟩ : ∃ k, i + 1 = k := ⟨_, rfl⟩
          have w1 : IntKind.i64.wrap ((i : Int) + 1) = (i' : Int) := by rw [IntWalk.i64_in] <;> omega
          obtain ⟨p, p1, _, ⟨q0, a1, a2⟩, ⟨q1, b1, b2⟩⟩ := (hv.m σ2).at hx (ρ := σ2) fun _ _ => rfl
          have hdr : l.drop i = x :: l.drop i' := by rw [List.drop_eq_getElem_cons hlt, (List.getElem?_eq_some_iff.1 hx).2, hi']
          rw [hdr] at hp
          simp only [gapM] at hp
          by_cases c1 : x.f0 ≤ g2
          · by_cases c2 : g2 < x.f1
            · rw [if_pos ⟨c1, c2⟩] at hp
              simp [lk_cons, ↓l1, hlt, ↓p1, ↓a1, ↓a2, ↓b1, ↓b2, c1, c2, w1]
              exact ⟨l.length - i', by omega, i', x.f1, rfl, by omega, hp, rfl, rfl⟩
            · rw [if_neg (fun h => c2 h.2)] at hp
              simp [lk_cons, ↓l1, hlt, ↓p1, ↓a1, ↓a2, ↓b1, ↓b2, c1, c2, w1]
              exact ⟨l.length - i', by omega, i', g2, rfl, by omega, hp, rfl, rfl⟩
          · rw [if_neg (fun h => c1 h.1)] at hp
            simp [lk_cons, ↓l1, hlt, ↓p1, ↓a1, ↓a2, ↓b1, ↓b2, c1, w1]
            exact ⟨l.length - i', by omega, i', g2, rfl, by omega, hp, rfl, rfl⟩
        · have : i = l.length := by omega
          subst this
          rw [List.drop_length] at hp
          have hg2 : gapM g l = g2 := hp
          simp [lk_cons, ↓l1, w0]
          refine ⟨l.length + 1 - k', by omega, k', g2, rfl, by omega, by omega, fun _ => ?_, rfl, rfl⟩
          by_cases h0 : k = 0
          · rw [← hg2, hk0 h0]
          · rw [← hg2, hk1 (by omega), hself]
    · have hg := hk1 (by omega)
      subst hg
      simp [lk_cons, ↓l1, hle]
      exact h

end Go.Proofs.Ytinfnpbglapjhaa.AM

/- What is held; Acked. -/
namespace Go.Proofs.Ytinfnpbglapjhaa.AM
set_option maxRecDepth 100000
set_option linter.unusedVariables false
set_option linter.unusedSimpArgs false

theorem RgI.upto {v : AVal} {l : List S25} (h : RgI v l) (lo : Nat) : v.upto lo = true := by
  rcases h with ⟨rfl, rfl⟩ | ⟨t, rfl⟩
  · rfl
  · simp [rc_upto]
theorem RgI.one {v : AVal} {l : List S25} (h : RgI v l) : v.one = true ∧ cellsOf v = [v] := by
  rcases h with ⟨rfl, rfl⟩ | ⟨t, rfl⟩ <;> simp
def HC : List AVal → List Hd → Prop
  | [], [] => True
  | a :: b :: cs, x :: xs => a = u64 x.f0 ∧ RgI b x.f1 ∧ HC cs xs
  | _, _ => False
theorem HC.len : ∀ {cs : List AVal} {xs : List Hd}, HC cs xs → cs.length = xs.length * 2
  | [], [], _ => rfl
  | a :: b :: cs, x :: xs, h => by simp [h.2.2.len]; omega
  | [], _ :: _, h => h.elim
  | [_], _, h => by cases ‹List Hd› <;> exact h.elim
  | _ :: _ :: _, [], h => h.elim
theorem HC.get : ∀ {cs : List AVal} {xs : List Hd} {i : Nat} {x : Hd}, HC cs xs → xs[i]? = some x → ∃ r, RgI r x.f1 ∧ (cs.drop (i * 2)).take 2 = [u64 x.f0, r]
  | a :: b :: cs, y :: xs, 0, x, h, hx => by
    simp at hx; subst hx
    exact ⟨b, h.2.1, by simp [h.1]⟩
  | a :: b :: cs, y :: xs, i + 1, x, h, hx => by
    obtain ⟨r, h1, h2⟩ := h.2.2.get (i := i) (by simpa using hx)
    exact ⟨r, h1, by rw [show (i + 1) * 2 = i * 2 + 1 + 1 by omega]; simpa using h2⟩
  | [], [], _, _, _, hx => by simp at hx
  | [], _ :: _, _, _, h, _ => h.elim
  | [_], _, _, _, h, _ => by cases ‹List Hd› <;> exact h.elim
  | _ :: _ :: _, [], _, _, h, _ => h.elim
theorem HC.app : ∀ {cs ds : List AVal} {xs ys : List Hd}, HC cs xs → HC ds ys → HC (cs ++ ds) (xs ++ ys)
  | [], ds, [], ys, _, h => h
  | a :: b :: cs, ds, x :: xs, ys, h, k => ⟨h.1, h.2.1, h.2.2.app k⟩
  | [], _, _ :: _, _, h, _ => h.elim
  | [_], _, _, _, h, _ => by cases ‹List Hd› <;> exact h.elim
  | _ :: _ :: _, _, [], _, h, _ => h.elim
theorem HC.upto (lo : Nat) : ∀ {cs : List AVal} {xs : List Hd}, HC cs xs → uptoL lo cs = true
  | [], [], _ => rfl
  | a :: b :: cs, x :: xs, h => by simp [h.1, h.2.1.upto lo, h.2.2.upto lo]
  | [], _ :: _, h => h.elim
  | [_], _, h => by cases ‹List Hd› <;> exact h.elim
  | _ :: _ :: _, [], h => h.elim
/-- What is held, not changing. -/
def HI (v : AVal) (h : List Hd) : Prop := v = .nilsl ∧ h = [] ∨ ∃ cs t, v = .isl cs h.length t ∧ HC cs h
theorem HI.len {v : AVal} {h : List Hd} (hh : HI v h) (ρ : St) : evalV ρ (.len 1 v) = some (i64 h.length, ρ) := by
  rcases hh with ⟨rfl, rfl⟩ | ⟨cs, t, rfl, _⟩ <;> simp
theorem HI.one {v : AVal} {h : List Hd} (hh : HI v h) : v.one = true ∧ cellsOf v = [v] := by
  rcases hh with ⟨rfl, rfl⟩ | ⟨cs, t, rfl, _⟩ <;> simp
theorem HI.upto {v : AVal} {h : List Hd} (hh : HI v h) (lo : Nat) : v.upto lo = true := by
  rcases hh with ⟨rfl, rfl⟩ | ⟨cs, t, rfl, hc⟩
  · rfl
  · simp [hc.upto]
theorem HI.at {v : AVal} {h : List Hd} (hh : HI v h) {i : Nat} {x : Hd} (hx : h[i]? = some x) (ρ : St) :
    ∃ p r, RgI r x.f1 ∧ evalV ρ (.idxAddr 2 v (i64 i)) = some (p, ρ) ∧ evalV ρ (.ldn 2 p) = some (.agg [u64 x.f0, r], ρ) ∧ (∃ q, evalV ρ (.fieldAddr 0 p) = some (q, ρ) ∧ evalV ρ (.ld1 q) = some (u64 x.f0, ρ)) ∧ ∃ q, evalV ρ (.fieldAddr 1 p) = some (q, ρ) ∧ evalV ρ (.ld1 q) = some (r, ρ) := by
  have hi := (List.getElem?_eq_some_iff.1 hx).1
  rcases hh with ⟨rfl, rfl⟩ | ⟨cs, t, rfl, hc⟩
  · simp at hx
  · obtain ⟨r, hr, e⟩ := hc.get hx
    have h1 := hr.one.1
    exact ⟨.iptr [u64 x.f0, r], r, hr, by simp [hi, e], by simp [h1], ⟨.iptr [u64 x.f0, r], by simp, by simp⟩, ⟨.iptr [r], by simp, by simp⟩⟩

/-- A cursor. -/
abbrev cv (ml me : Int) (v : AVal) : AVal := .agg [u64 ml, u64 me, v]
def HdJ (hv : AVal) (L : Int) (h : List Hd) (σ0 : St) (mm : Nat) (rg : Regs) (σ' : St) : Prop := ∃ i : Nat, mm = h.length - i ∧ i ≤ h.length ∧ ofM L h = ofM L (h.drop i) ∧ Grow σ0 σ' ∧ rg = [(1, u64 L), (8, hv), (9, i64 h.length), (10, i64 i)]
theorem held_c {hv : AVal} {h : List Hd} (hh : HI hv h) (hl : h.length ≤ 1000000) (ml me L : Int) (σ : St) (Q : AVal → St → Prop) (hq : ∀ r, RgI r (ofM L h) → Q r σ) : ACall Try.prog 46 [cv ml me hv, u64 L] σ Q := by
  refine ACall.scrub ?_
  refine ACall.of_compF hmx (fun a w => Try.call46 a w) Try.func46 cf46 (n := 2) (by decide) rfl ?_
  have l1 := hh.len
  have h1 := hh.one.1
  have h2 := hh.one.2
  simp [ac46, rs46, lk_cons, h1, h2, ↓l1]
  refine wp_loop (HdJ hv L h σ) h.length ?_ ?_
  · exact ⟨0, rfl, Nat.zero_le _, rfl, ⟨by simp, fun a ha => by simp [show ¬ a = σ.next by omega]⟩, rfl⟩
  · rintro mm rg σ' ⟨i, rfl, hi, hp, hg, rfl⟩
    have gold : ∀ a, a < σ.next → σ'.mem.get a = σ.mem.get a := hg.2
    have gn := hg.1
    by_cases hlt : i < h.length
    · obtain ⟨x, hx⟩ : ∃ x, h[i]? = some x := ⟨_, List.getElem?_eq_getElem hlt⟩
      obtain ⟨k, hk⟩ : ∃ k, i + 1 = k := ⟨_, rfl⟩
      have w1 : IntKind.i64.wrap ((i : Int) + 1) = (k : Int) := by rw [IntWalk.i64_in] <;> omega
      obtain ⟨p, r, hr, p1, p2, _, _⟩ := hh.at hx σ'
      have r1 := hr.one.1
      have r2 := hr.one.2
      have hdr : h.drop i = x :: h.drop k := by rw [List.drop_eq_getElem_cons hlt, (List.getElem?_eq_some_iff.1 hx).2, hk]
      rw [hdr] at hp
      simp only [ofM] at hp
      have gr : ∀ b0 b : Blk, Grow σ ⟨(σ'.mem.set σ'.next b0).set σ'.next b, σ'.next + 1⟩ := fun b0 b => ⟨by simp; omega, fun a ha => by simp [show ¬ a = σ'.next by omega]; exact gold a ha⟩
      by_cases c1 : x.f0 = L
      · rw [if_pos c1] at hp
        simp [lk_cons, hlt, ↓p1, ↓p2, storeL, c1, r1, r2]
        exact ⟨hr.upto _, fun a ha => by simp [show ¬ a = σ'.next by omega]; exact gold a ha, hq r (by rw [hp]; exact hr)⟩
      · rw [if_neg c1] at hp
        simp [lk_cons, hlt, ↓p1, ↓p2, storeL, c1, r1, r2, w1]
        exact ⟨h.length - k, by omega, k, rfl, by omega, hp, gr _ _, rfl⟩
    · have : i = h.length := by omega
      subst this
      rw [List.drop_length] at hp
      have : ofM L h = [] := hp
      simp [lk_cons]
      exact ⟨gold, hq _ (.inl ⟨rfl, this⟩)⟩
def OfJ (hv : AVal) (L : Int) (h : List Hd) (σ0 : St) (mm : Nat) (rg : Regs) (σ' : St) : Prop := ∃ i : Nat, mm = h.length - i ∧ i ≤ h.length ∧ ofM L h = ofM L (h.drop i) ∧ σ' = σ0 ∧ rg = [(1, u64 L), (2, .ptr (σ0.next - 1) 0), (5, i64 i)]
theorem of_c {hv : AVal} {h : List Hd} (hh : HI hv h) (hl : h.length ≤ 1000000) (ml me L : Int) (σ : St) (Q : AVal → St → Prop) (hq : ∀ r, RgI r (ofM L h) → Q r σ) : ACall Try.prog 38 [cv ml me hv, u64 L] σ Q := by
  refine ACall.scrub ?_
  refine ACall.of_compF hmx (fun a w => Try.call38 a w) Try.func38 cf38 (n := 2) (by decide) rfl ?_
  have l1 := hh.len
  have h1 := hh.one.1
  have h2 := hh.one.2
  simp [ac38, rs38, lk_cons, h1, h2]
  refine wp_loop (OfJ hv L h ⟨σ.mem.set σ.next (.cells 3 [u64 ml, u64 me, hv]), σ.next + 1⟩) h.length ?_ ?_
  · exact ⟨0, rfl, Nat.zero_le _, rfl, rfl, by simp [lk_cons]⟩
  · rintro mm rg σ' ⟨i, rfl, hi, hp, rfl, rfl⟩
    by_cases hlt : i < h.length
    · obtain ⟨x, hx⟩ : ∃ x, h[i]? = some x := ⟨_, List.getElem?_eq_getElem hlt⟩
      obtain ⟨k, hk⟩ : ∃ k, i + 1 = k := ⟨_, rfl⟩
      have w1 : IntKind.i64.wrap ((i : Int) + 1) = (k : Int) := by rw [IntWalk.i64_in] <;> omega
      obtain ⟨p, r, hr, p1, _, ⟨q0, a1, a2⟩, ⟨q1, b1, b2⟩⟩ := hh.at hx ⟨σ.mem.set σ.next (.cells 3 [u64 ml, u64 me, hv]), σ.next + 1⟩
      have hdr : h.drop i = x :: h.drop k := by rw [List.drop_eq_getElem_cons hlt, (List.getElem?_eq_some_iff.1 hx).2, hk]
      rw [hdr] at hp
      simp only [ofM] at hp
      by_cases c1 : x.f0 = L
      · rw [if_pos c1] at hp
        simp [lk_cons, ↓l1, hlt, ↓p1, ↓a1, ↓a2, ↓b1, ↓b2, c1]
        exact ⟨hr.upto _, fun a ha => by simp [show ¬ a = σ.next by omega], hq r (by rw [hp]; exact hr)⟩
      · rw [if_neg c1] at hp
        simp [lk_cons, ↓l1, hlt, ↓p1, ↓a1, ↓a2, ↓b1, ↓b2, c1, w1]
        exact ⟨h.length - k, by omega, k, rfl, by omega, hp, rfl, by simp [lk_cons]⟩
    · have : i = h.length := by omega
      subst this
      rw [List.drop_length] at hp
      have : ofM L h = [] := hp
      simp [lk_cons, ↓l1]
      exact ⟨fun a ha => by simp [show ¬ a = σ.next by omega], hq _ (.inl ⟨rfl, this⟩)⟩

end Go.Proofs.Ytinfnpbglapjhaa.AM

/- What is held, grown in memory; put. -/
namespace Go.Proofs.Ytinfnpbglapjhaa.AM
set_option maxRecDepth 100000
set_option linter.unusedVariables false
set_option linter.unusedSimpArgs false

/-- Ranges that do not change, or lie in a new block. -/
def RgN (lo hi : Nat) (m : Mem) (v : AVal) (l : List S25) : Prop := RgI v l ∨ ∃ b c t, v = .sl b 0 l.length c t ∧ lo ≤ b ∧ b < hi ∧ m.get b = some (.cells 2 (rc l))
theorem RgN.one {lo hi : Nat} {m : Mem} {v : AVal} {l : List S25} (h : RgN lo hi m v l) : v.one = true ∧ cellsOf v = [v] := by
  rcases h with h | ⟨b, c, t, rfl, _⟩
  · exact h.one
  · exact ⟨rfl, rfl⟩
theorem RgN.mono {lo lo' hi hi' : Nat} {m m' : Mem} {v : AVal} {l : List S25} (h : RgN lo hi m v l) (h1 : lo' ≤ lo) (h2 : hi ≤ hi') (hm : ∀ a, lo ≤ a → a < hi → m'.get a = m.get a) : RgN lo' hi' m' v l := by
  rcases h with h | ⟨b, c, t, e, k1, k2, k3⟩
  · exact .inl h
  · exact .inr ⟨b, c, t, e, Nat.le_trans h1 k1, Nat.lt_of_lt_of_le k2 h2, (hm b k1 k2).trans k3⟩
theorem rc_frz0 (lo : Nat) (m : Mem) (l : List S25) : listM (frzD lo m 0) (rc l) = some (rc l) := by
  refine listM_id ?_
  induction l with
  | nil => intro x hx; simp [rc] at hx
  | cons y t ih =>
    intro x hx
    simp only [rc, List.mem_cons] at hx
    rcases hx with rfl | rfl | hx
    · simp [frzD]
    · simp [frzD]
    · exact ih x hx
theorem RgN.frz {lo lo' hi : Nat} {m : Mem} {v : AVal} {l : List S25} (h : RgN lo hi m v l) (hl : lo' ≤ lo) : ∃ v', frzD lo' m 1 v = some v' ∧ RgI v' l := by
  rcases h with h | ⟨b, c, t, rfl, k1, k2, k3⟩
  · refine ⟨v, ?_, h⟩
    have := h.upto lo'
    rcases h with ⟨rfl, rfl⟩ | ⟨t, rfl⟩
    · simp [frzD]
    · simp only [frzD, this, if_true]
  · refine ⟨.isl (rc l) l.length (t && decide (c = l.length)), ?_, .inr ⟨_, rfl⟩⟩
    rw [frzD_sl (Nat.le_trans hl k1) k3 (by rw [rc_len]; omega), List.drop_zero, List.take_of_length_le (by rw [rc_len]; omega), rc_frz0]
    rfl
def HCM (lo hi : Nat) (m : Mem) : List AVal → List Hd → Prop
  | [], [] => True
  | a :: b :: cs, x :: xs => a = u64 x.f0 ∧ RgN lo hi m b x.f1 ∧ HCM lo hi m cs xs
  | _, _ => False
theorem HCM.len {lo hi : Nat} {m : Mem} : ∀ {cs : List AVal} {xs : List Hd}, HCM lo hi m cs xs → cs.length = xs.length * 2
  | [], [], _ => rfl
  | a :: b :: cs, x :: xs, h => by simp [h.2.2.len]; omega
  | [], _ :: _, h => h.elim
  | [_], _, h => by cases ‹List Hd› <;> exact h.elim
  | _ :: _ :: _, [], h => h.elim
theorem HCM.app {lo hi : Nat} {m : Mem} : ∀ {cs ds : List AVal} {xs ys : List Hd}, HCM lo hi m cs xs → HCM lo hi m ds ys → HCM lo hi m (cs ++ ds) (xs ++ ys)
  | [], ds, [], ys, _, h => h
  | a :: b :: cs, ds, x :: xs, ys, h, k => ⟨h.1, h.2.1, h.2.2.app k⟩
  | [], _, _ :: _, _, h, _ => h.elim
  | [_], _, _, _, h, _ => by cases ‹List Hd› <;> exact h.elim
  | _ :: _ :: _, _, [], _, h, _ => h.elim
theorem HCM.mono {lo lo' hi hi' : Nat} {m m' : Mem} (h1 : lo' ≤ lo) (h2 : hi ≤ hi') (hm : ∀ a, lo ≤ a → a < hi → m'.get a = m.get a) : ∀ {cs : List AVal} {xs : List Hd}, HCM lo hi m cs xs → HCM lo' hi' m' cs xs
  | [], [], _ => trivial
  | a :: b :: cs, x :: xs, h => ⟨h.1, h.2.1.mono h1 h2 hm, HCM.mono h1 h2 hm h.2.2⟩
  | [], _ :: _, h => h.elim
  | [_], _, h => by cases ‹List Hd› <;> exact h.elim
  | _ :: _ :: _, [], h => h.elim
theorem HCM.frz {lo lo' hi : Nat} {m : Mem} (hl : lo' ≤ lo) : ∀ {cs : List AVal} {xs : List Hd}, HCM lo hi m cs xs → ∃ cs', listM (frzD lo' m 1) cs = some cs' ∧ HC cs' xs
  | [], [], _ => ⟨[], rfl, trivial⟩
  | a :: b :: cs, x :: xs, h => by
    obtain ⟨cs', h1, h2⟩ := HCM.frz hl h.2.2
    obtain ⟨b', h3, h4⟩ := h.2.1.frz hl
    refine ⟨u64 x.f0 :: b' :: cs', ?_, rfl, h4, h2⟩
    have e : frzD lo' m 1 (u64 x.f0) = some (u64 x.f0) := by simp [frzD]
    rw [listM_cons, h.1, e, listM_cons, h3, h1]
    rfl
  | [], _ :: _, h => h.elim
  | [_], _, h => by cases ‹List Hd› <;> exact h.elim
  | _ :: _ :: _, [], h => h.elim
/-- What is held, grown by appends. -/
def HOut (lo : Nat) (σ' : St) (v : AVal) (h : List Hd) : Prop := v = .nilsl ∧ h = [] ∨ ∃ o cs, v = .sl o 0 h.length h.length false ∧ 0 < h.length ∧ lo ≤ o ∧ o < σ'.next ∧ σ'.mem.get o = some (.cells 2 cs) ∧ HCM lo o σ'.mem cs h
theorem HOut.one {lo : Nat} {σ' : St} {v : AVal} {h : List Hd} (hh : HOut lo σ' v h) : v.one = true ∧ cellsOf v = [v] := by
  rcases hh with ⟨rfl, _⟩ | ⟨o, cs, rfl, _⟩ <;> exact ⟨rfl, rfl⟩
theorem HOut.frame {lo : Nat} {σ1 σ2 : St} {v : AVal} {h : List Hd} (hh : HOut lo σ1 v h) (hn : σ1.next ≤ σ2.next) (hm : ∀ a, lo ≤ a → a < σ1.next → σ2.mem.get a = σ1.mem.get a) : HOut lo σ2 v h := by
  rcases hh with hh | ⟨o, cs, h1, h2, h3, h4, h5, h6⟩
  · exact .inl hh
  · exact .inr ⟨o, cs, h1, h2, h3, by omega, (hm o h3 h4).trans h5, h6.mono (Nat.le_refl _) (Nat.le_refl _) fun a ha hb => hm a ha (by omega)⟩
theorem HOut.frz {lo lo' : Nat} {σ' : St} {v : AVal} {h : List Hd} (hh : HOut lo σ' v h) (hl : lo' ≤ lo) (ml me : Int) : ∃ hv, frzD lo' σ'.mem 3 (cv ml me v) = some (cv ml me hv) ∧ HI hv h := by
  have e : ∀ n : Int, frzD lo' σ'.mem 2 (u64 n) = some (u64 n) := fun n => by simp [frzD]
  have ag : ∀ vs : List AVal, frzD lo' σ'.mem 3 (.agg vs) = (listM (frzD lo' σ'.mem 2) vs).map .agg := fun vs => by simp only [frzD]
  rcases hh with ⟨rfl, rfl⟩ | ⟨o, cs, rfl, h2, h3, h4, h5, h6⟩
  · refine ⟨.nilsl, ?_, .inl ⟨rfl, rfl⟩⟩
    rw [ag, listM_cons, e, listM_cons, e, listM_cons]
    simp [frzD, AM.listM]
  · obtain ⟨cs', k1, k2⟩ := h6.frz hl
    have hlen := h6.len
    have es : frzD lo' σ'.mem 2 (.sl o 0 h.length h.length false) = some (.isl cs' h.length false) := by
      rw [frzD_sl (Nat.le_trans hl h3) h5 (by rw [hlen]; omega), List.drop_zero, List.take_of_length_le (by rw [hlen]; omega), k1]
      rfl
    refine ⟨.isl cs' h.length false, ?_, .inr ⟨cs', false, rfl, k2⟩⟩
    rw [ag, listM_cons, e, listM_cons, e, listM_cons, es]
    rfl
theorem hout_app {lo : Nat} {ρ0 ρ : St} {ov : AVal} {h : List Hd} (ho : HOut lo ρ0 ov h) (hn : ρ0.next ≤ ρ.next) (hm : ∀ a, lo ≤ a → a < ρ0.next → ρ.mem.get a = ρ0.mem.get a) (hlen : h.length ≤ 100000) {b : Nat} {L : Int} {rv : AVal} {r : List S25}
    (hb : ρ.mem.get b = some (.cells 2 [u64 L, rv])) (hr : RgN ρ0.next ρ.next ρ.mem rv r) (hlo : lo ≤ ρ0.next) :
    ∃ w ρ', evalV ρ (.append 2 32 ov (.sl b 0 1 1 true)) = some (w, ρ') ∧ HOut lo ρ' w (h ++ [⟨L, r⟩]) ∧ ρ'.next = ρ.next + 1 ∧ ∀ a, a < ρ.next → (a < lo ∨ ρ0.next ≤ a) → ρ'.mem.get a = ρ.mem.get a := by
  rcases ho with ⟨rfl, rfl⟩ | ⟨o, cs, rfl, h2, h3, h4, h5, h6⟩
  · refine ⟨.sl ρ.next 0 1 1 false, ⟨ρ.mem.set ρ.next (.cells 2 [u64 L, rv]), ρ.next + 1⟩, by simp [srcL, hb], .inr ⟨ρ.next, [u64 L, rv], rfl, by simp, by omega, Nat.lt_succ_self _, by simp, rfl, ?_, trivial⟩, rfl, fun a ha _ => ?_⟩
    · exact hr.mono hlo (Nat.le_refl _) fun a ha hb => by simp [show ¬ a = ρ.next by omega]
    · simp [show ¬ a = ρ.next by omega]
  · have hl := h6.len
    have k1 : ¬ h.length + 1 ≤ h.length := by omega
    have k2 : h.length * 2 ≤ cs.length := by omega
    have k3 : (h.length + 1) * 32 ≤ 140737488355328 ∧ h.length ≤ 9223372036854775806 := by omega
    have k4 : cs.take (h.length * 2) = cs := List.take_of_length_le (by omega)
    have hmo := (hm o h3 h4).trans h5
    refine ⟨.sl ρ.next 0 (h.length + 1) (h.length + 1) false, ⟨(ρ.mem.del o).set ρ.next (.cells 2 (cs ++ [u64 L, rv])), ρ.next + 1⟩, by simp [srcL, hb, hmo, k1, k2, k3, k4], .inr ⟨ρ.next, cs ++ [u64 L, rv], by simp, by simp, by omega, Nat.lt_succ_self _, by simp, HCM.app ?_ ⟨rfl, ?_, trivial⟩⟩, rfl, fun a ha hb => ?_⟩
    · exact h6.mono (Nat.le_refl _) (by omega) fun a ha hb => by simp [show ¬ a = ρ.next by omega, show ¬ a = o by omega]; exact hm a ha (by omega)
    · exact hr.mono hlo (Nat.le_refl _) fun a ha hb => by simp [show ¬ a = ρ.next by omega, show ¬ a = o by omega]
    · simp [show ¬ a = ρ.next by omega, show ¬ a = o by omega]

end Go.Proofs.Ytinfnpbglapjhaa.AM

/- put. -/
namespace Go.Proofs.Ytinfnpbglapjhaa.AM
set_option maxRecDepth 100000
set_option linter.unusedVariables false
set_option linter.unusedSimpArgs false

def putM' (L e : Int) : Bool → List Hd → List Hd
  | d, [] => if d = true then [] else [⟨L, [⟨e, e + 1⟩]⟩]
  | d, x :: t => if x.f0 = L then ⟨x.f0, addM e (e + 1) x.f1⟩ :: putM' L e true t else if x.f0 > L ∧ d = false then ⟨L, [⟨e, e + 1⟩]⟩ :: x :: putM' L e true t else x :: putM' L e d t
def PuJ (hv : AVal) (ml me L e : Int) (h : List Hd) (σ0 : St) (mm : Nat) (rg : Regs) (σ' : St) : Prop := ∃ (i : Nat) (d : Bool) (ov : AVal) (acc : List Hd), mm = h.length - i ∧ i ≤ h.length ∧ acc ++ putM' L e d (h.drop i) = putM' L e false h ∧ acc.length ≤ i + (if d = true then 1 else 0) ∧ Grow σ0 σ' ∧ σ0.next + 1 + 1 + 1 + 1 ≤ σ'.next ∧ HOut (σ0.next + 1 + 1 + 1 + 1) σ' ov acc ∧
  σ'.mem.get σ0.next = some (.cells 3 [u64 ml, u64 me, hv]) ∧ σ'.mem.get (σ0.next + 1) = some (.cells 2 [u64 L, u64 e]) ∧ σ'.mem.get (σ0.next + 1 + 1) = some (.cells 3 [u64 0, u64 0, .nilsl]) ∧ σ'.mem.get (σ0.next + 1 + 1 + 1) = some (.cells 2 [u64 e, u64 (e + 1)]) ∧
  rg = [(2, .ptr σ0.next 0), (3, .ptr (σ0.next + 1) 0), (4, .ptr (σ0.next + 1 + 1) 0), (5, .ptr (σ0.next + 1 + 1 + 1) 0), (6, ov), (7, .bool d), (17, hv), (18, i64 h.length), (19, i64 i)]
set_option maxHeartbeats 1000000 in
theorem put14_c {hv : AVal} {h : List Hd} (hh : HI hv h) (hl : h.length ≤ 10000) (hr : ∀ x ∈ h, GoodR x.f1 ∧ x.f1.length ≤ 10000) (ml me L e : Int) (he : 0 ≤ e ∧ e < 18446744073709551615) (σ : St) (Q : AVal → St → Prop) (hq : ∀ hv', HI hv' (putM' L e false h) → Q (cv ml me hv') σ) : ACall Try.prog 36 [cv ml me hv, ps L e] σ Q := by
  refine ACall.freezeD 3 ?_
  refine ACall.of_compF hmx (fun a w => Try.call36 a w) Try.func36 cf36 (n := 2) (by decide) rfl ?_
  have l1 := hh.len
  have h1 := hh.one.1
  have h2 := hh.one.2
  have we : IntKind.u64.wrap (e + 1) = e + 1 := by rw [IntWalk.u64_in]; omega
  have a1 : ¬ σ.next = σ.next + 1 + 1 := by omega
  have a2 : ¬ σ.next = σ.next + 1 + 1 + 1 := by omega
  have a3 : ¬ σ.next + 1 = σ.next + 1 + 1 + 1 := by omega
  simp [ac36, rs36, lk_cons, h1, h2, fillL, storeL, we, a1, a2, a3, ↓l1]
  refine wp_loop (PuJ hv ml me L e h σ) h.length ?_ ?_
  · exact ⟨0, false, .nilsl, [], rfl, Nat.zero_le _, rfl, by simp, ⟨by simp; omega, fun a ha => by simp [show ¬ a = σ.next by omega, show ¬ a = σ.next + 1 by omega, show ¬ a = σ.next + 1 + 1 by omega, show ¬ a = σ.next + 1 + 1 + 1 by omega]⟩, by simp, .inl ⟨rfl, rfl⟩, by simp [a1, a2, a3], by simp [a1, a2, a3], by simp, by simp, rfl⟩
  · rintro mm rg σ' ⟨i, d, ov, acc, rfl, hi, hp, hac, hg, hn, ho, m1, m2, m3, m4, rfl⟩
    have gold : ∀ a, a < σ.next → σ'.mem.get a = σ.mem.get a := hg.2
    have z1 : ¬ σ.next = σ'.next := by omega
    have z2 : ¬ σ.next + 1 = σ'.next := by omega
    have z3 : ¬ σ.next + 1 + 1 = σ'.next := by omega
    have z4 : ¬ σ.next + 1 + 1 + 1 = σ'.next := by omega
    have o1 := ho.one.1
    have o2 := ho.one.2
    by_cases hlt : i < h.length
    · obtain ⟨x, hx⟩ : ∃ x, h[i]? = some x := ⟨_, List.getElem?_eq_getElem hlt⟩
      obtain ⟨k, hk⟩ : ∃ k, i + 1 = k := ⟨_, rfl⟩
      have w1 : IntKind.i64.wrap ((i : Int) + 1) = (k : Int) := by rw [IntWalk.i64_in] <;> omega
      obtain ⟨p, r, hri, p1, p2, _, _⟩ := hh.at hx σ'
      have r1 := hri.one.1
      have r2 := hri.one.2
      have hdr : h.drop i = x :: h.drop k := by rw [List.drop_eq_getElem_cons hlt, (List.getElem?_eq_some_iff.1 hx).2, hk]
      rw [hdr] at hp
      have hxr := hr x (List.mem_of_getElem? hx)
      simp only [putM'] at hp
      have hacl : acc.length ≤ 20000 := by split at hac <;> omega
      have fin : ∀ (d' : Bool) (w : AVal) (acc' : List Hd) (ρ' : St), HOut (σ.next + 1 + 1 + 1 + 1) ρ' w acc' → σ'.next ≤ ρ'.next → (∀ a, a < σ.next + 1 + 1 + 1 + 1 → ρ'.mem.get a = σ'.mem.get a) → acc' ++ putM' L e d' (h.drop k) = putM' L e false h → acc'.length ≤ k + (if d' = true then 1 else 0) →
          ∃ mm, mm < h.length - i ∧ PuJ hv ml me L e h σ mm [(2, .ptr σ.next 0), (3, .ptr (σ.next + 1) 0), (4, .ptr (σ.next + 1 + 1) 0), (5, .ptr (σ.next + 1 + 1 + 1) 0), (6, w), (7, .bool d'), (17, hv), (18, i64 h.length), (19, i64 k)] ρ' := by
        intro d' w acc' ρ' e1 e2 e3 e4 e5
        exact ⟨h.length - k, by omega, k, d', w, acc', rfl, by omega, e4, e5, ⟨by have := hg.1; omega, fun a ha => (e3 a (by omega)).trans (gold a ha)⟩, by omega, e1, (e3 _ (by omega)).trans m1, (e3 _ (by omega)).trans m2, (e3 _ (by omega)).trans m3, (e3 _ (by omega)).trans m4, rfl⟩
      by_cases c1 : x.f0 = L
      · rw [if_pos c1] at hp
        simp [lk_cons, hlt, ↓p1, ↓p2, storeL, r1, r2, m1, m2, m3, m4, z1, z2, z3, z4, c1]
        refine add_c (hri.m _) hxr.2 e (e + 1) hxr.1.1 _ (fun hle => absurd hle (by omega)) fun _ v' hv' => ?_
        have v1 := hv'.one.1
        have v2 := hv'.one.2
        obtain ⟨w, ρ', e1, e2, e3, e4⟩ := hout_app (b := σ'.next + 1) (L := L) (rv := v') (ρ0 := σ') (ρ := ⟨(((σ'.mem.set σ'.next (.cells 2 [.int .u64 0, .nilsl])).set σ'.next (.cells 2 [u64 L, r])).set σ'.next (.cells 2 [u64 L, v'])).set (σ'.next + 1) (.cells 2 [u64 L, v']), σ'.next + 1 + 1⟩) ho (by simp; omega) (fun a ha hb => by simp [show ¬ a = σ'.next by omega, show ¬ a = σ'.next + 1 by omega]) (by omega) (by simp) (.inl hv') hn
        simp [lk_cons, storeL, v1, v2, fillL, repL, ↓e1, w1]
        refine fin true w _ ρ' e2 (by rw [e3]; simp; omega) (fun a ha => ?_) (by rw [← hp, List.append_assoc, c1]; rfl) (by simp; split at hac <;> omega)
        rw [e4 a (by simp; omega) (.inl ha)]
        simp [show ¬ a = σ'.next by omega, show ¬ a = σ'.next + 1 by omega]
      · rw [if_neg c1] at hp
        have last : (acc ++ [⟨x.f0, x.f1⟩]) ++ putM' L e d (h.drop k) = putM' L e false h → ∃ w ρ', evalV ⟨((σ'.mem.set σ'.next (.cells 2 [.int .u64 0, .nilsl])).set σ'.next (.cells 2 [u64 x.f0, r])).set (σ'.next + 1) (.cells 2 [u64 x.f0, r]), σ'.next + 1 + 1⟩ (.append 2 32 ov (.sl (σ'.next + 1) 0 1 1 true)) = some (w, ρ') ∧
            ∃ mm, mm < h.length - i ∧ PuJ hv ml me L e h σ mm [(2, .ptr σ.next 0), (3, .ptr (σ.next + 1) 0), (4, .ptr (σ.next + 1 + 1) 0), (5, .ptr (σ.next + 1 + 1 + 1) 0), (6, w), (7, .bool d), (17, hv), (18, i64 h.length), (19, i64 k)] ρ' := by
          intro hpp
          obtain ⟨w, ρ', e1, e2, e3, e4⟩ := hout_app (b := σ'.next + 1) (L := x.f0) (rv := r) (ρ0 := σ') (ρ := ⟨((σ'.mem.set σ'.next (.cells 2 [.int .u64 0, .nilsl])).set σ'.next (.cells 2 [u64 x.f0, r])).set (σ'.next + 1) (.cells 2 [u64 x.f0, r]), σ'.next + 1 + 1⟩) ho (by simp; omega) (fun a ha hb => by simp [show ¬ a = σ'.next by omega, show ¬ a = σ'.next + 1 by omega]) (by omega) (by simp) (.inl hri) hn
          refine ⟨w, ρ', e1, fin d w _ ρ' e2 (by rw [e3]; simp; omega) (fun a ha => ?_) hpp (by simp; split at hac <;> split <;> omega)⟩
          rw [e4 a (by simp; omega) (.inl ha)]
          simp [show ¬ a = σ'.next by omega, show ¬ a = σ'.next + 1 by omega]
        by_cases c2 : L < x.f0
        · cases d with
          | false =>
            rw [if_pos ⟨c2, rfl⟩] at hp
            obtain ⟨w, ρ', e1, e2, e3, e4⟩ := hout_app (b := σ'.next + 1 + 1) (L := L) (rv := .sl (σ'.next + 1) 0 1 1 true) (r := [⟨e, e + 1⟩]) (ρ0 := σ') (ρ := ⟨(((σ'.mem.set σ'.next (.cells 2 [.int .u64 0, .nilsl])).set σ'.next (.cells 2 [u64 x.f0, r])).set (σ'.next + 1) (.cells 2 [u64 e, u64 (e + 1)])).set (σ'.next + 1 + 1) (.cells 2 [.int .u64 L, .sl (σ'.next + 1) 0 1 1 true]), σ'.next + 1 + 1 + 1⟩) ho (by simp; omega) (fun a ha hb => by simp [show ¬ a = σ'.next by omega, show ¬ a = σ'.next + 1 by omega, show ¬ a = σ'.next + 1 + 1 by omega]) (by omega) (by simp) (.inr ⟨σ'.next + 1, 1, true, rfl, by omega, by simp, by simp [rc]⟩) hn
            have b9 : ρ'.mem.get σ'.next = some (.cells 2 [u64 x.f0, r]) := by
              rw [e4 _ (by simp; omega) (.inr (Nat.le_refl _))]
              simp [show ¬ σ'.next = σ'.next + 1 + 1 by omega]
            have nn : ρ'.next = σ'.next + 1 + 1 + 1 + 1 := e3
            obtain ⟨w2, ρ2, f1, f2, f3, f4⟩ := hout_app (b := ρ'.next) (L := x.f0) (rv := r) (ρ0 := ρ') (ρ := ⟨ρ'.mem.set ρ'.next (.cells 2 [u64 x.f0, r]), ρ'.next + 1⟩) e2 (by simp) (fun a ha hb => by simp [show ¬ a = ρ'.next by omega]) (by simp; omega) (by simp) (.inl hri) (by rw [nn]; omega)
            simp [lk_cons, hlt, ↓p1, ↓p2, storeL, r1, r2, m1, m2, m3, m4, z1, z2, z3, z4, c1, c2, fillL, repL, ↓e1, b9, ↓f1, w1]
            refine fin true w2 _ ρ2 f2 (by rw [f3]; simp; omega) (fun a ha => ?_) (by rw [← hp, List.append_assoc, List.append_assoc]; rfl) (by simp at hac; simp; omega)
            rw [f4 a (by simp; omega) (.inl ha)]
            simp [show ¬ a = ρ'.next by omega]
            rw [e4 a (by simp; omega) (.inl ha)]
            simp [show ¬ a = σ'.next by omega, show ¬ a = σ'.next + 1 by omega, show ¬ a = σ'.next + 1 + 1 by omega]
          | true =>
            rw [if_neg (by simp)] at hp
            obtain ⟨w, ρ', e1, e2⟩ := last (by rw [← hp, List.append_assoc]; rfl)
            simp [lk_cons, hlt, ↓p1, ↓p2, storeL, r1, r2, m1, m2, m3, m4, z1, z2, z3, z4, c1, c2, fillL, repL, ↓e1, w1]
            exact e2
        · rw [if_neg (fun hh => c2 hh.1)] at hp
          obtain ⟨w, ρ', e1, e2⟩ := last (by rw [← hp, List.append_assoc]; rfl)
          simp [lk_cons, hlt, ↓p1, ↓p2, storeL, r1, r2, m1, m2, m3, m4, z1, z2, z3, z4, c1, c2, fillL, repL, ↓e1, w1]
          exact e2
    · have : i = h.length := by omega
      subst this
      rw [List.drop_length] at hp
      have fin : ∀ (w : AVal) (acc' : List Hd) (ρ' : St), HOut (σ.next + 1 + 1 + 1 + 1) ρ' w acc' → (∀ a, a < σ.next + 1 + 1 + 1 + 1 → ρ'.mem.get a = σ'.mem.get a) → acc' = putM' L e false h →
          Old σ ⟨ρ'.mem.set (σ.next + 1 + 1) (.cells 3 [u64 ml, u64 me, w]), ρ'.next⟩ ∧ ∃ v', frzD σ.next (ρ'.mem.set (σ.next + 1 + 1) (.cells 3 [u64 ml, u64 me, w])) 3 (.agg [u64 ml, u64 me, w]) = some v' ∧ Q v' σ := by
        intro w acc' ρ' e1 e3 e4
        subst e4
        have e5 : HOut (σ.next + 1 + 1 + 1 + 1) ⟨ρ'.mem.set (σ.next + 1 + 1) (.cells 3 [u64 ml, u64 me, w]), ρ'.next⟩ w (putM' L e false h) := e1.frame (Nat.le_refl _) fun a ha hb => by simp [show ¬ a = σ.next + 1 + 1 by omega]
        obtain ⟨hv', f1, f2⟩ := e5.frz (lo' := σ.next) (by omega) ml me
        refine ⟨fun a ha => ?_, cv ml me hv', f1, hq _ f2⟩
        show (ρ'.mem.set (σ.next + 1 + 1) (.cells 3 [u64 ml, u64 me, w])).get a = _
        simp [show ¬ a = σ.next + 1 + 1 by omega]
        exact (e3 a (by omega)).trans (gold a ha)
      have hacl : acc.length ≤ 20000 := by split at hac <;> omega
      cases d with
      | false =>
        obtain ⟨w, ρ', e1, e2, e3, e4⟩ := hout_app (b := σ'.next + 1) (L := L) (rv := .sl σ'.next 0 1 1 true) (r := [⟨e, e + 1⟩]) (ρ0 := σ') (ρ := ⟨(σ'.mem.set σ'.next (.cells 2 [u64 e, u64 (e + 1)])).set (σ'.next + 1) (.cells 2 [.int .u64 L, .sl σ'.next 0 1 1 true]), σ'.next + 1 + 1⟩) ho (by simp; omega) (fun a ha hb => by simp [show ¬ a = σ'.next by omega, show ¬ a = σ'.next + 1 by omega]) (by omega) (by simp) (.inr ⟨σ'.next, 1, true, rfl, by omega, by simp; omega, by simp [rc, show ¬ σ'.next = σ'.next + 1 by omega]⟩) hn
        have e5 : ∀ a, a < σ.next + 1 + 1 + 1 + 1 → ρ'.mem.get a = σ'.mem.get a := fun a ha => by
          rw [e4 a (by simp; omega) (.inl ha)]
          simp [show ¬ a = σ'.next by omega, show ¬ a = σ'.next + 1 by omega]
        have b1 := (e5 _ (by omega)).trans m1
        have b3 := (e5 _ (by omega)).trans m3
        have y1 := e2.one.1
        have y2 := e2.one.2
        simp [lk_cons, m1, m2, m3, m4, z1, z2, z3, z4, fillL, repL, storeL, ↓e1, b1, b3, y1, y2, h1, h2]
        exact fin w _ ρ' e2 e5 (by rw [← hp]; rfl)
      | true =>
        simp [lk_cons, m1, m2, m3, m4, z1, z2, z3, z4, fillL, repL, storeL, o1, o2, h1, h2]
        exact fin ov _ σ' ho (fun _ _ => rfl) (by rw [← hp]; simp [putM'])

end Go.Proofs.Ytinfnpbglapjhaa.AM

/- hold, of the document. -/
namespace Go.Proofs.Ytinfnpbglapjhaa.AM
set_option maxRecDepth 100000
set_option linter.unusedVariables false
set_option linter.unusedSimpArgs false

def holdM (L : Int) (r : List S25) : Bool → List Hd → List Hd
  | d, [] => if d = true then [] else [⟨L, r⟩]
  | d, x :: t => if d = false ∧ L ≤ x.f0 then ⟨L, r⟩ :: ((if x.f0 = L then [] else [x]) ++ holdM L r true t) else (if x.f0 = L then [] else [x]) ++ holdM L r d t
def HoJ (hv : AVal) (ml me L : Int) (rv : AVal) (r : List S25) (h : List Hd) (d0 : Bool) (σ0 : St) (mm : Nat) (rg : Regs) (σ' : St) : Prop := ∃ (i : Nat) (d : Bool) (ov : AVal) (acc : List Hd), mm = h.length - i ∧ i ≤ h.length ∧ acc ++ holdM L r d (h.drop i) = holdM L r d0 h ∧ acc.length ≤ i + 1 ∧ (d = false → acc.length ≤ i) ∧ Grow σ0 σ' ∧ σ0.next + 1 + 1 + 1 ≤ σ'.next ∧ HOut (σ0.next + 1 + 1 + 1) σ' ov acc ∧
  σ'.mem.get σ0.next = some (.cells 3 [u64 ml, u64 me, hv]) ∧ σ'.mem.get (σ0.next + 1) = some (.cells 3 [u64 0, u64 0, .nilsl]) ∧ σ'.mem.get (σ0.next + 1 + 1) = some (.cells 3 [u64 ml, u64 me, ov]) ∧
  rg = [(1, u64 L), (2, rv), (3, .ptr σ0.next 0), (6, .ptr (σ0.next + 1) 0), (7, .ptr (σ0.next + 1 + 1) 0), (8, .bool d), (9, i64 i)]
set_option maxHeartbeats 2000000 in
theorem hold_c {hv rv : AVal} {h : List Hd} {r : List S25} (hh : HI hv h) (hl : h.length ≤ 10000) (hrv : RgI rv r) (hrl : r.length ≤ 1000000) (ml me L : Int) (σ : St) (Q : AVal → St → Prop) (hq : ∀ hv', HI hv' (holdM L r (decide (r = [])) h) → Q (cv ml me hv') σ) : ACall Try.prog 40 [cv ml me hv, u64 L, rv] σ Q := by
  refine ACall.freezeD 3 ?_
  refine ACall.of_compF hmx (fun a w => Try.call40 a w) Try.func40 cf40 (n := 3) (by decide) rfl ?_
  have l1 := hh.len
  have l2 := (hrv.m σ).len
  have h1 := hh.one.1
  have h2 := hh.one.2
  have v1 := hrv.one.1
  have v2 := hrv.one.2
  have a1 : ¬ σ.next = σ.next + 1 + 1 := by omega
  have a2 : ¬ σ.next + 1 + 1 = σ.next := by omega
  have hdec : decide ((r.length : Int) = 0) = decide (r = []) := by
    cases r with
    | nil => rfl
    | cons x t => simp; omega
  simp only [ac40, rs40]
  simp [lk_cons, h1, h2, fillL, storeL, a1, a2, ↓l1, ↓l2]
  refine wp_loop (HoJ hv ml me L rv r h (decide (r = [])) σ) h.length ?_ ?_
  · refine ⟨0, decide (r = []), .nilsl, [], rfl, Nat.zero_le _, rfl, by simp, by simp, ⟨by simp; omega, fun a ha => by simp [show ¬ a = σ.next by omega, show ¬ a = σ.next + 1 by omega, show ¬ a = σ.next + 1 + 1 by omega]⟩, by simp, .inl ⟨rfl, rfl⟩, by simp [a1], by simp, by simp, ?_⟩
    rw [← hdec]; simp [lk_cons]
  · rintro mm rg σ' ⟨i, d, ov, acc, rfl, hi, hp, hac, hac2, hg, hn, ho, m1, m2, m3, rfl⟩
    have gold : ∀ a, a < σ.next → σ'.mem.get a = σ.mem.get a := hg.2
    have z1 : ¬ σ.next = σ'.next := by omega
    have z2 : ¬ σ.next + 1 = σ'.next := by omega
    have z3 : ¬ σ.next + 1 + 1 = σ'.next := by omega
    have o1 := ho.one.1
    have o2 := ho.one.2
    by_cases hlt : i < h.length
    · obtain ⟨x, hx⟩ : ∃ x, h[i]? = some x := ⟨_, List.getElem?_eq_getElem hlt⟩
      obtain ⟨k, hk⟩ : ∃ k, i + 1 = k := ⟨_, rfl⟩
      have w1 : IntKind.i64.wrap ((i : Int) + 1) = (k : Int) := by rw [IntWalk.i64_in] <;> omega
      obtain ⟨p, xr, hri, p1, p2, _, _⟩ := hh.at hx σ'
      have r1 := hri.one.1
      have r2 := hri.one.2
      have hdr : h.drop i = x :: h.drop k := by rw [List.drop_eq_getElem_cons hlt, (List.getElem?_eq_some_iff.1 hx).2, hk]
      rw [hdr] at hp
      simp only [holdM] at hp
      have fin : ∀ (d' : Bool) (w : AVal) (acc' : List Hd) (ρ' : St), HOut (σ.next + 1 + 1 + 1) ρ' w acc' → σ'.next ≤ ρ'.next → (∀ a, a < σ.next + 1 + 1 → ρ'.mem.get a = σ'.mem.get a) → ρ'.mem.get (σ.next + 1 + 1) = some (.cells 3 [u64 ml, u64 me, w]) → acc' ++ holdM L r d' (h.drop k) = holdM L r (decide (r = [])) h → acc'.length ≤ k + 1 → (d' = false → acc'.length ≤ k) →
          ∃ mm, mm < h.length - i ∧ HoJ hv ml me L rv r h (decide (r = [])) σ mm [(1, u64 L), (2, rv), (3, .ptr σ.next 0), (6, .ptr (σ.next + 1) 0), (7, .ptr (σ.next + 1 + 1) 0), (8, .bool d'), (9, i64 k)] ρ' := by
        intro d' w acc' ρ' e1 e2 e3 e6 e4 e5 e7
        exact ⟨h.length - k, by omega, k, d', w, acc', rfl, by omega, e4, e5, e7, ⟨by have := hg.1; omega, fun a ha => (e3 a (by omega)).trans (gold a ha)⟩, by omega, e1, (e3 _ (by omega)).trans m1, (e3 _ (by omega)).trans m2, e6, rfl⟩
      by_cases c1 : d = false ∧ L ≤ x.f0
      · rw [if_pos c1] at hp
        obtain ⟨rfl, c1⟩ := c1
        have hac3 := hac2 rfl
        obtain ⟨w, ρ', e1, e2, e3, e4⟩ := hout_app (b := σ'.next + 1) (L := L) (rv := rv) (r := r) (ρ0 := σ') (ρ := ⟨((σ'.mem.set σ'.next (.cells 2 [.int .u64 0, .nilsl])).set σ'.next (.cells 2 [u64 x.f0, xr])).set (σ'.next + 1) (.cells 2 [u64 L, rv]), σ'.next + 1 + 1⟩) ho (by simp; omega) (fun a ha hb => by simp [show ¬ a = σ'.next by omega, show ¬ a = σ'.next + 1 by omega]) (by omega) (by simp) (.inl hrv) hn
        have nn : ρ'.next = σ'.next + 1 + 1 + 1 := e3
        have b9 : ρ'.mem.get σ'.next = some (.cells 2 [u64 x.f0, xr]) := by
          rw [e4 _ (by simp; omega) (.inr (Nat.le_refl _))]
          simp [show ¬ σ'.next = σ'.next + 1 by omega]
        have e5 : ∀ a, a < σ.next + 1 + 1 + 1 → ρ'.mem.get a = σ'.mem.get a := fun a ha => by
          rw [e4 a (by simp; omega) (.inl ha)]
          simp [show ¬ a = σ'.next by omega, show ¬ a = σ'.next + 1 by omega]
        have b7 := (e5 _ (by omega)).trans m3
        have y1 := e2.one.1
        have y2 := e2.one.2
        have e2' : HOut (σ.next + 1 + 1 + 1) ⟨ρ'.mem.set (σ.next + 1 + 1) (.cells 3 [u64 ml, u64 me, w]), ρ'.next⟩ w (acc ++ [⟨L, r⟩]) := e2.frame (Nat.le_refl _) fun a ha hb => by simp [show ¬ a = σ.next + 1 + 1 by omega]
        have e5' : ∀ a, a < σ.next + 1 + 1 → (ρ'.mem.set (σ.next + 1 + 1) (.cells 3 [u64 ml, u64 me, w])).get a = σ'.mem.get a := fun a ha => by
          simp [show ¬ a = σ.next + 1 + 1 by omega]; exact e5 a (by omega)
        have z5 : ¬ σ'.next = σ.next + 1 + 1 := by omega
        have z6 : ¬ ρ'.next = σ.next + 1 + 1 := by omega
        have z7 : ¬ σ.next + 1 + 1 = ρ'.next := by omega
        by_cases c2 : x.f0 = L
        · rw [if_pos c2] at hp
          have e1' := e1
          rw [c2] at e1'
          simp [lk_cons, ↓l1, hlt, ↓p1, ↓p2, storeL, r1, r2, m1, m2, m3, z1, z2, z3, z5, c1, c2, fillL, repL, v1, v2, ↓e1', b7, b9, y1, y2, w1]
          exact fin true w _ _ e2' (by show σ'.next ≤ ρ'.next; omega) e5' (by simp) (by rw [← hp, List.append_assoc]; rfl) (by simp; omega) (by simp)
        · rw [if_neg c2] at hp
          obtain ⟨w2, ρ2, f1, f2, f3, f4⟩ := hout_app (b := ρ'.next) (L := x.f0) (rv := xr) (r := x.f1) (ρ0 := ⟨ρ'.mem.set (σ.next + 1 + 1) (.cells 3 [u64 ml, u64 me, w]), ρ'.next⟩) (ρ := ⟨(ρ'.mem.set (σ.next + 1 + 1) (.cells 3 [u64 ml, u64 me, w])).set ρ'.next (.cells 2 [u64 x.f0, xr]), ρ'.next + 1⟩) e2' (by simp) (fun a ha hb => by simp at hb; simp [show ¬ a = ρ'.next by omega]) (by simp; omega) (by simp) (.inl hri) (by show _ ≤ ρ'.next; rw [nn]; omega)
          have f5 : ∀ a, a < σ.next + 1 + 1 → ρ2.mem.get a = σ'.mem.get a := fun a ha => by
            rw [f4 a (by simp; omega) (.inl (by omega))]
            simp [show ¬ a = ρ'.next by omega, show ¬ a = σ.next + 1 + 1 by omega]
            exact e5 a (by omega)
          have b77 : ρ2.mem.get (σ.next + 1 + 1) = some (.cells 3 [u64 ml, u64 me, w]) := by
            rw [f4 _ (by simp; omega) (.inl (by omega))]
            simp [z7]
          have y3 := f2.one.1
          have y4 := f2.one.2
          simp [lk_cons, ↓l1, hlt, ↓p1, ↓p2, storeL, r1, r2, m1, m2, m3, z1, z2, z3, z5, z6, z7, c1, c2, fillL, repL, v1, v2, ↓e1, b7, b9, y1, y2, ↓f1, b77, y3, y4, w1]
          refine fin true w2 (acc ++ [⟨L, r⟩] ++ [⟨x.f0, x.f1⟩]) _ (f2.frame (σ2 := ⟨ρ2.mem.set (σ.next + 1 + 1) (.cells 3 [u64 ml, u64 me, w2]), ρ2.next⟩) (Nat.le_refl _) fun a ha hb => by simp [show ¬ a = σ.next + 1 + 1 by omega]) (by show σ'.next ≤ ρ2.next; rw [f3]; simp; omega) (fun a ha => ?_) (by simp) (by rw [← hp, List.append_assoc, List.append_assoc]; rfl) (by simp; omega) (by simp)
          simp [show ¬ a = σ.next + 1 + 1 by omega]
          exact f5 a ha
      · rw [if_neg c1] at hp
        by_cases c2 : x.f0 = L
        · rw [if_pos c2] at hp
          have f := fin d ov acc ⟨(σ'.mem.set σ'.next (.cells 2 [.int .u64 0, .nilsl])).set σ'.next (.cells 2 [u64 L, xr]), σ'.next + 1⟩ (ho.frame (by simp) fun a ha hb => by simp [show ¬ a = σ'.next by omega]) (by simp) (fun a ha => by simp [show ¬ a = σ'.next by omega]) (by simp [z3]; exact m3) hp (by omega) (fun hd => by have := hac2 hd; omega)
          cases d with
          | true =>
            simp [lk_cons, ↓l1, hlt, ↓p1, ↓p2, storeL, r1, r2, m1, m2, m3, z1, z2, z3, c2, fillL, repL, w1]
            exact f
          | false =>
            have c1' : ¬ L ≤ x.f0 := fun hle => c1 ⟨rfl, hle⟩
            omega
        · rw [if_neg c2] at hp
          obtain ⟨w, ρ', e1, e2, e3, e4⟩ := hout_app (b := σ'.next + 1) (L := x.f0) (rv := xr) (r := x.f1) (ρ0 := σ') (ρ := ⟨((σ'.mem.set σ'.next (.cells 2 [.int .u64 0, .nilsl])).set σ'.next (.cells 2 [u64 x.f0, xr])).set (σ'.next + 1) (.cells 2 [u64 x.f0, xr]), σ'.next + 1 + 1⟩) ho (by simp; omega) (fun a ha hb => by simp [show ¬ a = σ'.next by omega, show ¬ a = σ'.next + 1 by omega]) (by omega) (by simp) (.inl hri) hn
          have nn : ρ'.next = σ'.next + 1 + 1 + 1 := e3
          have e5 : ∀ a, a < σ.next + 1 + 1 + 1 → ρ'.mem.get a = σ'.mem.get a := fun a ha => by
            rw [e4 a (by simp; omega) (.inl ha)]
            simp [show ¬ a = σ'.next by omega, show ¬ a = σ'.next + 1 by omega]
          have b7 := (e5 _ (by omega)).trans m3
          have y1 := e2.one.1
          have y2 := e2.one.2
          have z5 : ¬ σ'.next = σ.next + 1 + 1 := by omega
          have f := fin d w (acc ++ [⟨x.f0, x.f1⟩]) ⟨ρ'.mem.set (σ.next + 1 + 1) (.cells 3 [u64 ml, u64 me, w]), ρ'.next⟩ (e2.frame (σ2 := ⟨ρ'.mem.set (σ.next + 1 + 1) (.cells 3 [u64 ml, u64 me, w]), ρ'.next⟩) (Nat.le_refl _) fun a ha hb => by simp [show ¬ a = σ.next + 1 + 1 by omega]) (by show σ'.next ≤ ρ'.next; omega) (fun a ha => by simp [show ¬ a = σ.next + 1 + 1 by omega]; exact e5 a (by omega)) (by simp) (by rw [← hp, List.append_assoc]) (by simp; omega) (fun hd => by have := hac2 hd; simp; omega)
          cases d with
          | true =>
            simp [lk_cons, ↓l1, hlt, ↓p1, ↓p2, storeL, r1, r2, m1, m2, m3, z1, z2, z3, z5, c2, fillL, repL, ↓e1, b7, y1, y2, w1]
            exact f
          | false =>
            have c1' : ¬ L ≤ x.f0 := fun hle => c1 ⟨rfl, hle⟩
            simp [lk_cons, ↓l1, hlt, ↓p1, ↓p2, storeL, r1, r2, m1, m2, m3, z1, z2, z3, z5, c1', c2, fillL, repL, ↓e1, b7, y1, y2, w1]
            exact f
    · have : i = h.length := by omega
      subst this
      rw [List.drop_length] at hp
      have fin : ∀ (w : AVal) (acc' : List Hd) (ρ' : St), HOut (σ.next + 1 + 1 + 1) ρ' w acc' → (∀ a, a < σ.next + 1 → ρ'.mem.get a = σ'.mem.get a) → acc' = holdM L r (decide (r = [])) h →
          Old σ ⟨ρ'.mem.set (σ.next + 1) (.cells 3 [u64 ml, u64 me, w]), ρ'.next⟩ ∧ ∃ v', frzD σ.next (ρ'.mem.set (σ.next + 1) (.cells 3 [u64 ml, u64 me, w])) 3 (.agg [u64 ml, u64 me, w]) = some v' ∧ Q v' σ := by
        intro w acc' ρ' e1 e3 e4
        subst e4
        have e5 : HOut (σ.next + 1 + 1 + 1) ⟨ρ'.mem.set (σ.next + 1) (.cells 3 [u64 ml, u64 me, w]), ρ'.next⟩ w (holdM L r (decide (r = [])) h) := e1.frame (Nat.le_refl _) fun a ha hb => by simp [show ¬ a = σ.next + 1 by omega]
        obtain ⟨hv', f1, f2⟩ := e5.frz (lo' := σ.next) (by omega) ml me
        refine ⟨fun a ha => ?_, cv ml me hv', f1, hq _ f2⟩
        show (ρ'.mem.set (σ.next + 1) (.cells 3 [u64 ml, u64 me, w])).get a = _
        simp [show ¬ a = σ.next + 1 by omega]
        exact (e3 a (by omega)).trans (gold a ha)
      have z6 : ¬ σ.next + 1 + 1 = σ.next + 1 := by omega
      have z7 : ¬ σ.next + 1 = σ.next + 1 + 1 := by omega
      cases d with
      | false =>
        obtain ⟨w, ρ', e1, e2, e3, e4⟩ := hout_app (b := σ'.next) (L := L) (rv := rv) (r := r) (ρ0 := σ') (ρ := ⟨σ'.mem.set σ'.next (.cells 2 [u64 L, rv]), σ'.next + 1⟩) ho (by simp) (fun a ha hb => by simp [show ¬ a = σ'.next by omega]) (by omega) (by simp) (.inl hrv) hn
        have e5 : ∀ a, a < σ.next + 1 + 1 + 1 → ρ'.mem.get a = σ'.mem.get a := fun a ha => by
          rw [e4 a (by simp; omega) (.inl ha)]
          simp [show ¬ a = σ'.next by omega]
        have b7 := (e5 _ (by omega)).trans m3
        have b6 := (e5 _ (by omega)).trans m2
        have y1 := e2.one.1
        have y2 := e2.one.2
        simp [lk_cons, ↓l1, m1, m2, m3, z1, z2, z3, z6, z7, fillL, repL, storeL, v1, v2, ↓e1, b6, b7, y1, y2, h1, h2]
        exact fin w _ ⟨ρ'.mem.set (σ.next + 1 + 1) (.cells 3 [u64 ml, u64 me, w]), ρ'.next⟩ (e2.frame (Nat.le_refl _) fun a ha hb => by simp [show ¬ a = σ.next + 1 + 1 by omega]) (fun a ha => by simp [show ¬ a = σ.next + 1 + 1 by omega]; exact e5 a (by omega)) (by rw [← hp]; rfl)
      | true =>
        simp [lk_cons, ↓l1, m1, m2, m3, z1, z2, z3, z6, z7, fillL, repL, storeL, o1, o2, h1, h2]
        exact fin ov _ σ' ho (fun _ _ => rfl) (by rw [← hp]; simp [holdM])

end Go.Proofs.Ytinfnpbglapjhaa.AM

/- tight. -/
namespace Go.Proofs.Ytinfnpbglapjhaa.AM
set_option maxRecDepth 100000
set_option linter.unusedVariables false
set_option linter.unusedSimpArgs false

theorem wp_cut {P : Program} {a b : ACode} {Q : Post} {r : Regs} {σ : St} (M : Regs → St → Prop) (h : a.wp P (fun e r σ => e = .normal ∧ M r σ) r σ) (hq : ∀ r σ, M r σ → b.wp P Q r σ) : ACode.wp P (.seq a b) Q r σ := by
  simp only [ACode.wp]
  refine wp_mono' h ?_
  rintro e r σ ⟨rfl, hm⟩
  exact hq r σ hm

/-- The mark moves. -/
inductive Mv (o : Int) (t : List Ld) (h : List Hd) : Int → Int → Int → Int → Prop
  | done (a b : Int) : (∀ c d, nextM o a b 0 0 t = (c, d, true) → inB (ofM c h) d = false) → Mv o t h a b a b
  | step (a b c d x y : Int) : nextM o a b 0 0 t = (c, d, true) → inB (ofM c h) d = true → Mv o t h c (gapM d (ofM c h)) x y → Mv o t h a b x y
theorem Mv.uniq {o : Int} {t : List Ld} {h : List Hd} {a b x y u v : Int} (m : Mv o t h a b x y) (n : Mv o t h a b u v) : x = u ∧ y = v := by
  induction m with
  | done a b hs =>
    cases n with
    | done => exact ⟨rfl, rfl⟩
    | step _ _ c d _ _ k1 k2 _ => rw [hs _ _ k1] at k2; cases k2
  | step a b c d x y h1 h2 _ ih =>
    cases n with
    | done _ _ hs => rw [hs _ _ h1] at h2; cases h2
    | step _ _ c' d' _ _ k1 k2 k3 =>
      rw [h1] at k1
      obtain ⟨e1, k1⟩ := Prod.mk.inj k1
      obtain ⟨e2, _⟩ := Prod.mk.inj k1
      rw [← e1, ← e2] at k3
      exact ih k3
/-- What stays held behind a mark. -/
def keepH (ml me : Int) : List Hd → List Hd
  | [] => []
  | x :: t => (if x.f0 < ml then [] else if x.f0 = ml then (if remM 0 me x.f1 = [] then [] else [⟨x.f0, remM 0 me x.f1⟩]) else (if x.f1 = [] then [] else [⟨x.f0, x.f1⟩])) ++ keepH ml me t
/-- Held ranges are right ones, few. -/
def HW (h : List Hd) : Prop := h.length ≤ 1000 ∧ ∀ x ∈ h, GoodR x.f1 ∧ x.f1.length ≤ 900
theorem HW.of {h : List Hd} (hw : HW h) (L : Int) : GoodR (ofM L h) ∧ (ofM L h).length ≤ 900 := by
  rcases of_cases L h with e | ⟨x, hx, _, e⟩
  · rw [e]; exact ⟨good_nil, by simp⟩
  · rw [e]; exact hw.2 x hx
theorem next_meas {o pl pe : Int} {t : List Ld} (hs : ∀ x ∈ t, 0 ≤ szM x o ∧ szM x o ≤ 100) (hpe : 0 ≤ pe) {a b : Int} (hn : nextM o pl pe 0 0 t = (a, b, true)) {g : Int} (hg : b < g) (ht : RisingP t) :
    0 ≤ b ∧ b < 100 ∧ (allM o t).countP (geB a g) < (allM o t).countP (geB pl pe) := by
  rw [next_find hpe t 0 0 hs] at hn
  cases hf : (allM o t).find? (fun q => decide (0 ≤ ordM q.f0 q.f1 pl pe)) with
  | none =>
    rw [hf] at hn
    have := end_false (o := o) t 0 0
    rw [show (pickM none (endM o 0 0 t)) = endM o 0 0 t from rfl] at hn
    rw [hn] at this; cases this
  | some q =>
    rw [hf] at hn
    obtain ⟨rfl, h2⟩ := Prod.mk.inj (show (q.f0, q.f1, true) = (a, b, true) from hn)
    obtain ⟨rfl, _⟩ := Prod.mk.inj h2
    obtain ⟨q1, q2, q3⟩ := find_first (all_sorted ht) hf
    obtain ⟨x, hx, e1, e2, e3⟩ := all_mem q2
    have := hs x hx
    refine ⟨e2, by omega, count_less (x := q) (fun e he => ?_) q2 q1 fun h' => ?_⟩
    · have hq := (geB_iff pl pe q).1 q1
      rw [geB_iff] at he ⊢
      omega
    · rw [geB_iff] at h'; omega

def TiJ (lv hv : AVal) (o ml me : Int) (t : List Ld) (h : List Hd) (σ0 : St) (mm : Nat) (rg : Regs) (σ' : St) : Prop := ∃ pl pe : Int, mm = (allM o t).countP (geB pl pe) ∧ 0 ≤ pe ∧ (∀ x y, Mv o t h pl pe x y → Mv o t h ml me x y) ∧ Grow σ0 σ' ∧ σ0.next + 1 + 1 ≤ σ'.next ∧
  σ'.mem.get σ0.next = some (.cells 3 [u64 pl, u64 pe, hv]) ∧ σ'.mem.get (σ0.next + 1) = some (.cells 3 [u64 0, u64 0, .nilsl]) ∧ rg = [(0, lv), (1, u64 o), (5, .ptr σ0.next 0), (6, .ptr (σ0.next + 1) 0)]
def TiJ2 (hv : AVal) (pl pe : Int) (h : List Hd) (σ0 σ1 : St) (mm : Nat) (rg : Regs) (σ' : St) : Prop := ∃ (i : Nat) (ov : AVal) (acc : List Hd), mm = h.length - i ∧ i ≤ h.length ∧ acc ++ keepH pl pe (h.drop i) = keepH pl pe h ∧ acc.length ≤ i ∧ σ1.next + 1 ≤ σ'.next ∧ (∀ a, a < σ0.next → σ'.mem.get a = σ0.mem.get a) ∧ HOut (σ1.next + 1) σ' ov acc ∧
  σ'.mem.get σ0.next = some (.cells 3 [u64 pl, u64 pe, hv]) ∧ σ'.mem.get (σ0.next + 1) = some (.cells 3 [u64 0, u64 0, .nilsl]) ∧ σ'.mem.get σ1.next = some (.cells 3 [u64 pl, u64 pe, ov]) ∧
  rg = [(5, .ptr σ0.next 0), (6, .ptr (σ0.next + 1) 0), (9, .ptr σ1.next 0), (47, hv), (48, i64 h.length), (49, i64 i)]
set_option maxHeartbeats 2000000 in
theorem tight_c {lv hv : AVal} {t : List Ld} {h : List Hd} (hlv : LdI lv t) (htl : t.length ≤ 13) {o : Int} (hs : ∀ x ∈ t, 0 ≤ szM x o ∧ szM x o ≤ 100) (ht : RisingP t) (hh : HI hv h) (hw : HW h) (ml me : Int) (hme : 0 ≤ me) (σ : St) (Q : AVal → St → Prop)
    (hq : ∀ pl pe hv', Mv o t h ml me pl pe → HI hv' (keepH pl pe h) → Q (cv pl pe hv') σ) : ACall Try.prog 35 [lv, u64 o, cv ml me hv] σ Q := by
  refine ACall.freezeD 3 ?_
  refine ACall.of_compF hmx (fun a w => Try.call35 a w) Try.func35 cf35 (n := 3) (by decide) rfl ?_
  have l1 := hh.len
  have h1 := hh.one.1
  have h2 := hh.one.2
  have hl := hw.1
  simp only [ac35, rs35]
  refine wp_cut (fun rg s => rg = [(0, lv), (1, u64 o), (5, .ptr σ.next 0), (6, .ptr (σ.next + 1) 0)] ∧ s = ⟨(σ.mem.set σ.next (.cells 3 [u64 ml, u64 me, hv])).set (σ.next + 1) (.cells 3 [u64 0, u64 0, .nilsl]), σ.next + 1 + 1⟩) (by simp [lk_cons, h1, h2]) ?_
  rintro _ _ ⟨rfl, rfl⟩
  refine wp_cut (fun rg s => ∃ pl pe x, Mv o t h ml me pl pe ∧ 0 ≤ pe ∧ (∀ a, a < σ.next → s.mem.get a = σ.mem.get a) ∧ σ.next + 1 + 1 ≤ s.next ∧ s.mem.get σ.next = some (.cells 3 [u64 pl, u64 pe, hv]) ∧ s.mem.get (σ.next + 1) = some (.cells 3 [u64 0, u64 0, .nilsl]) ∧ rg = [(0, lv), (1, u64 o), (5, .ptr σ.next 0), (6, .ptr (σ.next + 1) 0), (7, x), (31, .bool true)]) ?_ ?_
  · simp only [wp_block]
    refine wp_loop (TiJ lv hv o ml me t h σ) ((allM o t).countP (geB ml me)) ?_ ?_
    · exact ⟨ml, me, rfl, hme, fun x y m => m, ⟨by simp; omega, fun a ha => by simp [show ¬ a = σ.next by omega, show ¬ a = σ.next + 1 by omega]⟩, by simp, by simp, by simp, rfl⟩
    · rintro mm rg σ' ⟨pl, pe, rfl, hpe, hmv, hg, hn, m1, m2, rfl⟩
      have gold : ∀ a, a < σ.next → σ'.mem.get a = σ.mem.get a := hg.2
      have gn := hg.1
      have z1 : ¬ σ.next = σ'.next := by omega
      have z2 : ¬ σ.next + 1 = σ'.next := by omega
      obtain ⟨r, hr⟩ : ∃ r, nextM o pl pe 0 0 t = r := ⟨_, rfl⟩
      obtain ⟨a, b, ok⟩ := r
      have out : ∀ y : Blk, ∀ k, k < σ.next → (if k = σ'.next then some y else if k = σ'.next then some (Blk.cells 2 [.int .u64 0, .int .u64 0]) else σ'.mem.get k) = σ.mem.get k := fun y k hk => by
        rw [if_neg (by omega), if_neg (by omega)]; exact gold k hk
      simp [lk_cons, m1, m2]
      refine next_c hlv (by omega) o pl pe _ _ ?_
      rw [hr]
      cases ok with
      | false =>
        simp [lk_cons, m1, m2, storeL, z1, z2, h1, h2]
        exact ⟨pl, pe, hmv _ _ (.done _ _ fun c d hcd => by rw [hr] at hcd; cases hcd), hpe, fun k hk => out _ k hk, by omega, rfl, rfl⟩
      | true =>
        simp [lk_cons, m1, m2, storeL, z1, z2, h1, h2]
        refine held_c hh (by omega) pl pe a _ _ fun rv hrv => ?_
        simp [lk_cons, m1, m2, storeL, z1, z2, h1, h2]
        refine has_c (hrv.m _) (by have := (hw.of a).2; omega) (hw.of a).1.1 b _ ?_
        cases hin : inB (ofM a h) b with
        | false =>
          simp [lk_cons, m1, m2, storeL, z1, z2, h1, h2]
          exact ⟨pl, pe, hmv _ _ (.done _ _ fun c d hcd => by rw [hr] at hcd; obtain ⟨e1, hcd⟩ := Prod.mk.inj hcd; obtain ⟨e2, _⟩ := Prod.mk.inj hcd; rw [← e1, ← e2]; exact hin), hpe, fun k hk => out _ k hk, by omega, rfl, rfl⟩
        | true =>
          simp [lk_cons, m1, m2, storeL, z1, z2, h1, h2]
          refine held_c hh (by omega) pl pe a _ _ fun rv2 hrv2 => ?_
          simp [lk_cons, m1, m2, storeL, z1, z2, h1, h2]
          refine gap_c hrv2 (by have := (hw.of a).2; omega) b _ _ ?_
          simp [lk_cons, m1, m2, storeL, z1, z2, h1, h2, fillL]
          have gs := gap_spec (ofM a h) (-1) b (hw.of a).1.1
          have hlt : b < gapM b (ofM a h) := by
            rcases Int.lt_or_eq_of_le gs.2.1 with hl | hl
            · exact hl
            · exfalso; rw [← hl] at gs; exact gs.1 ((inB_iff _ _).1 hin)
          obtain ⟨b0, _, hms⟩ := next_meas hs hpe hr hlt ht
          refine ⟨_, hms, a, gapM b (ofM a h), rfl, by omega, fun x y m => hmv _ _ (.step _ _ _ _ _ _ hr hin m), ⟨by simp; omega, fun k hk => ?_⟩, by simp; omega, by simp, by simp [z2]; exact m2, rfl⟩
          simp [show ¬ k = σ.next by omega, show ¬ k = σ'.next by omega]; exact gold k hk
  · rintro rg σ1 ⟨pl, pe, x7, hmv, hpe, gold, hn, m1, m2, rfl⟩
    have z1 : ¬ σ.next = σ1.next := by omega
    have z2 : ¬ σ.next + 1 = σ1.next := by omega
    simp [lk_cons, m1, m2, storeL, z1, z2, h1, h2, fillL, ↓l1]
    refine wp_loop (TiJ2 hv pl pe h σ σ1) h.length ?_ ?_
    · exact ⟨0, .nilsl, [], rfl, Nat.zero_le _, rfl, by simp, by simp, fun k hk => by simp [show ¬ k = σ1.next by omega]; exact gold k hk, .inl ⟨rfl, rfl⟩, by simp [z1]; exact m1, by simp [z2]; exact m2, by simp, rfl⟩
    · rintro mm rg σ' ⟨i, ov, acc, rfl, hi, hp, hac, hn1, gold', ho, n1, n2, n3, rfl⟩
      have y1 : ¬ σ.next = σ'.next := by omega
      have y2 : ¬ σ.next + 1 = σ'.next := by omega
      have y3 : ¬ σ1.next = σ'.next := by omega
      have o1 := ho.one.1
      have o2 := ho.one.2
      by_cases hlt : i < h.length
      · obtain ⟨x, hx⟩ : ∃ x, h[i]? = some x := ⟨_, List.getElem?_eq_getElem hlt⟩
        obtain ⟨k, hk⟩ : ∃ k, i + 1 = k := ⟨_, rfl⟩
        have w1 : IntKind.i64.wrap ((i : Int) + 1) = (k : Int) := by rw [IntWalk.i64_in] <;> omega
        obtain ⟨p, xr, hri, p1, p2, _, _⟩ := hh.at hx σ'
        have r1 := hri.one.1
        have r2 := hri.one.2
        have hdr : h.drop i = x :: h.drop k := by rw [List.drop_eq_getElem_cons hlt, (List.getElem?_eq_some_iff.1 hx).2, hk]
        rw [hdr] at hp
        simp only [keepH] at hp
        have hxr := hw.2 x (List.mem_of_getElem? hx)
        have fin : ∀ (w : AVal) (acc' : List Hd) (ρ' : St), HOut (σ1.next + 1) ρ' w acc' → σ'.next ≤ ρ'.next → (∀ a, a < σ1.next → ρ'.mem.get a = σ'.mem.get a) → ρ'.mem.get σ1.next = some (.cells 3 [u64 pl, u64 pe, w]) → acc' ++ keepH pl pe (h.drop k) = keepH pl pe h → acc'.length ≤ k →
            ∃ mm, mm < h.length - i ∧ TiJ2 hv pl pe h σ σ1 mm [(5, .ptr σ.next 0), (6, .ptr (σ.next + 1) 0), (9, .ptr σ1.next 0), (47, hv), (48, i64 h.length), (49, i64 k)] ρ' := by
          intro w acc' ρ' e1 e2 e3 e6 e4 e5
          exact ⟨h.length - k, by omega, k, w, acc', rfl, by omega, e4, e5, by omega, fun a ha => (e3 a (by omega)).trans (gold' a ha), e1, (e3 _ (by omega)).trans n1, (e3 _ (by omega)).trans n2, e6, rfl⟩
        by_cases c1 : x.f0 < pl
        · rw [if_pos c1] at hp
          simp [lk_cons, hlt, ↓p1, ↓p2, storeL, r1, r2, n1, n2, n3, y1, y2, y3, c1, w1]
          exact fin ov acc _ (ho.frame (σ2 := ⟨(σ'.mem.set σ'.next (.cells 2 [.int .u64 0, .nilsl])).set σ'.next (.cells 2 [u64 x.f0, xr]), σ'.next + 1⟩) (by simp) fun a ha hb => by simp [show ¬ a = σ'.next by omega]) (by simp) (fun a ha => by simp [show ¬ a = σ'.next by omega]) (by simp [y3]; exact n3) hp (by omega)
        · rw [if_neg c1] at hp
          by_cases c2 : x.f0 = pl
          · rw [if_pos c2] at hp
            simp [lk_cons, hlt, ↓p1, ↓p2, storeL, r1, r2, n1, n2, n3, y1, y2, y3, c2, w1, fillL]
            refine remove_c (hri.m _) (by omega) 0 pe _ fun v' hv' => ?_
            have v1 := hv'.one.1
            have v2 := hv'.one.2
            have vl := (hv'.m σ).len
            rw [c2] at hp
            have hrl := remM_len 0 pe x.f1
            by_cases hz : remM 0 pe x.f1 = []
            · rw [if_pos hz] at hp
              have hz' : ¬ 0 < (remM 0 pe x.f1).length := by rw [hz]; simp
              simp [lk_cons, n1, n2, n3, y1, y2, y3, storeL, v1, v2, ↓vl, hz', w1]
              exact fin ov acc _ (ho.frame (σ2 := ⟨((σ'.mem.set σ'.next (.cells 2 [.int .u64 0, .nilsl])).set σ'.next (.cells 2 [u64 pl, xr])).set σ'.next (.cells 2 [u64 pl, v']), σ'.next + 1⟩) (by simp) fun a ha hb => by simp [show ¬ a = σ'.next by omega]) (by simp) (fun a ha => by simp [show ¬ a = σ'.next by omega]) (by simp [y3]; exact n3) hp (by omega)
            · rw [if_neg hz] at hp
              have hz' : 0 < (remM 0 pe x.f1).length := List.length_pos_iff.2 hz
              simp [lk_cons, n1, n2, n3, y1, y2, y3, storeL, v1, v2, ↓vl, hz']
              refine clone_c (hv'.m _) (by omega) _ fun vc hvc => ?_
              have t1 := hvc.one.1
              have t2 := hvc.one.2
              obtain ⟨w, ρ', e1, e2, e3, e4⟩ := hout_app (b := σ'.next + 1) (L := pl) (rv := vc) (r := remM 0 pe x.f1) (ρ0 := σ') (ρ := ⟨(((σ'.mem.set σ'.next (.cells 2 [.int .u64 0, .nilsl])).set σ'.next (.cells 2 [u64 pl, xr])).set σ'.next (.cells 2 [u64 pl, v'])).set (σ'.next + 1) (.cells 2 [.int .u64 (pl), vc]), σ'.next + 1 + 1⟩) ho (by simp; omega) (fun a ha hb => by simp [show ¬ a = σ'.next by omega, show ¬ a = σ'.next + 1 by omega]) (by omega) (by simp) (.inl hvc) hn1
              have e5 : ∀ a, a < σ1.next + 1 → ρ'.mem.get a = σ'.mem.get a := fun a ha => by
                rw [e4 a (by simp; omega) (.inl ha)]
                simp [show ¬ a = σ'.next by omega, show ¬ a = σ'.next + 1 by omega]
              have b9 := (e5 _ (by omega)).trans n3
              have t3 := e2.one.1
              have t4 := e2.one.2
              simp [lk_cons, n1, n2, n3, y1, y2, y3, storeL, v1, v2, ↓vl, ↓e1, b9, t1, t2, t3, t4, w1, fillL, repL]
              refine fin w (acc ++ [⟨pl, remM 0 pe x.f1⟩]) _ (e2.frame (σ2 := ⟨ρ'.mem.set σ1.next (.cells 3 [u64 pl, u64 pe, w]), ρ'.next⟩) (Nat.le_refl _) fun a ha hb => by simp [show ¬ a = σ1.next by omega]) (by show σ'.next ≤ ρ'.next; rw [e3]; simp; omega) (fun a ha => ?_) (by simp) (by rw [← hp, List.append_assoc]) (by simp; omega)
              simp [show ¬ a = σ1.next by omega]
              exact e5 a (by omega)
          · rw [if_neg c2] at hp
            have xl := (hri.m σ).len
            by_cases hz : x.f1 = []
            · rw [if_pos hz] at hp
              have hz' : ¬ 0 < (x.f1).length := by rw [hz]; simp
              simp [lk_cons, hlt, ↓p1, ↓p2, storeL, r1, r2, n1, n2, n3, y1, y2, y3, c1, c2, ↓xl, hz', w1]
              exact fin ov acc _ (ho.frame (σ2 := ⟨(σ'.mem.set σ'.next (.cells 2 [.int .u64 0, .nilsl])).set σ'.next (.cells 2 [u64 x.f0, xr]), σ'.next + 1⟩) (by simp) fun a ha hb => by simp [show ¬ a = σ'.next by omega]) (by simp) (fun a ha => by simp [show ¬ a = σ'.next by omega]) (by simp [y3]; exact n3) hp (by omega)
            · rw [if_neg hz] at hp
              have hz' : 0 < (x.f1).length := List.length_pos_iff.2 hz
              simp [lk_cons, hlt, ↓p1, ↓p2, storeL, r1, r2, n1, n2, n3, y1, y2, y3, c1, c2, ↓xl, hz']
              refine clone_c (hri.m _) (by omega) _ fun vc hvc => ?_
              have t1 := hvc.one.1
              have t2 := hvc.one.2
              obtain ⟨w, ρ', e1, e2, e3, e4⟩ := hout_app (b := σ'.next + 1) (L := x.f0) (rv := vc) (r := x.f1) (ρ0 := σ') (ρ := ⟨((σ'.mem.set σ'.next (.cells 2 [.int .u64 0, .nilsl])).set σ'.next (.cells 2 [u64 x.f0, xr])).set (σ'.next + 1) (.cells 2 [.int .u64 (x.f0), vc]), σ'.next + 1 + 1⟩) ho (by simp; omega) (fun a ha hb => by simp [show ¬ a = σ'.next by omega, show ¬ a = σ'.next + 1 by omega]) (by omega) (by simp) (.inl hvc) hn1
              have e5 : ∀ a, a < σ1.next + 1 → ρ'.mem.get a = σ'.mem.get a := fun a ha => by
                rw [e4 a (by simp; omega) (.inl ha)]
                simp [show ¬ a = σ'.next by omega, show ¬ a = σ'.next + 1 by omega]
              have b9 := (e5 _ (by omega)).trans n3
              have t3 := e2.one.1
              have t4 := e2.one.2
              simp [lk_cons, storeL, r1, r2, n1, n2, n3, y1, y2, y3, ↓xl, ↓e1, b9, t1, t2, t3, t4, w1, fillL, repL]
              refine fin w (acc ++ [⟨x.f0, x.f1⟩]) _ (e2.frame (σ2 := ⟨ρ'.mem.set σ1.next (.cells 3 [u64 pl, u64 pe, w]), ρ'.next⟩) (Nat.le_refl _) fun a ha hb => by simp [show ¬ a = σ1.next by omega]) (by show σ'.next ≤ ρ'.next; rw [e3]; simp; omega) (fun a ha => ?_) (by simp) (by rw [← hp, List.append_assoc]) (by simp; omega)
              simp [show ¬ a = σ1.next by omega]
              exact e5 a (by omega)
      · have : i = h.length := by omega
        subst this
        rw [List.drop_length] at hp
        simp [lk_cons, n1, n2, n3, y1, y2, y3, storeL, o1, o2]
        have hp' : acc = keepH pl pe h := by rw [← hp]; simp [keepH]
        subst hp'
        have e5 : HOut (σ1.next + 1) ⟨σ'.mem.set (σ.next + 1) (.cells 3 [u64 pl, u64 pe, ov]), σ'.next⟩ ov (keepH pl pe h) := ho.frame (Nat.le_refl _) fun a ha hb => by simp [show ¬ a = σ.next + 1 by omega]
        obtain ⟨hv', f1, f2⟩ := e5.frz (lo' := σ.next) (by omega) pl pe
        refine ⟨fun a ha => ?_, cv pl pe hv', f1, hq _ _ _ hmv f2⟩
        show (σ'.mem.set (σ.next + 1) (.cells 3 [u64 pl, u64 pe, ov])).get a = _
        simp [show ¬ a = σ.next + 1 by omega]
        exact gold' a ha

end Go.Proofs.Ytinfnpbglapjhaa.AM
