/- What the functions of this chapter give: their contracts over the machine. -/
import Derived.Test.YtinfnpbglapjhaaCtxx14
/- What isn't acked: the first one. -/
namespace Go.Proofs.Ytinfnpbglapjhaa.AM
set_option maxRecDepth 100000
set_option linter.unusedVariables false
set_option linter.unusedSimpArgs false

def nf (o : Int) (t : List Ld) (ml me : Int) (h : List Hd) (pl pe : Int) : Option S25 := (allM o t).find? fun q => geB pl pe q && !ackB ml me h q
theorem nf_none {o ml me pl pe : Int} {t : List Ld} {h : List Hd} (hf : (allM o t).find? (geB pl pe) = none) : nf o t ml me h pl pe = none :=
  List.find?_eq_none.2 fun e he h' => List.find?_eq_none.1 hf e he (Bool.and_eq_true_iff.1 h').1
theorem nf_hit {o ml me pl pe : Int} {t : List Ld} {h : List Hd} {n : Nat} (hw : HWn n h) (hR : RisingP t) {q : S25} (hf : (allM o t).find? (geB pl pe) = some q) (hg : gapM q.f1 (ofM q.f0 h) = q.f1) (hm : ml < pl ∨ (pl = ml ∧ me ≤ pe)) : nf o t ml me h pl pe = some q := by
  obtain ⟨q1, q2, q3⟩ := find_first (all_sorted hR) hf
  have hq := (geB_iff pl pe q).1 q1
  have g1 := (gap_spec (ofM q.f0 h) (-1) q.f1 (hw.of q.f0).1.1).1
  rw [hg] at g1
  have hna : ¬ ackB ml me h q = true := fun ha => by
    rcases (ackB_iff ml me h q).1 ha with ha | ha
    · omega
    · exact g1 ha
  unfold nf
  cases hf2 : (allM o t).find? (fun q => geB pl pe q && !ackB ml me h q) with
  | none =>
    have := List.find?_eq_none.1 hf2 q q2
    exact absurd (by rw [Bool.and_eq_true]; exact ⟨q1, by simp [hna]⟩) this
  | some z =>
    obtain ⟨z1, z2, z3⟩ := find_first (all_sorted hR) hf2
    rw [Bool.and_eq_true] at z1
    rcases q3 z z2 z1.1 with rfl | hlt
    · rfl
    · rcases z3 q q2 (by rw [Bool.and_eq_true]; exact ⟨q1, by simp [hna]⟩) with rfl | hgt
      · rfl
      · unfold ltP at hlt hgt; omega
theorem nf_step {o ml me pl pe : Int} {t : List Ld} {h : List Hd} {n : Nat} (hw : HWn n h) (hR : RisingP t) {q : S25} (hf : (allM o t).find? (geB pl pe) = some q) (hg : q.f1 < gapM q.f1 (ofM q.f0 h)) : nf o t ml me h pl pe = nf o t ml me h q.f0 (gapM q.f1 (ofM q.f0 h)) := by
  obtain ⟨q1, q2, q3⟩ := find_first (all_sorted hR) hf
  have hq := (geB_iff pl pe q).1 q1
  obtain ⟨g1, g2, g3, g4⟩ := gap_spec (ofM q.f0 h) (-1) q.f1 (hw.of q.f0).1.1
  refine find_same fun e he => ?_
  rw [Bool.and_eq_true, Bool.and_eq_true, geB_iff, geB_iff]
  constructor
  · rintro ⟨h1, h2⟩
    refine ⟨?_, h2⟩
    rcases q3 e he ((geB_iff pl pe e).2 h1) with rfl | hlt
    · exfalso
      have := (g3 hg).1
      have ha := (ackB_iff ml me h e).2 (.inr this)
      rw [ha] at h2; simp at h2
    · rcases hlt with hlt | ⟨e1, e2⟩
      · exact .inl hlt
      · by_cases h3 : gapM q.f1 (ofM q.f0 h) ≤ e.f1
        · exact .inr ⟨e1.symm, h3⟩
        · exfalso
          have := g4 e.f1 (by omega) (by omega)
          rw [e1] at this
          have ha := (ackB_iff ml me h e).2 (.inr this)
          rw [ha] at h2; simp at h2
  · rintro ⟨h1, h2⟩
    clear g3 g4 g1
    exact ⟨by omega, h2⟩
theorem nf_mark {o ml me pl pe : Int} {t : List Ld} {h : List Hd} (h1 : ordM pl pe ml me < 0) : nf o t ml me h ml me = nf o t ml me h pl pe := by
  rw [ord_lt] at h1
  refine find_same fun e he => ?_
  rw [Bool.and_eq_true, Bool.and_eq_true, geB_iff, geB_iff]
  constructor
  · rintro ⟨h2, h3⟩
    exact ⟨by omega, h3⟩
  · rintro ⟨h2, h3⟩
    refine ⟨?_, h3⟩
    have : ¬ ackB ml me h e = true := by simpa using h3
    rw [ackB_iff] at this
    omega
def pickF : Option S25 → Int × Int × Bool
  | some q => (q.f0, q.f1, true)
  | none => (0, 0, false)
abbrev nfp (r : Option S25) : AVal := .tup [ps (pickF r).1 (pickF r).2.1, .bool (pickF r).2.2]
def N14J (lv hv : AVal) (o ml me fl fe : Int) (t : List Ld) (h : List Hd) (σ0 : St) (mm : Nat) (rg : Regs) (σ' : St) : Prop := ∃ pl pe : Int, mm = (allM o t).countP (geB pl pe) ∧ 0 ≤ pe ∧ (ml < pl ∨ (pl = ml ∧ me ≤ pe)) ∧ nf o t ml me h fl fe = nf o t ml me h pl pe ∧ (∀ a, a < σ0.next → σ'.mem.get a = σ0.mem.get a) ∧ σ0.next + 1 + 1 + 1 + 1 ≤ σ'.next ∧
  σ'.mem.get σ0.next = some (.cells 3 [u64 ml, u64 me, hv]) ∧ σ'.mem.get (σ0.next + 1 + 1) = some (.cells 2 [u64 0, u64 0]) ∧ σ'.mem.get (σ0.next + 1 + 1 + 1) = some (.cells 2 [u64 pl, u64 pe]) ∧
  rg = [(0, lv), (1, u64 o), (6, .ptr σ0.next 0), (8, .ptr (σ0.next + 1 + 1) 0), (10, .ptr (σ0.next + 1 + 1 + 1) 0)]
set_option maxHeartbeats 1000000 in
theorem next14_c {lv hv : AVal} {t : List Ld} {h : List Hd} (hlv : LdI lv t) {o : Int} (hm : Mk' t o) (hh : HI hv h) {n : Nat} (hn : n < 900) (hw : HWn n h) (ml me fl fe : Int) (hme : 0 ≤ me) (hfe : 0 ≤ fe) (σ : St) (Q : AVal → St → Prop)
    (hq : Q (nfp (nf o t ml me h fl fe)) σ) : ACall Try.prog 23 [lv, u64 o, cv ml me hv, ps fl fe] σ Q := by
  refine ACall.scrub ?_
  refine ACall.of_compF hmx (fun a w => Try.call23 a w) Try.func23 cf23 (n := 4) (by decide) rfl ?_
  have k1 := hh.one.1
  have k2 := hh.one.2
  have hHW := hw.hw (by omega)
  have hl := hHW.1
  have b1 : ¬ σ.next = σ.next + 1 + 1 := by omega
  have b2 : ¬ σ.next = σ.next + 1 + 1 + 1 := by omega
  have b3 : ¬ σ.next + 1 = σ.next + 1 + 1 + 1 := by omega
  have b4 : ¬ σ.next + 1 + 1 = σ.next + 1 + 1 + 1 := by omega
  simp only [ac23, rs23]
  simp [lk_cons, k1, k2, b1, b2, b3, b4, storeL]
  refine order_c fl fe ml me _ _ ?_
  simp [lk_cons, k1, k2, b1, b2, b3, b4, storeL]
  refine condK_mid (fun rg s => ∃ pl pe : Int, 0 ≤ pe ∧ (ml < pl ∨ (pl = ml ∧ me ≤ pe)) ∧ nf o t ml me h fl fe = nf o t ml me h pl pe ∧ (∀ a, a < σ.next → s.mem.get a = σ.mem.get a) ∧ σ.next + 1 + 1 + 1 + 1 ≤ s.next ∧
    s.mem.get σ.next = some (.cells 3 [u64 ml, u64 me, hv]) ∧ s.mem.get (σ.next + 1 + 1) = some (.cells 2 [u64 0, u64 0]) ∧ s.mem.get (σ.next + 1 + 1 + 1) = some (.cells 2 [u64 pl, u64 pe]) ∧
    norm [0, 1, 6, 8, 10] rg = [(0, lv), (1, u64 o), (6, .ptr σ.next 0), (8, .ptr (σ.next + 1 + 1) 0), (10, .ptr (σ.next + 1 + 1 + 1) 0)]) ?_ ?_
  · by_cases hc : ordM fl fe ml me < 0
    · have e1 := nf_mark (o := o) (t := t) (h := h) hc
      simp [lk_cons, hc, b1, b2, b3, b4, k1, k2, storeL]
      refine ⟨ml, me, hme, .inr ⟨rfl, Int.le_refl _⟩, e1.symm, fun a ha => ?_, rfl, rfl⟩
      simp [show ¬ a = σ.next by omega, show ¬ a = σ.next + 1 by omega, show ¬ a = σ.next + 1 + 1 by omega, show ¬ a = σ.next + 1 + 1 + 1 by omega]
    · simp [lk_cons, hc, b1, b2, b3, b4]
      refine ⟨fl, fe, hfe, by rw [ord_lt] at hc; omega, rfl, fun a ha => ?_, rfl, rfl⟩
      simp [show ¬ a = σ.next by omega, show ¬ a = σ.next + 1 by omega, show ¬ a = σ.next + 1 + 1 by omega, show ¬ a = σ.next + 1 + 1 + 1 by omega]
  · rintro rg s ⟨pl0, pe0, hpe0, hle0, hnf0, gold0, hn0, m10, m20, m30, hrg⟩
    simp only [seqK_normal, wp_block]
    refine wp_loop (N14J lv hv o ml me fl fe t h σ) ((allM o t).countP (geB pl0 pe0)) ?_ ?_
    · exact ⟨pl0, pe0, rfl, hpe0, hle0, hnf0, gold0, hn0, m10, m20, m30, hrg⟩
    · rintro mm rg' σ' ⟨pl, pe, rfl, hpe, hle, hnf, gold, hn1, m1, m2, m3, rfl⟩
      have z1 : ¬ σ.next = σ'.next := by omega
      have z2 : ¬ σ.next + 1 + 1 = σ'.next := by omega
      have z3 : ¬ σ.next + 1 + 1 + 1 = σ'.next := by omega
      have z4 : ¬ σ'.next = σ.next + 1 + 1 + 1 := by omega
      have hfn : nextM o pl pe 0 0 t = pickM ((allM o t).find? (geB pl pe)) (endM o 0 0 t) := next_find hpe t 0 0 hm.s
      have hef := end_false (o := o) t 0 0
      simp [lk_cons, m1, m2, m3]
      refine next_c hlv (by have := hm.1; omega) o pl pe _ _ ?_
      rw [hfn]
      cases hf : (allM o t).find? (geB pl pe) with
      | none =>
        obtain ⟨⟨ea, eb, ec⟩, hE⟩ : ∃ r, endM o 0 0 t = r := ⟨_, rfl⟩
        rw [hE] at hef
        have hef : ec = false := hef
        subst hef
        rw [hnf, nf_none hf] at hq
        simp [pickM, hE, lk_cons, m1, m2, m3, storeL, fillL, z2]
        refine ⟨fun a ha => ?_, hq⟩
        simp [show ¬ a = σ'.next by omega, show ¬ a = σ.next + 1 + 1 by omega]
        exact gold a ha
      | some q =>
        have hr : nextM o pl pe 0 0 t = (q.f0, q.f1, true) := by rw [hfn, hf]; rfl
        have gs := gap_spec (ofM q.f0 h) (-1) q.f1 (hw.of q.f0).1.1
        simp [pickM, lk_cons, m1, m2, m3, storeL, z1, k1, k2]
        refine held_c hh (by omega) ml me q.f0 _ _ fun rv hrv => ?_
        simp [lk_cons, m1, m2, m3, storeL, z1, k1, k2]
        refine gap_c hrv (by have := (hw.of q.f0).2; omega) q.f1 _ _ ?_
        by_cases hg : gapM q.f1 (ofM q.f0 h) = q.f1
        · rw [hnf, nf_hit hw hm.2.1 hf hg hle] at hq
          simp [lk_cons, m1, m2, m3, storeL, fillL, z1, z2, z3, z4, k1, k2, ↓eqs_ps, hg, show ¬ σ.next + 1 + 1 = σ.next + 1 + 1 + 1 by omega]
          refine ⟨fun a ha => ?_, hq⟩
          simp [show ¬ a = σ'.next by omega, show ¬ a = σ.next + 1 + 1 by omega, show ¬ a = σ.next + 1 + 1 + 1 by omega]
          exact gold a ha
        · have hgt : q.f1 < gapM q.f1 (ofM q.f0 h) := by omega
          obtain ⟨q0, _, hms⟩ := next_meas hm.s hpe hr hgt hm.2.1
          clear gs
          obtain ⟨q1, q2, _⟩ := find_first (all_sorted hm.2.1) hf
          have hqq := (geB_iff pl pe q).1 q1
          simp [lk_cons, m1, m2, m3, storeL, fillL, z1, z2, z3, z4, k1, k2, ↓eqs_ps, hg]
          refine ⟨_, hms, q.f0, gapM q.f1 (ofM q.f0 h), rfl, by omega, by omega, by rw [hnf, nf_step hw hm.2.1 hf hgt], fun a ha => ?_, by simp; omega, ?_, ?_, by simp, rfl⟩
          · simp [show ¬ a = σ'.next by omega, show ¬ a = σ.next + 1 + 1 + 1 by omega]
            exact gold a ha
          · simp [z1, show ¬ σ.next = σ.next + 1 + 1 + 1 by omega]; exact m1
          · simp [z2, show ¬ σ.next + 1 + 1 = σ.next + 1 + 1 + 1 by omega]; exact m2

/-! ### The document's -/
def F14J (hv wv : AVal) (ml me fl fe : Int) (A : List S25) (h : List Hd) (σ0 : St) (mm : Nat) (rg : Regs) (σ' : St) : Prop := ∃ i : Nat, mm = A.length - i ∧ i ≤ A.length ∧ (A.find? fun q => geB fl fe q && !ackB ml me h q) = ((A.drop i).find? fun q => geB fl fe q && !ackB ml me h q) ∧
  σ' = ⟨((σ0.mem.set σ0.next (.cells 3 [u64 ml, u64 me, hv])).set (σ0.next + 1) (.cells 2 [u64 fl, u64 fe])).set (σ0.next + 1 + 1) (.cells 2 [.int .u64 0, .int .u64 0]), σ0.next + 1 + 1 + 1⟩ ∧
  rg = [(6, .ptr σ0.next 0), (7, .ptr (σ0.next + 1) 0), (8, .ptr (σ0.next + 1 + 1) 0), (10, wv), (11, i64 i)]
theorem free_c {lv hv : AVal} {t : List Ld} {h : List Hd} (hlv : LdI lv t) {o : Int} (hm : Mk' t o) (hh : HI hv h) {n : Nat} (hn : n < 900) (hw : HWn n h) (ml me fl fe : Int) (σ : St) (Q : AVal → St → Prop)
    (hq : Q (nfp (nf o t ml me h fl fe)) σ) : ACall Try.prog 24 [lv, u64 o, cv ml me hv, ps fl fe] σ Q := by
  refine ACall.scrub ?_
  refine ACall.of_compF hmx (fun a w => Try.call24 a w) Try.func24 cf24 (n := 4) (by decide) rfl ?_
  have k1 := hh.one.1
  have k2 := hh.one.2
  have hHW := hw.hw (by omega)
  have hA := all_len t hm.s
  have htl := hm.1
  have b1 : ¬ σ.next = σ.next + 1 + 1 := by omega
  have b2 : ¬ σ.next + 1 = σ.next + 1 + 1 := by omega
  simp only [ac24, rs24]
  simp [lk_cons, k1, k2, b1]
  refine all_c hlv (by omega) hm.s _ _ fun wv hwv => ?_
  have l2 := (hwv.m σ).len
  simp [lk_cons, k1, k2, b1]
  refine wp_loop (F14J hv wv ml me fl fe (allM o t) h σ) (allM o t).length ?_ ?_
  · exact ⟨0, rfl, Nat.zero_le _, rfl, rfl, by simp [lk_cons]⟩
  · rintro mm rg σ' ⟨i, rfl, hi, hp, rfl, rfl⟩
    by_cases hlt : i < (allM o t).length
    · obtain ⟨x, hx⟩ : ∃ x, (allM o t)[i]? = some x := ⟨_, List.getElem?_eq_getElem hlt⟩
      obtain ⟨k, hk⟩ : ∃ k, i + 1 = k := ⟨_, rfl⟩
      have w1 : IntKind.i64.wrap ((i : Int) + 1) = (k : Int) := by rw [IntWalk.i64_in] <;> omega
      obtain ⟨p, p1, p2, _, _⟩ := (hwv.m σ).at hx (ρ := ⟨((σ.mem.set σ.next (.cells 3 [u64 ml, u64 me, hv])).set (σ.next + 1) (.cells 2 [u64 fl, u64 fe])).set (σ.next + 1 + 1) (.cells 2 [.int .u64 0, .int .u64 0]), σ.next + 1 + 1 + 1⟩) fun a ha => by simp [show ¬ a = σ.next by omega, show ¬ a = σ.next + 1 by omega, show ¬ a = σ.next + 1 + 1 by omega]
      have hdr : (allM o t).drop i = x :: (allM o t).drop k := by rw [List.drop_eq_getElem_cons hlt, (List.getElem?_eq_some_iff.1 hx).2, hk]
      rw [hdr] at hp
      simp [lk_cons, ↓l2, hlt, ↓p1, ↓p2, k1, k2, b1, b2]
      refine rorder_c x.f0 x.f1 fl fe _ _ ?_
      have hge : geB fl fe x = decide (0 ≤ ordM x.f0 x.f1 fl fe) := rfl
      by_cases c1 : 0 ≤ ordM x.f0 x.f1 fl fe
      · simp [lk_cons, ↓l2, hlt, ↓p1, ↓p2, k1, k2, b1, b2, c1]
        refine racked_c hh hHW ml me x.f0 x.f1 _ _ ?_
        have hxx : (⟨x.f0, x.f1⟩ : S25) = x := rfl
        rw [hxx]
        cases hb : ackB ml me h x with
        | true =>
          rw [List.find?_cons_of_neg (by simp [hb])] at hp
          simp [lk_cons, ↓l2, hlt, ↓p1, ↓p2, k1, k2, b1, b2, c1, w1]
          exact ⟨(allM o t).length - k, by omega, k, rfl, by omega, hp, rfl, by simp [lk_cons]⟩
        | false =>
          rw [List.find?_cons_of_pos (by rw [hge]; simp [hb]; omega)] at hp
          unfold nf at hq
          rw [hp] at hq
          simp [lk_cons, ↓l2, hlt, ↓p1, ↓p2, k1, k2, b1, b2, c1, storeL]
          refine ⟨fun a ha => ?_, hq⟩
          simp [show ¬ a = σ.next by omega, show ¬ a = σ.next + 1 by omega, show ¬ a = σ.next + 1 + 1 by omega]
      · rw [List.find?_cons_of_neg (by rw [hge]; simp; omega)] at hp
        simp [lk_cons, ↓l2, hlt, ↓p1, ↓p2, k1, k2, b1, b2, c1, w1]
        exact ⟨(allM o t).length - k, by omega, k, rfl, by omega, hp, rfl, by simp [lk_cons]⟩
    · have : i = (allM o t).length := by omega
      subst this
      rw [List.drop_length] at hp
      unfold nf at hq
      rw [hp] at hq
      simp [lk_cons, ↓l2, storeL, fillL]
      refine ⟨fun a ha => ?_, hq⟩
      simp [show ¬ a = σ.next by omega, show ¬ a = σ.next + 1 by omega, show ¬ a = σ.next + 1 + 1 by omega]

end Go.Proofs.Ytinfnpbglapjhaa.AM

/- How many aren't acked. -/
namespace Go.Proofs.Ytinfnpbglapjhaa.AM
set_option maxRecDepth 100000
set_option linter.unusedVariables false
set_option linter.unusedSimpArgs false

/-- Is a place held by one of these? -/
def inH (h : List Hd) (q : S25) : Bool := h.any fun x => decide (x.f0 = q.f0) && inB x.f1 q.f1
theorem inH_of {q : S25} : ∀ {h : List Hd} {b : Int}, HOk b h → inH h q = inB (ofM q.f0 h) q.f1
  | [], _, _ => rfl
  | x :: t, b, hok => by
    obtain ⟨h1, h2, h3, h4⟩ := hok
    have ih := inH_of (q := q) h4
    have e : inH (x :: t) q = ((decide (x.f0 = q.f0) && inB x.f1 q.f1) || inH t q) := by simp [inH]
    rw [e, ih]
    simp only [ofM]
    by_cases c : x.f0 = q.f0
    · rw [if_pos c]
      have : ofM q.f0 t = [] := of_out h4 (by omega)
      rw [this]
      simp [c, inB]
    · rw [if_neg c]; simp [c]
theorem of_mem {x : Hd} : ∀ {h : List Hd} {b : Int}, HOk b h → x ∈ h → ofM x.f0 h = x.f1
  | y :: t, b, hok, hx => by
    obtain ⟨h1, h2, h3, h4⟩ := hok
    simp only [ofM]
    rcases List.mem_cons.1 hx with rfl | hx
    · rw [if_pos rfl]
    · have := (hok_mem h4 x hx).1
      rw [if_neg (by omega), of_mem h4 hx]
theorem countP_split (A : List S25) (P R S : S25 → Bool) (h : ∀ q ∈ A, (P q = true ↔ R q = true ∨ S q = true) ∧ ¬ (R q = true ∧ S q = true)) : A.countP P = A.countP R + A.countP S := by
  induction A with
  | nil => rfl
  | cons a A ih =>
    have ha := h a List.mem_cons_self
    have := ih fun q hq => h q (List.mem_cons_of_mem _ hq)
    simp only [List.countP_cons]
    cases hP : P a <;> cases hR : R a <;> cases hS : S a <;> simp [hP, hR, hS] at ha ⊢ <;> omega
def PB (ml me : Int) (h : List Hd) (q : S25) : Bool := geB ml me q && !inH h q
def PC (ml me : Int) (h : List Hd) (L : Int) (rs : List S25) (q : S25) : Bool := geB ml me q && !(inH h q || (decide (L = q.f0) && inB rs q.f1))
theorem pb_all {o ml me : Int} {t : List Ld} {h : List Hd} (hC : COk ml me h) : (allM o t).countP (PB ml me h) = (allM o t).countP fun q => !ackB ml me h q := by
  refine List.countP_congr fun q _ => ?_
  unfold PB
  rw [inH_of hC.1]
  unfold ackB geB
  by_cases c : ordM q.f0 q.f1 ml me < 0
  · have : ¬ 0 ≤ ordM q.f0 q.f1 ml me := by omega
    simp [c, this]
  · have : 0 ≤ ordM q.f0 q.f1 ml me := by omega
    simp [c, this]
theorem ord_in (q : S25) (L lo hi : Int) : inP L lo L hi q = true ↔ q.f0 = L ∧ lo ≤ q.f1 ∧ q.f1 < hi := by
  unfold inP
  rw [Bool.and_eq_true, decide_eq_true_eq, decide_eq_true_eq, ord_ge, ord_lt]
  omega
/-- A range of a ledger that is taken from what is left. -/
theorem pc_step {o ml me : Int} {t : List Ld} {h : List Hd} (hC : COk ml me h) {i : Nat} {x : Hd} (hx : h[i]? = some x) {j : Nat} {r : S25} (hr : x.f1[j]? = some r) :
    (allM o t).countP (PC ml me (h.take i) x.f0 (x.f1.take j)) = (allM o t).countP (PC ml me (h.take i) x.f0 (x.f1.take (j + 1))) + (allM o t).countP (inP x.f0 r.f0 x.f0 r.f1) := by
  have hxm := List.mem_of_getElem? hx
  obtain ⟨_, hg, _⟩ := hok_mem hC.1 x hxm
  have htk : x.f1.take (j + 1) = x.f1.take j ++ [r] := by rw [List.take_add_one, hr]; rfl
  refine countP_split _ _ _ _ fun q hq => ?_
  unfold PC
  rw [htk]
  have e1 : inB (x.f1.take j ++ [r]) q.f1 = (inB (x.f1.take j) q.f1 || decide (r.f0 ≤ q.f1 ∧ q.f1 < r.f1)) := by simp [inB]
  rw [e1]
  have hin := ord_in q x.f0 r.f0 r.f1
  -- a place of the range is behind the mark, and not in what went ahead
  have key : q.f0 = x.f0 → r.f0 ≤ q.f1 → q.f1 < r.f1 → geB ml me q = true ∧ inH (h.take i) q = false ∧ inB (x.f1.take j) q.f1 = false := by
    intro k1 k2 k3
    have hinr : InP x.f1 q.f1 := ⟨r, List.mem_of_getElem? hr, k2, k3⟩
    refine ⟨?_, ?_, ?_⟩
    · rw [geB_iff]
      have := hC.2.2 q.f0 q.f1 (by rw [k1, of_mem hC.1 hxm]; exact hinr)
      omega
    · rw [← Bool.not_eq_true]
      intro hh
      unfold inH at hh
      obtain ⟨y, hy, hyq⟩ := List.any_eq_true.1 hh
      have hy0 : y.f0 = q.f0 := by
        have := (Bool.and_eq_true_iff.1 hyq).1
        exact of_decide_eq_true this
      -- ledgers ahead are smaller
      have : y.f0 < x.f0 := by
        have hi := (List.getElem?_eq_some_iff.1 hx).1
        have hsplit : h = h.take i ++ x :: h.drop (i + 1) := by
          rw [← (List.getElem?_eq_some_iff.1 hx).2, ← List.drop_eq_getElem_cons hi, List.take_append_drop]
        have gen : ∀ (a : List Hd) (b : Int) (c : List Hd), HOk b (a ++ x :: c) → ∀ y ∈ a, y.f0 < x.f0 := by
          intro a
          induction a with
          | nil => intro b c _ y hy; cases hy
          | cons z a ih =>
            intro b c hok y hy
            rcases List.mem_cons.1 hy with rfl | hy
            · exact (hok_mem hok.2.2.2 x (by simp)).1
            · exact ih _ c hok.2.2.2 y hy
        have hok := hC.1
        rw [hsplit] at hok
        exact gen _ _ _ hok y hy
      omega
    · rw [← Bool.not_eq_true, inB_iff]
      rintro ⟨z, hz, z1, z2⟩
      obtain ⟨i', hi', he⟩ := List.getElem_of_mem hz
      have hlt : i' < j := by simp at hi'; omega
      have hj := (List.getElem?_eq_some_iff.1 hr).1
      have gen : ∀ (l : List S25) (b : Int) (a c : Nat) (ha : a < l.length) (hc : c < l.length), Can b l → a < c → (l[a]).f1 < (l[c]).f0 := by
        intro l
        induction l with
        | nil => intro b a c ha; simp at ha
        | cons w l ih =>
          intro b a c ha hc hcan hac
          obtain ⟨_, _, hcan2⟩ := hcan
          cases c with
          | zero => omega
          | succ c =>
            cases a with
            | zero => exact (can_mem hcan2 _ (List.getElem_mem _)).1
            | succ a => exact ih _ a c (by simpa using ha) (by simpa using hc) hcan2 (by omega)
      have h1 := gen x.f1 (-1) i' j (by omega) hj hg.1 hlt
      have h2 : x.f1[i'] = z := by rw [← he]; simp
      have h3 : x.f1[j] = r := (List.getElem?_eq_some_iff.1 hr).2
      rw [h2, h3] at h1
      omega
  by_cases c : q.f0 = x.f0 ∧ r.f0 ≤ q.f1 ∧ q.f1 < r.f1
  · obtain ⟨k1, k2, k3⟩ := key c.1 c.2.1 c.2.2
    have hR := hin.2 c
    simp [k1, k2, k3, hR, c.1, c.2.1, c.2.2]
  · have hR : inP x.f0 r.f0 x.f0 r.f1 q = false := by rw [← Bool.not_eq_true]; exact fun hh => c (hin.1 hh)
    rw [hR]
    by_cases c1 : x.f0 = q.f0
    · have c2 : ¬ (r.f0 ≤ q.f1 ∧ q.f1 < r.f1) := fun hh => c ⟨c1.symm, hh⟩
      simp [c1, c2]
    · simp [c1]
theorem pc_zero {o ml me : Int} {t : List Ld} (h : List Hd) (L : Int) : (allM o t).countP (PC ml me h L []) = (allM o t).countP (PB ml me h) := by
  refine List.countP_congr fun q _ => ?_
  unfold PC PB
  simp [inB]
theorem pc_end {o ml me : Int} {t : List Ld} {h : List Hd} {i : Nat} {x : Hd} (hx : h[i]? = some x) : (allM o t).countP (PC ml me (h.take i) x.f0 x.f1) = (allM o t).countP (PB ml me (h.take (i + 1))) := by
  refine List.countP_congr fun q _ => ?_
  unfold PC PB
  rw [List.take_add_one, hx]
  simp [inH]
theorem pb_zero {o ml me : Int} {t : List Ld} : (allM o t).countP (PB ml me []) = (allM o t).countP (geB ml me) := by
  refine List.countP_congr fun q _ => ?_
  unfold PB
  simp [inH]
theorem sum_end {o ml me : Int} {t : List Ld} (hm : Mk' t o) (hb : ∀ x ∈ t, x.f0 ≤ 18446744073709551615) (hme : 0 ≤ me) : sumB o ml me 18446744073709551615 18446744073709551615 t = (((allM o t).countP (geB ml me) : Nat) : Int) := by
  rw [← count_all hme (by omega) t hm.s]
  congr 1
  refine List.countP_congr fun q hq => ?_
  obtain ⟨x, hx, e1, e2, e3⟩ := all_mem hq
  have := hm.s x hx
  have := hb x hx
  have hlt : ordM q.f0 q.f1 18446744073709551615 18446744073709551615 < 0 := by rw [ord_lt]; omega
  unfold inP geB
  simp [hlt]

end Go.Proofs.Ytinfnpbglapjhaa.AM

/- Backlog. -/
namespace Go.Proofs.Ytinfnpbglapjhaa.AM
set_option maxRecDepth 100000
set_option linter.unusedVariables false
set_option linter.unusedSimpArgs false

def cnt (o : Int) (t : List Ld) (P : S25 → Bool) : Nat := (allM o t).countP P
def BlJ (lv hv : AVal) (o ml me : Int) (t : List Ld) (h : List Hd) (σ0 : St) (mm : Nat) (rg : Regs) (σ' : St) : Prop := ∃ i : Nat, mm = h.length - i ∧ i ≤ h.length ∧ σ0.next ≤ σ'.next ∧ (∀ a, a < σ0.next → σ'.mem.get a = σ0.mem.get a) ∧
  rg = [(0, lv), (1, u64 o), (8, u64 (cnt o t (PB ml me (h.take i)) : Nat)), (21, hv), (22, i64 h.length), (23, i64 i)]
def BlJ2 (lv hv rv : AVal) (o ml me : Int) (t : List Ld) (h : List Hd) (i : Nat) (x : Hd) (σ0 σ1 : St) (mm : Nat) (rg : Regs) (σ' : St) : Prop := ∃ j : Nat, mm = x.f1.length - j ∧ j ≤ x.f1.length ∧ σ1.next + 1 ≤ σ'.next ∧ (∀ a, a < σ0.next → σ'.mem.get a = σ0.mem.get a) ∧ σ'.mem.get σ1.next = some (.cells 2 [u64 x.f0, rv]) ∧
  rg = [(0, lv), (1, u64 o), (8, u64 (cnt o t (PC ml me (h.take i) x.f0 (x.f1.take j)) : Nat)), (10, .ptr σ1.next 0), (21, hv), (22, i64 h.length), (23, i64 i), (28, rv), (29, i64 x.f1.length), (30, i64 j)]
set_option maxHeartbeats 1000000 in
theorem backlog_c {lv hv : AVal} {t : List Ld} {h : List Hd} (hlv : LdI lv t) {o : Int} (hm : Mk' t o) (hb : ∀ x ∈ t, x.f0 ≤ 18446744073709551615) (hh : HI hv h) {n : Nat} (hn : n < 900) (hw : HWn n h) {ml me : Int} (hC : COk ml me h) (hme : 0 ≤ me) (σ : St) (Q : AVal → St → Prop)
    (hq : Q (u64 (cnt o t (fun q => !ackB ml me h q) : Nat)) σ) : ACall Try.prog 25 [lv, u64 o, cv ml me hv] σ Q := by
  refine ACall.scrub ?_
  refine ACall.of_compF hmx (fun a w => Try.call25 a w) Try.func25 cf25 (n := 3) (by decide) rfl ?_
  have k1 := hh.one.1
  have k2 := hh.one.2
  have hHW := hw.hw (by omega)
  have hl := hHW.1
  have l1 := hh.len
  have htl := hm.1
  have hA := all_len t hm.s
  have hcb : ∀ P, cnt o t P ≤ 1300 := fun P => by have := List.countP_le_length (p := P) (l := allM o t); unfold cnt; omega
  have hs' : ∀ x ∈ t, 0 ≤ szM x o ∧ szM x o ≤ 1099511627776 := fun x hx => by have := hm.s x hx; omega
  simp only [ac25, rs25]
  simp [lk_cons, k1, k2, storeL, fillL]
  refine between_c hlv (by omega) hs' (al := ml) (bl := 18446744073709551615) hme (by omega) _ _ ?_
  rw [sum_end hm hb hme]
  simp [lk_cons, k1, k2, ↓l1]
  refine wp_loop (BlJ lv hv o ml me t h σ) h.length ?_ ?_
  · refine ⟨0, rfl, Nat.zero_le _, by simp; omega, fun a ha => by simp [show ¬ a = σ.next by omega, show ¬ a = σ.next + 1 by omega], ?_⟩
    have e : cnt o t (PB ml me (h.take 0)) = (allM o t).countP (geB ml me) := by rw [List.take_zero]; exact pb_zero
    rw [e]
    rfl
  · rintro mm rg σ1 ⟨i, rfl, hi, hn1, gold, rfl⟩
    by_cases hlt : i < h.length
    · obtain ⟨x, hx⟩ : ∃ x, h[i]? = some x := ⟨_, List.getElem?_eq_getElem hlt⟩
      obtain ⟨k, hk⟩ : ∃ k, i + 1 = k := ⟨_, rfl⟩
      have w1 : IntKind.i64.wrap ((i : Int) + 1) = (k : Int) := by rw [IntWalk.i64_in] <;> omega
      obtain ⟨p, r, hr, p1, p2, _, _⟩ := hh.at hx σ1
      have r1 := hr.one.1
      have r2 := hr.one.2
      have l2 := (hr.m σ1).len
      have hxr := hHW.2 x (List.mem_of_getElem? hx)
      simp [lk_cons, hlt, ↓p1, ↓p2, storeL, r1, r2, ↓l2]
      refine wp_loop (BlJ2 lv hv r o ml me t h i x σ σ1) x.f1.length ?_ ?_
      · refine ⟨0, rfl, Nat.zero_le _, by simp, fun a ha => by simp [show ¬ a = σ1.next by omega]; exact gold a ha, by simp, ?_⟩
        have e : cnt o t (PC ml me (h.take i) x.f0 (x.f1.take 0)) = cnt o t (PB ml me (h.take i)) := by rw [List.take_zero]; exact pc_zero _ _
        rw [e]
        rfl
      · rintro m2 rg2 σ2 ⟨j, rfl, hj, hn2, gold2, m1, rfl⟩
        by_cases hlt2 : j < x.f1.length
        · obtain ⟨z, hz⟩ : ∃ z, x.f1[j]? = some z := ⟨_, List.getElem?_eq_getElem hlt2⟩
          obtain ⟨j', hj'⟩ : ∃ k, j + 1 = k := ⟨_, rfl⟩
          have w2 : IntKind.i64.wrap ((j : Int) + 1) = (j' : Int) := by rw [IntWalk.i64_in] <;> omega
          obtain ⟨q, q1, q2, _, _⟩ := (hr.m σ2).at hz (ρ := σ2) fun _ _ => rfl
          have hzb := good_mem hxr.1 z (List.mem_of_getElem? hz)
          have z1 : ¬ σ1.next = σ2.next := by omega
          have hstep := pc_step (o := o) (t := t) hC hx hz
          have hc := count_all (al := x.f0) (bl := x.f0) (ae := z.f0) (be := z.f1) hzb.1 (by omega) t hm.s
          simp [lk_cons, hlt2, ↓q1, ↓q2, storeL, r1, r2, m1, z1, fillL]
          refine between_c hlv (by omega) hs' (al := x.f0) (bl := x.f0) hzb.1 (by omega) _ _ ?_
          rw [← hc]
          have e : ((cnt o t (PC ml me (h.take i) x.f0 (x.f1.take j)) : Nat) : Int) - (((allM o t).countP (inP x.f0 z.f0 x.f0 z.f1) : Nat) : Int) = ((cnt o t (PC ml me (h.take i) x.f0 (x.f1.take j')) : Nat) : Int) := by
            unfold cnt; rw [hstep, hj']; omega
          have w3 : IntKind.u64.wrap ((cnt o t (PC ml me (h.take i) x.f0 (x.f1.take j')) : Nat) : Int) = ((cnt o t (PC ml me (h.take i) x.f0 (x.f1.take j')) : Nat) : Int) := by
            have := hcb (PC ml me (h.take i) x.f0 (x.f1.take j'))
            rw [IntWalk.u64_in]; omega
          simp [lk_cons, e, w3, w2]
          refine ⟨x.f1.length - j', by omega, j', rfl, by omega, by simp; omega, fun a ha => by simp [show ¬ a = σ2.next by omega]; exact gold2 a ha, by simp [z1]; exact m1, rfl⟩
        · have : j = x.f1.length := by omega
          subst this
          have e : cnt o t (PC ml me (h.take i) x.f0 (x.f1.take x.f1.length)) = cnt o t (PB ml me (h.take k)) := by rw [List.take_length, ← hk]; exact pc_end hx
          rw [e]
          simp [lk_cons, w1]
          exact ⟨h.length - k, by omega, k, rfl, by omega, by omega, gold2, rfl⟩
    · have : i = h.length := by omega
      subst this
      have e : cnt o t (PB ml me (h.take h.length)) = cnt o t (fun q => !ackB ml me h q) := by rw [List.take_length]; exact pb_all hC
      rw [e]
      simp [lk_cons]
      exact ⟨gold, hq⟩
def RbJ (hv wv : AVal) (ml me : Int) (A : List S25) (h : List Hd) (σ0 : St) (mm : Nat) (rg : Regs) (σ' : St) : Prop := ∃ i : Nat, mm = A.length - i ∧ i ≤ A.length ∧ σ' = ⟨σ0.mem.set σ0.next (.cells 3 [u64 ml, u64 me, hv]), σ0.next + 1⟩ ∧
  rg = [(5, .ptr σ0.next 0), (7, wv), (8, u64 ((A.take i).countP (fun q => !ackB ml me h q) : Nat)), (9, i64 i)]
theorem rbacklog_c {lv hv : AVal} {t : List Ld} {h : List Hd} (hlv : LdI lv t) {o : Int} (hm : Mk' t o) (hh : HI hv h) {n : Nat} (hn : n < 900) (hw : HWn n h) (ml me : Int) (σ : St) (Q : AVal → St → Prop)
    (hq : Q (u64 (cnt o t (fun q => !ackB ml me h q) : Nat)) σ) : ACall Try.prog 26 [lv, u64 o, cv ml me hv] σ Q := by
  refine ACall.scrub ?_
  refine ACall.of_compF hmx (fun a w => Try.call26 a w) Try.func26 cf26 (n := 3) (by decide) rfl ?_
  have k1 := hh.one.1
  have k2 := hh.one.2
  have hHW := hw.hw (by omega)
  have hA := all_len t hm.s
  have htl := hm.1
  simp only [ac26, rs26]
  simp [lk_cons, k1, k2]
  refine all_c hlv (by omega) hm.s _ _ fun wv hwv => ?_
  have l2 := (hwv.m σ).len
  simp [lk_cons, k1, k2]
  refine wp_loop (RbJ hv wv ml me (allM o t) h σ) (allM o t).length ?_ ?_
  · exact ⟨0, rfl, Nat.zero_le _, rfl, by simp [lk_cons]⟩
  · rintro mm rg σ' ⟨i, rfl, hi, rfl, rfl⟩
    by_cases hlt : i < (allM o t).length
    · obtain ⟨x, hx⟩ : ∃ x, (allM o t)[i]? = some x := ⟨_, List.getElem?_eq_getElem hlt⟩
      obtain ⟨k, hk⟩ : ∃ k, i + 1 = k := ⟨_, rfl⟩
      have w1 : IntKind.i64.wrap ((i : Int) + 1) = (k : Int) := by rw [IntWalk.i64_in] <;> omega
      obtain ⟨p, p1, p2, _, _⟩ := (hwv.m σ).at hx (ρ := ⟨σ.mem.set σ.next (.cells 3 [u64 ml, u64 me, hv]), σ.next + 1⟩) fun a ha => by simp [show ¬ a = σ.next by omega]
      have hle := List.countP_le_length (p := fun q => !ackB ml me h q) (l := (allM o t).take i)
      rw [List.length_take] at hle
      have htk : ((allM o t).take k).countP (fun q => !ackB ml me h q) = ((allM o t).take i).countP (fun q => !ackB ml me h q) + (if (!ackB ml me h x) = true then 1 else 0) := by
        rw [← hk, List.take_add_one, hx, List.countP_append]; simp [List.countP_cons]
      simp [lk_cons, ↓l2, hlt, ↓p1, ↓p2, k1, k2]
      refine racked_c hh hHW ml me x.f0 x.f1 _ _ ?_
      have hxx : (⟨x.f0, x.f1⟩ : S25) = x := rfl
      rw [hxx]
      obtain ⟨c, hc⟩ : ∃ c, ((allM o t).take i).countP (fun q => !ackB ml me h q) = c := ⟨_, rfl⟩
      rw [hc] at htk hle
      cases hb : ackB ml me h x with
      | true =>
        simp [hb] at htk
        simp [lk_cons, hc, w1]
        refine ⟨(allM o t).length - k, by omega, k, rfl, by omega, rfl, ?_⟩
        rw [← htk]
      | false =>
        simp [hb] at htk
        have w2 : IntKind.u64.wrap ((c : Int) + 1) = ((c + 1 : Nat) : Int) := by rw [IntWalk.u64_in] <;> omega
        simp [lk_cons, hc, w1, w2]
        refine ⟨(allM o t).length - k, by omega, k, rfl, by omega, rfl, ?_⟩
        rw [htk]; simp
    · have : i = (allM o t).length := by omega
      subst this
      rw [List.take_length]
      unfold cnt at hq
      simp [lk_cons, ↓l2]
      exact ⟨fun a ha => by simp [show ¬ a = σ.next by omega], hq⟩

end Go.Proofs.Ytinfnpbglapjhaa.AM
