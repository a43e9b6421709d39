/- What the functions of this chapter give: their contracts over the machine. -/
import Derived.Test.YtinfnpbglapjhaaCtxx14
/- What isn't acked: the first one. -/
namespace Go.Proofs.Ytinfnpbglapjhaa.AM
set_option maxRecDepth 100000
set_option linter.unusedVariables false
set_option linter.unusedSimpArgs false

def nf (o : Int) (t : List Ld) (ml me : Int) (h : List Hd) (pl pe : Int) : Option S25 := (allM o t).find? fun q => geB pl pe q && !ackB ml me h q
theorem nf_none {o ml me pl pe : Int} {t : List Ld} {h : List Hd} (hf : (allM o t).find? (geB pl pe) = none) : nf o t ml me h pl pe = none :=
  List.find?_eq_none.2 fun e he h' => List.find?_eq_none.1 hf e he (Bool.and_eq_true_iff.1 h').1
theorem nf_hit {o ml me pl pe : Int} {t : List Ld} {h : List Hd} {n : Nat} (hw : HWn n h) (hR : RisingP t) {q : S25} (hf : (allM o t).find? (geB pl pe) = some q) (hg : gapM q.f1 (ofM q.f0 h) = q.f1) (hm : ml < pl ∨ (pl = ml ∧ me ≤ pe)) : nf o t ml me h pl pe = some q := by
  obtain ⟨q1, q2, q3⟩ := find_first (all_sorted hR) hf
  have hq := (geB_iff pl pe q).1 q1
  have g1 := (gap_spec (ofM q.f0 h) (-1) q.f1 (hw.of q.f0).1.1).1
  rw [hg] at g1
  have hna : ¬ ackB ml me h q = true := fun ha => by
    rcases (ackB_iff ml me h q).1 ha with ha | ha
    · omega
    · exact g1 ha
  unfold nf
  cases hf2 : (allM o t).find? (fun q => geB pl pe q && !ackB ml me h q) with
  | none =>
    have := List.find?_eq_none.1 hf2 q q2
    exact absurd (by rw [Bool.and_eq_true]; exact ⟨q1, by simp [hna]⟩) this
  | some z =>
    obtain ⟨z1, z2, z3⟩ := find_first (all_sorted hR) hf2
    rw [Bool.and_eq_true] at z1
    rcases q3 z z2 z1.1 with rfl | hlt
    · rfl
    · rcases z3 q q2 (by rw [Bool.and_eq_true]; exact ⟨q1, by simp [hna]⟩) with rfl | hgt
      · rfl
      · unfold ltP at hlt hgt; omega
theorem nf_step {o ml me pl pe : Int} {t : List Ld} {h : List Hd} {n : Nat} (hw : HWn n h) (hR : RisingP t) {q : S25} (hf : (allM o t).find? (geB pl pe) = some q) (hg : q.f1 < gapM q.f1 (ofM q.f0 h)) : nf o t ml me h pl pe = nf o t ml me h q.f0 (gapM q.f1 (ofM q.f0 h)) := by
  obtain ⟨q1, q2, q3⟩ := find_first (all_sorted hR) hf
  have hq := (geB_iff pl pe q).1 q1
  obtain ⟨g1, g2, g3, g4⟩ := gap_spec (ofM q.f0 h) (-1) q.f1 (hw.of q.f0).1.1
  refine find_same fun e he => ?_
  rw [Bool.and_eq_true, Bool.and_eq_true, geB_iff, geB_iff]
  constructor
  · rintro ⟨h1, h2⟩
    refine ⟨?_, h2⟩
    rcases q3 e he ((geB_iff pl pe e).2 h1) with rfl | hlt
    · exfalso
      have := (g3 hg).1
      have ha := (ackB_iff ml me h e).2 (.inr this)
      rw [ha] at h2; simp at h2
    · rcases hlt with hlt | ⟨e1, e2⟩
      · exact .inl hlt
      · by_cases h3 : gapM q.f1 (ofM q.f0 h) ≤ e.f1
        · exact .inr ⟨e1.symm, h3⟩
        · exfalso
          have := g4 e.f1 (by omega) (by omega)
          rw [e1] at this
          have ha := (ackB_iff ml me h e).2 (.inr this)
          rw [ha] at h2; simp at h2
  · rintro ⟨h1, h2⟩
    clear g3 g4 g1
    exact ⟨by omega, h2⟩
theorem nf_mark {o ml me pl pe : Int} {t : List Ld} {h : List Hd} (h1 : ordM pl pe ml me < 0) : nf o t ml me h ml me = nf o t ml me h pl pe := by
  rw [ord_lt] at h1
  refine find_same fun e he => ?_
  rw [Bool.and_eq_true, Bool.and_eq_true, geB_iff, geB_iff]
  constructor
  · rintro ⟨h2, h3⟩
    exact ⟨by omega, h3⟩
  · rintro ⟨h2, h3⟩
    refine ⟨?_, h3⟩
    have : ¬ ackB ml me h e = true := by simpa using h3
    rw [ackB_iff] at this
    omega
def pickF : Option S25 → Int × Int × Bool
  | some q => (q.f0, q.f1, true)
  | none => (0, 0, false)
abbrev nfp (r : Option S25) : AVal := .tup [ps (pickF r).1 (pickF r).2.1, .bool (pickF r).2.2]
def N14J (lv hv : AVal) (o ml me fl fe : Int) (t : List Ld) (h : List Hd) (σ0 : St) (mm : Nat) (rg : Regs) (σ' : St) : Prop := ∃ pl pe : Int, mm = (allM o t).countP (geB pl pe) ∧ 0 ≤ pe ∧ (ml < pl ∨ (pl = ml ∧ me ≤ pe)) ∧ nf o t ml me h fl fe = nf o t ml me h pl pe ∧ (∀ a, a < σ0.next → σ'.mem.get a = σ0.mem.get a) ∧ σ0.next + 1 + 1 + 1 + 1 ≤ σ'.next ∧
  σ'.mem.get σ0.next = some (.cells 3 [u64 ml, u64 me, hv]) ∧ σ'.mem.get (σ0.next + 1 + 1) = some (.cells 2 [u64 0, u64 0]) ∧ σ'.mem.get (σ0.next + 1 + 1 + 1) = some (.cells 2 [u64 pl, u64 pe]) ∧
  rg = [(0, lv), (1, u64 o), (6, .ptr σ0.next 0), (8, .ptr (σ0.next + 1 + 1) 0), (10, .ptr (σ0.next + 1 + 1 + 1) 0)]
set_option maxHeartbeats 1000000 in
theorem next14_c {lv hv : AVal} {t : List Ld} {h : List Hd} (hlv : LdI lv t) {o : Int} (hm : Mk' t o) (hh : HI hv h) {n : Nat} (hn : n < 900) (hw : HWn n h) (ml me fl fe : Int) (hme : 0 ≤ me) (hfe : 0 ≤ fe) (σ : St) (Q : AVal → St → Prop)
    (hq : Q (nfp (nf o t ml me h fl fe)) σ) : ACall Try.prog 23 [lv, u64 o, cv ml me hv, ps fl fe] σ Q := by
  refine ACall.scrub ?_
  refine ACall.of_compF hmx (fun a w => Try.call23 a w) Try.func23 cf23 (n := 4) (by decide) rfl ?_
  have k1 := hh.one.1
  have k2 := hh.one.2
  have hHW := hw.hw (by omega)
  have hl := hHW.1
  have b1 : ¬ σ.next = σ.next + 1 + 1 := by omega
  have b2 : ¬ σ.next = σ.next + 1 + 1 + 1 := by omega
  have b3 : ¬ σ.next + 1 = σ.next + 1 + 1 + 1 := by omega
  have b4 : ¬ σ.next + 1 + 1 = σ.next + 1 + 1 + 1 := by omega
  simp only [ac23, rs23]
  simp [lk_cons, k1, k2, b1, b2, b3, b4, storeL]
  refine order_c fl fe ml me _ _ ?_
  simp [lk_cons, k1, k2, b1, b2, b3, b4, storeL]
  refine condK_mid (fun rg s => ∃ pl pe : Int, 0 ≤ pe ∧ (ml < pl ∨ (pl = ml ∧ me ≤ pe)) ∧ nf o t ml me h fl fe = nf o t ml me h pl pe ∧ (∀ a, a < σ.next → s.mem.get a = σ.mem.get a) ∧ σ.next + 1 + 1 + 1 + 1 ≤ s.next ∧
    s.mem.get σ.next = some (.cells 3 [u64 ml, u64 me, hv]) ∧ s.mem.get (σ.next + 1 + 1) = some (.cells 2 [u64 0, u64 0]) ∧ s.mem.get (σ.next + 1 + 1 + 1) = some (.cells 2 [u64 pl, u64 pe]) ∧
    norm [0, 1, 6, 8, 10] rg = [(0, lv), (1, u64 o), (6, .ptr σ.next 0), (8, .ptr (σ.next + 1 + 1) 0), (10, .ptr (σ.next + 1 + 1 + 1) 0)]) ?_ ?_
  · by_cases hc : ordM fl fe ml me < 0
    · have e1 := nf_mark (o := o) (t := t) (h := h) hc
      simp [lk_cons, hc, b1, b2, b3, b4, k1, k2, storeL]
      refine ⟨ml, me, hme, .inr ⟨rfl, Int.le_refl _⟩, e1.symm, fun a ha => ?_, rfl, rfl⟩
      simp [show ¬ a = σ.next by omega, show ¬ a = σ.next + 1 by omega, show ¬ a = σ.next + 1 + 1 by omega, show ¬ a = σ.next + 1 + 1 + 1 by omega]
    · simp [lk_cons, hc, b1, b2, b3, b4]
      refine ⟨fl, fe, hfe, by rw [ord_lt] at hc; omega, rfl, fun a ha => ?_, rfl, rfl⟩
      simp [show ¬ a = σ.next by omega, show ¬ a = σ.next + 1 by omega, show ¬ a = σ.next + 1 + 1 by omega, show ¬ a = σ.next + 1 + 1 + 1 by omega]
  · rintro rg s ⟨pl0, pe0, hpe0, hle0, hnf0, gold0, hn0, m10, m20, m30, hrg⟩
    simp only [seqK_normal, wp_block]
    refine wp_loop (N14J lv hv o ml me fl fe t h σ) ((allM o t).countP (geB pl0 pe0)) ?_ ?_
    · exact ⟨pl0, pe0, rfl, hpe0, hle0, hnf0, gold0, hn0, m10, m20, m30, hrg⟩
    · rintro mm rg' σ' ⟨pl, pe, rfl, hpe, hle, hnf, gold, hn1, m1, m2, m3, rfl⟩
      have z1 : ¬ σ.next = σ'.next := by omega
      have z2 : ¬ σ.next + 1 + 1 = σ'.next := by omega
      have z3 : ¬ σ.next + 1 + 1 + 1 = σ'.next := by omega
      have z4 : ¬ σ'.next = σ.next + 1 + 1 + 1 := by omega
      have hfn : nextM o pl pe 0 0 t = pickM ((allM o t).find? (geB pl pe)) (endM o 0 0 t) := next_find hpe t 0 0 hm.s
      have hef := end_false (o := o) t 0 0
      simp [lk_cons, m1, m2, m3]
      refine next_c hlv (by have := hm.1; omega) o pl pe _ _ ?_
      rw [hfn]
      cases hf : (allM o t).find? (geB pl pe) with
      | none =>
        obtain ⟨⟨ea, eb, ec⟩, hE⟩ : ∃ r, endM o 0 0 t = r := ⟨_, rfl⟩
        rw [hE] at hef
        have hef : ec = false := hef
        subst hef
        rw [hnf, nf_none hf] at hq
        simp [pickM, hE, lk_cons, m1, m2, m3, storeL, fillL, z2]
        refine ⟨fun a ha => ?_, hq⟩
        simp [show ¬ a = σ'.next by omega, show ¬ a = σ.next + 1 + 1 by omega]
        exact gold a ha
      | some q =>
        have hr : nextM o pl pe 0 0 t = (q.f0, q.f1, true) := by rw [hfn, hf]; rfl
        have gs := gap_spec (ofM q.f0 h) (-1) q.f1 (hw.of q.f0).1.1
        simp [pickM, lk_cons, m1, m2, m3, storeL, z1, k1, k2]
        refine held_c hh (by omega) ml me q.f0 _ _ fun rv hrv => ?_
        simp [lk_cons, m1, m2, m3, storeL, z1, k1, k2]
        refine gap_c hrv (by have := (hw.of q.f0).2; omega) q.f1 _ _ ?_
        by_cases hg : gapM q.f1 (ofM q.f0 h) = q.f1
        · rw [hnf, nf_hit hw hm.2.1 hf hg hle] at hq
          simp [lk_cons, m1, m2, m3, storeL, fillL, z1, z2, z3, z4, k1, k2, ↓eqs_ps, hg, show ¬ σ.next + 1 + 1 = σ.next + 1 + 1 + 1 by omega]
          refine ⟨fun a ha => ?_, hq⟩
          simp [show ¬ a = σ'.next by omega, show ¬ a = σ.next + 1 + 1 by omega, show ¬ a = σ.next + 1 + 1 + 1 by omega]
          exact gold a ha
        · have hgt : q.f1 < gapM q.f1 (ofM q.f0 h) := by omega
          obtain ⟨q0, _, hms⟩ := next_meas hm.s hpe hr hgt hm.2.1
          clear gs
          obtain ⟨q1, q2, _⟩ := find_first (all_sorted hm.2.1) hf
          have hqq := (geB_iff pl pe q).1 q1
          simp [lk_cons, m1, m2, m3, storeL, fillL, z1, z2, z3, z4, k1, k2, ↓eqs_ps, hg]
          refine ⟨_, hms, q.f0, gapM q.f1 (ofM q.f0 h), rfl, by omega, by omega, by rw [hnf, nf_step hw hm.2.1 hf hgt], fun a ha => ?_, by simp; omega, ?_, ?_, by simp, rfl⟩
          · simp [show ¬ a = σ'.next by omega, show ¬ a = σ.next + 1 + 1 + 1 by omega]
            exact gold a ha
          · simp [z1, show ¬ σ.next = σ.next + 1 + 1 + 1 by omega]; exact m1
          · simp [z2, show ¬ σ.next + 1 + 1 = σ.next + 1 + 1 + 1 by omega]; exact m2

/-! ### The document's -/
def F14J (hv wv : AVal) (ml me fl fe : Int) (A : List S25) (h : List Hd) (σ0 : St) (mm : Nat) (rg : Regs) (σ' : St) : Prop := ∃ i : Nat, mm = A.length - i ∧ i ≤ A.length ∧ (A.find? fun q => geB fl fe q && !ackB ml me h q) = ((A.drop i).find? fun q => geB fl fe q && !ackB ml me h q) ∧
  σ' = ⟨((σ0.mem.set σ0.next (.cells 3 [u64 ml, u64 me, hv])).set (σ0.next + 1) (.cells 2 [u64 fl, u64 fe])).set (σ0.next + 1 + 1) (.cells 2 [.int .u64 0, .int .u64 0]), σ0.next + 1 + 1 + 1⟩ ∧
  rg = [(6, .ptr σ0.next 0), (7, .ptr (σ0.next + 1) 0), (8, .ptr (σ0.next + 1 + 1) 0), (10, wv), (11, i64 i)]
theorem free_c {lv hv : AVal} {t : List Ld} {h : List Hd} (hlv : LdI lv t) {o : Int} (hm : Mk' t o) (hh : HI hv h) {n : Nat} (hn : n < 900) (hw : HWn n h) (ml me fl fe : Int) (σ : St) (Q : AVal → St → Prop)
    (hq : Q (nfp (nf o t ml me h fl fe)) σ) : ACall Try.prog 24 [lv, u64 o, cv ml me hv, ps fl fe] σ Q := by
  refine ACall.scrub ?_
  refine ACall.of_compF hmx (fun a w => Try.call24 a w) Try.func24 cf24 (n := 4) (by decide) rfl ?_
  have k1 := hh.one.1
  have k2 := hh.one.2
  have hHW := hw.hw (by omega)
  have hA := all_len t hm.s
  have htl := hm.1
  have b1 : ¬ σ.next = σ.next + 1 + 1 := by omega
  have b2 : ¬ σ.next + 1 = σ.next + 1 + 1 := by omega
  simp only [ac24, rs24]
  simp [lk_cons, k1, k2, b1]
  refine all_c hlv (by omega) hm.s _ _ fun wv hwv => ?_
  have l2 := (hwv.m σ).len
  simp [lk_cons, k1, k2, b1]
  refine wp_loop (F14J hv wv ml me fl fe (allM o t) h σ) (allM o t).length ?_ ?_
  · exact ⟨0, rfl, Nat.zero_le _, rfl, rfl, by simp [lk_cons]⟩
  · rintro mm rg σ' ⟨i, rfl, hi, hp, rfl, rfl⟩
    by_cases hlt : i < (allM o t).length
    · obtain ⟨x, hx⟩ : ∃ x, (allM o t)[i]? = some x := ⟨_, List.getElem?_eq_getElem hlt⟩
      obtain ⟨k, hk⟩ : ∃ k, i + 1 = k := ⟨_, rfl⟩
      have w1 : IntKind.i64.wrap ((i : Int) + 1) = (k : Int) := by rw [IntWalk.i64_in] <;> omega
      obtain ⟨p, p1, p2, _, _⟩ := (hwv.m σ).at hx (ρ := ⟨((σ.mem.set σ.next (.cells 3 [u64 ml, u64 me, hv])).set (σ.next + 1) (.cells 2 [u64 fl, u64 fe])).set (σ.next + 1 + 1) (.cells 2 [.int .u64 0, .int .u64 0]), σ.next + 1 + 1 + 1⟩) fun a ha => by simp [show ¬ a = σ.next by omega, show ¬ a = σ.next + 1 by omega, show ¬ a = σ.next + 1 + 1 by omega]
      have hdr : (allM o t).drop i = x :: (allM o t).drop k := by rw [List.drop_eq_getElem_cons hlt, (List.getElem?_eq_some_iff.1 hx).2, hk]
      rw [hdr] at hp
      simp [lk_cons, ↓l2, hlt, ↓p1, ↓p2, k1, k2, b1, b2]
      refine rorder_c x.f0 x.f1 fl fe _ _ ?_
      have hge : geB fl fe x = decide (0 ≤ ordM x.f0 x.f1 fl fe) := rfl
      by_cases c1 : 0 ≤ ordM x.f0 x.f1 fl fe
      · simp [lk_cons, ↓l2, hlt, ↓p1, ↓p2, k1, k2, b1, b2, c1]
        refine racked_c hh hHW ml me x.f0 x.f1 _ _ ?_
        have hxx : (⟨x.f0, x.f1⟩ : S25) = x := rfl
        rw [hxx]
        cases hb : ackB ml me h x with
        | true =>
          rw [List.find?_cons_of_neg (by simp [hb])] at hp
          simp [lk_cons, ↓l2, hlt, ↓p1, ↓p2, k1, k2, b1, b2, c1, w1]
          exact ⟨(allM o t).length - k, by omega, k, rfl, by omega, hp, rfl, by simp [lk_cons]⟩
        | false =>
          rw [List.find?_cons_of_pos (by rw [hge]; simp [hb]; omega)] at hp
          unfold nf at hq
          rw [hp] at hq
          simp [lk_cons, ↓l2, hlt, ↓p1, ↓p2, k1, k2, b1, b2, c1, storeL]
          refine ⟨fun a ha => ?_, hq⟩
          simp [show ¬ a = σ.next by omega, show ¬ a = σ.next + 1 by omega, show ¬ a = σ.next + 1 + 1 by omega]
      · rw [List.find?_cons_of_neg (by rw [hge]; simp; omega)] at hp
        simp [lk_cons, ↓l2, hlt, ↓p1, ↓p2, k1, k2, b1, b2, c1, w1]
        exact ⟨(allM o t).length - k, by omega, k, rfl, by omega, hp, rfl, by simp [lk_cons]⟩
    · have : i = (allM o t).length := by omega
      subst this
      rw [List.drop_length] at hp
      unfold nf at hq
      rw [hp] at hq
      simp [lk_cons, ↓l2, storeL, fillL]
      refine ⟨fun a ha => ?_, hq⟩
      simp [show ¬ a = σ.next by omega, show ¬ a = σ.next + 1 by omega, show ¬ a = σ.next + 1 + 1 by omega]

end Go.Proofs.Ytinfnpbglapjhaa.AM

/- How many aren't acked. -/
namespace Go.Proofs.Ytinfnpbglapjhaa.AM
set_option maxRecDepth 100000
set_option linter.unusedVariables false
set_option linter.unusedSimpArgs false

/-- Is a place held by one of these? -/
def inH (h : List Hd) (q : S25) : Bool := h.any fun x => decide (x.f0 = q.f0) && inB x.f1 q.f1
theorem inH_of {q : S25} : ∀ {h : List Hd} {b : Int}, HOk b h → inH h q = inB (ofM q.f0 h) q.f1
  | [], _, _ => rfl
  | x :: t, b, hok => by
    obtain ⟨h1, h2, h3, h4⟩ := hok
    have ih := inH_of (q := q) h4
    have e : inH (x :: t) q = ((decide (x.f0 = q.f0) && inB x.f1 q.f1) || inH t q) := by simp [inH]
    rw [e, ih]
    simp only [ofM]
    by_cases c : x.f0 = q.f0
    · rw [if_pos c]
      have : ofM q.f0 t = [] := of_out h4 (by omega)
      rw [this]
      simp [c, inB]
    · rw [if_neg c]; simp [c]
theorem of_mem {x : Hd} : ∀ {h : List Hd} {b : Int}, HOk b h → x ∈ h → ofM x.f0 h = x.f1
  | y :: t, b, hok, hx => by
    obtain ⟨h1, h2, h3, h4⟩ := hok
    simp only [ofM]
    rcases List.mem_cons.1 hx with rfl | hx
    · rw [if_pos rfl]
    · have := (hok_mem h4 x hx).1
      rw [if_neg (by omega), of_mem h4 hx]
theorem countP_split (A : List S25) (P R S : S25 → Bool) (h : ∀ q ∈ A, (P q = true ↔ R q = true ∨ S q = true) ∧ ¬ (R q = true ∧ S q = true)) : A.countP P = A.countP R + A.countP S := by
  induction A with
  | nil => rfl
  | cons a A ih =>
    have ha := h a List.mem_cons_self
    have := ih fun q hq => h q (List.mem_cons_of_mem _ hq)
    simp only [List.countP_cons]
    cases hP : P a <;> cases hR : R a <;> cases hS : S a <;> simp [hP, hR, hS] at ha ⊢ <;> omega
def PB (ml me : Int) (h : List Hd) (q : S25) : Bool := geB ml me q && !inH h q
def PC (ml me : Int) (h : List Hd) (L : Int) (rs : List S25) (q : S25) : Bool := geB ml me q && !(inH h q || (decide (L = q.f0) && inB rs q.f1))
theorem pb_all {o ml me : Int} {t : List Ld} {h : List Hd} (hC : COk ml me h) : (allM o t).countP (PB ml me h) = (allM o t).countP fun q => !ackB ml me h q := by
  refine List.countP_congr fun q _ => ?_
  unfold PB
  rw [inH_of hC.1]
  unfold ackB geB
  by_cases c : ordM q.f0 q.f1 ml me < 0
  · have : ¬ 0 ≤ ordM q.f0 q.f1 ml me := by omega
    simp [c, this]
  · have : 0 ≤ ordM q.f0 q.f1 ml me := by omega
    simp [c, this]
theorem ord_in (q : S25) (L lo hi : Int) : inP L lo L hi q = true ↔ q.f0 = L ∧ lo ≤ q.f1 ∧ q.f1 < hi := by
  unfold inP
  rw [Bool.and_eq_true, decide_eq_true_eq, decide_eq_true_eq, ord_ge, ord_lt]
  omega
/-- A range of a ledger that is taken from what is left. -/
theorem pc_step {o ml me : Int} {t : List Ld} {h : List Hd} (hC : COk ml me h) {i : Nat} {x : Hd} (hx : h[i]? = some x) {j : Nat} {r : S25} (hr : x.f1[j]? = some r) :
    (allM o t).countP (PC ml me (h.take i) x.f0 (x.f1.take j)) = (allM o t).countP (PC ml me (h.take i) x.f0 (x.f1.take (j + 1))) + (allM o t).countP (inP x.f0 r.f0 x.f0 r.f1) := by
  have hxm := List.mem_of_getElem? hx
  obtain ⟨_, hg, _⟩ := hok_mem hC.1 x hxm
  have htk : x.f1.take (j + 1) = x.f1.take j ++ [r] := by rw [List.take_add_one, hr]; rfl
  refine countP_split _ _ _ _ fun q hq => ?_
  unfold PC
  rw [htk]
  have e1 : inB (x.f1.take j ++ [r]) q.f1 = (inB (x.f1.take j) q.f1 || decide (r.f0 ≤ q.f1 ∧ q.f1 < r.f1)) := by simp [inB]
  rw [e1]
  have hin := ord_in q x.f0 r.f0 r.f1
  -- a place of the range is behind the mark, and not in what went ahead
  have key : q.f0 = x.f0 → r.f0 ≤ q.f1 → q.f1 < r.f1 → geB ml me q = true ∧ inH (h.take i) q = false ∧ inB (x.f1.take j) q.f1 = false := by
    intro k1 k2 k3
    have hinr : InP x.f1 q.f1 := ⟨r, List.mem_of_getElem? hr, k2, k3⟩
    refine ⟨?_, ?_, ?_⟩
    · rw [geB_iff]
      have := hC.2.2 q.f0 q.f1 (by rw [k1, of_mem hC.1 hxm]; exact hinr)
      omega
    · rw [← Bool.not_eq_true]
      intro hh
      unfold inH at hh
      obtain ⟨y, hy, hyq⟩ := List.any_eq_true.1 hh
      have hy0 : y.f0 = q.f0 := by
        have := (Bool.and_eq_true_iff.1 hyq).1
        exact of_decide_eq_true this
      -- ledgers ahead are smaller
      have : y.f0 < x.f0 := by
        have hi := (List.getElem?_eq_some_iff.1 hx).1
        have hsplit : h = h.take i ++ x :: h.drop (i + 1) := by
          rw [← (List.getElem?_eq_some_iff.1 hx).2, ← List.drop_eq_getElem_cons hi, List.take_append_drop]
        have gen : ∀ (a : List Hd) (b : Int) (c : List Hd), HOk b (a ++ x :: c) → ∀ y ∈ a, y.f0 < x.f0 := by
          intro a
          induction a with
          | nil => intro b c _ y hy; cases hy
          | cons z a ih =>
            intro b c hok y hy
            rcases List.mem_cons.1 hy with rfl | hy
            · exact (hok_mem hok.2.2.2 x (by simp)).1
            · exact ih _ c hok.2.2.2 y hy
        have hok := hC.1
        rw [hsplit] at hok
        exact gen _ _ _ hok y hy
      omega
    · rw [← Bool.not_eq_true, inB_iff]
      rintro ⟨z, hz, z1, z2⟩
      obtain ⟨i', hi', he⟩ := List.getElem_of_mem hz
      have hlt : i' < j := by simp at hi'; omega
      have hj := (List.getElem?_eq_some_iff.1 hr).1
      have gen : ∀ (l : List S25) (b : Int) (a c : Nat) (ha : a < l.length) (hc : c < l.length), Can b l → a < c → (l[a]).f1 < (l[c]).f0 := by
        intro l
        induction l with
        | nil => intro b a c ha; simp at ha
        | cons w l ih =>
          intro b a c ha hc hcan hac
          obtain ⟨_, _, hcan2⟩ := hcan
          cases c with
          | zero => omega
          | succ c =>
            cases a with
            | zero => exact (can_mem hcan2 _ (List.getElem_mem _)).1
            | succ a => exact ih _ a c (by simpa using ha) (by simpa using hc) hcan2 (by omega)
      have h1 := gen x.f1 (-1) i' j (by omega) hj hg.1 hlt
      have h2 : x.f1[i'] = z := by rw [← he]; simp
      have h3 : x.f1[j] = r := (List.getElem?_eq_some_iff.1 hr).2
      rw [h2, h3] at h1
      omega
  by_cases c : q.f0 = x.f0 ∧ r.f0 ≤ q.f1 ∧ q.f1 < r.f1
  · obtain ⟨k1, k2, k3⟩ := key c.1 c.2.1 c.2.2
    have hR := hin.2 c
    simp [k1, k2, k3, hR, c.1, c.2.1, c.2.2]
  · have hR : inP x.f0 r.f0 x.f0 r.f1 q = false := by rw [← Bool.not_eq_true]; exact fun hh => c (hin.1 hh)
    rw [hR]
    by_cases c1 : x.f0 = q.f0
    · have c2 : ¬ (r.f0 ≤ q.f1 ∧ q.f1 < r.f1) := fun hh => c ⟨c1.symm, hh⟩
      simp [c1, c2]
    · simp [c1]
theorem pc_zero {o ml me : Int} {t : List Ld} (h : List Hd) (L : Int) : (allM o t).countP (PC ml me h L []) = (allM o t).countP (PB ml me h) := by
  refine List.countP_congr fun q _ => ?_
  unfold PC PB
  simp [inB]
theorem pc_end {o ml me : Int} {t : List Ld} {h : List Hd} {i : Nat} {x : Hd} (hx : h[i]? = some x) : (allM o t).countP (PC ml me (h.take i) x.f0 x.f1) = (allM o t).countP (PB ml me (h.take (i + 1))) := by
  refine List.countP_congr fun q _ => ?_
  unfold PC PB
  rw [List.take_add_one, hx]
  simp [inH]
theorem pb_zero {o ml me : Int} {t : List Ld} : (allM o t).countP (PB ml me []) = (allM o t).countP (geB ml me) := by
  refine List.countP_congr fun q _ => ?_
  unfold PB
  simp [inH]
theorem sum_end {o ml me : Int} {t : List Ld} (hm : Mk' t o) (hb : ∀ x ∈ t, x.f0 ≤ 18446744073709551615) (hme : 0 ≤ me) : sumB o ml me 18446744073709551615 18446744073709551615 t = (((allM o t).countP (geB ml me) : Nat) : Int) := by
  rw [← count_all hme (by omega) t hm.s]
  congr 1
  refine List.countP_congr fun q hq => ?_
  obtain ⟨x, hx, e1, e2, e3⟩ := all_mem hq
  have := hm.s x hx
  have := hb x hx
  have hlt : ordM q.f0 q.f1 18446744073709551615 18446744073709551615 < 0 := by rw [ord_lt]; omega
  unfold inP geB
  simp [hlt]

end Go.Proofs.Ytinfnpbglapjhaa.AM

/- Backlog. -/
namespace Go.Proofs.Ytinfnpbglapjhaa.AM
set_option maxRecDepth 100000
set_option linter.unusedVariables false
set_option linter.unusedSimpArgs false

def cnt (o : Int) (t : List Ld) (P : S25 → Bool) : Nat := (allM o t).countP P
def BlJ (lv hv : AVal) (o ml me : Int) (t : List Ld) (h : List Hd) (σ0 : St) (mm : Nat) (rg : Regs) (σ' : St) : Prop := ∃ i : Nat, mm = h.length - i ∧ i ≤ h.length ∧ σ0.next ≤ σ'.next ∧ (∀ a, a < σ0.next → σ'.mem.get a = σ0.mem.get a) ∧
  rg = [(0, lv), (1, u64 o), (8, u64 (cnt o t (PB ml me (h.take i)) : Nat)), (21, hv), (22, i64 h.length), (23, i64 i)]
def BlJ2 (lv hv rv : AVal) (o ml me : Int) (t : List Ld) (h : List Hd) (i : Nat) (x : Hd) (σ0 σ1 : St) (mm : Nat) (rg : Regs) (σ' : St) : Prop := ∃ j : Nat, mm = x.f1.length - j ∧ j ≤ x.f1.length ∧ σ1.next + 1 ≤ σ'.next ∧ (∀ a, a < σ0.next → σ'.mem.get a = σ0.mem.get a) ∧ σ'.mem.get σ1.next = some (.cells 2 [u64 x.f0, rv]) ∧
  rg = [(0, lv), (1, u64 o), (8, u64 (cnt o t (PC ml me (h.take i) x.f0 (x.f1.take j)) : Nat)), (10, .ptr σ1.next 0), (21, hv), (22, i64 h.length), (23, i64 i), (28, rv), (29, i64 x.f1.length), (30, i64 j)]
set_option maxHeartbeats 1000000 in
theorem backlog_c {lv hv : AVal} {t : List Ld} {h : List Hd} (hlv : LdI lv t) {o : Int} (hm : Mk' t o) (hb : ∀ x ∈ t, x.f0 ≤ 18446744073709551615) (hh : HI hv h) {n : Nat} (hn : n < 900) (hw : HWn n h) {ml me : Int} (hC : COk ml me h) (hme : 0 ≤ me) (σ : St) (Q : AVal → St → Prop)
    (hq : Q (u64 (cnt o t (fun q => !ackB ml me h q) : Nat)) σ) : ACall Try.prog 25 [lv, u64 o, cv ml me hv] σ Q := by
  refine ACall.scrub ?_
  refine ACall.of_compF hmx (fun a w => Try.call25 a w) Try.func25 cf25 (n := 3) (by decide) rfl ?_
  have k1 := hh.one.1
  have k2 := hh.one.2
  have hHW := hw.hw (by omega)
  have hl := hHW.1
  have l1 := hh.len
  have htl := hm.1
  have hA := all_len t hm.s
  have hcb : ∀ P, cnt o t P ≤ 1300 := fun P => by have := List.countP_le_length (p := P) (l := allM o t); unfold cnt; omega
  have hs' : ∀ x ∈ t, 0 ≤ szM x o ∧ szM x o ≤ 1099511627776 := fun x hx => by have := hm.s x hx; omega
  simp only [ac25, rs25]
  simp [lk_cons, k1, k2, storeL, fillL]
  refine between_c hlv (by omega) hs' (al := ml) (bl := 18446744073709551615) hme (by omega) _ _ ?_
  rw [sum_end hm hb hme]
  simp [lk_cons, k1, k2, ↓l1]
  refine wp_loop (BlJ lv hv o ml me t h σ) h.length ?_ ?_
  · refine ⟨0, rfl, Nat.zero_le _, by simp; omega, fun a ha => by simp [show ¬ a = σ.next by omega, show ¬ a = σ.next + 1 by omega], ?_⟩
    have e : cnt o t (PB ml me (h.take 0)) = (allM o t).countP (geB ml me) := by rw [List.take_zero]; exact pb_zero
    rw [e]
    rfl
  · rintro mm rg σ1 ⟨i, rfl, hi, hn1, gold, rfl⟩
    by_cases hlt : i < h.length
    · obtain ⟨x, hx⟩ : ∃ x, h[i]? = some x := ⟨_, List.getElem?_eq_getElem hlt⟩
      obtain ⟨k, hk⟩ : ∃ k, i + 1 = k := ⟨_, rfl⟩
      have w1 : IntKind.i64.wrap ((i : Int) + 1) = (k : Int) := by rw [IntWalk.i64_in] <;> omega
      obtain ⟨p, r, hr, p1, p2, _, _⟩ := hh.at hx σ1
      have r1 := hr.one.1
      have r2 := hr.one.2
      have l2 := (hr.m σ1).len
      have hxr := hHW.2 x (List.mem_of_getElem? hx)
      simp [lk_cons, hlt, ↓p1, ↓p2, storeL, r1, r2, ↓l2]
      refine wp_loop (BlJ2 lv hv r o ml me t h i x σ σ1) x.f1.length ?_ ?_
      · refine ⟨0, rfl, Nat.zero_le _, by simp, fun a ha => by simp [show ¬ a = σ1.next by omega]; exact gold a ha, by simp, ?_⟩
        have e : cnt o t (PC ml me (h.take i) x.f0 (x.f1.take 0)) = cnt o t (PB ml me (h.take i)) := by rw [List.take_zero]; exact pc_zero _ _
        rw [e]
        rfl
      · rintro m2 rg2 σ2 ⟨j, rfl, hj, hn2, gold2, m1, rfl⟩
        by_cases hlt2 : j < x.f1.length
        · obtain ⟨z, hz⟩ : ∃ z, x.f1[j]? = some z := ⟨_, List.getElem?_eq_getElem hlt2⟩
          obtain ⟨j', hj'⟩ : ∃ k, j + 1 = k := ⟨_, rfl⟩
          have w2 : IntKind.i64.wrap ((j : Int) + 1) = (j' : Int) := by rw [IntWalk.i64_in] <;> omega
          obtain ⟨q, q1, q2, _, _⟩ := (hr.m σ2).at hz (ρ := σ2) fun _ _ => rfl
          have hzb := good_mem hxr.1 z (List.mem_of_getElem? hz)
          have z1 : ¬ σ1.next = σ2.next := by omega
          have hstep := pc_step (o := o) (t := t) hC hx hz
          have hc := count_all (al := x.f0) (bl := x.f0) (ae := z.f0) (be := z.f1) hzb.1 (by omega) t hm.s
          simp [lk_cons, hlt2, ↓q1, ↓q2, storeL, r1, r2, m1, z1, fillL]
          refine between_c hlv (by omega) hs' (al := x.f0) (bl := x.f0) hzb.1 (by omega) _ _ ?_
          rw [← hc]
          have e : ((cnt o t (PC ml me (h.take i) x.f0 (x.f1.take j)) : Nat) : Int) - (((allM o t).countP (inP x.f0 z.f0 x.f0 z.f1) : Nat) : Int) = ((cnt o t (PC ml me (h.take i) x.f0 (x.f1.take j')) : Nat) : Int) := by
            unfold cnt; rw [hstep, hj']; omega
          have w3 : IntKind.u64.wrap ((cnt o t (PC ml me (h.take i) x.f0 (x.f1.take j')) : Nat) : Int) = ((cnt o t (PC ml me (h.take i) x.f0 (x.f1.take j')) : Nat) : Int) := by
            have := hcb (PC ml me (h.take i) x.f0 (x.f1.take j'))
            rw [IntWalk.u64_in]; omega
          simp [lk_cons, e, w3, w2]
          refine ⟨x.f1.length - j', by omega, j', rfl, by omega, by simp; omega, fun a ha => by simp [show ¬ a = σ2.next by omega]; exact gold2 a ha, by simp [z1]; exact m1, rfl⟩
        · have : j = x.f1.length := by omega
          subst this
          have e : cnt o t (PC ml me (h.take i) x.f0 (x.f1.take x.f1.length)) = cnt o t (PB ml me (h.take k)) := by rw [List.take_length, ← hk]; exact pc_end hx
          rw [e]
          simp [lk_cons, w1]
          exact ⟨h.length - k, by omega, k, rfl, by omega, by omega, gold2, rfl⟩
    · have : i = h.length := by omega
      subst this
      have e : cnt o t (PB ml me (h.take h.length)) = cnt o t (fun q => !ackB ml me h q) := by rw [List.take_length]; exact pb_all hC
      rw [e]
      simp [lk_cons]
      exact ⟨gold, hq⟩
def RbJ (hv wv : AVal) (ml me : Int) (A : List S25) (h : List Hd) (σ0 : St) (mm : Nat) (rg : Regs) (σ' : St) : Prop := ∃ i : Nat, mm = A.length - i ∧ i ≤ A.length ∧ σ' = ⟨σ0.mem.set σ0.next (.cells 3 [u64 ml, u64 me, hv]), σ0.next + 1⟩ ∧
  rg = [(5, .ptr σ0.next 0), (7, wv), (8, u64 ((A.take i).countP (fun q => !ackB ml me h q) : Nat)), (9, i64 i)]
theorem rbacklog_c {lv hv : AVal} {t : List Ld} {h : List Hd} (hlv : LdI lv t) {o : Int} (hm : Mk' t o) (hh : HI hv h) {n : Nat} (hn : n < 900) (hw : HWn n h) (ml me : Int) (σ : St) (Q : AVal → St → Prop)
    (hq : Q (u64 (cnt o t (fun q => !ackB ml me h q) : Nat)) σ) : ACall Try.prog 26 [lv, u64 o, cv ml me hv] σ Q := by
  refine ACall.scrub ?_
  refine ACall.of_compF hmx (fun a w => Try.call26 a w) Try.func26 cf26 (n := 3) (by decide) rfl ?_
  have k1 := hh.one.1
  have k2 := hh.one.2
  have hHW := hw.hw (by omega)
  have hA := all_len t hm.s
  have htl := hm.1
  simp only [ac26, rs26]
  simp [lk_cons, k1, k2]
  refine all_c hlv (by omega) hm.s _ _ fun wv hwv => ?_
  have l2 := (hwv.m σ).len
  simp [lk_cons, k1, k2]
  refine wp_loop (RbJ hv wv ml me (allM o t) h σ) (allM o t).length ?_ ?_
  · exact ⟨0, rfl, Nat.zero_le _, rfl, by simp [lk_cons]⟩
  · rintro mm rg σ' ⟨i, rfl, hi, rfl, rfl⟩
    by_cases hlt : i < (allM o t).length
    · obtain ⟨x, hx⟩ : ∃ x, (allM o t)[i]? = some x := ⟨_, List.getElem?_eq_getElem hlt⟩
      obtain ⟨k, hk⟩ : ∃ k, i + 1 = k := ⟨_, rfl⟩
      have w1 : IntKind.i64.wrap ((i : Int) + 1) = (k : Int) := by rw [IntWalk.i64_in] <;> omega
      obtain ⟨p, p1, p2, _, _⟩ := (hwv.m σ).at hx (ρ := ⟨σ.mem.set σ.next (.cells 3 [u64 ml, u64 me, hv]), σ.next + 1⟩) fun a ha => by simp [show ¬ a = σ.next by omega]
      have hle := List.countP_le_length (p := fun q => !ackB ml me h q) (l := (allM o t).take i)
      rw [List.length_take] at hle
      have htk : ((allM o t).take k).countP (fun q => !ackB ml me h q) = ((allM o t).take i).countP (fun q => !ackB ml me h q) + (if (!ackB ml me h x) = true then 1 else 0) := by
        rw [← hk, List.take_add_one, hx, List.countP_append]; simp [List.countP_cons]
      simp [lk_cons, ↓l2, hlt, ↓p1, ↓p2, k1, k2]
      refine racked_c hh hHW ml me x.f0 x.f1 _ _ ?_
      have hxx : (⟨x.f0, x.f1⟩ : S25) = x := rfl
      rw [hxx]
      obtain ⟨c, hc⟩ : ∃ c, ((allM o t).take i).countP (fun q => !ackB ml me h q) = c := ⟨_, rfl⟩
      rw [hc] at htk hle
      cases hb : ackB ml me h x with
      | true =>
        simp [hb] at htk
        simp [lk_cons, hc, w1]
        refine ⟨(allM o t).length - k, by omega, k, rfl, by omega, rfl, ?_⟩
        rw [← htk]
      | false =>
        simp [hb] at htk
        have w2 : IntKind.u64.wrap ((c : Int) + 1) = ((c + 1 : Nat) : Int) := by rw [IntWalk.u64_in] <;> omega
        simp [lk_cons, hc, w1, w2]
        refine ⟨(allM o t).length - k, by omega, k, rfl, by omega, rfl, ?_⟩
        rw [htk]; simp
    · have : i = (allM o t).length := by omega
      subst this
      rw [List.take_length]
      unfold cnt at hq
      simp [lk_cons, ↓l2]
      exact ⟨fun a ha => by simp [show ¬ a = σ.next by omega], hq⟩

end Go.Proofs.Ytinfnpbglapjhaa.AM

/- What acks do to what is acked. -/
namespace Go.Proofs.Ytinfnpbglapjhaa.AM
set_option maxRecDepth 100000
set_option linter.unusedVariables false
set_option linter.unusedSimpArgs false

theorem keep_hok {pl pe : Int} (hpe : 0 ≤ pe) : ∀ {h : List Hd} {b : Int}, HOk b h → HOk b (keepH pl pe h)
  | [], _, _ => trivial
  | x :: t, b, hok => by
    obtain ⟨h1, h2, h3, h4⟩ := hok
    have ih := keep_hok (pl := pl) hpe h4
    have ihb : HOk b (keepH pl pe t) := hok_weak ih (by omega)
    simp only [keepH]
    split
    · exact ihb
    · split
      · split
        · exact ihb
        · exact ⟨h1, (remM_good h2).1, by assumption, ih⟩
      · try rw [if_neg h3]
        exact ⟨h1, h2, h3, ih⟩
theorem keep_of {pl pe : Int} (K : Int) : ∀ {h : List Hd} {b : Int}, HOk b h → ofM K (keepH pl pe h) = if K < pl then [] else if K = pl then remM 0 pe (ofM K h) else ofM K h
  | [], _, _ => by
    simp only [keepH, ofM]
    split
    · rfl
    · split <;> rfl
  | x :: t, b, hok => by
    obtain ⟨h1, h2, h3, h4⟩ := hok
    have ih := keep_of (pl := pl) (pe := pe) K h4
    have hne : x.f0 = K → ofM K t = [] := fun e => of_out h4 (by omega)
    simp only [keepH]
    by_cases c1 : x.f0 < pl
    · rw [if_pos c1, List.nil_append, ih]
      simp only [ofM]
      by_cases c2 : K < pl
      · rw [if_pos c2, if_pos c2]
      · rw [if_neg c2, if_neg c2]
        simp only [if_neg (show ¬ x.f0 = K by omega)]
    · rw [if_neg c1]
      by_cases c2 : x.f0 = pl
      · rw [if_pos c2]
        by_cases c3 : remM 0 pe x.f1 = []
        · rw [if_pos c3, List.nil_append, ih]
          simp only [ofM]
          by_cases c4 : K < pl
          · rw [if_pos c4, if_pos c4]
          · rw [if_neg c4, if_neg c4]
            by_cases c5 : K = pl
            · rw [if_pos c5, if_pos c5, if_pos (by omega), hne (by omega), c3]; rfl
            · rw [if_neg c5, if_neg c5]
              simp only [if_neg (show ¬ x.f0 = K by omega)]
        · rw [if_neg c3, List.singleton_append]
          simp only [ofM]
          by_cases c5 : K = pl
          · rw [if_pos (by omega), if_neg (by omega), if_pos c5, if_pos (by omega)]
          · simp only [if_neg (show ¬ x.f0 = K by omega)]
            rw [ih]
      · rw [if_neg c2, if_neg h3, List.singleton_append]
        simp only [ofM]
        by_cases c5 : x.f0 = K
        · rw [if_pos c5, if_neg (by omega), if_neg (by omega), if_pos c5]
        · rw [if_neg c5, if_neg c5, ih]
/-- Where a mark comes to. -/
theorem mv_spec {o : Int} {t : List Ld} (hm : Mk' t o) {n : Nat} {h : List Hd} (hw : HWn n h) {a b x y : Int} (m : Mv o t h a b x y) (hb : 0 ≤ b) :
    (a < x ∨ (a = x ∧ b ≤ y)) ∧ (∀ q ∈ allM o t, (a < q.f0 ∨ (q.f0 = a ∧ b ≤ q.f1)) → (q.f0 < x ∨ (q.f0 = x ∧ q.f1 < y)) → InP (ofM q.f0 h) q.f1) ∧ (∀ q ∈ allM o t, (x < q.f0 ∨ (q.f0 = x ∧ y ≤ q.f1)) → ∃ z ∈ allM o t, (x < z.f0 ∨ (z.f0 = x ∧ y ≤ z.f1)) ∧ ¬ InP (ofM z.f0 h) z.f1) := by
  induction m with
  | done a b hs =>
    refine ⟨.inr ⟨rfl, Int.le_refl _⟩, fun q _ h1 h2 => by omega, fun q hq h1 => ?_⟩
    cases hf : (allM o t).find? (fun q => decide (0 ≤ ordM q.f0 q.f1 a b)) with
    | none =>
      have := List.find?_eq_none.1 hf q hq
      exact absurd ((geB_iff a b q).2 h1) this
    | some z =>
      obtain ⟨z1, z2, z3⟩ := find_first (all_sorted hm.2.1) hf
      refine ⟨z, z2, (geB_iff a b z).1 z1, fun hin => ?_⟩
      have hr : nextM o a b 0 0 t = (z.f0, z.f1, true) := by rw [next_find hb t 0 0 hm.s, hf]; rfl
      have := hs _ _ hr
      rw [← Bool.not_eq_true, inB_iff] at this
      exact this hin
  | step a b c d x y h1 h2 _ ih =>
    have gs := gap_spec (ofM c h) (-1) d (hw.of c).1.1
    rw [next_find hb t 0 0 hm.s] at h1
    cases hf : (allM o t).find? (fun q => decide (0 ≤ ordM q.f0 q.f1 a b)) with
    | none =>
      rw [hf] at h1
      have := end_false (o := o) t 0 0
      rw [show (pickM none (endM o 0 0 t)) = endM o 0 0 t from rfl] at h1
      rw [h1] at this; cases this
    | some z =>
      rw [hf] at h1
      have h3 : (z.f0, z.f1, true) = (c, d, true) := h1
      obtain ⟨e1, h4⟩ := Prod.mk.inj h3
      obtain ⟨e2, _⟩ := Prod.mk.inj h4
      obtain ⟨z1, z2, z3⟩ := find_first (all_sorted hm.2.1) hf
      obtain ⟨_, _, _, e4, _⟩ := all_mem z2
      have z1' := (geB_iff a b z).1 z1
      obtain ⟨gs1, gs2, gs3, gs4⟩ := gs
      clear gs3
      obtain ⟨i1, i2, i3⟩ := ih (by omega)
      refine ⟨by omega, fun q hq k1 k2 => ?_, i3⟩
      rcases z3 q hq ((geB_iff a b q).2 k1) with rfl | hlt
      · rw [e1, e2]; exact (inB_iff _ _).1 h2
      · unfold ltP at hlt
        by_cases c3 : q.f0 = c ∧ q.f1 < gapM d (ofM c h)
        · rw [c3.1]
          exact gs4 q.f1 (by omega) c3.2
        · exact i2 q hq (by omega) k2
theorem keep_cok {ml me x y : Int} {h : List Hd} (hok : HOk (-1) h) (hb : ∀ z ∈ h, z.f0 ≤ 18446744073709551615) (hy : 0 ≤ y) : COk x y (keepH x y h) := by
  refine ⟨keep_hok hy hok, fun z hz => ?_, fun K n hn => ?_⟩
  · obtain ⟨w, hw, e, _⟩ := keep_mem hz
    rw [e]; exact hb w hw
  · rw [keep_of K hok] at hn
    by_cases c1 : K < x
    · rw [if_pos c1] at hn; exact absurd hn (in_nil n)
    · rw [if_neg c1] at hn
      by_cases c2 : K = x
      · rw [if_pos c2] at hn
        have hg := of_good hok K
        have h3 := ((remM_good (lo := 0) (hi := y) hg).2 n).1 hn
        have h4 := can_in hg.1 h3.1
        omega
      · omega
theorem put_in {L e : Int} (he : 0 ≤ e ∧ e < 18446744073709551615) {h : List Hd} {b : Int} (hok : HOk b h) (K n : Int) : InP (ofM K (putM' L e false h)) n ↔ InP (ofM K h) n ∨ (K = L ∧ n = e) := by
  rw [put_of K h b hok]
  by_cases c : K = L
  · subst c
    rw [if_pos rfl]
    have hg := of_good hok K
    have := (addL_spec (lo := e) (hi := e + 1) hg he.1 (by omega)).2.1 n
    rw [addL_one, this]
    constructor
    · rintro (h | h)
      · exact .inl h
      · exact .inr ⟨rfl, by omega⟩
    · rintro (h | h)
      · exact .inl h
      · exact .inr (by omega)
  · rw [if_neg c]
    constructor
    · exact .inl
    · rintro (h | h)
      · exact h
      · exact absurd h.1 c
theorem keep_in {x y : Int} {h : List Hd} (hok : HOk (-1) h) (q : S25) (hq : x < q.f0 ∨ (q.f0 = x ∧ y ≤ q.f1)) : InP (ofM q.f0 (keepH x y h)) q.f1 ↔ InP (ofM q.f0 h) q.f1 := by
  rw [keep_of q.f0 hok, if_neg (by omega)]
  by_cases c : q.f0 = x
  · rw [if_pos c]
    rw [(remM_good (lo := 0) (hi := y) (of_good hok q.f0)).2 q.f1]
    constructor
    · exact fun h => h.1
    · exact fun h => ⟨h, by omega⟩
  · rw [if_neg c]
/-- An ack that is taken: the mark goes on, just that place is acked too. -/
theorem ack_law {o : Int} {t : List Ld} (hm : Mk' t o) {ml me : Int} {n : Nat} {h : List Hd} (hw : HWn n h) (hC : COk ml me h) (hme : 0 ≤ me) {L e x y : Int} (hL : 0 ≤ L ∧ L ≤ 18446744073709551615) (he : 0 ≤ e) {H : List Hd} (r : AckRes o t ml me h L e 0 x y H) :
    (ml < x ∨ (ml = x ∧ me ≤ y)) ∧ 0 ≤ y ∧ COk x y H ∧ (∀ q ∈ allM o t, ackB x y H q = (ackB ml me h q || decide (q = ⟨L, e⟩))) ∧ (⟨L, e⟩ : S25) ∈ allM o t ∧ ackB ml me h ⟨L, e⟩ = false ∧
    ((∀ q ∈ allM o t, ackB x y H q = true) → (∀ K n, InP (ofM K h) n → (⟨K, n⟩ : S25) ∈ allM o t) → H = []) ∧ ((∀ K n, InP (ofM K h) n → (⟨K, n⟩ : S25) ∈ allM o t) → ∀ K n, InP (ofM K H) n → (⟨K, n⟩ : S25) ∈ allM o t) := by
  rcases r with ⟨_, r2, _⟩ | ⟨_, _, r2, _⟩ | ⟨r1, r2, _, r4, r5⟩
  · cases r2
  · cases r2
  have hmem := (has_mem hm.2.1 hm.s he).1 r1
  have hb := has_bd hm.2.1 hm.s he r1
  have he' : 0 ≤ e ∧ e < 18446744073709551615 := ⟨he, by omega⟩
  have hp := hw.put (L := L) he'
  have hpk := put_hok (L := L) he' h (-1) hC.1 (by omega)
  have hy := mv_pos hm hp r4 hme
  obtain ⟨m1, m2, m3⟩ := mv_spec hm hp r4 hme
  have hpb : ∀ z ∈ putM' L e false h, z.f0 ≤ 18446744073709551615 := fun z hz => by
    rcases put_mem L e false h z hz with rfl | hz | ⟨w, hw2, rfl⟩
    · exact hL.2
    · exact hC.2.1 z hz
    · exact hC.2.1 w hw2
  have hcok : COk x y H := by rw [r5]; exact keep_cok (ml := ml) (me := me) hpk hpb hy
  have hall : ∀ q ∈ allM o t, ackB x y H q = (ackB ml me h q || decide (q = ⟨L, e⟩)) := by
    intro q hq
    rw [Bool.eq_iff_iff, Bool.or_eq_true, ackB_iff, ackB_iff, decide_eq_true_eq]
    have hpi := put_in he' hC.1 q.f0 q.f1 (L := L)
    have hqe : q = (⟨L, e⟩ : S25) ↔ q.f0 = L ∧ q.f1 = e := by
      constructor
      · rintro rfl; exact ⟨rfl, rfl⟩
      · rintro ⟨rfl, rfl⟩; rfl
    rw [hqe]
    by_cases c : q.f0 < x ∨ (q.f0 = x ∧ q.f1 < y)
    · constructor
      · intro _
        by_cases c2 : q.f0 < ml ∨ (q.f0 = ml ∧ q.f1 < me)
        · exact .inl (.inl c2)
        · rcases hpi.1 (m2 q hq (by omega) c) with h | h
          · exact .inl (.inr h)
          · exact .inr h
      · exact fun _ => .inl c
    · rw [r5, keep_in hpk q (by omega), hpi]
      constructor
      · rintro (h | h | h)
        · exact absurd h c
        · exact .inl (.inr h)
        · exact .inr h
      · rintro ((h | h) | h)
        · omega
        · exact .inr (.inl h)
        · exact .inr (.inr h)
  have hent : (∀ K n, InP (ofM K h) n → (⟨K, n⟩ : S25) ∈ allM o t) → ∀ K n, InP (ofM K H) n → (⟨K, n⟩ : S25) ∈ allM o t := by
    intro hent K n hn
    have h1 := hcok.2.2 K n hn
    rw [r5] at hn
    have h2 := (keep_in (x := x) (y := y) hpk ⟨K, n⟩ (by show x < K ∨ (K = x ∧ y ≤ n); omega)).1 hn
    rcases (put_in he' hC.1 K n (L := L)).1 h2 with h3 | ⟨rfl, rfl⟩
    · exact hent K n h3
    · exact hmem
  refine ⟨m1, hy, hcok, hall, hmem, r2, fun hal he2 => ?_, hent⟩
  -- all are acked: nothing is held
  cases hH : H with
  | nil => rfl
  | cons z H' =>
    exfalso
    have hz : z ∈ H := by rw [hH]; exact List.mem_cons_self
    obtain ⟨_, hg, hne⟩ := hok_mem hcok.1 z hz
    obtain ⟨w, hw2⟩ : ∃ w, w ∈ z.f1 := by
      cases hz1 : z.f1 with
      | nil => exact absurd hz1 hne
      | cons w _ => exact ⟨w, List.mem_cons_self⟩
    have hwr := can_mem hg.1 w hw2
    have hin : InP (ofM z.f0 H) w.f0 := by
      rw [of_mem hcok.1 hz]; exact ⟨w, hw2, Int.le_refl _, by omega⟩
    have h1 := hcok.2.2 _ _ hin
    have h2 := hent he2 _ _ hin
    obtain ⟨u, hu, u1, u2⟩ := m3 _ h2 (by show x < z.f0 ∨ (z.f0 = x ∧ y ≤ w.f0); omega)
    have h3 := (ackB_iff x y H u).1 (hal u hu)
    rcases h3 with h3 | h3
    · omega
    · rw [r5] at h3
      exact u2 ((keep_in hpk u u1).1 h3)
theorem all_law {o : Int} {t : List Ld} (hm : Mk' t o) {ml me : Int} {n : Nat} {h : List Hd} (hw : HWn n h) (hC : COk ml me h) {L e x y : Int} (he : 0 ≤ e) {H : List Hd} (r : AllRes o t ml me h L e 0 x y H) :
    (ml < x ∨ (ml = x ∧ me ≤ y)) ∧ 0 ≤ y ∧ COk x y H ∧ (∀ q ∈ allM o t, ackB x y H q = (ackB ml me h q || decide (ordM q.f0 q.f1 L e ≤ 0))) ∧ (⟨L, e⟩ : S25) ∈ allM o t := by
  rcases r with ⟨_, r2, _⟩ | ⟨_, _, r2, _⟩ | ⟨r1, r2, _, r4, r5⟩
  · cases r2
  · cases r2
  have hmem := (has_mem hm.2.1 hm.s he).1 r1
  have hy := mv_pos hm hw r4 (by omega)
  obtain ⟨m1, m2, m3⟩ := mv_spec hm hw r4 (by omega)
  rw [ord_lt] at r2
  have hcok : COk x y H := by rw [r5]; exact keep_cok (ml := ml) (me := me) hC.1 hC.2.1 hy
  refine ⟨by omega, hy, hcok, fun q hq => ?_, hmem⟩
  rw [Bool.eq_iff_iff, Bool.or_eq_true, ackB_iff, ackB_iff, decide_eq_true_eq]
  have hle : ordM q.f0 q.f1 L e ≤ 0 ↔ q.f0 < L ∨ (q.f0 = L ∧ q.f1 ≤ e) := by
    unfold ordM cmpM; (repeat' split) <;> omega
  rw [hle]
  by_cases c : q.f0 < x ∨ (q.f0 = x ∧ q.f1 < y)
  · constructor
    · intro _
      by_cases c2 : q.f0 < L ∨ (q.f0 = L ∧ q.f1 ≤ e)
      · exact .inr c2
      · exact .inl (.inr (m2 q hq (by omega) c))
    · exact fun _ => .inl c
  · rw [r5, keep_in hC.1 q (by omega)]
    constructor
    · rintro (h | h)
      · exact absurd h c
      · exact .inl (.inr h)
    · rintro ((h | h) | h)
      · omega
      · exact .inr h
      · omega

end Go.Proofs.Ytinfnpbglapjhaa.AM

/- A right cursor is checked as right. -/
namespace Go.Proofs.Ytinfnpbglapjhaa.AM
set_option maxRecDepth 100000
set_option linter.unusedVariables false
set_option linter.unusedSimpArgs false

theorem hok_at : ∀ (h : List Hd) (b : Int) (a c : Nat) (ha : a < h.length) (hc : c < h.length), HOk b h → a < c → (h[a]).f0 < (h[c]).f0 := by
  intro h
  induction h with
  | nil => intro b a c ha; simp at ha
  | cons w l ih =>
    intro b a c ha hc hok hac
    cases c with
    | zero => omega
    | succ c =>
      cases a with
      | zero => exact (hok_mem hok.2.2.2 _ (List.getElem_mem _)).1
      | succ a => exact ih _ a c (by simpa using ha) (by simpa using hc) hok.2.2.2 (by omega)
def ChJ (hv : AVal) (ml me : Int) (h : List Hd) (σ0 : St) (mm : Nat) (rg : Regs) (σ' : St) : Prop := ∃ i : Nat, mm = h.length - i ∧ i ≤ h.length ∧ σ0.next + 1 ≤ σ'.next ∧ (∀ a, a < σ0.next → σ'.mem.get a = σ0.mem.get a) ∧ σ'.mem.get σ0.next = some (.cells 3 [u64 ml, u64 me, hv]) ∧
  rg = [(1, .ptr σ0.next 0), (6, hv), (7, i64 h.length), (8, i64 i)]
set_option maxHeartbeats 1000000 in
theorem check14_c {hv : AVal} {h : List Hd} (hh : HI hv h) {n : Nat} (hn : n < 900) (hw : HWn n h) {ml me : Int} (hC : COk ml me h) (σ : St) (Q : AVal → St → Prop)
    (hq : Q (.bool true) σ) : ACall Try.prog 21 [cv ml me hv] σ Q := by
  refine ACall.scrub ?_
  refine ACall.of_compF hmx (fun a w => Try.call21 a w) Try.func21 cf21 (n := 1) (by decide) rfl ?_
  have k1 := hh.one.1
  have k2 := hh.one.2
  have hHW := hw.hw (by omega)
  have hl := hHW.1
  have l1 := hh.len
  simp only [ac21, rs21]
  simp [lk_cons, k1, k2, ↓l1]
  refine wp_loop (ChJ hv ml me h σ) h.length ?_ ?_
  · exact ⟨0, rfl, Nat.zero_le _, by simp, fun a ha => by simp [show ¬ a = σ.next by omega], by simp, rfl⟩
  · rintro mm rg σ1 ⟨i, rfl, hi, hn1, gold, m1, rfl⟩
    by_cases hlt : i < h.length
    · obtain ⟨x, hx⟩ : ∃ x, h[i]? = some x := ⟨_, List.getElem?_eq_getElem hlt⟩
      obtain ⟨k, hk⟩ : ∃ k, i + 1 = k := ⟨_, rfl⟩
      have w1 : IntKind.i64.wrap ((i : Int) + 1) = (k : Int) := by rw [IntWalk.i64_in] <;> omega
      obtain ⟨p, r, hr, p1, p2, _, _⟩ := hh.at hx σ1
      have r1 := hr.one.1
      have r2 := hr.one.2
      have l2 := (hr.m σ1).len
      have hxm := List.mem_of_getElem? hx
      have hxr := hHW.2 x hxm
      obtain ⟨_, hg, hne⟩ := hok_mem hC.1 x hxm
      have hpos : ¬ x.f1.length = 0 := fun h0 => hne (List.eq_nil_of_length_eq_zero h0)
      obtain ⟨w, t, hwt⟩ : ∃ w t, x.f1 = w :: t := by
        cases hx1 : x.f1 with
        | nil => exact absurd hx1 hne
        | cons w t => exact ⟨w, t, rfl⟩
      have hw0 : x.f1[0]? = some w := by rw [hwt]; rfl
      have hwr := can_mem hg.1 w (by rw [hwt]; exact List.mem_cons_self)
      have hin : InP (ofM x.f0 h) w.f0 := by rw [of_mem hC.1 hxm]; exact ⟨w, by rw [hwt]; exact List.mem_cons_self, Int.le_refl _, by omega⟩
      have hmk := hC.2.2 _ _ hin
      have hord : ¬ ordM x.f0 w.f0 ml me < 0 := by rw [ord_lt]; omega
      have z1 : ¬ σ.next = σ1.next := by omega
      have fin : ∀ b0 b1 : Blk, ∃ mm, mm < h.length - i ∧ ChJ hv ml me h σ mm [(1, .ptr σ.next 0), (6, hv), (7, i64 h.length), (8, i64 k)] ⟨(σ1.mem.set σ1.next b0).set σ1.next b1, σ1.next + 1⟩ := fun b0 b1 =>
        ⟨h.length - k, by omega, k, rfl, by omega, by simp; omega, fun a ha => by simp [show ¬ a = σ1.next by omega]; exact gold a ha, by simp [z1]; exact m1, rfl⟩
      simp [lk_cons, hlt, ↓p1, ↓p2, storeL, r1, r2, ↓l2, hpos]
      refine check_c (hr.m _) (by omega) hg.1 _ ?_
      obtain ⟨q, q1, _, ⟨q0, q2, q3⟩, _⟩ := (hr.m σ1).at hw0 (ρ := ⟨(σ1.mem.set σ1.next (.cells 2 [.int .u64 0, .nilsl])).set σ1.next (.cells 2 [u64 x.f0, r]), σ1.next + 1⟩) fun a ha => by simp [show ¬ a = σ1.next by omega]
      have q1' : evalV ⟨(σ1.mem.set σ1.next (.cells 2 [.int .u64 0, .nilsl])).set σ1.next (.cells 2 [u64 x.f0, r]), σ1.next + 1⟩ (.idxAddr 2 r (.int .i64 0)) = some (q, ⟨(σ1.mem.set σ1.next (.cells 2 [.int .u64 0, .nilsl])).set σ1.next (.cells 2 [u64 x.f0, r]), σ1.next + 1⟩) := q1
      by_cases hi0 : i = 0
      · have c0 : ¬ (0 : Int) < (i : Int) := by omega
        have c0' : ¬ 0 < i := by omega
        simp [lk_cons, ↓l2, hpos, c0, c0', m1, z1, k1, k2, ↓q1', ↓q2, ↓q3, fillL, storeL, r1, r2]
        refine order_c x.f0 w.f0 ml me _ _ ?_
        simp [lk_cons, ↓l2, hpos, c0, c0', hord, w1]
        exact fin _ _
      · obtain ⟨j, hj⟩ : ∃ j, j + 1 = i := ⟨i - 1, by omega⟩
        obtain ⟨y, hy⟩ : ∃ y, h[j]? = some y := ⟨_, List.getElem?_eq_getElem (by omega)⟩
        have c0 : (0 : Int) < (i : Int) := by omega
        have c0' : 0 < i := by omega
        have w2 : IntKind.i64.wrap ((i : Int) - 1) = (j : Int) := by rw [IntWalk.i64_in] <;> omega
        have hlt2 : y.f0 < x.f0 := by
          have := hok_at h (-1) j i (by omega) hlt hC.1 (by omega)
          rw [(List.getElem?_eq_some_iff.1 hy).2, (List.getElem?_eq_some_iff.1 hx).2] at this
          exact this
        have c1 : ¬ x.f0 ≤ y.f0 := by omega
        obtain ⟨p', r', hr', p1', _, ⟨s0, s1, s2⟩, _⟩ := hh.at hy ⟨(σ1.mem.set σ1.next (.cells 2 [.int .u64 0, .nilsl])).set σ1.next (.cells 2 [u64 x.f0, r]), σ1.next + 1⟩
        simp [lk_cons, ↓l2, hpos, c0, c0', m1, z1, k1, k2, w2, ↓p1', ↓s1, ↓s2, c1, ↓q1', ↓q2, ↓q3, fillL, storeL, r1, r2]
        refine order_c x.f0 w.f0 ml me _ _ ?_
        simp [lk_cons, ↓l2, hpos, c0, c0', hord, w1]
        exact fin _ _
    · have : i = h.length := by omega
      subst this
      simp [lk_cons]
      exact ⟨gold, hq⟩

end Go.Proofs.Ytinfnpbglapjhaa.AM

/- Two acks in one order and in the other. -/
namespace Go.Proofs.Ytinfnpbglapjhaa.AM
set_option maxRecDepth 100000
set_option linter.unusedVariables false
set_option linter.unusedSimpArgs false

theorem ne_in {l : List S25} (hg : GoodR l) (hne : l ≠ []) : ∃ n, InP l n := by
  cases l with
  | nil => exact absurd rfl hne
  | cons w t =>
    have := can_mem hg.1 w List.mem_cons_self
    exact ⟨w.f0, w, List.mem_cons_self, Int.le_refl _, by omega⟩
theorem hok_ext : ∀ {h h' : List Hd} {b b' : Int}, HOk b h → HOk b' h' → (∀ K n, InP (ofM K h) n ↔ InP (ofM K h') n) → h = h'
  | [], [], _, _, _, _, _ => rfl
  | [], y :: t, _, b', _, h2, he => by
    obtain ⟨_, g2, g3, _⟩ := h2
    obtain ⟨n, hn⟩ := ne_in g2 g3
    have := (he y.f0 n).2 (by simp only [ofM]; rw [if_pos trivial]; exact hn)
    exact absurd this (in_nil n)
  | x :: s, [], _, _, h1, _, he => by
    obtain ⟨_, g2, g3, _⟩ := h1
    obtain ⟨n, hn⟩ := ne_in g2 g3
    have := (he x.f0 n).1 (by simp only [ofM]; rw [if_pos trivial]; exact hn)
    exact absurd this (in_nil n)
  | x :: s, y :: t, b, b', h1, h2, he => by
    obtain ⟨f1, f2, f3, f4⟩ := h1
    obtain ⟨g1, g2, g3, g4⟩ := h2
    have hxy : x.f0 = y.f0 := by
      rcases Int.lt_trichotomy x.f0 y.f0 with hl | hl | hl
      · exfalso
        obtain ⟨n, hn⟩ := ne_in f2 f3
        have := (he x.f0 n).1 (by simp only [ofM]; rw [if_pos trivial]; exact hn)
        simp only [ofM] at this
        rw [if_neg (by omega), of_out g4 (by omega)] at this
        exact in_nil n this
      · exact hl
      · exfalso
        obtain ⟨n, hn⟩ := ne_in g2 g3
        have := (he y.f0 n).2 (by simp only [ofM]; rw [if_pos trivial]; exact hn)
        simp only [ofM] at this
        rw [if_neg (by omega), of_out f4 (by omega)] at this
        exact in_nil n this
    have hr : x.f1 = y.f1 := good_eq f2 g2 fun n => by
      have := he x.f0 n
      simp only [ofM] at this
      rw [if_pos trivial, if_pos hxy.symm] at this
      exact this
    have hst : s = t := hok_ext f4 g4 fun K n => by
      have := he K n
      simp only [ofM] at this
      by_cases c : x.f0 = K
      · rw [of_out f4 (by omega), of_out g4 (by omega)]
      · rw [if_neg c, if_neg (by omega)] at this
        exact this
    rw [hst]
    congr 1
    cases x; cases y; simp at hxy hr; rw [hxy, hr]
theorem put_comm {L e L2 e2 : Int} (he : 0 ≤ e ∧ e < 18446744073709551615) (he2 : 0 ≤ e2 ∧ e2 < 18446744073709551615) (hL : -1 < L) (hL2 : -1 < L2) {h : List Hd} (hok : HOk (-1) h) : putM' L2 e2 false (putM' L e false h) = putM' L e false (putM' L2 e2 false h) := by
  have p1 := put_hok (L := L) he h (-1) hok hL
  have p2 := put_hok (L := L2) he2 h (-1) hok hL2
  refine hok_ext (put_hok he2 _ (-1) p1 hL2) (put_hok he _ (-1) p2 hL) fun K n => ?_
  rw [put_in he2 p1, put_in he hok, put_in he p2, put_in he2 hok]
  constructor
  · rintro ((h | h) | h)
    · exact .inl (.inl h)
    · exact .inr h
    · exact .inl (.inr h)
  · rintro ((h | h) | h)
    · exact .inl (.inl h)
    · exact .inr h
    · exact .inl (.inr h)
theorem gap_ext {l l' : List S25} {b b' : Int} (h : Can b l) (h' : Can b' l') {d : Int} (he : ∀ n, d ≤ n → (InP l n ↔ InP l' n)) : gapM d l = gapM d l' := by
  obtain ⟨a1, a2, _, a4⟩ := gap_spec l b d h
  obtain ⟨c1, c2, _, c4⟩ := gap_spec l' b' d h'
  rcases Int.lt_trichotomy (gapM d l) (gapM d l') with hl | hl | hl
  · exact absurd ((he _ a2).2 (c4 _ a2 hl)) a1
  · exact hl
  · exact absurd ((he _ c2).1 (a4 _ c2 hl)) c1
/-- The place that a step finds. -/
theorem next_place {o : Int} {t : List Ld} (hm : Mk' t o) {a b c d : Int} (hb : 0 ≤ b) (h1 : nextM o a b 0 0 t = (c, d, true)) : (⟨c, d⟩ : S25) ∈ allM o t ∧ (a < c ∨ (a = c ∧ b ≤ d)) ∧ 0 ≤ d := by
  rw [next_find hb t 0 0 hm.s] at h1
  cases hf : (allM o t).find? (fun q => decide (0 ≤ ordM q.f0 q.f1 a b)) with
  | none =>
    rw [hf] at h1
    have := end_false (o := o) t 0 0
    rw [show (pickM none (endM o 0 0 t)) = endM o 0 0 t from rfl] at h1
    rw [h1] at this; cases this
  | some z =>
    rw [hf] at h1
    have h3 : (z.f0, z.f1, true) = (c, d, true) := h1
    obtain ⟨e1, h4⟩ := Prod.mk.inj h3
    obtain ⟨e2, _⟩ := Prod.mk.inj h4
    obtain ⟨z1, z2, _⟩ := find_first (all_sorted hm.2.1) hf
    have z1' := (geB_iff a b z).1 z1
    obtain ⟨_, _, _, z0, _⟩ := all_mem z2
    rw [← e1, ← e2]
    exact ⟨z2, by omega, z0⟩
theorem mv_ext {o : Int} {t : List Ld} (hm : Mk' t o) {n n' : Nat} {h h' : List Hd} (hw : HWn n h) (hw' : HWn n' h') {a b x y : Int} (m : Mv o t h a b x y) (hb : 0 ≤ b) (he : ∀ K n, (a < K ∨ (a = K ∧ b ≤ n)) → (InP (ofM K h) n ↔ InP (ofM K h') n)) : Mv o t h' a b x y := by
  induction m with
  | done a b hs =>
    refine .done a b fun c d hcd => ?_
    obtain ⟨_, h2, _⟩ := next_place hm hb hcd
    have := hs c d hcd
    rw [← Bool.not_eq_true, inB_iff] at this ⊢
    exact fun hin => this ((he c d h2).2 hin)
  | step a b c d x y h1 h2 _ ih =>
    obtain ⟨_, k2, k3⟩ := next_place hm hb h1
    have hg : gapM d (ofM c h) = gapM d (ofM c h') := gap_ext (hw.of c).1.1 (hw'.of c).1.1 fun n hn => he c n (by omega)
    have hge := (gap_spec (ofM c h) (-1) d (hw.of c).1.1).2.1
    refine .step a b c d x y h1 ?_ ?_
    · rw [inB_iff] at h2 ⊢; exact (he c d k2).1 h2
    · rw [← hg]
      exact ih (by omega) fun K n hk => he K n (by omega)
/-- With a place more the mark goes on from where it came to. -/
theorem mv_more {o : Int} {t : List Ld} (hm : Mk' t o) {n n' : Nat} {h h' : List Hd} (hw : HWn n h) (hw' : HWn n' h') {L e : Int} (hmem : (⟨L, e⟩ : S25) ∈ allM o t) (he : ∀ K n, InP (ofM K h') n ↔ InP (ofM K h) n ∨ (K = L ∧ n = e)) {a b x y u v : Int} (m : Mv o t h a b x y) (hb : 0 ≤ b) (m2 : Mv o t h' x y u v) : Mv o t h' a b u v := by
  induction m with
  | done a b hs => exact m2
  | step a b c d x y h1 h2 _ ih =>
    obtain ⟨_, k2, k3⟩ := next_place hm hb h1
    obtain ⟨g1, g2, _, g4⟩ := gap_spec (ofM c h) (-1) d (hw.of c).1.1
    obtain ⟨f1, f2, _, f4⟩ := gap_spec (ofM c h') (-1) d (hw'.of c).1.1
    have ih' := ih (by omega) m2
    refine .step a b c d u v h1 (by rw [inB_iff] at h2 ⊢; exact (he c d).2 (.inl h2)) ?_
    rcases Int.lt_trichotomy (gapM d (ofM c h)) (gapM d (ofM c h')) with hl | hl | hl
    · -- the place is just there
      have hin := f4 _ g2 hl
      have hq : c = L ∧ gapM d (ofM c h) = e := by
        rcases (he c _).1 hin with h | h
        · exact absurd h g1
        · exact h
      have hmem' : (⟨c, gapM d (ofM c h)⟩ : S25) ∈ allM o t := by rw [hq.2, hq.1]; exact hmem
      have hg0 : 0 ≤ gapM d (ofM c h) := by omega
      have hnx : nextM o c (gapM d (ofM c h)) 0 0 t = (c, gapM d (ofM c h), true) := by
        rw [next_find hg0 t 0 0 hm.s]
        cases hf : (allM o t).find? (fun q => decide (0 ≤ ordM q.f0 q.f1 c (gapM d (ofM c h)))) with
        | none =>
          have := List.find?_eq_none.1 hf _ hmem'
          exact absurd ((geB_iff c (gapM d (ofM c h)) ⟨c, gapM d (ofM c h)⟩).2 (.inr ⟨rfl, Int.le_refl _⟩)) this
        | some z =>
          obtain ⟨z1, z2, z3⟩ := find_first (all_sorted hm.2.1) hf
          have hz := (geB_iff c (gapM d (ofM c h)) z).1 z1
          rcases z3 _ hmem' ((geB_iff c (gapM d (ofM c h)) ⟨c, gapM d (ofM c h)⟩).2 (.inr ⟨rfl, Int.le_refl _⟩)) with h | h
          · rw [← h]; rfl
          · unfold ltP at h; simp only at h; omega
      have hgg : gapM (gapM d (ofM c h)) (ofM c h') = gapM d (ofM c h') := by
        obtain ⟨p1, p2, _, p4⟩ := gap_spec (ofM c h') (-1) (gapM d (ofM c h)) (hw'.of c).1.1
        rcases Int.lt_trichotomy (gapM (gapM d (ofM c h)) (ofM c h')) (gapM d (ofM c h')) with hl2 | hl2 | hl2
        · exact absurd (f4 _ (by omega) hl2) p1
        · exact hl2
        · exact absurd (p4 _ (by omega) hl2) f1
      cases ih' with
      | done _ _ hs =>
        have := hs _ _ hnx
        rw [← Bool.not_eq_true, inB_iff] at this
        exact absurd hin this
      | step _ _ c' d' _ _ s1 s2 s3 =>
        rw [hnx] at s1
        obtain ⟨e1, s1⟩ := Prod.mk.inj s1
        obtain ⟨e2, _⟩ := Prod.mk.inj s1
        rw [← e1, ← e2, hgg] at s3
        exact s3
    · rw [← hl]; exact ih'
    · -- it isn't less
      exact absurd ((he c _).2 (.inl (g4 _ f2 hl))) f1
/-- Two acks. -/
theorem two_acks {o : Int} {t : List Ld} (hm : Mk' t o) {ml me : Int} {n : Nat} {h : List Hd} (hw : HWn n h) (hC : COk ml me h) (hme : 0 ≤ me) {L e L2 e2 x y x2 y2 : Int} (hL : 0 ≤ L ∧ L ≤ 18446744073709551615) (he : 0 ≤ e) (hL2 : 0 ≤ L2) (he2 : 0 ≤ e2) {H H2 : List Hd} (r : AckRes o t ml me h L e 0 x y H) (r2 : AckRes o t x y H L2 e2 0 x2 y2 H2) :
    Mv o t (putM' L2 e2 false (putM' L e false h)) ml me x2 y2 ∧ H2 = keepH x2 y2 (putM' L2 e2 false (putM' L e false h)) := by
  obtain ⟨_, hy, hcok, _, hmem, _⟩ := ack_law hm hw hC hme hL he r
  have hwH := (r.hw hm hme hw he).1
  rcases r with ⟨_, r2, _⟩ | ⟨_, _, r2, _⟩ | ⟨r1, _, _, r4, r5⟩
  · cases r2
  · cases r2
  rcases r2 with ⟨_, s2, _⟩ | ⟨_, _, s2, _⟩ | ⟨s1, _, _, s4, s5⟩
  · cases s2
  · cases s2
  have hb := has_bd hm.2.1 hm.s he r1
  have hb2 := has_bd hm.2.1 hm.s he2 s1
  have he' : 0 ≤ e ∧ e < 18446744073709551615 := ⟨he, by omega⟩
  have he2' : 0 ≤ e2 ∧ e2 < 18446744073709551615 := ⟨he2, by omega⟩
  have hmem2 := (has_mem hm.2.1 hm.s he2).1 s1
  have hp := hw.put (L := L) he'
  have hpp := hp.put (L := L2) he2'
  have hpk := put_hok (L := L) he' h (-1) hC.1 (by omega)
  have hppk := put_hok (L := L2) he2' _ (-1) hpk (by omega)
  obtain ⟨m1, _, _⟩ := mv_spec hm hp r4 hme
  have hpH := hwH.put (L := L2) he2'
  have hpHk := put_hok (L := L2) he2' H (-1) hcok.1 (by omega)
  have hagree : ∀ K n, (x < K ∨ (x = K ∧ y ≤ n)) → (InP (ofM K (putM' L2 e2 false H)) n ↔ InP (ofM K (putM' L2 e2 false (putM' L e false h))) n) := fun K n hk => by
    rw [put_in he2' hcok.1, put_in he2' hpk]
    have := keep_in (x := x) (y := y) hpk ⟨K, n⟩ (by show x < K ∨ (K = x ∧ y ≤ n); omega)
    rw [r5]
    rw [show InP (ofM K (keepH x y (putM' L e false h))) n ↔ InP (ofM K (putM' L e false h)) n from this]
  have hmv : Mv o t (putM' L2 e2 false (putM' L e false h)) x y x2 y2 := mv_ext hm hpH hpp s4 hy hagree
  refine ⟨mv_more hm hp hpp hmem2 (fun K n => put_in he2' hpk K n) r4 hme hmv, ?_⟩
  have hy2 := mv_pos hm hpH s4 hy
  obtain ⟨m3, _, _⟩ := mv_spec hm hpH s4 hy
  rw [s5]
  refine hok_ext (keep_hok hy2 hpHk) (keep_hok hy2 hppk) fun K n => ?_
  have g1 := of_good hpHk K
  have g2 := of_good hppk K
  rw [keep_of K hpHk, keep_of K hppk]
  by_cases c1 : K < x2
  · rw [if_pos c1, if_pos c1]
  · rw [if_neg c1, if_neg c1]
    by_cases c2 : K = x2
    · rw [if_pos c2, if_pos c2, (remM_good (lo := 0) (hi := y2) g1).2 n, (remM_good (lo := 0) (hi := y2) g2).2 n]
      constructor
      · rintro ⟨k1, k2⟩
        have := can_in g1.1 k1
        exact ⟨(hagree K n (by omega)).1 k1, k2⟩
      · rintro ⟨k1, k2⟩
        have := can_in g2.1 k1
        exact ⟨(hagree K n (by omega)).2 k1, k2⟩
    · rw [if_neg c2, if_neg c2]
      exact hagree K n (by omega)
/-- .. in whatever order. -/
theorem swap_acks {o : Int} {t : List Ld} (hm : Mk' t o) {ml me : Int} {n : Nat} {h : List Hd} (hw : HWn n h) (hC : COk ml me h) (hme : 0 ≤ me) {L e L2 e2 : Int} (hL : 0 ≤ L ∧ L ≤ 18446744073709551615) (he : 0 ≤ e) (hL2 : 0 ≤ L2 ∧ L2 ≤ 18446744073709551615) (he2 : 0 ≤ e2) {x y x2 y2 u v u2 v2 : Int} {H H2 G G2 : List Hd}
    (r : AckRes o t ml me h L e 0 x y H) (r2 : AckRes o t x y H L2 e2 0 x2 y2 H2) (s : AckRes o t ml me h L2 e2 0 u v G) (s2 : AckRes o t u v G L e 0 u2 v2 G2) : x2 = u2 ∧ y2 = v2 ∧ H2 = G2 := by
  obtain ⟨a1, a2⟩ := two_acks hm hw hC hme hL he hL2.1 he2 r r2
  obtain ⟨b1, b2⟩ := two_acks hm hw hC hme hL2 he2 hL.1 he s s2
  have hb : hasM o L e t = true := by
    rcases r with ⟨_, r2, _⟩ | ⟨_, _, r2, _⟩ | ⟨r1, _⟩
    · cases r2
    · cases r2
    · exact r1
  have hb2 : hasM o L2 e2 t = true := by
    rcases s with ⟨_, r2, _⟩ | ⟨_, _, r2, _⟩ | ⟨r1, _⟩
    · cases r2
    · cases r2
    · exact r1
  have k1 := has_bd hm.2.1 hm.s he hb
  have k2 := has_bd hm.2.1 hm.s he2 hb2
  rw [put_comm (L := L) (e := e) (L2 := L2) (e2 := e2) ⟨he, by omega⟩ ⟨he2, by omega⟩ (by omega) (by omega) hC.1] at a1 a2
  obtain ⟨rfl, rfl⟩ := a1.uniq b1
  exact ⟨rfl, rfl, by rw [a2, b2]⟩
theorem all_len5 {o : Int} : ∀ {t : List Ld}, (∀ x ∈ t, 0 ≤ szM x o ∧ szM x o ≤ 5) → (allM o t).length ≤ 5 * t.length
  | [], _ => by simp [allM]
  | x :: l, h => by
    have := all_len5 fun y hy => h y (List.mem_cons_of_mem _ hy)
    have := h x List.mem_cons_self
    simp only [allM, List.length_append, List.length_cons, row1, List.length_map, List.length_range]
    omega

end Go.Proofs.Ytinfnpbglapjhaa.AM

/- A right cursor is right, says the document. -/
namespace Go.Proofs.Ytinfnpbglapjhaa.AM
set_option maxRecDepth 100000
set_option linter.unusedVariables false
set_option linter.unusedSimpArgs false

theorem can_at : ∀ (l : List S25) (b : Int) (a c : Nat) (ha : a < l.length) (hc : c < l.length), Can b l → a < c → (l[a]).f1 < (l[c]).f0 := by
  intro l
  induction l with
  | nil => intro b a c ha; simp at ha
  | cons w l ih =>
    intro b a c ha hc hcan hac
    obtain ⟨_, _, hcan2⟩ := hcan
    cases c with
    | zero => omega
    | succ c =>
      cases a with
      | zero => exact (can_mem hcan2 _ (List.getElem_mem _)).1
      | succ a => exact ih _ a c (by simpa using ha) (by simpa using hc) hcan2 (by omega)
def RrJ (v : AVal) (l : List S25) (σ0 : St) (mm : Nat) (rg : Regs) (σ' : St) : Prop := ∃ i : Nat, mm = l.length - i ∧ i ≤ l.length ∧ σ' = σ0 ∧ rg = [(0, v), (3, i64 i)]
theorem rright_c {v : AVal} {l : List S25} (hv : RgI v l) (hl : l.length ≤ 1000000) {b : Int} (hc : Can b l) (σ : St) (Q : AVal → St → Prop) (h : Q (.bool true) σ) : ACall Try.prog 55 [v] σ Q := by
  refine ACall.of_compF hmx (fun a w => Try.call55 a w) Try.func55 cf55 (n := 1) (by decide) rfl ?_
  have l1 := (hv.m σ).len
  simp only [ac55, rs55]
  simp [lk_cons]
  refine wp_loop (RrJ v l σ) l.length ?_ ?_
  · exact ⟨0, rfl, Nat.zero_le _, rfl, rfl⟩
  · rintro mm rg σ' ⟨i, rfl, hi, rfl, rfl⟩
    by_cases hlt : i < l.length
    · obtain ⟨x, hx⟩ : ∃ x, l[i]? = some x := ⟨_, List.getElem?_eq_getElem hlt⟩
      obtain ⟨k, hk⟩ : ∃ k, i + 1 = k := ⟨_, rfl⟩
      have w1 : IntKind.i64.wrap ((i : Int) + 1) = (k : Int) := by rw [IntWalk.i64_in] <;> omega
      obtain ⟨p, p1, _, ⟨q0, a1, a2⟩, ⟨q1, b1, b2⟩⟩ := (hv.m σ').at hx (ρ := σ') fun _ _ => rfl
      have hxm := can_mem hc x (List.mem_of_getElem? hx)
      have c1 : ¬ x.f1 ≤ x.f0 := by omega
      by_cases hi0 : i = 0
      · have c0 : ¬ (0 : Int) < (i : Int) := by omega
        have c0' : ¬ 0 < i := by omega
        simp [lk_cons, ↓l1, hlt, ↓p1, ↓a1, ↓a2, ↓b1, ↓b2, c1, c0, c0', w1]
        exact ⟨l.length - k, by omega, k, rfl, by omega, rfl, rfl⟩
      · obtain ⟨j, hj⟩ : ∃ j, j + 1 = i := ⟨i - 1, by omega⟩
        obtain ⟨y, hy⟩ : ∃ y, l[j]? = some y := ⟨_, List.getElem?_eq_getElem (by omega)⟩
        have c0 : (0 : Int) < (i : Int) := by omega
        have c0' : 0 < i := by omega
        have w2 : IntKind.i64.wrap ((i : Int) - 1) = (j : Int) := by rw [IntWalk.i64_in] <;> omega
        have hlt2 : y.f1 < x.f0 := by
          have := can_at l b j i (by omega) hlt hc (by omega)
          rw [(List.getElem?_eq_some_iff.1 hy).2, (List.getElem?_eq_some_iff.1 hx).2] at this
          exact this
        have c2 : ¬ x.f0 ≤ y.f1 := by omega
        obtain ⟨p', p1', _, _, ⟨r1, s1, s2⟩⟩ := (hv.m σ').at hy (ρ := σ') fun _ _ => rfl
        simp [lk_cons, ↓l1, hlt, ↓p1, ↓a1, ↓a2, ↓b1, ↓b2, c1, c0, c0', w2, ↓p1', ↓s1, ↓s2, c2, w1]
        exact ⟨l.length - k, by omega, k, rfl, by omega, rfl, rfl⟩
    · have : i = l.length := by omega
      subst this
      simp [lk_cons, ↓l1]
      exact h
def RcJ (hv : AVal) (ml me : Int) (h : List Hd) (σ0 : St) (mm : Nat) (rg : Regs) (σ' : St) : Prop := ∃ i : Nat, mm = h.length - i ∧ i ≤ h.length ∧ σ0.next + 1 ≤ σ'.next ∧ (∀ a, a < σ0.next → σ'.mem.get a = σ0.mem.get a) ∧ σ'.mem.get σ0.next = some (.cells 3 [u64 ml, u64 me, hv]) ∧
  rg = [(1, .ptr σ0.next 0), (3, i64 i)]
set_option maxHeartbeats 1000000 in
theorem rcheck_c {hv : AVal} {h : List Hd} (hh : HI hv h) {n : Nat} (hn : n < 900) (hw : HWn n h) {ml me : Int} (hC : COk ml me h) (σ : St) (Q : AVal → St → Prop)
    (hq : Q (.bool true) σ) : ACall Try.prog 28 [cv ml me hv] σ Q := by
  refine ACall.scrub ?_
  refine ACall.of_compF hmx (fun a w => Try.call28 a w) Try.func28 cf28 (n := 1) (by decide) rfl ?_
  have k1 := hh.one.1
  have k2 := hh.one.2
  have hHW := hw.hw (by omega)
  have hl := hHW.1
  have l1 := hh.len
  simp only [ac28, rs28]
  simp [lk_cons, k1, k2]
  refine wp_loop (RcJ hv ml me h σ) h.length ?_ ?_
  · exact ⟨0, rfl, Nat.zero_le _, by simp, fun a ha => by simp [show ¬ a = σ.next by omega], by simp, rfl⟩
  · rintro mm rg σ1 ⟨i, rfl, hi, hn1, gold, m1, rfl⟩
    by_cases hlt : i < h.length
    · obtain ⟨x, hx⟩ : ∃ x, h[i]? = some x := ⟨_, List.getElem?_eq_getElem hlt⟩
      obtain ⟨k, hk⟩ : ∃ k, i + 1 = k := ⟨_, rfl⟩
      have w1 : IntKind.i64.wrap ((i : Int) + 1) = (k : Int) := by rw [IntWalk.i64_in] <;> omega
      obtain ⟨p, r, hr, p1, p2, _, _⟩ := hh.at hx σ1
      have r1 := hr.one.1
      have r2 := hr.one.2
      have l2 := (hr.m σ1).len
      have hxm := List.mem_of_getElem? hx
      have hxr := hHW.2 x hxm
      obtain ⟨_, hg, hne⟩ := hok_mem hC.1 x hxm
      have hpos : ¬ x.f1.length = 0 := fun h0 => hne (List.eq_nil_of_length_eq_zero h0)
      obtain ⟨w, t, hwt⟩ : ∃ w t, x.f1 = w :: t := by
        cases hx1 : x.f1 with
        | nil => exact absurd hx1 hne
        | cons w t => exact ⟨w, t, rfl⟩
      have hw0 : x.f1[0]? = some w := by rw [hwt]; rfl
      have hwr := can_mem hg.1 w (by rw [hwt]; exact List.mem_cons_self)
      have hin : InP (ofM x.f0 h) w.f0 := by rw [of_mem hC.1 hxm]; exact ⟨w, by rw [hwt]; exact List.mem_cons_self, Int.le_refl _, by omega⟩
      have hmk := hC.2.2 _ _ hin
      have hord : ¬ ordM x.f0 w.f0 ml me < 0 := by rw [ord_lt]; omega
      have z1 : ¬ σ.next = σ1.next := by omega
      have fin : ∀ b0 b1 : Blk, ∃ mm, mm < h.length - i ∧ RcJ hv ml me h σ mm [(1, .ptr σ.next 0), (3, i64 k)] ⟨(σ1.mem.set σ1.next b0).set σ1.next b1, σ1.next + 1⟩ := fun b0 b1 =>
        ⟨h.length - k, by omega, k, rfl, by omega, by simp; omega, fun a ha => by simp [show ¬ a = σ1.next by omega]; exact gold a ha, by simp [z1]; exact m1, rfl⟩
      simp [lk_cons, hlt, ↓p1, ↓p2, ↓l1, storeL, r1, r2, k1, k2, ↓l2, hpos, m1, z1]
      refine rright_c hr (by omega) hg.1 _ _ ?_
      obtain ⟨q, q1, _, ⟨q0, q2, q3⟩, _⟩ := (hr.m σ1).at hw0 (ρ := ⟨(σ1.mem.set σ1.next (.cells 2 [.int .u64 0, .nilsl])).set σ1.next (.cells 2 [u64 x.f0, r]), σ1.next + 1⟩) fun a ha => by simp [show ¬ a = σ1.next by omega]
      have q1' : evalV ⟨(σ1.mem.set σ1.next (.cells 2 [.int .u64 0, .nilsl])).set σ1.next (.cells 2 [u64 x.f0, r]), σ1.next + 1⟩ (.idxAddr 2 r (.int .i64 0)) = some (q, ⟨(σ1.mem.set σ1.next (.cells 2 [.int .u64 0, .nilsl])).set σ1.next (.cells 2 [u64 x.f0, r]), σ1.next + 1⟩) := q1
      by_cases hi0 : i = 0
      · have c0 : ¬ (0 : Int) < (i : Int) := by omega
        have c0' : ¬ 0 < i := by omega
        simp [lk_cons, ↓l2, hpos, c0, c0', m1, z1, k1, k2, ↓q1', ↓q2, ↓q3, fillL, storeL, r1, r2]
        refine rorder_c x.f0 w.f0 ml me _ _ ?_
        simp [lk_cons, ↓l2, hpos, c0, c0', hord, w1]
        exact fin _ _
      · obtain ⟨j, hj⟩ : ∃ j, j + 1 = i := ⟨i - 1, by omega⟩
        obtain ⟨y, hy⟩ : ∃ y, h[j]? = some y := ⟨_, List.getElem?_eq_getElem (by omega)⟩
        have c0 : (0 : Int) < (i : Int) := by omega
        have c0' : 0 < i := by omega
        have w2 : IntKind.i64.wrap ((i : Int) - 1) = (j : Int) := by rw [IntWalk.i64_in] <;> omega
        have hlt2 : y.f0 < x.f0 := by
          have := hok_at h (-1) j i (by omega) hlt hC.1 (by omega)
          rw [(List.getElem?_eq_some_iff.1 hy).2, (List.getElem?_eq_some_iff.1 hx).2] at this
          exact this
        have c1 : ¬ x.f0 ≤ y.f0 := by omega
        obtain ⟨p', r', hr', p1', _, ⟨s0, s1, s2⟩, _⟩ := hh.at hy ⟨(σ1.mem.set σ1.next (.cells 2 [.int .u64 0, .nilsl])).set σ1.next (.cells 2 [u64 x.f0, r]), σ1.next + 1⟩
        simp [lk_cons, ↓l2, hpos, c0, c0', m1, z1, k1, k2, w2, ↓p1', ↓s1, ↓s2, c1, ↓q1', ↓q2, ↓q3, fillL, storeL, r1, r2]
        refine rorder_c x.f0 w.f0 ml me _ _ ?_
        simp [lk_cons, ↓l2, hpos, c0, c0', hord, w1]
        exact fin _ _
    · have : i = h.length := by omega
      subst this
      simp [lk_cons, ↓l1, m1, k1, k2]
      exact ⟨gold, hq⟩

/-! ### The map of what is acked -/
def PE : List (Nat × AVal × AVal) → List S25 → Prop
  | [], [] => True
  | e :: es, q :: qs => e.2 = (ps q.f0 q.f1, .bool true) ∧ PE es qs
  | _, _ => False
theorem PE.len : ∀ {es : List (Nat × AVal × AVal)} {qs : List S25}, PE es qs → es.length = qs.length
  | [], [], _ => rfl
  | e :: es, q :: qs, h => by simp [PE.len h.2]
  | [], _ :: _, h => h.elim
  | _ :: _, [], h => h.elim
theorem PE.snoc (n : Nat) (q : S25) : ∀ {es : List (Nat × AVal × AVal)} {qs : List S25}, PE es qs → PE (es ++ [(n, ps q.f0 q.f1, .bool true)]) (qs ++ [q])
  | [], [], _ => ⟨rfl, trivial⟩
  | e :: es, p :: qs, h => ⟨h.1, PE.snoc n q h.2⟩
  | [], _ :: _, h => h.elim
  | _ :: _, [], h => h.elim
theorem PE.find (q : S25) : ∀ {es : List (Nat × AVal × AVal)} {qs : List S25}, PE es qs → (q ∈ qs ∧ ∃ i, findA (ps q.f0 q.f1) es = some (some (i, .bool true))) ∨ (q ∉ qs ∧ findA (ps q.f0 q.f1) es = some none)
  | [], [], _ => .inr ⟨by simp, rfl⟩
  | (n, e) :: es, p :: qs, h => by
    obtain ⟨h1, h2⟩ := h
    have h1 : e = (ps p.f0 p.f1, .bool true) := h1
    subst h1
    have hk : keyEqA (ps q.f0 q.f1) (ps p.f0 p.f1) = some (decide (q = p)) := by
      simp only [keyEqA, List.length_cons, List.length_nil, if_true, keysEq, keyEq]
      cases q; cases p
      rename_i a b c d
      cases h1 : (a == c) <;> cases h2 : (b == d) <;> simp_all
    by_cases c : q = p
    · refine .inl ⟨by rw [c]; exact List.mem_cons_self, 0, ?_⟩
      simp only [findA]; rw [hk, decide_eq_true c]
    · rcases PE.find q h2 with ⟨k1, i, k2⟩ | ⟨k1, k2⟩
      · refine .inl ⟨List.mem_cons_of_mem _ k1, i + 1, ?_⟩
        simp only [findA]; rw [hk, decide_eq_false c]; simp only; rw [k2]; rfl
      · refine .inr ⟨fun hh => ?_, ?_⟩
        · rcases List.mem_cons.1 hh with hh | hh
          · exact c hh
          · exact k1 hh
        · simp only [findA]; rw [hk, decide_eq_false c]; simp only; rw [k2]; rfl
  | [], _ :: _, h => h.elim
  | _ :: _, [], h => h.elim
theorem keyis_ps (a b : Int) : keyIs true [1, 1] (.agg [u64 a, u64 b]) = true := rfl
/-- So many of them are in. -/
theorem count_in {s : List S25} : ∀ {A : List S25}, A.Nodup → s.Nodup → (∀ q ∈ s, q ∈ A) → A.countP (fun q => decide (q ∈ s)) = s.length := by
  intro A hA hs hsub
  have h1 : A.countP (fun q => decide (q ∈ s)) = (A.filter fun q => decide (q ∈ s)).length := List.countP_eq_length_filter
  rw [h1]
  have : (A.filter fun q => decide (q ∈ s)).Perm s := by
    rw [List.perm_ext_iff_of_nodup (hA.filter _) hs]
    intro q
    rw [List.mem_filter, decide_eq_true_eq]
    exact ⟨fun h => h.2, fun h => ⟨hsub q h, h⟩⟩
  exact this.length_eq
theorem all_nodup {o : Int} {t : List Ld} (h : RisingP t) : (allM o t).Nodup := by
  unfold List.Nodup
  refine (all_sorted h).imp fun hab hh => ?_
  rw [hh] at hab
  unfold ltP at hab
  omega

end Go.Proofs.Ytinfnpbglapjhaa.AM
