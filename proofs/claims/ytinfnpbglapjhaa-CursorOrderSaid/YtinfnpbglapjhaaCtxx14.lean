/- What the functions of this chapter give: their contracts over the machine. -/
import Derived.Test.YtinfnpbglapjhaaCtx14
import Derived.Test.YtinfnpbglapjhaaC14
import Derived.Test.YtinfnpbglapjhaaAm3
/- tight, of the document. -/
namespace Go.Proofs.Ytinfnpbglapjhaa.AM
set_option maxRecDepth 100000
set_option linter.unusedVariables false
set_option linter.unusedSimpArgs false

def rtH (pl pe : Int) : List Hd → List Hd → List Hd
  | acc, [] => acc
  | acc, x :: t => rtH pl pe (if x.f0 < pl then holdM x.f0 [] true acc else if x.f0 = pl then holdM x.f0 (rset x.f1 [⟨0, pe⟩]) (decide (rset x.f1 [⟨0, pe⟩] = [])) acc else acc) t
theorem hold_len (L : Int) (r : List S25) : ∀ (d : Bool) (h : List Hd), (holdM L r d h).length ≤ h.length + (if d = true then 0 else 1)
  | d, [] => by cases d <;> simp [holdM]
  | d, x :: t => by
    have i1 := hold_len L r true t
    have i2 := hold_len L r d t
    simp only [holdM]
    split
    · rename_i hc
      obtain ⟨rfl, _⟩ := hc
      split <;> simp at * <;> omega
    · split <;> simp at * <;> omega
theorem hold_len' (L : Int) (r : List S25) (d : Bool) (h : List Hd) : (holdM L r d h).length ≤ h.length + 1 := by
  have := hold_len L r d h
  split at this <;> omega
def RtJ2 (hv : AVal) (pl pe : Int) (h : List Hd) (σ0 σ1 : St) (mm : Nat) (rg : Regs) (σ' : St) : Prop := ∃ (i : Nat) (ov : AVal) (acc : List Hd), mm = h.length - i ∧ i ≤ h.length ∧ HI ov acc ∧ rtH pl pe acc (h.drop i) = rtH pl pe h h ∧ acc.length ≤ h.length + i ∧ σ1.next + 1 ≤ σ'.next ∧ (∀ a, a < σ0.next → σ'.mem.get a = σ0.mem.get a) ∧
  σ'.mem.get σ0.next = some (.cells 3 [u64 pl, u64 pe, hv]) ∧ σ'.mem.get (σ0.next + 1) = some (.cells 3 [u64 0, u64 0, .nilsl]) ∧ σ'.mem.get σ1.next = some (.cells 3 [u64 pl, u64 pe, ov]) ∧
  rg = [(5, .ptr σ0.next 0), (6, .ptr (σ0.next + 1) 0), (9, .ptr σ1.next 0), (10, i64 i)]
set_option maxHeartbeats 2000000 in
theorem rtight_c {lv hv : AVal} {t : List Ld} {h : List Hd} (hlv : LdI lv t) (htl : t.length ≤ 13) {o : Int} (hs : ∀ x ∈ t, 0 ≤ szM x o ∧ szM x o ≤ 100) (ht : RisingP t) (hh : HI hv h) (hw : HW h) (ml me : Int) (hme : 0 ≤ me) (σ : St) (Q : AVal → St → Prop)
    (hq : ∀ pl pe hv', Mv o t h ml me pl pe → 0 ≤ pe → HI hv' (rtH pl pe h h) → Q (cv pl pe hv') σ) : ACall Try.prog 39 [lv, u64 o, cv ml me hv] σ Q := by
  refine ACall.scrub ?_
  refine ACall.of_compF hmx (fun a w => Try.call39 a w) Try.func39 cf39 (n := 3) (by decide) rfl ?_
  have l1 := hh.len
  have h1 := hh.one.1
  have h2 := hh.one.2
  have hl := hw.1
  simp only [ac39, rs39]
  refine wp_cut (fun rg s => rg = [(0, lv), (1, u64 o), (5, .ptr σ.next 0), (6, .ptr (σ.next + 1) 0)] ∧ s = ⟨(σ.mem.set σ.next (.cells 3 [u64 ml, u64 me, hv])).set (σ.next + 1) (.cells 3 [u64 0, u64 0, .nilsl]), σ.next + 1 + 1⟩) (by simp [lk_cons, h1, h2]) ?_
  rintro _ _ ⟨rfl, rfl⟩
  refine wp_cut (fun rg s => ∃ pl pe x, Mv o t h ml me pl pe ∧ 0 ≤ pe ∧ (∀ a, a < σ.next → s.mem.get a = σ.mem.get a) ∧ σ.next + 1 + 1 ≤ s.next ∧ s.mem.get σ.next = some (.cells 3 [u64 pl, u64 pe, hv]) ∧ s.mem.get (σ.next + 1) = some (.cells 3 [u64 0, u64 0, .nilsl]) ∧ rg = [(0, lv), (1, u64 o), (5, .ptr σ.next 0), (6, .ptr (σ.next + 1) 0), (7, x), (31, .bool true)]) ?_ ?_
  · simp only [wp_block]
    refine wp_loop (TiJ lv hv o ml me t h σ) ((allM o t).countP (geB ml me)) ?_ ?_
    · exact ⟨ml, me, rfl, hme, fun x y m => m, ⟨by simp; omega, fun a ha => by simp [show ¬ a = σ.next by omega, show ¬ a = σ.next + 1 by omega]⟩, by simp, by simp, by simp, rfl⟩
    · rintro mm rg σ' ⟨pl, pe, rfl, hpe, hmv, hg, hn, m1, m2, rfl⟩
      have gold : ∀ a, a < σ.next → σ'.mem.get a = σ.mem.get a := hg.2
      have gn := hg.1
      have z1 : ¬ σ.next = σ'.next := by omega
      have z2 : ¬ σ.next + 1 = σ'.next := by omega
      obtain ⟨r, hr⟩ : ∃ r, nextM o pl pe 0 0 t = r := ⟨_, rfl⟩
      obtain ⟨a, b, ok⟩ := r
      have out : ∀ y : Blk, ∀ k, k < σ.next → (if k = σ'.next then some y else if k = σ'.next then some (Blk.cells 2 [.int .u64 0, .int .u64 0]) else σ'.mem.get k) = σ.mem.get k := fun y k hk => by
        rw [if_neg (by omega), if_neg (by omega)]; exact gold k hk
      simp [lk_cons, m1, m2]
      refine rnext_c hlv (by omega) hs hpe _ _ ?_
      rw [hr]
      cases ok with
      | false =>
        simp [lk_cons, m1, m2, storeL, z1, z2, h1, h2]
        exact ⟨pl, pe, hmv _ _ (.done _ _ fun c d hcd => by rw [hr] at hcd; cases hcd), hpe, fun k hk => out _ k hk, by omega, rfl, rfl⟩
      | true =>
        simp [lk_cons, m1, m2, storeL, z1, z2, h1, h2]
        refine of_c hh (by omega) pl pe a _ _ fun rv hrv => ?_
        simp [lk_cons, m1, m2, storeL, z1, z2, h1, h2]
        refine rin_c (hrv.m _) b (by have := (hw.of a).2; omega) _ ?_
        cases hin : inB (ofM a h) b with
        | false =>
          simp [lk_cons, m1, m2, storeL, z1, z2, h1, h2]
          exact ⟨pl, pe, hmv _ _ (.done _ _ fun c d hcd => by rw [hr] at hcd; obtain ⟨e1, hcd⟩ := Prod.mk.inj hcd; obtain ⟨e2, _⟩ := Prod.mk.inj hcd; rw [← e1, ← e2]; exact hin), hpe, fun k hk => out _ k hk, by omega, rfl, rfl⟩
        | true =>
          simp [lk_cons, m1, m2, storeL, z1, z2, h1, h2]
          refine of_c hh (by omega) pl pe a _ _ fun rv2 hrv2 => ?_
          simp [lk_cons, m1, m2, storeL, z1, z2, h1, h2]
          refine rgap_c hrv2 (by have := (hw.of a).2; omega) (hw.of a).1.1 b _ _ ?_
          simp [lk_cons, m1, m2, storeL, z1, z2, h1, h2, fillL]
          have gs := gap_spec (ofM a h) (-1) b (hw.of a).1.1
          have hlt : b < gapM b (ofM a h) := by
            rcases Int.lt_or_eq_of_le gs.2.1 with hl | hl
            · exact hl
            · exfalso; rw [← hl] at gs; exact gs.1 ((inB_iff _ _).1 hin)
          obtain ⟨b0, _, hms⟩ := next_meas hs hpe hr hlt ht
          refine ⟨_, hms, a, gapM b (ofM a h), rfl, by omega, fun x y m => hmv _ _ (.step _ _ _ _ _ _ hr hin m), ⟨by simp; omega, fun k hk => ?_⟩, by simp; omega, by simp, by simp [z2]; exact m2, rfl⟩
          simp [show ¬ k = σ.next by omega, show ¬ k = σ'.next by omega]; exact gold k hk
  · rintro rg σ1 ⟨pl, pe, x7, hmv, hpe, gold, hn, m1, m2, rfl⟩
    have z1 : ¬ σ.next = σ1.next := by omega
    have z2 : ¬ σ.next + 1 = σ1.next := by omega
    simp [lk_cons, m1, m2, storeL, z1, z2, h1, h2, fillL, ↓l1]
    refine wp_loop (RtJ2 hv pl pe h σ σ1) h.length ?_ ?_
    · exact ⟨0, hv, h, rfl, Nat.zero_le _, hh, rfl, by simp, by simp, fun k hk => by simp [show ¬ k = σ1.next by omega]; exact gold k hk, by simp [z1]; exact m1, by simp [z2]; exact m2, by simp, rfl⟩
    · rintro mm rg σ' ⟨i, ov, acc, rfl, hi, ho, hp, hac, hn1, gold', n1, n2, n3, rfl⟩
      have y1 : ¬ σ.next = σ'.next := by omega
      have y2 : ¬ σ.next + 1 = σ'.next := by omega
      have y3 : ¬ σ1.next = σ'.next := by omega
      have o1 := ho.one.1
      have o2 := ho.one.2
      by_cases hlt : i < h.length
      · obtain ⟨x, hx⟩ : ∃ x, h[i]? = some x := ⟨_, List.getElem?_eq_getElem hlt⟩
        obtain ⟨k, hk⟩ : ∃ k, i + 1 = k := ⟨_, rfl⟩
        have w1 : IntKind.i64.wrap ((i : Int) + 1) = (k : Int) := by rw [IntWalk.i64_in] <;> omega
        obtain ⟨p, xr, hri, p1, p2, _, _⟩ := hh.at hx σ'
        have r1 := hri.one.1
        have r2 := hri.one.2
        have hdr : h.drop i = x :: h.drop k := by rw [List.drop_eq_getElem_cons hlt, (List.getElem?_eq_some_iff.1 hx).2, hk]
        rw [hdr] at hp
        simp only [rtH] at hp
        have hxr := hw.2 x (List.mem_of_getElem? hx)
        have fin : ∀ (w : AVal) (acc' : List Hd) (ρ' : St), HI w acc' → σ'.next ≤ ρ'.next → (∀ a, a < σ1.next → ρ'.mem.get a = σ'.mem.get a) → ρ'.mem.get σ1.next = some (.cells 3 [u64 pl, u64 pe, w]) → rtH pl pe acc' (h.drop k) = rtH pl pe h h → acc'.length ≤ h.length + k →
            ∃ mm, mm < h.length - i ∧ RtJ2 hv pl pe h σ σ1 mm [(5, .ptr σ.next 0), (6, .ptr (σ.next + 1) 0), (9, .ptr σ1.next 0), (10, i64 k)] ρ' := by
          intro w acc' ρ' e1 e2 e3 e6 e4 e5
          exact ⟨h.length - k, by omega, k, w, acc', rfl, by omega, e1, e4, e5, by omega, fun a ha => (e3 a (by omega)).trans (gold' a ha), (e3 _ (by omega)).trans n1, (e3 _ (by omega)).trans n2, e6, rfl⟩
        by_cases c1 : x.f0 < pl
        · rw [if_pos c1] at hp
          have c2 : ¬ x.f0 = pl := by omega
          simp [lk_cons, hlt, ↓p1, ↓p2, ↓l1, storeL, r1, r2, h1, h2, o1, o2, n1, n2, n3, y1, y2, y3, c1, w1]
          refine hold_c ho (by omega) (.inl ⟨rfl, rfl⟩) (by simp) pl pe x.f0 _ _ fun hv' hhv' => ?_
          have hlen := hold_len' x.f0 [] true acc
          have t1 := hhv'.one.1
          have t2 := hhv'.one.2
          have y4 : ¬ σ'.next = σ1.next := by omega
          simp [lk_cons, storeL, r1, r2, h1, h2, o1, o2, n1, n2, n3, y1, y2, y3, y4, c1, c2, w1, t1, t2, z1, z2]
          refine fin hv' (holdM x.f0 [] true acc) _ hhv' (by simp) (fun a ha => ?_) (by simp) hp (by omega)
          simp [show ¬ a = σ1.next by omega, show ¬ a = σ'.next by omega]
        · rw [if_neg c1] at hp
          have y4 : ¬ σ'.next = σ1.next := by omega
          by_cases c2 : x.f0 = pl
          · rw [if_pos c2] at hp
            simp [lk_cons, hlt, ↓p1, ↓p2, ↓l1, storeL, r1, r2, h1, h2, o1, o2, n1, n2, n3, y1, y2, y3, c2, w1, z1, z2, fillL, repL]
            have b1 : ∀ z ∈ x.f1, 0 ≤ z.f0 ∧ 0 ≤ z.f1 ∧ z.f1 ≤ 18446744073709551615 := fun z hz => by have := good_mem hxr.1 z hz; omega
            have b2 : ∀ z ∈ ([⟨0, pe⟩] : List S25), 0 ≤ z.f0 ∧ 0 ≤ z.f1 := fun z hz => by simp at hz; subst hz; exact ⟨Int.le_refl _, hpe⟩
            refine set_c (y := [⟨0, pe⟩]) (hri.m _) (.inr ⟨σ'.next + 1, 0, 1, true, [u64 0, u64 pe], rfl, by simp, by simp, by simp, by simp, by simp [rc]⟩) (by simp; omega) b1 b2 _ fun sv hsv => ?_
            have hsl := (rset_spec b1 b2).2.2.1
            simp [lk_cons, storeL, r1, r2, h1, h2, o1, o2, n1, n2, n3, y1, y2, y3, y4, c2, w1, z1, z2, show ¬ σ'.next = σ'.next + 1 by omega, show ¬ σ1.next = σ'.next + 1 by omega, show ¬ σ.next = σ'.next + 1 by omega]
            refine hold_c ho (by omega) hsv (by simp at hsl; omega) pl pe pl _ _ fun hv' hhv' => ?_
            have hlen := hold_len' pl (rset x.f1 [⟨0, pe⟩]) (decide (rset x.f1 [⟨0, pe⟩] = [])) acc
            have t1 := hhv'.one.1
            have t2 := hhv'.one.2
            simp [lk_cons, storeL, r1, r2, h1, h2, o1, o2, n1, n2, n3, y1, y2, y3, y4, c2, w1, z1, z2, t1, t2, show ¬ σ'.next = σ'.next + 1 by omega, show ¬ σ1.next = σ'.next + 1 by omega, show ¬ σ.next = σ'.next + 1 by omega]
            refine fin hv' _ _ hhv' (by simp; omega) (fun a ha => ?_) (by simp) (by rw [c2] at hp; exact hp) (by omega)
            simp [show ¬ a = σ1.next by omega, show ¬ a = σ'.next by omega, show ¬ a = σ'.next + 1 by omega]
          · rw [if_neg c2] at hp
            simp [lk_cons, hlt, ↓p1, ↓p2, ↓l1, storeL, r1, r2, h1, h2, o1, o2, n1, n2, n3, y1, y2, y3, c1, c2, w1, z1, z2]
            exact fin ov acc _ ho (by simp) (fun a ha => by simp [show ¬ a = σ'.next by omega]) (by simp [y3]; exact n3) hp (by omega)
      · have : i = h.length := by omega
        subst this
        rw [List.drop_length] at hp
        simp [lk_cons, ↓l1, h1, h2, n1, n2, n3, y1, y2, y3, storeL, o1, o2]
        have hp' : acc = rtH pl pe h h := by rw [← hp]; simp [rtH]
        subst hp'
        refine ⟨ho.upto _, fun a ha => ?_, hq _ _ _ hmv hpe ho⟩
        show (σ'.mem.set (σ.next + 1) (.cells 3 [u64 pl, u64 pe, ov])).get a = _
        simp [show ¬ a = σ.next + 1 by omega]
        exact gold' a ha

end Go.Proofs.Ytinfnpbglapjhaa.AM

/- Acked, Ack, AckAll. -/
namespace Go.Proofs.Ytinfnpbglapjhaa.AM
set_option maxRecDepth 100000
set_option linter.unusedVariables false
set_option linter.unusedSimpArgs false

theorem acked_c {hv : AVal} {h : List Hd} (hh : HI hv h) (hw : HW h) (ml me L e : Int) (σ : St) (Q : AVal → St → Prop) (hq : Q (.bool (ackB ml me h ⟨L, e⟩)) σ) : ACall Try.prog 18 [cv ml me hv, ps L e] σ Q := by
  refine ACall.scrub ?_
  refine ACall.of_compF hmx (fun a w => Try.call18 a w) Try.func18 cf18 (n := 2) (by decide) rfl ?_
  have h1 := hh.one.1
  have h2 := hh.one.2
  have hl := hw.1
  have gold : ∀ b0 b1 : Blk, ∀ a, a < σ.next → ((σ.mem.set σ.next b0).set (σ.next + 1) b1).get a = σ.mem.get a := fun b0 b1 a ha => by simp [show ¬ a = σ.next by omega, show ¬ a = σ.next + 1 by omega]
  unfold ackB at hq
  simp [ac18, rs18, lk_cons, h1, h2]
  refine order_c L e ml me _ _ ?_
  by_cases hc : ordM L e ml me < 0
  · simp [hc] at hq
    simp [lk_cons, hc]
    exact ⟨gold _ _, hq⟩
  · simp [hc] at hq
    simp [lk_cons, hc, h1, h2]
    refine held_c hh (by omega) ml me L _ _ fun rv hrv => ?_
    simp [lk_cons, hc, h1, h2]
    refine has_c (hrv.m _) (by have := (hw.of L).2; omega) (hw.of L).1.1 e _ ?_
    simp [lk_cons, hc, h1, h2]
    exact ⟨gold _ _, hq⟩
theorem racked_c {hv : AVal} {h : List Hd} (hh : HI hv h) (hw : HW h) (ml me L e : Int) (σ : St) (Q : AVal → St → Prop) (hq : Q (.bool (ackB ml me h ⟨L, e⟩)) σ) : ACall Try.prog 19 [cv ml me hv, ps L e] σ Q := by
  refine ACall.scrub ?_
  refine ACall.of_compF hmx (fun a w => Try.call19 a w) Try.func19 cf19 (n := 2) (by decide) rfl ?_
  have h1 := hh.one.1
  have h2 := hh.one.2
  have hl := hw.1
  have gold : ∀ b0 b1 : Blk, ∀ a, a < σ.next → ((σ.mem.set σ.next b0).set (σ.next + 1) b1).get a = σ.mem.get a := fun b0 b1 a ha => by simp [show ¬ a = σ.next by omega, show ¬ a = σ.next + 1 by omega]
  unfold ackB at hq
  simp [ac19, rs19, lk_cons, h1, h2]
  refine rorder_c L e ml me _ _ ?_
  by_cases hc : ordM L e ml me < 0
  · simp [hc] at hq
    simp [lk_cons, hc]
    exact ⟨gold _ _, hq⟩
  · simp [hc] at hq
    simp [lk_cons, hc, h1, h2]
    refine of_c hh (by omega) ml me L _ _ fun rv hrv => ?_
    simp [lk_cons, hc, h1, h2]
    refine rin_c (hrv.m _) e (by have := (hw.of L).2; omega) _ ?_
    simp [lk_cons, hc, h1, h2]
    exact ⟨gold _ _, hq⟩

theorem put_len (L e : Int) : ∀ (d : Bool) (h : List Hd), (putM' L e d h).length ≤ h.length + (if d = true then 0 else 1)
  | d, [] => by cases d <;> simp [putM']
  | d, x :: t => by
    have i1 := put_len L e true t
    have i2 := put_len L e d t
    simp only [putM']
    split
    · simp at *; split <;> omega
    · split
      · rename_i hc
        obtain ⟨_, rfl⟩ := hc
        simp at *; omega
      · simp at *; omega
theorem put_mem (L e : Int) : ∀ (d : Bool) (h : List Hd) (z : Hd), z ∈ putM' L e d h → z = ⟨L, [⟨e, e + 1⟩]⟩ ∨ z ∈ h ∨ ∃ x ∈ h, z = ⟨x.f0, addM e (e + 1) x.f1⟩
  | d, [], z, hz => by
    simp only [putM'] at hz
    split at hz
    · cases hz
    · exact .inl (by simpa using hz)
  | d, x :: t, z, hz => by
    have up : ∀ d', z ∈ putM' L e d' t → z = ⟨L, [⟨e, e + 1⟩]⟩ ∨ z ∈ x :: t ∨ ∃ y ∈ x :: t, z = ⟨y.f0, addM e (e + 1) y.f1⟩ := fun d' hz => by
      rcases put_mem L e d' t z hz with h | h | ⟨y, hy, h⟩
      · exact .inl h
      · exact .inr (.inl (List.mem_cons_of_mem _ h))
      · exact .inr (.inr ⟨y, List.mem_cons_of_mem _ hy, h⟩)
    simp only [putM'] at hz
    split at hz
    · rcases List.mem_cons.1 hz with h | h
      · exact .inr (.inr ⟨x, List.mem_cons_self, h⟩)
      · exact up _ h
    · split at hz
      · rcases List.mem_cons.1 hz with h | h
        · exact .inl h
        · rcases List.mem_cons.1 h with h | h
          · exact .inr (.inl (by rw [h]; exact List.mem_cons_self))
          · exact up _ h
      · rcases List.mem_cons.1 hz with h | h
        · exact .inr (.inl (by rw [h]; exact List.mem_cons_self))
        · exact up _ h
/-- .. of so many. -/
def HWn (n : Nat) (h : List Hd) : Prop := h.length ≤ n ∧ ∀ x ∈ h, GoodR x.f1 ∧ x.f1.length ≤ n
theorem HWn.hw {n : Nat} {h : List Hd} (hw : HWn n h) (hn : n ≤ 900) : HW h := ⟨by have := hw.1; omega, fun x hx => ⟨(hw.2 x hx).1, by have := (hw.2 x hx).2; omega⟩⟩
theorem addL_one {e : Int} {l : List S25} : addM e (e + 1) l = addL e (e + 1) l := by unfold addL; rw [if_pos (by omega)]
theorem good_one {e : Int} (he : 0 ≤ e ∧ e < 18446744073709551615) : GoodR [⟨e, e + 1⟩] := ⟨⟨by show -1 < e; omega, by show e < e + 1; omega, trivial⟩, fun n hn => by
  obtain ⟨x, hx, h1, h2⟩ := hn
  rw [List.mem_singleton.1 hx] at h1 h2
  have h2 : n < e + 1 := h2
  omega⟩
theorem HWn.put {n : Nat} {h : List Hd} (hw : HWn n h) {L e : Int} (he : 0 ≤ e ∧ e < 18446744073709551615) : HWn (n + 1) (putM' L e false h) := by
  refine ⟨by have := put_len L e false h; have := hw.1; simp at *; omega, fun z hz => ?_⟩
  rcases put_mem L e false h z hz with rfl | hz | ⟨x, hx, rfl⟩
  · exact ⟨good_one he, by simp⟩
  · exact ⟨(hw.2 z hz).1, by have := (hw.2 z hz).2; omega⟩
  · obtain ⟨h1, h2⟩ := hw.2 x hx
    obtain ⟨a1, _, a3⟩ := addL_spec (lo := e) (hi := e + 1) h1 he.1 (by omega)
    rw [← addL_one] at a1 a3
    exact ⟨a1, by show (addM e (e + 1) x.f1).length ≤ n + 1; omega⟩

theorem ack_c {lv hv : AVal} {t : List Ld} {h : List Hd} (hlv : LdI lv t) (htl : t.length ≤ 13) {o : Int} (hs : ∀ x ∈ t, 0 ≤ szM x o ∧ szM x o ≤ 100) (ht : RisingP t) (hh : HI hv h) {n : Nat} (hn : n < 900) (hw : HWn n h) (ml me L e : Int) (hme : 0 ≤ me) (he : 0 ≤ e ∧ e ≤ 18446744073709551615) (hhe : hasM o L e t = true → e < 18446744073709551615) (σ : St) (Q : AVal → St → Prop)
    (h0 : hasM o L e t = false → Q (.tup [cv 0 0 .nilsl, i64 30]) σ) (h1 : hasM o L e t = true → ackB ml me h ⟨L, e⟩ = true → Q (.tup [cv 0 0 .nilsl, i64 31]) σ)
    (h2 : hasM o L e t = true → ackB ml me h ⟨L, e⟩ = false → ∀ pl pe hv', Mv o t (putM' L e false h) ml me pl pe → HI hv' (keepH pl pe (putM' L e false h)) → Q (.tup [cv pl pe hv', i64 0]) σ) : ACall Try.prog 13 [lv, u64 o, cv ml me hv, ps L e] σ Q := by
  refine ACall.scrub ?_
  refine ACall.of_compF hmx (fun a w => Try.call13 a w) Try.func13 cf13 (n := 4) (by decide) rfl ?_
  have k1 := hh.one.1
  have k2 := hh.one.2
  have hHW := hw.hw (by omega)
  have hl := hHW.1
  have z1 : ¬ σ.next = σ.next + 1 + 1 := by omega
  simp only [ac13, rs13]
  simp [lk_cons, k1, k2, z1]
  refine has13_c hlv (by omega) o L e _ _ ?_
  cases hhas : hasM o L e t with
  | false =>
    simp [lk_cons, k1, k2, storeL, fillL, z1]
    exact ⟨fun a ha => by simp [show ¬ a = σ.next by omega, show ¬ a = σ.next + 1 by omega, show ¬ a = σ.next + 1 + 1 by omega], h0 hhas⟩
  | true =>
    simp [lk_cons, k1, k2, storeL, fillL, z1]
    refine acked_c hh hHW ml me L e _ _ ?_
    cases hack : ackB ml me h ⟨L, e⟩ with
    | true =>
      simp [lk_cons, k1, k2, storeL, fillL, z1]
      exact ⟨fun a ha => by simp [show ¬ a = σ.next by omega, show ¬ a = σ.next + 1 by omega, show ¬ a = σ.next + 1 + 1 by omega], h1 hhas hack⟩
    | false =>
      simp [lk_cons, k1, k2, storeL, fillL, z1]
      refine put14_c hh (by omega) (fun x hx => ⟨(hHW.2 x hx).1, by have := (hHW.2 x hx).2; omega⟩) ml me L e ⟨he.1, hhe hhas⟩ _ _ fun pv hpv => ?_
      simp [lk_cons, k1, k2, storeL, fillL, z1]
      refine tight_c hlv htl hs ht hpv ((hw.put ⟨he.1, hhe hhas⟩).hw (by omega)) ml me hme _ _ fun pl pe tv hmv htv => ?_
      have y1 := htv.one.1
      have y2 := htv.one.2
      have y3 := htv.upto σ.next
      simp [lk_cons, k1, k2, storeL, fillL, z1, y1, y2, y3]
      exact ⟨fun a ha => by simp [show ¬ a = σ.next by omega, show ¬ a = σ.next + 1 by omega, show ¬ a = σ.next + 1 + 1 by omega], h2 hhas hack _ _ _ hmv htv⟩

end Go.Proofs.Ytinfnpbglapjhaa.AM

/- Ack and AckAll of the document; AckAll. -/
namespace Go.Proofs.Ytinfnpbglapjhaa.AM
set_option maxRecDepth 100000
set_option linter.unusedVariables false
set_option linter.unusedSimpArgs false

theorem wp_cutK {P : Program} {a : ACode} {Q : Post} {r : Regs} {σ : St} (M : Regs → St → Prop) (h : a.wp P (fun e r σ => e = .normal ∧ M r σ) r σ) (hq : ∀ r σ, M r σ → Q .normal r σ) : ACode.wp P a Q r σ := by
  refine wp_mono' h ?_
  rintro e r σ ⟨rfl, hm⟩
  exact hq r σ hm
theorem HWn.hold {n : Nat} {h : List Hd} (hw : HWn n h) (L : Int) {r : List S25} (hr : GoodR r ∧ r.length ≤ n + 1) : ∀ d, HWn (n + 1) (holdM L r d h) := by
  intro d
  refine ⟨by have := hold_len' L r d h; have := hw.1; omega, ?_⟩
  have : ∀ (d : Bool) (h : List Hd), (∀ x ∈ h, GoodR x.f1 ∧ x.f1.length ≤ n) → ∀ x ∈ holdM L r d h, GoodR x.f1 ∧ x.f1.length ≤ n + 1 := by
    intro d h
    induction h generalizing d with
    | nil =>
      intro _ x hx
      simp only [holdM] at hx
      split at hx
      · cases hx
      · rw [List.mem_singleton.1 hx]; exact hr
    | cons y t ih =>
      intro hy x hx
      have hy0 := hy y List.mem_cons_self
      have hyt : ∀ x ∈ t, GoodR x.f1 ∧ x.f1.length ≤ n := fun x hx => hy x (List.mem_cons_of_mem _ hx)
      have one : x ∈ (if y.f0 = L then [] else [y]) → GoodR x.f1 ∧ x.f1.length ≤ n + 1 := fun hx => by
        split at hx
        · cases hx
        · rw [List.mem_singleton.1 hx]; exact ⟨hy0.1, by omega⟩
      simp only [holdM] at hx
      split at hx
      · rcases List.mem_cons.1 hx with rfl | hx
        · exact hr
        · rcases List.mem_append.1 hx with hx | hx
          · exact one hx
          · exact ih _ hyt x hx
      · rcases List.mem_append.1 hx with hx | hx
        · exact one hx
        · exact ih _ hyt x hx
  exact this d h hw.2
theorem HWn.of {n : Nat} {h : List Hd} (hw : HWn n h) (L : Int) : GoodR (ofM L h) ∧ (ofM L h).length ≤ n := by
  rcases of_cases L h with e | ⟨x, hx, _, e⟩
  · rw [e]; exact ⟨good_nil, by simp⟩
  · rw [e]; exact hw.2 x hx
/-- With a place of a ledger more. -/
def moreR (l : List S25) (e : Int) : List S25 := rset (l ++ [⟨e, e + 1⟩]) []
theorem more_eq {l : List S25} {e : Int} (hl : GoodR l) (he : 0 ≤ e ∧ e < 18446744073709551615) : moreR l e = addM e (e + 1) l := by
  unfold moreR
  rw [addL_one, ← add_set hl he.1 (by omega) (by omega)]
set_option maxHeartbeats 1000000 in
theorem rack14_c {lv hv : AVal} {t : List Ld} {h : List Hd} (hlv : LdI lv t) (htl : t.length ≤ 13) {o : Int} (hs : ∀ x ∈ t, 0 ≤ szM x o ∧ szM x o ≤ 100) (ht : RisingP t) (hh : HI hv h) {n : Nat} (hn : n < 400) (hw : HWn n h) (ml me L e : Int) (hme : 0 ≤ me) (he : 0 ≤ e ∧ e ≤ 18446744073709551615) (hhe : hasM o L e t = true → e < 18446744073709551615) (σ : St) (Q : AVal → St → Prop)
    (h0 : hasM o L e t = false → Q (.tup [cv 0 0 .nilsl, i64 30]) σ) (h1 : hasM o L e t = true → ackB ml me h ⟨L, e⟩ = true → Q (.tup [cv 0 0 .nilsl, i64 31]) σ)
    (h2 : hasM o L e t = true → ackB ml me h ⟨L, e⟩ = false → ∀ pl pe hv' H, H = holdM L (moreR (ofM L h) e) false h → Mv o t H ml me pl pe → HI hv' (rtH pl pe H H) → Q (.tup [cv pl pe hv', i64 0]) σ) : ACall Try.prog 14 [lv, u64 o, cv ml me hv, ps L e] σ Q := by
  refine ACall.scrub ?_
  refine ACall.of_compF hmx (fun a w => Try.call14 a w) Try.func14 cf14 (n := 4) (by decide) rfl ?_
  have k1 := hh.one.1
  have k2 := hh.one.2
  have hHW := hw.hw (by omega)
  have hl := hHW.1
  have z1 : ¬ σ.next = σ.next + 1 + 1 := by omega
  simp only [ac14, rs14]
  simp [lk_cons, k1, k2, z1]
  refine rhas13_c hlv (by omega) hs he.1 _ _ ?_
  cases hhas : hasM o L e t with
  | false =>
    simp [lk_cons, k1, k2, storeL, fillL, z1]
    exact ⟨fun a ha => by simp [show ¬ a = σ.next by omega, show ¬ a = σ.next + 1 by omega, show ¬ a = σ.next + 1 + 1 by omega], h0 hhas⟩
  | true =>
    simp [lk_cons, k1, k2, storeL, fillL, z1]
    refine racked_c hh hHW ml me L e _ _ ?_
    cases hack : ackB ml me h ⟨L, e⟩ with
    | true =>
      simp [lk_cons, k1, k2, storeL, fillL, z1]
      exact ⟨fun a ha => by simp [show ¬ a = σ.next by omega, show ¬ a = σ.next + 1 by omega, show ¬ a = σ.next + 1 + 1 by omega], h1 hhas hack⟩
    | false =>
      have he' : 0 ≤ e ∧ e < 18446744073709551615 := ⟨he.1, hhe hhas⟩
      have we : IntKind.u64.wrap (e + 1) = e + 1 := by rw [IntWalk.u64_in]; omega
      have z2 : ¬ σ.next = σ.next + 1 + 1 + 1 := by omega
      have z3 : ¬ σ.next + 1 = σ.next + 1 + 1 + 1 := by omega
      have z4 : ¬ σ.next = σ.next + 1 + 1 + 1 + 1 := by omega
      have z5 : ¬ σ.next + 1 = σ.next + 1 + 1 + 1 + 1 := by omega
      have z6 : ¬ σ.next + 1 + 1 = σ.next + 1 + 1 + 1 + 1 := by omega
      have z7 : ¬ σ.next + 1 + 1 + 1 = σ.next + 1 + 1 + 1 + 1 := by omega
      have z8 : ¬ σ.next + 1 + 1 + 1 + 1 = σ.next + 1 + 1 + 1 := by omega
      have x1 : ¬ σ.next = σ.next + 1 + 1 + 1 + 1 + 1 := by omega
      have x2 : ¬ σ.next = σ.next + 1 + 1 + 1 + 1 + 1 + 1 := by omega
      have x3 : ¬ σ.next + 1 = σ.next + 1 + 1 + 1 + 1 + 1 := by omega
      have x4 : ¬ σ.next + 1 = σ.next + 1 + 1 + 1 + 1 + 1 + 1 := by omega
      have x5 : ¬ σ.next + 1 + 1 = σ.next + 1 + 1 + 1 + 1 + 1 := by omega
      have x6 : ¬ σ.next + 1 + 1 = σ.next + 1 + 1 + 1 + 1 + 1 + 1 := by omega
      have lo : ∀ a, a < σ.next → ¬ a = σ.next ∧ ¬ a = σ.next + 1 ∧ ¬ a = σ.next + 1 + 1 ∧ ¬ a = σ.next + 1 + 1 + 1 ∧ ¬ a = σ.next + 1 + 1 + 1 + 1 ∧ ¬ a = σ.next + 1 + 1 + 1 + 1 + 1 ∧ ¬ a = σ.next + 1 + 1 + 1 + 1 + 1 + 1 := fun a ha => by omega
      simp [-wp_dreg, lk_cons, k1, k2, storeL, fillL, repL, z1, z2, z3, z4, z5, z6, z7, we]
      refine wp_cutK (fun rg s => ∃ v, RgM s v (ofM L h ++ [⟨e, e + 1⟩]) ∧ (∀ a, a < σ.next → s.mem.get a = σ.mem.get a) ∧ σ.next + 3 ≤ s.next ∧ s.mem.get σ.next = some (.cells 3 [u64 ml, u64 me, hv]) ∧ s.mem.get (σ.next + 1) = some (.cells 2 [u64 L, u64 e]) ∧ s.mem.get (σ.next + 1 + 1) = some (.cells 3 [u64 0, u64 0, .nilsl]) ∧ rg = [(0, lv), (1, u64 o), (6, .ptr σ.next 0), (7, .ptr (σ.next + 1) 0), (8, .ptr (σ.next + 1 + 1) 0), (10, v)]) ?_ ?_
      · simp [lk_cons, k1, k2, storeL, fillL, repL, z1, z2, z3, z4, z5, z6, z7, we]
        refine of_c hh (by omega) ml me L _ _ fun rv hrv => ?_
        obtain ⟨hg, hgl⟩ := hw.of L
        obtain ⟨R, hR⟩ : ∃ R, ofM L h = R := ⟨_, rfl⟩
        rw [hR] at hrv hg hgl ⊢
        have hsrc : ∀ ρ : St, srcL ρ 2 rv = some (rc R, R.length) := fun ρ => (hrv.m ρ).src fun _ _ => rfl
        by_cases h0 : R = []
        · subst h0
          simp [lk_cons, k1, k2, storeL, fillL, repL, z1, z2, z3, z4, z5, z6, z7, z8, we, ↓hsrc, rc, srcL, x1, x2, x3, x4, x5, x6]
          refine ⟨.inr ⟨σ.next + 1 + 1 + 1 + 1 + 1, 0, 1, false, [u64 e, u64 (e + 1)], rfl, by simp, by simp, by simp, by simp, by simp [rc]⟩, fun a ha => ?_⟩
          obtain ⟨q0, q1, q2, q3, q4, q5, q6⟩ := lo a ha
          simp [q0, q1, q2, q3, q4, q5, q6]
        · have hpos : 0 < R.length := List.length_pos_iff.2 h0
          have p1 : ¬ R.length ≤ 0 := by omega
          have p2 : R.length * 16 ≤ 140737488355328 ∧ R.length ≤ 9223372036854775807 := by omega
          have p3 : ¬ R.length + 1 ≤ R.length := by omega
          have p4 : (R.length + 1) * 16 ≤ 140737488355328 ∧ R.length ≤ 9223372036854775806 := by omega
          have p5 : R.length * 2 ≤ (rc R).length := by rw [rc_len]; omega
          have p6 : (rc R).take (R.length * 2) = rc R := List.take_of_length_le (by rw [rc_len]; omega)
          simp [lk_cons, k1, k2, storeL, fillL, repL, z1, z2, z3, z4, z5, z6, z7, z8, we, ↓hsrc, rc, srcL, h0, p1, p2, p3, p4, p5, p6, x1, x2, x3, x4, x5, x6]
          refine ⟨.inr ⟨σ.next + 1 + 1 + 1 + 1 + 1 + 1, 0, R.length + 1, false, rc R ++ [u64 e, u64 (e + 1)], by simp, by simp, by simp, by simp, by simp [rc_len]; omega, ?_⟩, fun a ha => ?_⟩
          · rw [List.drop_zero, List.take_of_length_le (by simp [rc_len]; omega)]; simp [rc_app, rc]
          · obtain ⟨q0, q1, q2, q3, q4, q5, q6⟩ := lo a ha
            simp [q0, q1, q2, q3, q4, q5, q6]
      · rintro rg s ⟨v, hv2, gold, hn2, m1, m2, m3, rfl⟩
        have b1 : ∀ z ∈ ofM L h ++ [⟨e, e + 1⟩], 0 ≤ z.f0 ∧ 0 ≤ z.f1 ∧ z.f1 ≤ 18446744073709551615 := fun z hz => by
          rcases List.mem_append.1 hz with hz | hz
          · have := good_mem (hw.of L).1 z hz; omega
          · rw [List.mem_singleton.1 hz]; exact ⟨he.1, by show 0 ≤ e + 1; omega, by show e + 1 ≤ _; omega⟩
        have hlen := (hw.of L).2
        simp [lk_cons, m1, m2, m3, k1, k2]
        refine set_c (y := []) hv2 (.inl (.inl ⟨rfl, rfl⟩)) (by simp; omega) b1 (fun z hz => absurd hz List.not_mem_nil) _ fun sv hsv => ?_
        have hmore : rset (ofM L h ++ [⟨e, e + 1⟩]) [] = moreR (ofM L h) e := rfl
        have hme2 := more_eq (hw.of L).1 he'
        obtain ⟨g1, g2, g3⟩ := addL_spec (lo := e) (hi := e + 1) (hw.of L).1 he.1 (by omega)
        rw [← addL_one, ← hme2] at g1 g2 g3
        rw [hmore] at hsv
        have hne : moreR (ofM L h) e ≠ [] := fun h0 => by
          have := (g2 e).2 (.inr ⟨Int.le_refl _, by omega⟩)
          rw [h0] at this; exact in_nil _ this
        simp [lk_cons, m1, m2, m3, k1, k2]
        refine hold_c hh (by omega) hsv (by omega) ml me L _ _ fun hv' hhv' => ?_
        rw [decide_eq_false hne] at hhv'
        simp [lk_cons, m1, m2, m3, k1, k2]
        refine rtight_c hlv htl hs ht hhv' ((hw.hold L ⟨g1, by omega⟩ false).hw (by omega)) ml me hme _ _ fun pl pe tv hmv hpe htv => ?_
        have y1 := htv.one.1
        have y2 := htv.one.2
        have y3 := htv.upto σ.next
        simp [lk_cons, m1, m2, m3, k1, k2, storeL, fillL, z1, y1, y2, y3]
        exact ⟨fun a ha => by simp [show ¬ a = σ.next + 1 + 1 by omega]; exact gold a ha, h2 hhas hack _ _ _ _ rfl hmv htv⟩
theorem ackall_c {lv hv : AVal} {t : List Ld} {h : List Hd} (hlv : LdI lv t) (htl : t.length ≤ 13) {o : Int} (hs : ∀ x ∈ t, 0 ≤ szM x o ∧ szM x o ≤ 100) (ht : RisingP t) (hh : HI hv h) {n : Nat} (hn : n < 900) (hw : HWn n h) (ml me L e : Int) (he : 0 ≤ e ∧ e ≤ 18446744073709551615) (hhe : hasM o L e t = true → e < 18446744073709551615) (σ : St) (Q : AVal → St → Prop)
    (h0 : hasM o L e t = false → Q (.tup [cv 0 0 .nilsl, i64 30]) σ) (h1 : hasM o L e t = true → ordM L e ml me < 0 → Q (.tup [cv 0 0 .nilsl, i64 31]) σ)
    (h2 : hasM o L e t = true → ¬ ordM L e ml me < 0 → ∀ pl pe hv', Mv o t h L (e + 1) pl pe → HI hv' (keepH pl pe h) → Q (.tup [cv pl pe hv', i64 0]) σ) : ACall Try.prog 16 [lv, u64 o, cv ml me hv, ps L e] σ Q := by
  refine ACall.scrub ?_
  refine ACall.of_compF hmx (fun a w => Try.call16 a w) Try.func16 cf16 (n := 4) (by decide) rfl ?_
  have k1 := hh.one.1
  have k2 := hh.one.2
  have hHW := hw.hw (by omega)
  have z1 : ¬ σ.next = σ.next + 1 + 1 := by omega
  have z2 : ¬ σ.next + 1 + 1 = σ.next := by omega
  simp only [ac16, rs16]
  simp [lk_cons, k1, k2, z1]
  refine has13_c hlv (by omega) o L e _ _ ?_
  cases hhas : hasM o L e t with
  | false =>
    simp [lk_cons, k1, k2, storeL, fillL, z1]
    exact ⟨fun a ha => by simp [show ¬ a = σ.next by omega, show ¬ a = σ.next + 1 by omega, show ¬ a = σ.next + 1 + 1 by omega], h0 hhas⟩
  | true =>
    simp [lk_cons, k1, k2, storeL, fillL, z1]
    refine order_c L e ml me _ _ ?_
    by_cases hc : ordM L e ml me < 0
    · simp [lk_cons, k1, k2, storeL, fillL, z1, hc]
      exact ⟨fun a ha => by simp [show ¬ a = σ.next by omega, show ¬ a = σ.next + 1 by omega, show ¬ a = σ.next + 1 + 1 by omega], h1 hhas hc⟩
    · simp [lk_cons, k1, k2, storeL, fillL, z1, hc]
      refine behindp_c L e ⟨he.1, hhe hhas⟩ _ _ ?_
      simp [lk_cons, k1, k2, storeL, fillL, z1, hc]
      refine tight_c hlv htl hs ht hh hHW L (e + 1) (by omega) _ _ fun pl pe tv hmv htv => ?_
      have y1 := htv.one.1
      have y2 := htv.one.2
      have y3 := htv.upto σ.next
      simp [lk_cons, k1, k2, storeL, fillL, z1, z2, y1, y2, y3]
      exact ⟨fun a ha => by simp [show ¬ a = σ.next by omega, show ¬ a = σ.next + 1 by omega, show ¬ a = σ.next + 1 + 1 by omega], h2 hhas hc _ _ _ hmv htv⟩
theorem rackall_c {lv hv : AVal} {t : List Ld} {h : List Hd} (hlv : LdI lv t) (htl : t.length ≤ 13) {o : Int} (hs : ∀ x ∈ t, 0 ≤ szM x o ∧ szM x o ≤ 100) (ht : RisingP t) (hh : HI hv h) {n : Nat} (hn : n < 900) (hw : HWn n h) (ml me L e : Int) (he : 0 ≤ e ∧ e ≤ 18446744073709551615) (hhe : hasM o L e t = true → e < 18446744073709551615) (σ : St) (Q : AVal → St → Prop)
    (h0 : hasM o L e t = false → Q (.tup [cv 0 0 .nilsl, i64 30]) σ) (h1 : hasM o L e t = true → ordM L e ml me < 0 → Q (.tup [cv 0 0 .nilsl, i64 31]) σ)
    (h2 : hasM o L e t = true → ¬ ordM L e ml me < 0 → ∀ pl pe hv', Mv o t h L (e + 1) pl pe → HI hv' (rtH pl pe h h) → Q (.tup [cv pl pe hv', i64 0]) σ) : ACall Try.prog 17 [lv, u64 o, cv ml me hv, ps L e] σ Q := by
  refine ACall.scrub ?_
  refine ACall.of_compF hmx (fun a w => Try.call17 a w) Try.func17 cf17 (n := 4) (by decide) rfl ?_
  have k1 := hh.one.1
  have k2 := hh.one.2
  have hHW := hw.hw (by omega)
  have z1 : ¬ σ.next = σ.next + 1 + 1 := by omega
  have z2 : ¬ σ.next + 1 + 1 = σ.next := by omega
  simp only [ac17, rs17]
  simp [lk_cons, k1, k2, z1]
  refine rhas13_c hlv (by omega) hs he.1 _ _ ?_
  cases hhas : hasM o L e t with
  | false =>
    simp [lk_cons, k1, k2, storeL, fillL, z1]
    exact ⟨fun a ha => by simp [show ¬ a = σ.next by omega, show ¬ a = σ.next + 1 by omega, show ¬ a = σ.next + 1 + 1 by omega], h0 hhas⟩
  | true =>
    simp [lk_cons, k1, k2, storeL, fillL, z1]
    refine rorder_c L e ml me _ _ ?_
    by_cases hc : ordM L e ml me < 0
    · simp [lk_cons, k1, k2, storeL, fillL, z1, hc]
      exact ⟨fun a ha => by simp [show ¬ a = σ.next by omega, show ¬ a = σ.next + 1 by omega, show ¬ a = σ.next + 1 + 1 by omega], h1 hhas hc⟩
    · simp [lk_cons, k1, k2, storeL, fillL, z1, hc]
      refine rbehindp_c L e ⟨he.1, hhe hhas⟩ _ _ ?_
      simp [lk_cons, k1, k2, storeL, fillL, z1, hc]
      refine rtight_c hlv htl hs ht hh hHW L (e + 1) (by omega) _ _ fun pl pe tv hmv _ htv => ?_
      have y1 := htv.one.1
      have y2 := htv.one.2
      have y3 := htv.upto σ.next
      simp [lk_cons, k1, k2, storeL, fillL, z1, z2, y1, y2, y3]
      exact ⟨fun a ha => by simp [show ¬ a = σ.next by omega, show ¬ a = σ.next + 1 by omega, show ¬ a = σ.next + 1 + 1 by omega], h2 hhas hc _ _ _ hmv htv⟩

end Go.Proofs.Ytinfnpbglapjhaa.AM

/- Same; Made, Place. -/
namespace Go.Proofs.Ytinfnpbglapjhaa.AM
set_option maxRecDepth 100000
set_option linter.unusedVariables false
set_option linter.unusedSimpArgs false

def CsJ (v w : AVal) (h : List Hd) (ml me : Int) (σ0 : St) (mm : Nat) (rg : Regs) (σ' : St) : Prop := ∃ i : Nat, mm = h.length - i ∧ i ≤ h.length ∧ σ' = ⟨(σ0.mem.set σ0.next (.cells 3 [u64 ml, u64 me, v])).set (σ0.next + 1) (.cells 3 [u64 ml, u64 me, w]), σ0.next + 1 + 1⟩ ∧ rg = [(2, .ptr σ0.next 0), (3, .ptr (σ0.next + 1) 0), (5, i64 i)]
/-- Two that are one are the same. -/
theorem csame_c {v w : AVal} {h : List Hd} (hv : HI v h) (hw : HI w h) (hH : HW h) (ml me : Int) (σ : St) (Q : AVal → St → Prop) (hq : Q (.bool true) σ) : ACall Try.prog 15 [cv ml me v, cv ml me w] σ Q := by
  refine ACall.scrub ?_
  refine ACall.of_compF hmx (fun a w => Try.call15 a w) Try.func15 cf15 (n := 2) (by decide) rfl ?_
  have l1 := hv.len
  have l2 := hw.len
  have v1 := hv.one.1
  have v2 := hv.one.2
  have w1 := hw.one.1
  have w2 := hw.one.2
  have hl := hH.1
  have eqt : ∀ ρ : St, evalV ρ (.eqs true [1, 1] (.agg [u64 ml, u64 me]) (.agg [u64 ml, u64 me])) = some (.bool false, ρ) := fun ρ => by
    simp [evalV, shapeOk, keysEq, kShape, keyEq]
  simp only [ac15, rs15]
  simp [lk_cons, v1, v2, w1, w2, ↓eqt, ↓l1, ↓l2]
  refine wp_loop (CsJ v w h ml me σ) h.length ?_ ?_
  · exact ⟨0, rfl, Nat.zero_le _, rfl, by simp [lk_cons]⟩
  · rintro mm rg σ' ⟨i, rfl, hi, rfl, rfl⟩
    by_cases hlt : i < h.length
    · obtain ⟨x, hx⟩ : ∃ x, h[i]? = some x := ⟨_, List.getElem?_eq_getElem hlt⟩
      obtain ⟨k, hk⟩ : ∃ k, i + 1 = k := ⟨_, rfl⟩
      have w5 : IntKind.i64.wrap ((i : Int) + 1) = (k : Int) := by rw [IntWalk.i64_in] <;> omega
      obtain ⟨p, r, hr, p1, _, ⟨q0, a1, a2⟩, ⟨q1, b1, b2⟩⟩ := hv.at hx ⟨(σ.mem.set σ.next (.cells 3 [u64 ml, u64 me, v])).set (σ.next + 1) (.cells 3 [u64 ml, u64 me, w]), σ.next + 1 + 1⟩
      obtain ⟨p', r', hr', p1', _, ⟨q0', a1', a2'⟩, ⟨q1', b1', b2'⟩⟩ := hw.at hx ⟨(σ.mem.set σ.next (.cells 3 [u64 ml, u64 me, v])).set (σ.next + 1) (.cells 3 [u64 ml, u64 me, w]), σ.next + 1 + 1⟩
      have hxr := hH.2 x (List.mem_of_getElem? hx)
      simp [lk_cons, ↓l1, hlt, ↓p1, ↓a1, ↓a2, ↓b1, ↓b2, ↓p1', ↓a1', ↓a2', ↓b1', ↓b2']
      refine rsame_c (hr.m _) (hr'.m _) (by omega) _ ?_
      simp [lk_cons, w5]
      exact ⟨h.length - k, by omega, k, rfl, by omega, rfl, by simp [lk_cons]⟩
    · have : i = h.length := by omega
      subst this
      simp [lk_cons, ↓l1]
      exact ⟨fun a ha => by simp [show ¬ a = σ.next by omega, show ¬ a = σ.next + 1 by omega], hq⟩
theorem place_c (a b : Int) (raw : Bool) (ha : 0 ≤ a ∧ a ≤ 18446744073709551615) (hb : 0 ≤ b ∧ b ≤ 18446744073709551615) (σ : St) (Q : AVal → St → Prop) (h : ∀ x y : Int, (0 ≤ x ∧ x ≤ 18446744073709551615) → (0 ≤ y ∧ y ≤ 18446744073709551615) → (raw = false → y < 8 ∧ x < 16) → Q (ps x y) σ) : ACall Try.prog 12 [ps a b, .bool raw] σ Q := by
  refine ACall.scrub ?_
  refine ACall.of_compF hmx (fun a w => Try.call12 a w) Try.func12 cf12 (n := 2) (by decide) rfl ?_
  cases raw with
  | true =>
    simp [ac12, rs12, lk_cons, storeL, fillL]
    exact ⟨fun a ha => by simp [show ¬ a = σ.next by omega, show ¬ a = σ.next + 1 by omega], h a b ha hb (by simp)⟩
  | false =>
    have w1 : Int.tmod a 16 = a % 16 := Int.tmod_eq_emod_of_nonneg ha.1
    have w2 : Int.tmod b 8 = b % 8 := Int.tmod_eq_emod_of_nonneg hb.1
    simp [ac12, rs12, lk_cons, storeL, fillL, w1, w2]
    exact ⟨fun a ha => by simp [show ¬ a = σ.next by omega, show ¬ a = σ.next + 1 by omega], h (a % 16) (b % 8) (by omega) (by omega) (by omega)⟩

def LOut (lo : Nat) (σ' : St) (v : AVal) (l : List Ld) : Prop := v = .nilsl ∧ l = [] ∨ ∃ o, v = .sl o 0 l.length l.length false ∧ 0 < l.length ∧ lo ≤ o ∧ o < σ'.next ∧ σ'.mem.get o = some (.cells 3 (ldc l))
theorem ldc_app : ∀ (l m : List Ld), ldc (l ++ m) = ldc l ++ ldc m
  | [], m => rfl
  | x :: t, m => by simp [ldc, ldc_app t m]
theorem LOut.len {lo : Nat} {σ' : St} {v : AVal} {l : List Ld} (h : LOut lo σ' v l) (ρ : St) : evalV ρ (.len 1 v) = some (i64 l.length, ρ) := by
  rcases h with ⟨rfl, rfl⟩ | ⟨o, rfl, _⟩ <;> simp
theorem LOut.frz {lo lo' : Nat} {σ' : St} {v : AVal} {l : List Ld} (h : LOut lo σ' v l) (hl : lo' ≤ lo) : ∃ v', frz lo' σ'.mem v = some v' ∧ LdI v' l := by
  rcases h with ⟨rfl, rfl⟩ | ⟨o, rfl, h0, h1, h2, h3⟩
  · exact ⟨.nilsl, rfl, .inl ⟨rfl, rfl⟩⟩
  · have h := frz_sl (o := 0) (len := l.length) (cap := l.length) (t := false) (Nat.le_trans hl h1) h3 (by rw [ldc_len]; omega) (ldc_upto _ l)
    rw [List.drop_zero, List.take_of_length_le (by rw [ldc_len]; omega)] at h
    exact ⟨_, h, .inr ⟨_, rfl⟩⟩
theorem lout_app {lo : Nat} {ρ0 ρ : St} {ov : AVal} {acc : List Ld} (ho : LOut lo ρ0 ov acc) (hm : ∀ a, lo ≤ a → a < ρ0.next → ρ.mem.get a = ρ0.mem.get a) (hn : ρ0.next ≤ ρ.next) (hacc : acc.length ≤ 100000) {b : Nat} (x : Ld) (hb : ρ.mem.get b = some (.cells 3 [u64 x.f0, .bool x.f1, u64 x.f2])) (hlo : lo ≤ ρ0.next) :
    ∃ w ρ', evalV ρ (.append 3 24 ov (.sl b 0 1 1 true)) = some (w, ρ') ∧ LOut lo ρ' w (acc ++ [x]) ∧ ρ'.next = ρ.next + 1 ∧ ∀ a, a < lo → ρ'.mem.get a = ρ.mem.get a := by
  rcases ho with ⟨rfl, rfl⟩ | ⟨o, rfl, h2, h3, h4, h5⟩
  · refine ⟨.sl ρ.next 0 1 1 false, ⟨ρ.mem.set ρ.next (.cells 3 [u64 x.f0, .bool x.f1, u64 x.f2]), ρ.next + 1⟩, by simp [srcL, hb], .inr ⟨ρ.next, rfl, by simp, by omega, Nat.lt_succ_self _, by simp [ldc]⟩, rfl, fun a ha => ?_⟩
    simp [show ¬ a = ρ.next by omega]
  · have k1 : ¬ acc.length + 1 ≤ acc.length := by omega
    have k2 : acc.length * 3 ≤ (ldc acc).length := by rw [ldc_len]; omega
    have k3 : (acc.length + 1) * 24 ≤ 140737488355328 ∧ acc.length ≤ 9223372036854775806 := by omega
    have k4 : (ldc acc).take (acc.length * 3) = ldc acc := List.take_of_length_le (by rw [ldc_len]; omega)
    have h6 := (hm o h3 h4).trans h5
    refine ⟨.sl ρ.next 0 (acc.length + 1) (acc.length + 1) false, ⟨(ρ.mem.del o).set ρ.next (.cells 3 (ldc acc ++ [u64 x.f0, .bool x.f1, u64 x.f2])), ρ.next + 1⟩, by simp [srcL, hb, h6, k1, k2, k3, k4], .inr ⟨ρ.next, by simp, by simp, by omega, Nat.lt_succ_self _, by simp [ldc_app, ldc]⟩, rfl, fun a ha => ?_⟩
    simp [show ¬ a = ρ.next by omega, show ¬ a = o by omega]
theorem BytesOf.at {d : AVal} {l : List UInt8} (h : BytesOf d l) {i : Nat} {x : UInt8} (hx : l[i]? = some x) (ρ : St) : ∃ p, evalV ρ (.idxAddr 1 d (i64 i)) = some (p, ρ) ∧ evalV ρ (.ld1 p) = some (.int .u8 (x.toNat : Int), ρ) := by
  have hi := (List.getElem?_eq_some_iff.1 hx).1
  rcases h with ⟨rfl, rfl⟩ | ⟨t, rfl⟩
  · simp at hx
  · have e : ((bytesV l).drop i).take 1 = [.int .u8 (x.toNat : Int)] := by
      have hl : i < (bytesV l).length := by rw [bytesV_len]; exact hi
      rw [List.drop_eq_getElem_cons hl]
      have : (bytesV l)[i] = .int .u8 (x.toNat : Int) := by
        have := (List.getElem?_eq_some_iff.1 hx).2
        simp [bytesV, this]
      simp [this]
    exact ⟨.iptr [.int .u8 (x.toNat : Int)], by simp [hi, e], by simp⟩
/-- Few ledgers, that rise. -/
def Mk (t : List Ld) : Prop := t.length ≤ 13 ∧ RisingP t ∧ ∀ x ∈ t, (0 ≤ x.f0 ∧ x.f0 ≤ 52) ∧ 0 ≤ x.f2 ∧ x.f2 ≤ 5
def MdJ (d : AVal) (op : Bool) (l : List UInt8) (σ0 : St) (mm : Nat) (rg : Regs) (σ' : St) : Prop := ∃ (i : Nat) (ov : AVal) (acc : List Ld) (id : Int), mm = l.length - i ∧ i ≤ l.length ∧ i ≤ 13 ∧ acc.length = i ∧ Mk acc ∧ (∀ x ∈ acc, x.f0 ≤ id) ∧ 0 ≤ id ∧ id ≤ 4 * (i : Int) ∧ Grow σ0 σ' ∧ LOut σ0.next σ' ov acc ∧ rg = [(1, .bool op), (5, ov), (6, u64 id), (10, d), (11, i64 l.length), (12, i64 i)]
theorem made_c {d : AVal} {l : List UInt8} (hb : BytesOf d l) (hl : l.length ≤ 9223372036854775806) (op : Bool) (σ : St) (Q : AVal → St → Prop) (hq : ∀ v t, LdI v t → Mk t → Q v σ) : ACall Try.prog 10 [d, .bool op] σ Q := by
  refine ACall.freeze ?_
  refine ACall.of_compF hmx (fun a w => Try.call10 a w) Try.func10 cf10 (n := 2) (by decide) rfl ?_
  have l1 := hb.len
  simp only [ac10, rs10]
  refine wp_cut (fun rg s => rg = [(0, d), (1, .bool op)] ∧ s = σ) (by simp [lk_cons]) ?_
  rintro _ s ⟨rfl, hs⟩
  rw [hs]
  clear hs s
  refine wp_cut (fun rg s => rg = [(0, d), (1, .bool op), (5, .nilsl)] ∧ s = σ) (by simp [lk_cons]) ?_
  rintro _ s ⟨rfl, hs⟩
  rw [hs]
  clear hs s
  refine wp_cut (fun rg s => rg = [(0, d), (1, .bool op), (5, .nilsl), (6, u64 0)] ∧ s = σ) (by simp [lk_cons]) ?_
  rintro _ s ⟨rfl, hs⟩
  rw [hs]
  clear hs s
  refine wp_cut (fun rg s => ∃ ov acc, Mk acc ∧ Grow σ s ∧ LOut σ.next s ov acc ∧ rg.lookup 1 = some (.bool op) ∧ rg.lookup 5 = some ov) ?_ ?_
  · simp [lk_cons, ↓l1]
    refine wp_loop (MdJ d op l σ) l.length ?_ ?_
    · exact ⟨0, .nilsl, [], 0, rfl, Nat.zero_le _, by omega, rfl, ⟨by simp, by simp [RisingP], by simp⟩, by simp, by omega, by omega, Grow.refl _, .inl ⟨rfl, rfl⟩, rfl⟩
    · rintro mm rg σ' ⟨i, ov, acc, id, rfl, hi, hi13, hal, hmk, hid, hid0, hid4, hg, ho, rfl⟩
      by_cases hlt : i < l.length
      · by_cases h12 : i = 13
        · obtain ⟨x, hx⟩ : ∃ x, l[i]? = some x := ⟨_, List.getElem?_eq_getElem hlt⟩
          obtain ⟨p, p1, p2⟩ := hb.at hx σ'
          have c12 : (12 : Int) < (i : Int) := by omega
          simp [lk_cons, hlt, ↓p1, ↓p2, c12]
          exact ⟨ov, acc, hmk, hg, ho, rfl⟩
        · obtain ⟨x, hx⟩ : ∃ x, l[i]? = some x := ⟨_, List.getElem?_eq_getElem hlt⟩
          obtain ⟨k, hk⟩ : ∃ k, i + 1 = k := ⟨_, rfl⟩
          have w1 : IntKind.i64.wrap ((i : Int) + 1) = (k : Int) := by rw [IntWalk.i64_in] <;> omega
          have c12 : ¬ (12 : Int) < (i : Int) := by omega
          obtain ⟨p, p1, p2⟩ := hb.at hx σ'
          have xb : x.toNat < 256 := x.toNat_lt
          simp [lk_cons, hlt, ↓p1, ↓p2, c12]
          have q1 : IntKind.u8.wrap ((x.toNat : Int) / 64) = (x.toNat : Int) / 64 := by rw [IntWalk.u8_in]; omega
          have q2 : IntKind.u64.wrap ((x.toNat : Int) / 64) = (x.toNat : Int) / 64 := by rw [IntWalk.u64_in]; omega
          have q3 : IntKind.u64.wrap (1 + (x.toNat : Int) / 64) = 1 + (x.toNat : Int) / 64 := by rw [IntWalk.u64_in]; omega
          have q4 : IntKind.u64.wrap (id + (1 + (x.toNat : Int) / 64)) = id + (1 + (x.toNat : Int) / 64) := by rw [IntWalk.u64_in]; omega
          have q5 : Int.tmod (x.toNat : Int) 6 = (x.toNat : Int) % 6 := Int.tmod_eq_emod_of_nonneg (by omega)
          have q6 : IntKind.u64.wrap ((x.toNat : Int) % 6) = (x.toNat : Int) % 6 := by rw [IntWalk.u64_in]; omega
          obtain ⟨w, ρ', e1, e2, e3, e4⟩ := lout_app (b := σ'.next) (ρ0 := σ') (ρ := ⟨σ'.mem.set σ'.next (.cells 3 [u64 (id + (1 + (x.toNat : Int) / 64)), .bool true, u64 ((x.toNat : Int) % 6)]), σ'.next + 1⟩) ho (fun a ha hb => by simp [show ¬ a = σ'.next by omega]) (by simp) (by omega) ⟨id + (1 + (x.toNat : Int) / 64), true, (x.toNat : Int) % 6⟩ (by simp) hg.1
          simp [lk_cons, hlt, ↓p1, ↓p2, c12, q1, q2, q3, q4, q5, q6, fillL, storeL, repL, ↓e1, w1]
          refine ⟨l.length - k, by omega, k, w, acc ++ [⟨id + (1 + (x.toNat : Int) / 64), true, (x.toNat : Int) % 6⟩], id + (1 + (x.toNat : Int) / 64), rfl, by omega, by omega, by simp; omega, ⟨by simp; omega, ?_, fun y hy => ?_⟩, fun y hy => ?_, ?_, ?_, ⟨by rw [e3]; have := hg.1; simp; omega, fun a ha => ?_⟩, e2, rfl⟩
          · unfold RisingP
            rw [List.pairwise_append]
            refine ⟨hmk.2.1, by simp, fun a ha b hb => ?_⟩
            rw [List.mem_singleton.1 hb]
            have := hid a ha
            show a.f0 < id + (1 + (x.toNat : Int) / 64)
            omega
          · rcases List.mem_append.1 hy with hy | hy
            · exact hmk.2.2 y hy
            · rw [List.mem_singleton.1 hy]
              show (0 ≤ id + (1 + (x.toNat : Int) / 64) ∧ id + (1 + (x.toNat : Int) / 64) ≤ 52) ∧ 0 ≤ (x.toNat : Int) % 6 ∧ (x.toNat : Int) % 6 ≤ 5
              omega
          · rcases List.mem_append.1 hy with hy | hy
            · have := hid y hy; omega
            · rw [List.mem_singleton.1 hy]; exact Int.le_refl _
          · omega
          · omega
          · rw [e4 a ha]
            have := hg.1
            simp [show ¬ a = σ'.next by omega]
            exact hg.2 a ha
      · have : i = l.length := by omega
        subst this
        simp [lk_cons]
        exact ⟨ov, acc, hmk, hg, ho, rfl⟩
  · rintro rg s ⟨ov, acc, hmk, hg, ho, r1, r5⟩
    have l2 := ho.len
    cases op with
    | false =>
      obtain ⟨v', f1, f2⟩ := ho.frz (Nat.le_refl _)
      simp [lk_cons, r1, r5, ↓l2, f1]
      exact ⟨hg.2, hq v' acc f2 hmk⟩
    | true =>
      rcases List.eq_nil_or_concat acc with rfl | ⟨m, x, rfl⟩
      · obtain ⟨v', f1, f2⟩ := ho.frz (Nat.le_refl _)
        simp [lk_cons, r1, r5, ↓l2, f1]
        exact ⟨hg.2, hq v' [] f2 hmk⟩
      · rw [List.concat_eq_append] at *
        obtain ⟨k1, k2, k3⟩ := hmk
        have hml : m.length ≤ 12 := by simp at k1; omega
        have l3 : ∀ ρ : St, evalV ρ (.len 1 ov) = some (i64 ((m.length : Int) + 1), ρ) := fun ρ => by rw [l2]; simp
        have c1 : (0 : Int) < (m.length : Int) + 1 := by omega
        have w1 : IntKind.i64.wrap (m.length : Int) = (m.length : Int) := by rw [IntWalk.i64_in] <;> omega
        rcases ho with ⟨_, h0⟩ | ⟨o, rfl, h0, h1, h2, h3⟩
        · simp at h0
        · have c2 : (m.length : Int) < (m.length : Int) + 1 := by omega
          have e1 : (ldc m ++ [u64 x.f0, .bool x.f1, u64 x.f2]).set (m.length * 3 + 1) (.bool false) = ldc m ++ [u64 x.f0, .bool false, u64 x.f2] := by
            rw [← ldc_len m, List.set_append_right _ _ (by omega)]; simp
          simp [lk_cons, r1, r5, c1, w1, h3, ldc_app, ldc, ldc_len, c2, storeL, e1]
          have e2 : ldc m ++ [u64 x.f0, .bool false, .int .u64 0] = ldc (m ++ [⟨x.f0, false, 0⟩]) := by rw [ldc_app]; rfl
          rw [e2]
          have ho2 : LOut σ.next ⟨(s.mem.set o (.cells 3 (ldc m ++ [u64 x.f0, .bool false, u64 x.f2]))).set o (.cells 3 (ldc (m ++ [⟨x.f0, false, 0⟩]))), s.next⟩ (.sl o 0 (m.length + 1) (m.length + 1) false) (m ++ [⟨x.f0, false, 0⟩]) := .inr ⟨o, by simp, by simp, h1, h2, by simp⟩
          obtain ⟨v', f1, f2⟩ := ho2.frz (Nat.le_refl _)
          refine ⟨fun a ha => ?_, v', f1, hq v' _ f2 ⟨by simp; omega, ?_, fun y hy => ?_⟩⟩
          · simp [show ¬ a = o by omega]; exact hg.2 a ha
          · unfold RisingP at k2 ⊢
            rw [List.pairwise_append] at k2 ⊢
            refine ⟨k2.1, by simp, fun a ha b hb => ?_⟩
            rw [List.mem_singleton.1 hb]
            exact k2.2.2 a ha x (by simp)
          · rcases List.mem_append.1 hy with hy | hy
            · exact k3 y (by simp [hy])
            · rw [List.mem_singleton.1 hy]
              have := k3 x (by simp)
              exact ⟨this.1, by show (0 : Int) ≤ 0; omega, by show (0 : Int) ≤ 5; omega⟩

end Go.Proofs.Ytinfnpbglapjhaa.AM

/- Right. -/
namespace Go.Proofs.Ytinfnpbglapjhaa.AM
set_option maxRecDepth 100000
set_option linter.unusedVariables false
set_option linter.unusedSimpArgs false

def Bnd (l : List S25) : Prop := ∀ z ∈ l, 0 ≤ z.f0 ∧ 0 ≤ z.f1 ∧ z.f1 ≤ 18446744073709551615
/-- A cursor as it is given. -/
def HArg (h : List Hd) : Prop := h.length ≤ 9223372036854775806 ∧ ∀ x ∈ h, (0 ≤ x.f0 ∧ x.f0 ≤ 18446744073709551615) ∧ Bnd x.f1 ∧ x.f1.length ≤ 9223372036854775806
/-- What Right has made so far. -/
def RInv (ml me last : Int) (i : Nat) (out : List Hd) : Prop := COk ml me out ∧ out.length ≤ i ∧ out.length ≤ 7 ∧ (∀ x ∈ out, x.f1.length ≤ 14) ∧ (∀ x ∈ out, x.f0 ≤ last) ∧ 0 ≤ last
def RiJ (hv : AVal) (raw : Bool) (ml me : Int) (h : List Hd) (σ0 : St) (mm : Nat) (rg : Regs) (σ' : St) : Prop := ∃ (i : Nat) (last : Int) (ov : AVal) (acc : List Hd), mm = h.length - i ∧ i ≤ h.length ∧ i ≤ 7 ∧ RInv ml me last i acc ∧ (∀ a, a < σ0.next → σ'.mem.get a = σ0.mem.get a) ∧ σ0.next + 1 + 1 + 1 ≤ σ'.next ∧ HOut (σ0.next + 1 + 1 + 1) σ' ov acc ∧
  σ'.mem.get (σ0.next + 1) = some (.cells 3 [u64 0, u64 0, .nilsl]) ∧ σ'.mem.get (σ0.next + 1 + 1) = some (.cells 3 [u64 ml, u64 me, ov]) ∧
  rg = [(1, .bool raw), (4, .ptr (σ0.next + 1) 0), (5, .ptr (σ0.next + 1 + 1) 0), (6, u64 last), (19, hv), (20, i64 h.length), (21, i64 i)]
def RiJ2 (hv rv : AVal) (raw : Bool) (last : Int) (rs : List S25) (h : List Hd) (i : Nat) (n0 n8 : Nat) (σ1 : St) (mm : Nat) (rg : Regs) (σ' : St) : Prop := ∃ (j : Nat) (av : AVal) (acc : List S25), mm = rs.length - j ∧ j ≤ rs.length ∧ acc.length ≤ 6 ∧ acc.length ≤ j ∧ Bnd acc ∧ σ1.next ≤ σ'.next ∧ (∀ a, a < σ1.next → σ'.mem.get a = σ1.mem.get a) ∧ Out σ1.next σ' av acc ∧
  rg = [(1, .bool raw), (4, .ptr (n0 + 1) 0), (5, .ptr (n0 + 1 + 1) 0), (6, u64 last), (8, .ptr n8 0), (9, av), (19, hv), (20, i64 h.length), (21, i64 i), (57, rv), (58, i64 rs.length), (59, i64 j)]
theorem Out.rgm {lo : Nat} {σ' : St} {v : AVal} {l : List S25} (h : Out lo σ' v l) : RgM σ' v l := by
  rcases h with h | ⟨o, rfl, h1, h2, h3, h4⟩
  · exact .inl (.inl h)
  · exact .inr ⟨o, 0, l.length, false, rc l, rfl, Nat.le_refl _, h3, h4, by rw [rc_len]; omega, by rw [List.drop_zero, List.take_of_length_le (by rw [rc_len]; omega)]⟩
set_option maxHeartbeats 2000000 in
theorem right14_c {hv : AVal} {h : List Hd} (hh : HI hv h) (ha : HArg h) (a b : Int) (raw : Bool) (hab : (0 ≤ a ∧ a ≤ 18446744073709551615) ∧ 0 ≤ b ∧ b ≤ 18446744073709551615) (σ : St) (Q : AVal → St → Prop)
    (hq : ∀ ml me hv' h', (0 ≤ ml ∧ ml ≤ 18446744073709551615) → (0 ≤ me ∧ me ≤ 18446744073709551615) → HI hv' h' → COk ml me h' → h'.length ≤ 7 → (∀ x ∈ h', x.f1.length ≤ 14) → Q (cv ml me hv') σ) : ACall Try.prog 11 [cv a b hv, .bool raw] σ Q := by
  refine ACall.freezeD 3 ?_
  refine ACall.of_compF hmx (fun a w => Try.call11 a w) Try.func11 cf11 (n := 2) (by decide) rfl ?_
  have l1 := hh.len
  have h1 := hh.one.1
  have h2 := hh.one.2
  have u1 : ¬ σ.next = σ.next + 1 + 1 := by omega
  simp only [ac11, rs11]
  simp [lk_cons, h1, h2, fillL, storeL]
  refine place_c a b raw hab.1 hab.2 _ _ fun ml me hml hme _ => ?_
  simp [lk_cons, h1, h2, fillL, storeL, u1, ↓l1]
  refine wp_loop (RiJ hv raw ml me h σ) h.length ?_ ?_
  · exact ⟨0, 0, .nilsl, [], rfl, Nat.zero_le _, by omega, ⟨⟨trivial, by simp, fun L n hn => absurd hn (in_nil n)⟩, by simp, by simp, by simp, by simp, by omega⟩, fun k hk => by simp [show ¬ k = σ.next by omega, show ¬ k = σ.next + 1 by omega, show ¬ k = σ.next + 1 + 1 by omega], by simp, .inl ⟨rfl, rfl⟩, by simp, by simp, rfl⟩
  · rintro mm rg σ' ⟨i, last, ov, acc, rfl, hi, hi7, ⟨hC, hoi, ho7, hrl, hlast, hl0⟩, gold, hn, ho, m1, m2, rfl⟩
    have z1 : ¬ σ.next = σ'.next := by omega
    have z2 : ¬ σ.next + 1 = σ'.next := by omega
    have z3 : ¬ σ.next + 1 + 1 = σ'.next := by omega
    have o1 := ho.one.1
    have o2 := ho.one.2
    have olen : ∀ ρ : St, evalV ρ (.len 1 ov) = some (i64 acc.length, ρ) := fun ρ => by
      rcases ho with ⟨rfl, rfl⟩ | ⟨o, cs, rfl, _⟩ <;> simp
    have done : ∀ ρ : St, σ'.next ≤ ρ.next → (∀ k, k < σ'.next → ρ.mem.get k = σ'.mem.get k) → Old σ ⟨ρ.mem.set (σ.next + 1) (.cells 3 [u64 ml, u64 me, ov]), ρ.next⟩ ∧ ∃ v', frzD σ.next (ρ.mem.set (σ.next + 1) (.cells 3 [u64 ml, u64 me, ov])) 3 (.agg [u64 ml, u64 me, ov]) = some v' ∧ Q v' σ := by
      intro ρ hρ hm
      have e5 : HOut (σ.next + 1 + 1 + 1) ⟨ρ.mem.set (σ.next + 1) (.cells 3 [u64 ml, u64 me, ov]), ρ.next⟩ ov acc := ho.frame hρ fun k hk hb => by simp [show ¬ k = σ.next + 1 by omega]; exact hm k hb
      obtain ⟨hv', f1, f2⟩ := e5.frz (lo' := σ.next) (by omega) ml me
      refine ⟨fun k hk => ?_, cv ml me hv', f1, hq _ _ _ _ hml hme f2 hC ho7 hrl⟩
      simp [show ¬ k = σ.next + 1 by omega]
      rw [hm k (by omega)]
      exact gold k hk
    by_cases hlt : i < h.length
    · obtain ⟨x, hx⟩ : ∃ x, h[i]? = some x := ⟨_, List.getElem?_eq_getElem hlt⟩
      obtain ⟨k, hk⟩ : ∃ k, i + 1 = k := ⟨_, rfl⟩
      have w1 : IntKind.i64.wrap ((i : Int) + 1) = (k : Int) := by have := ha.1; rw [IntWalk.i64_in] <;> omega
      obtain ⟨p, xr, hri, p1, p2, _, _⟩ := hh.at hx σ'
      have r1 := hri.one.1
      have r2 := hri.one.2
      obtain ⟨hx0, hxb, hxl⟩ := ha.2 x (List.mem_of_getElem? hx)
      by_cases c6 : (6 : Int) < (i : Int)
      · simp [lk_cons, hlt, ↓p1, ↓p2, storeL, r1, r2, m1, m2, z1, z2, z3, c6, o1, o2]
        exact done ⟨(σ'.mem.set σ'.next (.cells 2 [.int .u64 0, .nilsl])).set σ'.next (.cells 2 [u64 x.f0, xr]), σ'.next + 1⟩ (by simp) fun k hk => by simp [show ¬ k = σ'.next by omega]
      · simp [lk_cons, hlt, ↓p1, ↓p2, storeL, r1, r2, m1, m2, z1, z2, z3, c6]
        have fin : ∀ (last' : Int) (w : AVal) (acc' : List Hd) (ρ' : St), RInv ml me last' k acc' → HOut (σ.next + 1 + 1 + 1) ρ' w acc' → σ'.next ≤ ρ'.next → (∀ a, a < σ.next + 1 + 1 → ρ'.mem.get a = σ'.mem.get a) → ρ'.mem.get (σ.next + 1 + 1) = some (.cells 3 [u64 ml, u64 me, w]) →
            ∃ mm, mm < h.length - i ∧ RiJ hv raw ml me h σ mm [(1, .bool raw), (4, .ptr (σ.next + 1) 0), (5, .ptr (σ.next + 1 + 1) 0), (6, u64 last'), (19, hv), (20, i64 h.length), (21, i64 k)] ρ' := by
          intro last' w acc' ρ' e0 e1 e2 e3 e6
          exact ⟨h.length - k, by omega, k, last', w, acc', rfl, by omega, by omega, e0, fun a ha => (e3 a (by omega)).trans (gold a ha), by omega, e1, (e3 _ (by omega)).trans m1, e6, rfl⟩
        have skip : ∀ s : St, s.next = σ'.next + 1 → (∀ k, k < σ'.next → s.mem.get k = σ'.mem.get k) → ∃ mm, mm < h.length - i ∧ RiJ hv raw ml me h σ mm [(1, .bool raw), (4, .ptr (σ.next + 1) 0), (5, .ptr (σ.next + 1 + 1) 0), (6, u64 last), (19, hv), (20, i64 h.length), (21, i64 k)] s := fun s hs hg =>
          fin last ov acc s ⟨hC, by omega, ho7, hrl, hlast, hl0⟩ (ho.frame (by omega) fun a _ hb => hg a hb) (by omega) (fun a ha => hg a (by omega)) ((hg _ (by omega)).trans m2)
        refine condK_mid (fun rg s => ∃ L : Int, (0 ≤ L ∧ L ≤ 18446744073709551615) ∧ s.next = σ'.next + 1 ∧ (∀ k, k < σ'.next → s.mem.get k = σ'.mem.get k) ∧ s.mem.get σ'.next = some (.cells 2 [u64 L, xr]) ∧ rg.lookup 1 = some (.bool raw) ∧ rg.lookup 4 = some (.ptr (σ.next + 1) 0) ∧ rg.lookup 5 = some (.ptr (σ.next + 1 + 1) 0) ∧ rg.lookup 6 = some (u64 last) ∧ rg.lookup 7 = some (i64 i) ∧ rg.lookup 8 = some (.ptr σ'.next 0) ∧ rg.lookup 19 = some hv ∧ rg.lookup 20 = some (i64 h.length) ∧ rg.lookup 21 = some (i64 i)) ?_ ?_
        · cases raw with
          | true =>
            simp [lk_cons]
            exact ⟨hx0, fun k hk => by simp [show ¬ k = σ'.next by omega]⟩
          | false =>
            simp [lk_cons, storeL]
            have e1 : Int.tmod x.f0 16 = x.f0 % 16 := Int.tmod_eq_emod_of_nonneg hx0.1
            exact ⟨by omega, fun k hk => by simp [show ¬ k = σ'.next by omega]⟩
        · rintro rg s ⟨L, hL, hsn, hsg, hs8, g1, g4, g5, g6, g7, g8, g19, g20, g21⟩
          have s2 := (hsg _ (show σ.next + 1 + 1 < σ'.next by omega)).trans m2
          have s1 := (hsg _ (show σ.next + 1 < σ'.next by omega)).trans m1
          simp only [seqK_normal, wp_seq]
          refine wp_cutK (fun rg' s' => s' = s ∧ rg' = [(1, .bool raw), (4, .ptr (σ.next + 1) 0), (5, .ptr (σ.next + 1 + 1) 0), (6, u64 last), (8, .ptr σ'.next 0), (19, hv), (20, i64 h.length), (21, i64 i), (55, .bool (decide (L < ml) || (decide (L ≤ last) && decide (0 < i) && decide (0 < acc.length))))]) ?_ ?_
          · by_cases c1 : L < ml
            · simp [lk_cons, g1, g4, g5, g6, g7, g8, g19, g20, g21, hs8, s2, c1]
            · by_cases c2 : L ≤ last
              · by_cases c3 : 0 < i
                · have c3' : (0 : Int) < (i : Int) := by omega
                  simp [lk_cons, g1, g4, g5, g6, g7, g8, g19, g20, g21, hs8, s2, c1, c2, c3, c3', o1, o2, ↓olen]
                · have c3' : ¬ (0 : Int) < (i : Int) := by omega
                  simp [lk_cons, g1, g4, g5, g6, g7, g8, g19, g20, g21, hs8, s2, c1, c2, c3, c3', o1, o2, ↓olen]
              · simp [lk_cons, g1, g4, g5, g6, g7, g8, g19, g20, g21, hs8, s2, c1, c2]
          · rintro _ _ ⟨rfl, rfl⟩
            cases hsk : (decide (L < ml) || (decide (L ≤ last) && decide (0 < i) && decide (0 < acc.length))) with
            | true =>
              simp [lk_cons, w1]
              exact skip _ hsn hsg
            | false =>
              rename_i s
              have hnot : ¬ L < ml ∧ (L ≤ last → 0 < i → acc = []) := by
                simp at hsk
                refine ⟨by omega, fun h1 h2 => hsk.2 h1 h2⟩
              simp [-wp_seq, lk_cons]
              refine wp_cut (fun rg s' => s' = s ∧ rg = [(1, .bool raw), (4, .ptr (σ.next + 1) 0), (5, .ptr (σ.next + 1 + 1) 0), (6, u64 last), (8, .ptr σ'.next 0), (9, .nilsl), (19, hv), (20, i64 h.length), (21, i64 i)]) (by simp [lk_cons]) ?_
              rintro _ s' ⟨hs', rfl⟩
              rw [hs']
              clear hs' s'
              refine wp_cut (fun rg s' => ∃ av ac, Out s.next s' av ac ∧ ac.length ≤ 6 ∧ Bnd ac ∧ s.next ≤ s'.next ∧ (∀ k, k < s.next → s'.mem.get k = s.mem.get k) ∧ rg.lookup 1 = some (.bool raw) ∧ rg.lookup 4 = some (.ptr (σ.next + 1) 0) ∧ rg.lookup 5 = some (.ptr (σ.next + 1 + 1) 0) ∧ rg.lookup 6 = some (u64 last) ∧ rg.lookup 8 = some (.ptr σ'.next 0) ∧ rg.lookup 9 = some av ∧ rg.lookup 19 = some hv ∧ rg.lookup 20 = some (i64 h.length) ∧ rg.lookup 21 = some (i64 i)) ?_ ?_
              · have xl := (hri.m σ).len
                simp [lk_cons, hs8, r1, r2, ↓xl]
                refine wp_loop (RiJ2 hv xr raw last x.f1 h i σ.next σ'.next s) x.f1.length ?_ ?_
                · exact ⟨0, .nilsl, [], rfl, Nat.zero_le _, by simp, by simp, fun z hz => absurd hz List.not_mem_nil, Nat.le_refl _, fun _ _ => rfl, .inl ⟨rfl, rfl⟩, rfl⟩
                · rintro m3 rg3 σ2 ⟨j, av, ac, rfl, hj, ha6, haj, hab2, hn2, hg2, hav, rfl⟩
                  by_cases hlt2 : j < x.f1.length
                  · obtain ⟨z, hz⟩ : ∃ z, x.f1[j]? = some z := ⟨_, List.getElem?_eq_getElem hlt2⟩
                    obtain ⟨j', hj'⟩ : ∃ k, j + 1 = k := ⟨_, rfl⟩
                    have w3 : IntKind.i64.wrap ((j : Int) + 1) = (j' : Int) := by rw [IntWalk.i64_in] <;> omega
                    obtain ⟨q, q1, q2, _, _⟩ := (hri.m σ2).at hz (ρ := σ2) fun _ _ => rfl
                    have hzb := hxb z (List.mem_of_getElem? hz)
                    have e8 : Int.tmod z.f0 8 = z.f0 % 8 := Int.tmod_eq_emod_of_nonneg hzb.1
                    have e9 : Int.tmod z.f1 9 = z.f1 % 9 := Int.tmod_eq_emod_of_nonneg hzb.2.1
                    have fin2 : ∀ (w : AVal) (ac' : List S25) (ρ' : St), Out s.next ρ' w ac' → σ2.next ≤ ρ'.next → (∀ k, k < s.next → ρ'.mem.get k = σ2.mem.get k) → ac'.length ≤ 6 → ac'.length ≤ j' → Bnd ac' →
                        ∃ mm, mm < x.f1.length - j ∧ RiJ2 hv xr raw last x.f1 h i σ.next σ'.next s mm [(1, .bool raw), (4, .ptr (σ.next + 1) 0), (5, .ptr (σ.next + 1 + 1) 0), (6, u64 last), (8, .ptr σ'.next 0), (9, w), (19, hv), (20, i64 h.length), (21, i64 i), (57, xr), (58, i64 x.f1.length), (59, i64 j')] ρ' := by
                      intro w ac' ρ' e1 e2 e3 e4 e5 e6
                      exact ⟨x.f1.length - j', by omega, j', w, ac', rfl, by omega, e4, e5, e6, by omega, fun k hk => (e3 k hk).trans (hg2 k hk), e1, rfl⟩
                    by_cases c7 : (j : Int) < 6
                    · have app : ∀ (y : S25) (M : Mem), (0 ≤ y.f0 ∧ 0 ≤ y.f1 ∧ y.f1 ≤ 18446744073709551615) → (∀ k, k < σ2.next → M.get k = σ2.mem.get k) → ∃ w ρ', evalV ⟨M.set (σ2.next + 1) (.cells 2 [u64 y.f0, u64 y.f1]), σ2.next + 1 + 1⟩ (.append 2 16 av (.sl (σ2.next + 1) 0 1 1 true)) = some (w, ρ') ∧ ∃ mm, mm < x.f1.length - j ∧ RiJ2 hv xr raw last x.f1 h i σ.next σ'.next s mm [(1, .bool raw), (4, .ptr (σ.next + 1) 0), (5, .ptr (σ.next + 1 + 1) 0), (6, u64 last), (8, .ptr σ'.next 0), (9, w), (19, hv), (20, i64 h.length), (21, i64 i), (57, xr), (58, i64 x.f1.length), (59, i64 j')] ρ' := by
                        intro y M hy hM
                        have hav' : Out s.next ⟨M.set (σ2.next + 1) (.cells 2 [u64 y.f0, u64 y.f1]), σ2.next + 1 + 1⟩ av ac := by
                          rcases hav with hav | ⟨o, k1, k2, k3, k4, k5⟩
                          · exact .inl hav
                          · exact .inr ⟨o, k1, k2, k3, by show o < σ2.next + 1 + 1; omega, by show (M.set _ _).get o = _; rw [Mem.get_set_ne _ _ (by omega), hM o k4]; exact k5⟩
                        obtain ⟨w, ρ', f1, f2, f3, f4⟩ := out_app (b := σ2.next + 1) (x := y.f0) (y := y.f1) hav' (by omega) (by simp) (by show s.next ≤ σ2.next + 1 + 1; omega)
                        refine ⟨w, ρ', f1, fin2 w _ ρ' f2 (by rw [f3]; simp; omega) (fun k hk => ?_) (by simp; omega) (by simp; omega) fun t ht => ?_⟩
                        · rw [f4 k hk]
                          simp [show ¬ k = σ2.next + 1 by omega]
                          exact hM k (by omega)
                        · rcases List.mem_append.1 ht with ht | ht
                          · exact hab2 t ht
                          · rw [List.mem_singleton.1 ht]; exact hy
                      cases raw with
                      | true =>
                        obtain ⟨w, ρ', f1, f2⟩ := app z ((σ2.mem.set σ2.next (.cells 2 [.int .u64 0, .int .u64 0])).set σ2.next (.cells 2 [u64 z.f0, u64 z.f1])) hzb fun k hk => by simp [show ¬ k = σ2.next by omega]
                        simp [lk_cons, hlt2, ↓q1, ↓q2, storeL, c7, fillL, repL, ↓f1, w3]
                        exact f2
                      | false =>
                        obtain ⟨w, ρ', f1, f2⟩ := app ⟨z.f0 % 8, z.f1 % 9⟩ (((σ2.mem.set σ2.next (.cells 2 [.int .u64 0, .int .u64 0])).set σ2.next (.cells 2 [u64 z.f0, u64 z.f1])).set σ2.next (.cells 2 [u64 (z.f0 % 8), u64 (z.f1 % 9)])) (by simp only; omega) fun k hk => by simp [show ¬ k = σ2.next by omega]
                        simp [lk_cons, hlt2, ↓q1, ↓q2, storeL, c7, fillL, repL, e8, e9, ↓f1, w3]
                        exact f2
                    · have keep : ∀ M : Mem, (∀ k, k < σ2.next → M.get k = σ2.mem.get k) → ∃ mm, mm < x.f1.length - j ∧ RiJ2 hv xr raw last x.f1 h i σ.next σ'.next s mm [(1, .bool raw), (4, .ptr (σ.next + 1) 0), (5, .ptr (σ.next + 1 + 1) 0), (6, u64 last), (8, .ptr σ'.next 0), (9, av), (19, hv), (20, i64 h.length), (21, i64 i), (57, xr), (58, i64 x.f1.length), (59, i64 j')] ⟨M, σ2.next + 1⟩ := fun M hM =>
                        fin2 av ac ⟨M, σ2.next + 1⟩ (by
                          rcases hav with hav | ⟨o, k1, k2, k3, k4, k5⟩
                          · exact .inl hav
                          · exact .inr ⟨o, k1, k2, k3, by show o < σ2.next + 1; omega, (hM o k4).trans k5⟩) (by simp) (fun k hk => hM k (by omega)) ha6 (by omega) hab2
                      cases raw with
                      | true =>
                        simp [lk_cons, hlt2, ↓q1, ↓q2, storeL, c7, fillL, repL, w3]
                        exact keep _ fun k hk => by simp [show ¬ k = σ2.next by omega]
                      | false =>
                        simp [lk_cons, hlt2, ↓q1, ↓q2, storeL, c7, fillL, repL, w3]
                        exact keep _ fun k hk => by simp [show ¬ k = σ2.next by omega]
                  · have : j = x.f1.length := by omega
                    subst this
                    simp [lk_cons]
                    exact ⟨av, ac, hav, ha6, hab2, hn2, hg2, rfl⟩
              · rintro rg2 s3 ⟨av, ac, hav, ha6, hab2, hn3, hg3, t1, t4, t5, t6, t8, t9, t19, t20, t21⟩
                have n8 := (hg3 _ (show σ'.next < s.next by omega)).trans hs8
                have n2 := (hg3 _ (show σ.next + 1 + 1 < s.next by omega)).trans s2
                have pos : ∀ x ∈ acc, x.f0 < L := fun y hy => by
                  have := hlast y hy
                  by_cases c2 : L ≤ last
                  · have h0 := hnot.2 c2 (by
                      have := List.length_pos_of_mem hy
                      omega)
                    rw [h0] at hy; cases hy
                  · omega
                have y2 : ∀ k : Nat, k < σ'.next → s3.mem.get k = σ'.mem.get k := fun k hk => (hg3 k (by omega)).trans (hsg k hk)
                -- behind the document's Set
                have after : ∀ (y : List S25) (bn : Nat) (r : List S25), r = rset ac y → y.length ≤ 1 → (∀ z ∈ y, 0 ≤ z.f0 ∧ 0 ≤ z.f1) → (∀ n, InP r n → L = ml → me ≤ n) → r ≠ [] → COk ml me (acc ++ [⟨L, r⟩]) ∧ r.length ≤ 14 := by
                  intro y bn r hr hy1 hy2 hin hne
                  obtain ⟨e1, e2, e3, _⟩ := rset_spec hab2 hy2
                  rw [← hr] at e1 e2 e3
                  refine ⟨⟨hok_snoc hC.1 pos (by show -1 < L; omega) e1 hne, fun t ht => ?_, fun K n hK => ?_⟩, by omega⟩
                  · rcases List.mem_append.1 ht with ht | ht
                    · exact hC.2.1 t ht
                    · rw [List.mem_singleton.1 ht]; exact hL.2
                  · rw [of_snoc K ⟨L, r⟩ acc pos] at hK
                    by_cases hKL : L = K
                    · rw [if_pos hKL] at hK
                      by_cases hm2 : L = ml
                      · exact .inr ⟨by omega, hin n hK hm2⟩
                      · exact .inl (by omega)
                    · rw [if_neg hKL] at hK
                      exact hC.2.2 K n hK
                have last3 : ∀ (y : List S25) (r : List S25) (vv : AVal) (ρ0 : St), r = rset ac y → y.length ≤ 1 → (∀ z ∈ y, 0 ≤ z.f0 ∧ 0 ≤ z.f1) → (∀ n, InP r n → L = ml → me ≤ n) → r ≠ [] → RgI vv r → σ'.next ≤ ρ0.next → (∀ k, k < σ'.next → ρ0.mem.get k = σ'.mem.get k) →
                    ∃ w ρ', evalV ⟨ρ0.mem.set ρ0.next (.cells 2 [u64 L, vv]), ρ0.next + 1⟩ (.append 2 32 ov (.sl ρ0.next 0 1 1 true)) = some (w, ρ') ∧ w.one = true ∧ cellsOf w = [w] ∧ ρ'.mem.get (σ.next + 1 + 1) = some (.cells 3 [u64 ml, u64 me, ov]) ∧ (∀ k, k < σ'.next → (k < σ.next + 1 + 1 + 1 ∨ σ'.next ≤ k) → ρ'.mem.get k = σ'.mem.get k) ∧ (σ'.next < ρ0.next → ρ'.mem.get σ'.next = ρ0.mem.get σ'.next) ∧
                    ∃ mm, mm < h.length - i ∧ RiJ hv raw ml me h σ mm [(1, .bool raw), (4, .ptr (σ.next + 1) 0), (5, .ptr (σ.next + 1 + 1) 0), (6, u64 L), (19, hv), (20, i64 h.length), (21, i64 k)] ⟨ρ'.mem.set (σ.next + 1 + 1) (.cells 3 [u64 ml, u64 me, w]), ρ'.next⟩ := by
                  intro y r vv ρ0 hr hy1 hy2 hin hne hvv hρ hρm
                  obtain ⟨hco, hr14⟩ := after y 0 r hr hy1 hy2 hin hne
                  obtain ⟨w, ρ', f1, f2, f3, f4⟩ := hout_app (b := ρ0.next) (L := L) (rv := vv) (r := r) (ρ0 := σ') (ρ := ⟨ρ0.mem.set ρ0.next (.cells 2 [u64 L, vv]), ρ0.next + 1⟩) ho (by show σ'.next ≤ ρ0.next + 1; omega) (fun k _ hk => by simp [show ¬ k = ρ0.next by omega]; exact hρm k hk) (by omega) (by simp) (.inl hvv) hn
                  have f5 : ∀ k, k < σ.next + 1 + 1 + 1 → ρ'.mem.get k = σ'.mem.get k := fun k hk => by
                    rw [f4 k (by show k < ρ0.next + 1; omega) (.inl hk)]
                    simp [show ¬ k = ρ0.next by omega]
                    exact hρm k (by omega)
                  refine ⟨w, ρ', f1, f2.one.1, f2.one.2, (f5 _ (by omega)).trans m2, fun k _ hk => ?_, fun hlt3 => ?_, ?_⟩
                  · rcases hk with hk | hk
                    · exact f5 k hk
                    · omega
                  · rw [f4 _ (by show σ'.next < ρ0.next + 1; omega) (.inr (Nat.le_refl _))]
                    simp [show ¬ σ'.next = ρ0.next by omega]
                  · refine fin L w (acc ++ [⟨L, r⟩]) _ ⟨hco, by simp; omega, by simp; omega, fun t ht => ?_, fun t ht => ?_, by omega⟩ (f2.frame (σ2 := ⟨ρ'.mem.set (σ.next + 1 + 1) (.cells 3 [u64 ml, u64 me, w]), ρ'.next⟩) (Nat.le_refl _) fun k hk _ => by simp [show ¬ k = σ.next + 1 + 1 by omega]) (by show σ'.next ≤ ρ'.next; rw [f3]; show _ ≤ ρ0.next + 1 + 1; omega) (fun k hk => by simp [show ¬ k = σ.next + 1 + 1 by omega]; exact f5 k (by omega)) (by simp)
                    · rcases List.mem_append.1 ht with ht | ht
                      · exact hrl t ht
                      · rw [List.mem_singleton.1 ht]; exact hr14
                    · rcases List.mem_append.1 ht with ht | ht
                      · have := pos t ht; omega
                      · rw [List.mem_singleton.1 ht]; exact Int.le_refl _
                have x1 : ¬ σ'.next = s3.next := by omega
                have x2 : ¬ σ.next + 1 + 1 = s3.next := by omega
                by_cases cL : ml < L
                · have hy2 : ∀ z ∈ ([] : List S25), 0 ≤ z.f0 ∧ 0 ≤ z.f1 := fun z hz => absurd hz List.not_mem_nil
                  simp [lk_cons, t1, t4, t5, t6, t8, t9, t19, t20, t21, n8, n2, fillL, storeL, repL, cL, x1, x2]
                  refine set_c (y := []) (hav.set (.cells 2 [u64 0, u64 me])).rgm (.inl (.inl ⟨rfl, rfl⟩)) (by simp; omega) hab2 hy2 _ fun sv hsv => ?_
                  have sl := (hsv.m σ).len
                  have v1 := hsv.one.1
                  have v2 := hsv.one.2
                  obtain ⟨r, hr⟩ : ∃ r, r = rset ac [] := ⟨_, rfl⟩
                  rw [← hr] at hsv sl
                  by_cases hr0 : r = []
                  · have c0 : ¬ 0 < r.length := by rw [hr0]; simp
                    simp [lk_cons, ↓sl, c0, w1]
                    exact fin last ov acc ⟨s3.mem.set s3.next (.cells 2 [u64 0, u64 me]), s3.next + 1⟩ ⟨hC, by omega, ho7, hrl, hlast, hl0⟩ (ho.frame (by show σ'.next ≤ s3.next + 1; omega) fun a _ hb => by simp [show ¬ a = s3.next by omega]; exact y2 a hb) (by show σ'.next ≤ s3.next + 1; omega) (fun a ha => by simp [show ¬ a = s3.next by omega]; exact y2 a (by omega)) (by simp [x2]; exact n2)
                  · have c0 : 0 < r.length := List.length_pos_iff.2 hr0
                    obtain ⟨w, ρ', f1, g1', g2', f2, f3, f4, f5⟩ := last3 [] r sv ⟨s3.mem.set s3.next (.cells 2 [u64 0, u64 me]), s3.next + 1⟩ hr (by simp) hy2 (fun n _ e => by omega) hr0 hsv (by show σ'.next ≤ s3.next + 1; omega) (fun k hk => by simp [show ¬ k = s3.next by omega]; exact y2 k hk)
                    have b8 : ρ'.mem.get σ'.next = some (.cells 2 [u64 L, xr]) := by
                      rw [f4 (by show σ'.next < s3.next + 1; omega)]
                      simp [x1]; exact n8
                    simp [lk_cons, ↓sl, c0, w1, x1, x2, n8, n2, v1, v2, fillL, storeL, repL, ↓f1, f2, g1', g2', b8, show ¬ σ'.next = σ.next + 1 + 1 by omega, show ¬ σ'.next = s3.next + 1 by omega]
                    exact f5
                · have hy2 : ∀ z ∈ ([⟨0, me⟩] : List S25), 0 ≤ z.f0 ∧ 0 ≤ z.f1 := fun z hz => by rw [List.mem_singleton.1 hz]; exact ⟨Int.le_refl _, hme.1⟩
                  simp [lk_cons, t1, t4, t5, t6, t8, t9, t19, t20, t21, n8, n2, fillL, storeL, repL, cL, x1, x2]
                  refine set_c (y := [⟨0, me⟩]) (hav.set (.cells 2 [u64 0, u64 me])).rgm (.inr ⟨s3.next, 0, 1, true, [u64 0, u64 me], rfl, by simp, by simp, by simp, by simp, by simp [rc]⟩) (by simp; omega) hab2 hy2 _ fun sv hsv => ?_
                  have sl := (hsv.m σ).len
                  have v1 := hsv.one.1
                  have v2 := hsv.one.2
                  obtain ⟨r, hr⟩ : ∃ r, r = rset ac [⟨0, me⟩] := ⟨_, rfl⟩
                  rw [← hr] at hsv sl
                  by_cases hr0 : r = []
                  · have c0 : ¬ 0 < r.length := by rw [hr0]; simp
                    simp [lk_cons, ↓sl, c0, w1]
                    exact fin last ov acc ⟨s3.mem.set s3.next (.cells 2 [u64 0, u64 me]), s3.next + 1⟩ ⟨hC, by omega, ho7, hrl, hlast, hl0⟩ (ho.frame (by show σ'.next ≤ s3.next + 1; omega) fun a _ hb => by simp [show ¬ a = s3.next by omega]; exact y2 a hb) (by show σ'.next ≤ s3.next + 1; omega) (fun a ha => by simp [show ¬ a = s3.next by omega]; exact y2 a (by omega)) (by simp [x2]; exact n2)
                  · have c0 : 0 < r.length := List.length_pos_iff.2 hr0
                    obtain ⟨w, ρ', f1, g1', g2', f2, f3, f4, f5⟩ := last3 [⟨0, me⟩] r sv ⟨s3.mem.set s3.next (.cells 2 [u64 0, u64 me]), s3.next + 1⟩ hr (by simp) hy2 (fun n hn e => by
                      obtain ⟨k1, k2, _, _⟩ := rset_spec hab2 hy2
                      rw [← hr] at k1 k2
                      have h3 := ((k2 n).1 hn).2
                      have h4 := can_in k1.1 hn
                      have h5 : ¬ (0 ≤ n ∧ n < me) := fun h' => h3 ⟨⟨0, me⟩, List.mem_singleton.2 rfl, h'⟩
                      omega) hr0 hsv (by show σ'.next ≤ s3.next + 1; omega) (fun k hk => by simp [show ¬ k = s3.next by omega]; exact y2 k hk)
                    have b8 : ρ'.mem.get σ'.next = some (.cells 2 [u64 L, xr]) := by
                      rw [f4 (by show σ'.next < s3.next + 1; omega)]
                      simp [x1]; exact n8
                    simp [lk_cons, ↓sl, c0, w1, x1, x2, n8, n2, v1, v2, fillL, storeL, repL, ↓f1, f2, g1', g2', b8, show ¬ σ'.next = σ.next + 1 + 1 by omega, show ¬ σ'.next = s3.next + 1 by omega]
                    exact f5
    · have : i = h.length := by omega
      subst this
      simp [lk_cons, m1, m2, z1, z2, z3, storeL, o1, o2]
      exact done σ' (Nat.le_refl _) fun _ _ => rfl

end Go.Proofs.Ytinfnpbglapjhaa.AM

/- Cursors: what hold, put and tight come to. -/
namespace Go.Proofs.Ytinfnpbglapjhaa.AM
set_option linter.unusedVariables false
set_option linter.unusedSimpArgs false

theorem hold_pre (L : Int) (r : List S25) (B : List Hd) : ∀ (A : List Hd) (d : Bool), (∀ y ∈ A, y.f0 < L) → holdM L r d (A ++ B) = A ++ holdM L r d B
  | [], _, _ => rfl
  | y :: A, d, h => by
    have hy := h y List.mem_cons_self
    simp only [List.cons_append, holdM]
    rw [if_neg (by omega), if_neg (by omega), hold_pre L r B A d fun z hz => h z (List.mem_cons_of_mem _ hz)]
    rfl
theorem hold_post (L : Int) (r : List S25) : ∀ (t : List Hd), (∀ y ∈ t, L < y.f0) → holdM L r true t = t
  | [], _ => rfl
  | y :: t, h => by
    have hy := h y List.mem_cons_self
    simp only [holdM]
    rw [if_neg (by simp), if_neg (by omega), hold_post L r t fun z hz => h z (List.mem_cons_of_mem _ hz)]
    rfl
theorem put_post (L e : Int) : ∀ (t : List Hd), (∀ y ∈ t, L < y.f0) → putM' L e true t = t
  | [], _ => rfl
  | y :: t, h => by
    have hy := h y List.mem_cons_self
    simp only [putM']
    rw [if_neg (by omega), if_neg (by simp), put_post L e t fun z hz => h z (List.mem_cons_of_mem _ hz)]
theorem hok_tail {x : Hd} {t : List Hd} {b : Int} (h : HOk b (x :: t)) : ∀ y ∈ t, x.f0 < y.f0 := fun y hy => (hok_mem h.2.2.2 y hy).1
theorem rt_keep {pl pe : Int} (hpe : 0 ≤ pe) : ∀ (l K : List Hd) (b : Int), HOk b l → (∀ y ∈ K, ∀ z ∈ l, y.f0 < z.f0) → rtH pl pe (K ++ l) l = K ++ keepH pl pe l
  | [], K, _, _, _ => by simp [rtH, keepH]
  | x :: t, K, b, hl, hK => by
    obtain ⟨h1, h2, h3, h4⟩ := hl
    have ht := hok_tail ⟨h1, h2, h3, h4⟩
    have hKx : ∀ y ∈ K, y.f0 < x.f0 := fun y hy => hK y hy x List.mem_cons_self
    have hKt : ∀ y ∈ K, ∀ z ∈ t, y.f0 < z.f0 := fun y hy z hz => hK y hy z (List.mem_cons_of_mem _ hz)
    simp only [rtH, keepH]
    by_cases c1 : x.f0 < pl
    · rw [if_pos c1, if_pos c1, hold_pre _ _ _ K true hKx]
      simp only [holdM]
      rw [if_neg (by simp), if_pos trivial, List.nil_append, hold_post _ _ t ht, List.nil_append]
      exact rt_keep hpe t K x.f0 h4 hKt
    · rw [if_neg c1, if_neg c1]
      by_cases c2 : x.f0 = pl
      · have e : rset x.f1 [⟨0, pe⟩] = remM 0 pe x.f1 := (rem_set h2 (Int.le_refl _) hpe).symm
        rw [if_pos c2, if_pos c2, e, hold_pre _ _ _ K _ hKx]
        by_cases c3 : remM 0 pe x.f1 = []
        · rw [if_pos c3, c3]
          simp only [holdM]
          simp only [decide_true]
          rw [if_neg (by simp), if_pos trivial, List.nil_append, hold_post _ _ t ht, List.nil_append]
          exact rt_keep hpe t K x.f0 h4 hKt
        · rw [if_neg c3, decide_eq_false c3]
          simp only [holdM]
          rw [if_pos ⟨trivial, Int.le_refl _⟩, if_pos trivial, List.nil_append, hold_post _ _ t ht]
          have := rt_keep (pl := pl) hpe t (K ++ [⟨x.f0, remM 0 pe x.f1⟩]) x.f0 h4 (fun y hy z hz => by
            rcases List.mem_append.1 hy with hy | hy
            · exact hKt y hy z hz
            · rw [List.mem_singleton.1 hy]; exact ht z hz)
          rw [List.append_assoc, List.append_assoc] at this
          exact this
      · rw [if_neg c2, if_neg c2, if_neg h3]
        have := rt_keep (pl := pl) hpe t (K ++ [x]) x.f0 h4 (fun y hy z hz => by
          rcases List.mem_append.1 hy with hy | hy
          · exact hKt y hy z hz
          · rw [List.mem_singleton.1 hy]; exact ht z hz)
        rw [List.append_assoc, List.append_assoc] at this
        exact this
theorem rt_eq {pl pe : Int} (hpe : 0 ≤ pe) {l : List Hd} {b : Int} (hl : HOk b l) : rtH pl pe l l = keepH pl pe l := by
  have := rt_keep (pl := pl) hpe l [] b hl (fun y hy => absurd hy List.not_mem_nil)
  simpa using this
theorem hold_put {L e : Int} (he : 0 ≤ e ∧ e < 18446744073709551615) : ∀ (h : List Hd) (b : Int), HOk b h → holdM L (moreR (ofM L h) e) false h = putM' L e false h
  | [], _, _ => by
    have : moreR (ofM L []) e = [⟨e, e + 1⟩] := more_eq good_nil he
    rw [this]; rfl
  | x :: t, b, hl => by
    obtain ⟨h1, h2, h3, h4⟩ := hl
    have ht := hok_tail ⟨h1, h2, h3, h4⟩
    simp only [holdM, putM', ofM]
    by_cases c1 : x.f0 = L
    · rw [if_pos c1, if_pos c1, if_pos c1, if_pos ⟨trivial, by omega⟩, hold_post _ _ t (by rw [← c1]; exact ht), put_post _ _ t (by rw [← c1]; exact ht), more_eq h2 he, c1]
      rfl
    · rw [if_neg c1, if_neg c1, if_neg c1]
      by_cases c2 : L < x.f0
      · have e0 : ofM L t = [] := of_out h4 (by omega)
        have e1 : moreR [] e = [⟨e, e + 1⟩] := more_eq good_nil he
        rw [if_pos ⟨trivial, by omega⟩, if_pos ⟨c2, trivial⟩, e0, e1, hold_post _ _ t (fun y hy => by have := ht y hy; omega), put_post _ _ t (fun y hy => by have := ht y hy; omega)]
        rfl
      · rw [if_neg (by omega), if_neg (by omega), hold_put he t x.f0 h4]
        rfl
theorem put_hok {L e : Int} (he : 0 ≤ e ∧ e < 18446744073709551615) : ∀ (h : List Hd) (b : Int), HOk b h → b < L → HOk b (putM' L e false h)
  | [], b, _, hb => ⟨hb, good_one he, by simp, trivial⟩
  | x :: t, b, hl, hb => by
    obtain ⟨h1, h2, h3, h4⟩ := hl
    have ht := hok_tail ⟨h1, h2, h3, h4⟩
    simp only [putM']
    by_cases c1 : x.f0 = L
    · rw [if_pos c1, put_post _ _ t (by rw [← c1]; exact ht)]
      obtain ⟨a1, a2, _⟩ := addL_spec (lo := e) (hi := e + 1) h2 he.1 (by omega)
      rw [← addL_one] at a1 a2
      refine ⟨h1, a1, fun h0 => ?_, h4⟩
      have := (a2 e).2 (.inr ⟨Int.le_refl _, by omega⟩)
      have h0 : addM e (e + 1) x.f1 = [] := h0
      rw [h0] at this; exact in_nil _ this
    · rw [if_neg c1]
      by_cases c2 : L < x.f0
      · rw [if_pos ⟨c2, trivial⟩, put_post _ _ t (fun y hy => by have := ht y hy; omega)]
        exact ⟨hb, good_one he, by simp, c2, h2, h3, h4⟩
      · rw [if_neg (by omega)]
        exact ⟨h1, h2, h3, put_hok he t x.f0 h4 (by omega)⟩
theorem put_of {L e : Int} (K : Int) : ∀ (h : List Hd) (b : Int), HOk b h → ofM K (putM' L e false h) = if K = L then addM e (e + 1) (ofM L h) else ofM K h
  | [], _, _ => by
    simp only [putM', ofM]
    by_cases c : K = L
    · rw [if_pos c, if_neg (by simp)]; simp only [ofM]; rw [if_pos (by omega)]; rfl
    · rw [if_neg c, if_neg (by simp)]; simp only [ofM]; rw [if_neg (by omega)]
  | x :: t, b, hl => by
    obtain ⟨h1, h2, h3, h4⟩ := hl
    have ht := hok_tail ⟨h1, h2, h3, h4⟩
    simp only [putM']
    by_cases c1 : x.f0 = L
    · rw [if_pos c1, put_post _ _ t (by rw [← c1]; exact ht)]
      simp only [ofM]
      by_cases c : K = L
      · rw [if_pos c, if_pos (by omega), if_pos c1]
      · rw [if_neg c, if_neg (by omega), if_neg (by omega)]
    · rw [if_neg c1]
      by_cases c2 : L < x.f0
      · rw [if_pos ⟨c2, trivial⟩, put_post _ _ t (fun y hy => by have := ht y hy; omega)]
        have e0 : ofM L (x :: t) = [] := by
          simp only [ofM]; rw [if_neg (by omega)]; exact of_out h4 (by omega)
        by_cases c : K = L
        · rw [if_pos c, e0]; simp only [ofM]; rw [if_pos (by omega)]; rfl
        · rw [if_neg c]; simp only [ofM]; rw [if_neg (by omega)]
      · rw [if_neg (by omega)]
        have ih := put_of (L := L) (e := e) K t x.f0 h4
        have e0 : ofM L (x :: t) = ofM L t := by simp only [ofM]; rw [if_neg c1]
        rw [e0]
        simp only [ofM]
        by_cases c3 : x.f0 = K
        · rw [if_pos c3, if_neg (by omega), if_pos c3]
        · rw [if_neg c3, if_neg c3, ih]
theorem has_mem {o : Int} {t : List Ld} (ht : RisingP t) (hs : ∀ x ∈ t, 0 ≤ szM x o ∧ szM x o ≤ 100) {L e : Int} (he : 0 ≤ e) : hasM o L e t = true ↔ (⟨L, e⟩ : S25) ∈ allM o t := by
  unfold hasM
  rw [next_find he t 0 0 hs]
  have hef := end_false (o := o) t 0 0
  constructor
  · intro h
    cases hf : (allM o t).find? (fun q => decide (0 ≤ ordM q.f0 q.f1 L e)) with
    | none => rw [hf] at h; obtain ⟨h1, _⟩ := Bool.and_eq_true_iff.1 h; rw [show (pickM none (endM o 0 0 t)).2.2 = (endM o 0 0 t).2.2 from rfl, hef] at h1; cases h1
    | some q =>
      rw [hf] at h
      obtain ⟨_, h2⟩ := Bool.and_eq_true_iff.1 h
      have h3 : q.f0 = L ∧ q.f1 = e := of_decide_eq_true h2
      have h4 := (find_first (all_sorted ht) hf).2.1
      rw [← h3.1, ← h3.2]
      exact h4
  · intro h
    cases hf : (allM o t).find? (fun q => decide (0 ≤ ordM q.f0 q.f1 L e)) with
    | none =>
      have := List.find?_eq_none.1 hf _ h
      exact absurd ((geB_iff L e ⟨L, e⟩).2 (.inr ⟨rfl, Int.le_refl _⟩)) this
    | some q =>
      obtain ⟨q1, q2, q3⟩ := find_first (all_sorted ht) hf
      have hq := (geB_iff L e q).1 q1
      rcases q3 _ h ((geB_iff L e ⟨L, e⟩).2 (.inr ⟨rfl, Int.le_refl _⟩)) with h | h
      · rw [← h]; simp [pickM]
      · unfold ltP at h; simp only at h; omega
theorem has_bd {o : Int} {t : List Ld} (ht : RisingP t) (hs : ∀ x ∈ t, 0 ≤ szM x o ∧ szM x o ≤ 100) {L e : Int} (he : 0 ≤ e) (h : hasM o L e t = true) : e < 100 := by
  obtain ⟨x, hx, h1, h2, h3⟩ := all_mem ((has_mem ht hs he).1 h)
  have := hs x hx
  have h3 : e < szM x o := h3
  omega

end Go.Proofs.Ytinfnpbglapjhaa.AM

/- The example of chapter 14 is as it should be. -/
namespace Go.Proofs.Ytinfnpbglapjhaa.AM
set_option maxRecDepth 100000
set_option linter.unusedVariables false
set_option linter.unusedSimpArgs false

def tabL : TabL := [(9, ac9, rs9, 0), (13, ac13, rs13, 4), (18, ac18, rs18, 2), (20, ac20, rs20, 2), (22, ac22, rs22, 3), (35, ac35, rs35, 3), (36, ac36, rs36, 2), (45, ac45, rs45, 2), (46, ac46, rs46, 2), (48, ac48, rs48, 1), (49, ac49, rs49, 2), (51, ac51, rs51, 3), (52, ac52, rs52, 2), (67, ac67, rs67, 2), (68, ac68, rs68, 1), (69, ac69, rs69, 2), (72, ac72, rs72, 2), (73, ac73, rs73, 1), (74, ac74, rs74, 2), (75, ac75, rs75, 2), (85, ac85, rs85, 1), (86, ac86, rs86, 3), (87, ac87, rs87, 2), (90, ac90, rs90, 2)]
theorem tabOk : TabOk Try.prog (look tabL) := by
  unfold tabL
  refine tab_cons ?_ (fun a w => Try.call9 a w) Try.func9 cf9 (by decide)
  refine tab_cons ?_ (fun a w => Try.call13 a w) Try.func13 cf13 (by decide)
  refine tab_cons ?_ (fun a w => Try.call18 a w) Try.func18 cf18 (by decide)
  refine tab_cons ?_ (fun a w => Try.call20 a w) Try.func20 cf20 (by decide)
  refine tab_cons ?_ (fun a w => Try.call22 a w) Try.func22 cf22 (by decide)
  refine tab_cons ?_ (fun a w => Try.call35 a w) Try.func35 cf35 (by decide)
  refine tab_cons ?_ (fun a w => Try.call36 a w) Try.func36 cf36 (by decide)
  refine tab_cons ?_ (fun a w => Try.call45 a w) Try.func45 cf45 (by decide)
  refine tab_cons ?_ (fun a w => Try.call46 a w) Try.func46 cf46 (by decide)
  refine tab_cons ?_ (fun a w => Try.call48 a w) Try.func48 cf48 (by decide)
  refine tab_cons ?_ (fun a w => Try.call49 a w) Try.func49 cf49 (by decide)
  refine tab_cons ?_ (fun a w => Try.call51 a w) Try.func51 cf51 (by decide)
  refine tab_cons ?_ (fun a w => Try.call52 a w) Try.func52 cf52 (by decide)
  refine tab_cons ?_ (fun a w => Try.call67 a w) Try.func67 cf67 (by decide)
  refine tab_cons ?_ (fun a w => Try.call68 a w) Try.func68 cf68 (by decide)
  refine tab_cons ?_ (fun a w => Try.call69 a w) Try.func69 cf69 (by decide)
  refine tab_cons ?_ (fun a w => Try.call72 a w) Try.func72 cf72 (by decide)
  refine tab_cons ?_ (fun a w => Try.call73 a w) Try.func73 cf73 (by decide)
  refine tab_cons ?_ (fun a w => Try.call74 a w) Try.func74 cf74 (by decide)
  refine tab_cons ?_ (fun a w => Try.call75 a w) Try.func75 cf75 (by decide)
  refine tab_cons ?_ (fun a w => Try.call85 a w) Try.func85 cf85 (by decide)
  refine tab_cons ?_ (fun a w => Try.call86 a w) Try.func86 cf86 (by decide)
  refine tab_cons ?_ (fun a w => Try.call87 a w) Try.func87 cf87 (by decide)
  refine tab_cons ?_ (fun a w => Try.call90 a w) Try.func90 cf90 (by decide)
  exact tab_nil hmx

def runOk (x : Option (AVal × St)) : Bool := match x with
  | some (.bool true, _) => true
  | _ => false
theorem awake_run : runOk (callT (look tabL) 300 20 9 [] σ0) = true := by kernel_rfl
theorem awake (σ : St) (Q : AVal → St → Prop) (hq : Q (.bool true) σ) : ACall Try.prog 9 [] σ Q := by
  refine ACall.frame ?_ rfl
  have h := awake_run
  unfold runOk at h
  split at h
  · rename_i σ hs; exact ACall.of_run tabOk 300 20 hs ⟨rfl, hq⟩
  · cases h
end Go.Proofs.Ytinfnpbglapjhaa.AM

/- What an ack comes to. -/
namespace Go.Proofs.Ytinfnpbglapjhaa.AM
set_option maxRecDepth 100000
set_option linter.unusedVariables false
set_option linter.unusedSimpArgs false

def Mk' (t : List Ld) (o : Int) : Prop := t.length ≤ 13 ∧ RisingP t ∧ ∀ x ∈ t, 0 ≤ szM x o ∧ szM x o ≤ 5
theorem mk_mk' {t : List Ld} (hm : Mk t) {o : Int} (ho : 0 ≤ o ∧ o ≤ 5) : Mk' t o := ⟨hm.1, hm.2.1, fun x hx => by
  have := hm.2.2 x hx
  unfold szM
  split <;> omega⟩
theorem Mk'.s {t : List Ld} {o : Int} (h : Mk' t o) : ∀ x ∈ t, 0 ≤ szM x o ∧ szM x o ≤ 100 := fun x hx => by have := h.2.2 x hx; omega
theorem cok_hwn {ml me : Int} {h : List Hd} (hC : COk ml me h) (h7 : h.length ≤ 7) (h14 : ∀ x ∈ h, x.f1.length ≤ 14) : HWn 14 h := ⟨by omega, fun x hx => ⟨(hok_mem hC.1 x hx).2.1, h14 x hx⟩⟩
theorem rem0_len {hi : Int} : ∀ {l : List S25}, (∀ x ∈ l, 0 ≤ x.f0) → (remM 0 hi l).length ≤ l.length
  | [], _ => by simp [remM]
  | x :: t, h => by
    have i1 := rem0_len (hi := hi) (l := t) fun y hy => h y (List.mem_cons_of_mem _ hy)
    have hx := h x List.mem_cons_self
    have i2 : (pieceM 0 hi x).length ≤ 1 := by
      unfold pieceM
      split
      · simp
      · rw [if_neg (by omega)]
        split <;> simp
    simp only [remM, List.length_append, List.length_cons]
    omega
theorem keep_mem {pl pe : Int} : ∀ {h : List Hd} {z : Hd}, z ∈ keepH pl pe h → ∃ x ∈ h, z.f0 = x.f0 ∧ (z = x ∨ (x.f0 = pl ∧ z.f1 = remM 0 pe x.f1)) ∧ z.f1 ≠ [] ∧ ¬ z.f0 < pl
  | [], _, hz => by simp [keepH] at hz
  | x :: t, z, hz => by
    simp only [keepH] at hz
    rcases List.mem_append.1 hz with hz | hz
    · split at hz
      · cases hz
      · split at hz
        · split at hz
          · cases hz
          · rw [List.mem_singleton.1 hz]
            exact ⟨x, List.mem_cons_self, rfl, .inr ⟨by assumption, rfl⟩, by assumption, by assumption⟩
        · split at hz
          · cases hz
          · rw [List.mem_singleton.1 hz]
            exact ⟨x, List.mem_cons_self, rfl, .inl rfl, by assumption, by assumption⟩
    · obtain ⟨y, hy, h⟩ := keep_mem hz
      exact ⟨y, List.mem_cons_of_mem _ hy, h⟩
theorem keep_len {pl pe : Int} : ∀ (h : List Hd), (keepH pl pe h).length ≤ h.length
  | [] => by simp [keepH]
  | x :: t => by
    have := keep_len (pl := pl) (pe := pe) t
    simp only [keepH, List.length_append, List.length_cons]
    split
    · simp; omega
    · split <;> split <;> simp <;> omega
theorem HWn.keep {n : Nat} {h : List Hd} (hw : HWn n h) {pl pe : Int} (hpe : 0 ≤ pe) : HWn n (keepH pl pe h) := by
  refine ⟨by have := keep_len (pl := pl) (pe := pe) h; have := hw.1; omega, fun z hz => ?_⟩
  obtain ⟨x, hx, _, h1, _⟩ := keep_mem hz
  obtain ⟨h2, h3⟩ := hw.2 x hx
  rcases h1 with rfl | ⟨_, h1⟩
  · exact ⟨h2, h3⟩
  · have := rem0_len (hi := pe) (l := x.f1) fun y hy => (good_mem h2 y hy).1
    rw [h1]
    exact ⟨(remM_good h2).1, by omega⟩
theorem mv_pos {o : Int} {t : List Ld} (hm : Mk' t o) {n : Nat} {h : List Hd} (hw : HWn n h) {a b x y : Int} (m : Mv o t h a b x y) (hb : 0 ≤ b) : 0 ≤ y := by
  induction m with
  | done => exact hb
  | step a b c d x y h1 h2 _ ih =>
    have g := (gap_spec (ofM c h) (-1) d (hw.of c).1.1).2.1
    have : 0 ≤ d := by
      rw [next_find hb t 0 0 hm.s] at h1
      cases hf : (allM o t).find? (fun q => decide (0 ≤ ordM q.f0 q.f1 a b)) with
      | none =>
        rw [hf] at h1
        have := end_false (o := o) t 0 0
        rw [show (pickM none (endM o 0 0 t)) = endM o 0 0 t from rfl] at h1
        rw [h1] at this; cases this
      | some q =>
        rw [hf] at h1
        have h3 : (q.f0, q.f1, true) = (c, d, true) := h1
        obtain ⟨_, h4⟩ := Prod.mk.inj h3
        obtain ⟨h5, _⟩ := Prod.mk.inj h4
        obtain ⟨_, q2, _⟩ := find_first (all_sorted hm.2.1) hf
        obtain ⟨_, _, _, e2, _⟩ := all_mem q2
        omega
    exact ih (by omega)

/-- What an ack of a place says, and what is held behind it. -/
def AckRes (o : Int) (t : List Ld) (ml me : Int) (h : List Hd) (L e : Int) (code x y : Int) (H : List Hd) : Prop :=
  (hasM o L e t = false ∧ code = 30 ∧ x = 0 ∧ y = 0 ∧ H = []) ∨ (hasM o L e t = true ∧ ackB ml me h ⟨L, e⟩ = true ∧ code = 31 ∧ x = 0 ∧ y = 0 ∧ H = []) ∨
  (hasM o L e t = true ∧ ackB ml me h ⟨L, e⟩ = false ∧ code = 0 ∧ Mv o t (putM' L e false h) ml me x y ∧ H = keepH x y (putM' L e false h))
theorem AckRes.uniq {o : Int} {t : List Ld} {ml me : Int} {h : List Hd} {L e c x y c' x' y' : Int} {H H' : List Hd} (r : AckRes o t ml me h L e c x y H) (s : AckRes o t ml me h L e c' x' y' H') : c = c' ∧ x = x' ∧ y = y' ∧ H = H' := by
  rcases r with ⟨r1, r2, r3, r4, r5⟩ | ⟨r1, r2, r3, r4, r5, r6⟩ | ⟨r1, r2, r3, r4, r5⟩ <;> rcases s with ⟨s1, s2, s3, s4, s5⟩ | ⟨s1, s2, s3, s4, s5, s6⟩ | ⟨s1, s2, s3, s4, s5⟩
  · exact ⟨by omega, by omega, by omega, by rw [r5, s5]⟩
  · rw [r1] at s1; cases s1
  · rw [r1] at s1; cases s1
  · rw [r1] at s1; cases s1
  · exact ⟨by omega, by omega, by omega, by rw [r6, s6]⟩
  · rw [r2] at s2; cases s2
  · rw [r1] at s1; cases s1
  · rw [r2] at s2; cases s2
  · obtain ⟨rfl, rfl⟩ := r4.uniq s4
    exact ⟨by omega, rfl, rfl, by rw [r5, s5]⟩
theorem AckRes.hw {o : Int} {t : List Ld} (hm : Mk' t o) {ml me : Int} (hme : 0 ≤ me) {n : Nat} {h : List Hd} (hw : HWn n h) {L e c x y : Int} (he : 0 ≤ e) {H : List Hd} (r : AckRes o t ml me h L e c x y H) : HWn (n + 1) H ∧ 0 ≤ y := by
  rcases r with ⟨r1, r2, r3, r4, r5⟩ | ⟨r1, r2, r3, r4, r5, r6⟩ | ⟨r1, r2, r3, r4, r5⟩
  · rw [r5]; exact ⟨⟨by simp, fun x hx => absurd hx List.not_mem_nil⟩, by omega⟩
  · rw [r6]; exact ⟨⟨by simp, fun x hx => absurd hx List.not_mem_nil⟩, by omega⟩
  · have hb := has_bd hm.2.1 hm.s he r1
    have hp := hw.put (L := L) (e := e) ⟨he, by omega⟩
    have hy := mv_pos hm hp r4 hme
    rw [r5]; exact ⟨hp.keep hy, hy⟩
def AllRes (o : Int) (t : List Ld) (ml me : Int) (h : List Hd) (L e : Int) (code x y : Int) (H : List Hd) : Prop :=
  (hasM o L e t = false ∧ code = 30 ∧ x = 0 ∧ y = 0 ∧ H = []) ∨ (hasM o L e t = true ∧ ordM L e ml me < 0 ∧ code = 31 ∧ x = 0 ∧ y = 0 ∧ H = []) ∨
  (hasM o L e t = true ∧ ¬ ordM L e ml me < 0 ∧ code = 0 ∧ Mv o t h L (e + 1) x y ∧ H = keepH x y h)
theorem AllRes.uniq {o : Int} {t : List Ld} {ml me : Int} {h : List Hd} {L e c x y c' x' y' : Int} {H H' : List Hd} (r : AllRes o t ml me h L e c x y H) (s : AllRes o t ml me h L e c' x' y' H') : c = c' ∧ x = x' ∧ y = y' ∧ H = H' := by
  rcases r with ⟨r1, r2, r3, r4, r5⟩ | ⟨r1, r2, r3, r4, r5, r6⟩ | ⟨r1, r2, r3, r4, r5⟩ <;> rcases s with ⟨s1, s2, s3, s4, s5⟩ | ⟨s1, s2, s3, s4, s5, s6⟩ | ⟨s1, s2, s3, s4, s5⟩
  · exact ⟨by omega, by omega, by omega, by rw [r5, s5]⟩
  · rw [r1] at s1; cases s1
  · rw [r1] at s1; cases s1
  · rw [r1] at s1; cases s1
  · exact ⟨by omega, by omega, by omega, by rw [r6, s6]⟩
  · exact absurd r2 s2
  · rw [r1] at s1; cases s1
  · exact absurd s2 r2
  · obtain ⟨rfl, rfl⟩ := r4.uniq s4
    exact ⟨by omega, rfl, rfl, by rw [r5, s5]⟩
theorem AllRes.hw {o : Int} {t : List Ld} (hm : Mk' t o) {ml me : Int} {n : Nat} {h : List Hd} (hw : HWn n h) {L e c x y : Int} (he : 0 ≤ e) {H : List Hd} (r : AllRes o t ml me h L e c x y H) : HWn n H ∧ 0 ≤ y := by
  rcases r with ⟨r1, r2, r3, r4, r5⟩ | ⟨r1, r2, r3, r4, r5, r6⟩ | ⟨r1, r2, r3, r4, r5⟩
  · rw [r5]; exact ⟨⟨by simp, fun x hx => absurd hx List.not_mem_nil⟩, by omega⟩
  · rw [r6]; exact ⟨⟨by simp, fun x hx => absurd hx List.not_mem_nil⟩, by omega⟩
  · have hy := mv_pos hm hw r4 (by omega)
    rw [r5]; exact ⟨hw.keep hy, hy⟩
section
variable {lv hv : AVal} {t : List Ld} {h : List Hd} {o : Int} {n : Nat}
theorem ack_r (hlv : LdI lv t) (hm : Mk' t o) (hh : HI hv h) (hn : n < 400) (hw : HWn n h) (ml me L e : Int) (hme : 0 ≤ me) (he : 0 ≤ e ∧ e ≤ 18446744073709551615) (σ : St) (Q : AVal → St → Prop)
    (hq : ∀ c x y v H, AckRes o t ml me h L e c x y H → HI v H → Q (.tup [cv x y v, i64 c]) σ) : ACall Try.prog 13 [lv, u64 o, cv ml me hv, ps L e] σ Q :=
  ack_c hlv hm.1 hm.s hm.2.1 hh (by omega) hw ml me L e hme he (fun h => by have := has_bd hm.2.1 hm.s he.1 h; omega) σ Q
    (fun h0 => hq _ _ _ _ [] (.inl ⟨h0, rfl, rfl, rfl, rfl⟩) (.inl ⟨rfl, rfl⟩)) (fun h0 h1 => hq _ _ _ _ [] (.inr (.inl ⟨h0, h1, rfl, rfl, rfl, rfl⟩)) (.inl ⟨rfl, rfl⟩))
    (fun h0 h1 pl pe hv' m hv => hq _ _ _ _ _ (.inr (.inr ⟨h0, h1, rfl, m, rfl⟩)) hv)
theorem rack_r (hlv : LdI lv t) (hm : Mk' t o) (hh : HI hv h) (hn : n < 400) (hw : HWn n h) {b : Int} (hok : HOk b h) (ml me L e : Int) (hbL : b < L) (hme : 0 ≤ me) (he : 0 ≤ e ∧ e ≤ 18446744073709551615) (σ : St) (Q : AVal → St → Prop)
    (hq : ∀ c x y v H, AckRes o t ml me h L e c x y H → HI v H → Q (.tup [cv x y v, i64 c]) σ) : ACall Try.prog 14 [lv, u64 o, cv ml me hv, ps L e] σ Q :=
  rack14_c hlv hm.1 hm.s hm.2.1 hh hn hw ml me L e hme he (fun h => by have := has_bd hm.2.1 hm.s he.1 h; omega) σ Q
    (fun h0 => hq _ _ _ _ [] (.inl ⟨h0, rfl, rfl, rfl, rfl⟩) (.inl ⟨rfl, rfl⟩)) (fun h0 h1 => hq _ _ _ _ [] (.inr (.inl ⟨h0, h1, rfl, rfl, rfl, rfl⟩)) (.inl ⟨rfl, rfl⟩))
    (fun h0 h1 pl pe hv' H0 hH m hv => by
      have he' : 0 ≤ e ∧ e < 18446744073709551615 := ⟨he.1, by have := has_bd hm.2.1 hm.s he.1 h0; omega⟩
      have e1 := hold_put (L := L) he' h b hok
      rw [← hH] at e1
      rw [e1] at m hv
      have hp := put_hok (L := L) he' h b hok hbL
      rw [rt_eq (mv_pos hm (hw.put he') m hme) hp] at hv
      exact hq _ _ _ _ _ (.inr (.inr ⟨h0, h1, rfl, m, rfl⟩)) hv)
theorem ackall_r (hlv : LdI lv t) (hm : Mk' t o) (hh : HI hv h) (hn : n < 400) (hw : HWn n h) (ml me L e : Int) (he : 0 ≤ e ∧ e ≤ 18446744073709551615) (σ : St) (Q : AVal → St → Prop)
    (hq : ∀ c x y v H, AllRes o t ml me h L e c x y H → HI v H → Q (.tup [cv x y v, i64 c]) σ) : ACall Try.prog 16 [lv, u64 o, cv ml me hv, ps L e] σ Q :=
  ackall_c hlv hm.1 hm.s hm.2.1 hh (by omega) hw ml me L e he (fun h => by have := has_bd hm.2.1 hm.s he.1 h; omega) σ Q
    (fun h0 => hq _ _ _ _ [] (.inl ⟨h0, rfl, rfl, rfl, rfl⟩) (.inl ⟨rfl, rfl⟩)) (fun h0 h1 => hq _ _ _ _ [] (.inr (.inl ⟨h0, h1, rfl, rfl, rfl, rfl⟩)) (.inl ⟨rfl, rfl⟩))
    (fun h0 h1 pl pe hv' m hv => hq _ _ _ _ _ (.inr (.inr ⟨h0, h1, rfl, m, rfl⟩)) hv)
theorem rackall_r (hlv : LdI lv t) (hm : Mk' t o) (hh : HI hv h) (hn : n < 400) (hw : HWn n h) {b : Int} (hok : HOk b h) (ml me L e : Int) (he : 0 ≤ e ∧ e ≤ 18446744073709551615) (σ : St) (Q : AVal → St → Prop)
    (hq : ∀ c x y v H, AllRes o t ml me h L e c x y H → HI v H → Q (.tup [cv x y v, i64 c]) σ) : ACall Try.prog 17 [lv, u64 o, cv ml me hv, ps L e] σ Q :=
  rackall_c hlv hm.1 hm.s hm.2.1 hh (by omega) hw ml me L e he (fun h => by have := has_bd hm.2.1 hm.s he.1 h; omega) σ Q
    (fun h0 => hq _ _ _ _ [] (.inl ⟨h0, rfl, rfl, rfl, rfl⟩) (.inl ⟨rfl, rfl⟩)) (fun h0 h1 => hq _ _ _ _ [] (.inr (.inl ⟨h0, h1, rfl, rfl, rfl, rfl⟩)) (.inl ⟨rfl, rfl⟩))
    (fun h0 h1 pl pe hv' m hv => by
      rw [rt_eq (mv_pos hm hw m (by omega)) hok] at hv
      exact hq _ _ _ _ _ (.inr (.inr ⟨h0, h1, rfl, m, rfl⟩)) hv)
end

end Go.Proofs.Ytinfnpbglapjhaa.AM

/- The law of acks. -/
namespace Go.Proofs.Ytinfnpbglapjhaa.AM
set_option maxRecDepth 100000
set_option linter.unusedVariables false
set_option linter.unusedSimpArgs false

set_option maxHeartbeats 2000000 in
theorem acks_c {d hv : AVal} {l : List UInt8} {h : List Hd} (hb : BytesOf d l) (hl : l.length ≤ 9223372036854775806) (op : Bool) (n : Nat) (hn : n < 256) (hh : HI hv h) (ha : HArg h) (a b p q : Int) (hab : (0 ≤ a ∧ a ≤ 18446744073709551615) ∧ 0 ≤ b ∧ b ≤ 18446744073709551615) (hpq : (0 ≤ p ∧ p ≤ 18446744073709551615) ∧ 0 ≤ q ∧ q ≤ 18446744073709551615) (raw : Bool) :
    ACall Try.prog 3 [d, .bool op, .int .u8 n, cv a b hv, ps p q, .bool raw] σ0 fun v _ => v = .bool true := by
  refine ACall.of_compF hmx (fun a w => Try.call3 a w) Try.func3 cf3 (n := 6) (by decide) rfl ?_
  have k1 := hh.one.1
  have k2 := hh.one.2
  simp only [ac3, rs3]
  simp [lk_cons, k1, k2]
  refine awake _ _ ?_
  simp [lk_cons, k1, k2]
  refine made_c hb hl op _ _ fun lv t hlv hmk => ?_
  have e6 : Int.tmod (n : Int) 6 = (n : Int) % 6 := Int.tmod_eq_emod_of_nonneg (by omega)
  have e7 : IntKind.u64.wrap ((n : Int) % 6) = (n : Int) % 6 := by rw [IntWalk.u64_in]; omega
  simp [lk_cons, k1, k2, e6, e7]
  refine right14_c hh ha a b raw hab _ _ fun ml me cv1 H hml hme hH hC h7 h14 => ?_
  have c1 := hH.one.1
  have c2 := hH.one.2
  simp [lk_cons, k1, k2]
  refine place_c p q raw hpq.1 hpq.2 _ _ fun L e hL he _ => ?_
  have ho : 0 ≤ (n : Int) % 6 ∧ (n : Int) % 6 ≤ 5 := by omega
  obtain ⟨o, hoo⟩ : ∃ o : Int, (n : Int) % 6 = o := ⟨_, rfl⟩
  rw [hoo] at ho ⊢
  have hm := mk_mk' hmk ho
  have hw := cok_hwn hC h7 h14
  simp [lk_cons, k1, k2, c1, c2, storeL]
  refine ack_r hlv hm hH (by omega) hw ml me L e hme.1 he _ _ fun co x y v1 H1 ra hv1 => ?_
  have d1 := hv1.one.1
  have d2 := hv1.one.2
  simp [lk_cons, c1, c2, d1, d2, storeL]
  refine rack_r hlv hm hH (by omega) hw hC.1 ml me L e (by omega) hme.1 he _ _ fun co' x' y' v2 H2 rb hv2 => ?_
  obtain ⟨rfl, rfl, rfl, rfl⟩ := ra.uniq rb
  have hw1 := (ra.hw hm hme.1 hw he.1).1
  have f1 := hv2.one.1
  have f2 := hv2.one.2
  simp [lk_cons, c1, c2, d1, d2, f1, f2, storeL]
  refine csame_c hv1 hv2 (hw1.hw (by omega)) x y _ _ ?_
  simp [lk_cons, c1, c2, d1, d2, f1, f2, storeL]
  refine ackall_r hlv hm hH (by omega) hw ml me L e he _ _ fun co2 x2 y2 v3 H3 rc hv3 => ?_
  have g1 := hv3.one.1
  have g2 := hv3.one.2
  simp [lk_cons, c1, c2, d1, d2, f1, f2, g1, g2, storeL]
  refine rackall_r hlv hm hH (by omega) hw hC.1 ml me L e he _ _ fun co3 x3 y3 v4 H4 rd hv4 => ?_
  obtain ⟨rfl, rfl, rfl, rfl⟩ := rc.uniq rd
  have hw2 := (rc.hw hm hw he.1).1
  have i1 := hv4.one.1
  have i2 := hv4.one.2
  simp [lk_cons, c1, c2, d1, d2, f1, f2, g1, g2, i1, i2, storeL]
  refine csame_c hv3 hv4 (hw2.hw (by omega)) x2 y2 _ _ ?_
  simp [lk_cons, c1, c2, d1, d2, f1, f2, g1, g2, i1, i2, storeL]
  refine acked_c hH (hw.hw (by omega)) ml me L e _ _ ?_
  simp [lk_cons, c1, c2, d1, d2, f1, f2, g1, g2, i1, i2, storeL]
  refine racked_c hH (hw.hw (by omega)) ml me L e _ _ ?_
  simp [lk_cons, c1, c2, d1, d2, f1, f2, g1, g2, i1, i2, storeL]

/-! ### What is given -/
theorem b_arg {ok : List AVal → Prop} {v : AVal} (hok : ∀ x, ok x → ∃ n, x = [.int .u8 n] ∧ (Lit.int .u8 n).wf = true) (h : [v] = [.nilsl] ∨ ∃ xs : List (List AVal), [v] = [.isl xs.flatten xs.length false] ∧ (∀ x ∈ xs, x.length = 1 ∧ ok x) ∧ xs.length ≤ 9223372036854775807 ∧ xs.length * 1 ≤ 140737488351232) :
    ∃ l : List UInt8, BytesOf v l ∧ l.length ≤ 9223372036854775806 := by
  rcases h with h | ⟨xs, h, hx, _, hl⟩
  · cases h; exact ⟨[], .inl ⟨rfl, rfl⟩, by simp⟩
  · cases h
    have : ∀ xs : List (List AVal), (∀ x ∈ xs, x.length = 1 ∧ ok x) → ∃ l : List UInt8, xs.flatten = bytesV l ∧ l.length = xs.length := by
      intro xs
      induction xs with
      | nil => intro _; exact ⟨[], rfl, rfl⟩
      | cons x xs ih =>
        intro h
        obtain ⟨l, h1, h2⟩ := ih (fun y hy => h y (by simp [hy]))
        obtain ⟨n, rfl, hw⟩ := hok x (h x (by simp)).2
        obtain ⟨k, rfl, hk⟩ := wf_u8 hw
        refine ⟨UInt8.ofNat k :: l, ?_, by simp [h2]⟩
        have : (UInt8.ofNat k).toNat = k := by simp; omega
        simp [bytesV, h1, this]
    obtain ⟨l, h1, h2⟩ := this xs hx
    exact ⟨l, .inr ⟨false, by rw [h1, h2]⟩, by omega⟩
def HdArg (x : List AVal) : Prop := ∃ a b, x = a ++ b ∧ (∃ n, a = [.int .u64 n] ∧ (Lit.int .u64 n).wf = true) ∧ (b = [.nilsl] ∨ ∃ xs : List (List AVal), b = [.isl xs.flatten xs.length false] ∧ (∀ x ∈ xs, x.length = 2 ∧ RgArg x) ∧ xs.length ≤ 9223372036854775807 ∧ xs.length * 16 ≤ 140737488351232)
theorem hdCells : ∀ xs : List (List AVal), (∀ x ∈ xs, x.length = 2 ∧ HdArg x) → ∃ h : List Hd, HC xs.flatten h ∧ h.length = xs.length ∧ ∀ x ∈ h, (0 ≤ x.f0 ∧ x.f0 ≤ 18446744073709551615) ∧ Bnd x.f1 ∧ x.f1.length ≤ 9223372036854775806
  | [], _ => ⟨[], trivial, rfl, by simp⟩
  | x :: xs, h => by
    obtain ⟨t, h1, h2, h3⟩ := hdCells xs fun y hy => h y (by simp [hy])
    obtain ⟨_, a, b, rfl, ⟨n, rfl, hn⟩, hb⟩ := h x (by simp)
    have hn' := u64_of hn
    rcases hb with rfl | ⟨ys, rfl, hys, _, hyl⟩
    · exact ⟨⟨n, []⟩ :: t, ⟨rfl, .inl ⟨rfl, rfl⟩, h1⟩, by simp [h2], fun y hy => by
        rcases List.mem_cons.1 hy with rfl | hy
        · exact ⟨hn', fun z hz => absurd hz List.not_mem_nil, by simp⟩
        · exact h3 y hy⟩
    · obtain ⟨l, e1, e2, e3⟩ := rgCells ys hys
      exact ⟨⟨n, l⟩ :: t, ⟨rfl, .inr ⟨false, by rw [e1, e2]⟩, h1⟩, by simp [h2], fun y hy => by
        rcases List.mem_cons.1 hy with rfl | hy
        · exact ⟨hn', e3, by show l.length ≤ _; omega⟩
        · exact h3 y hy⟩
theorem h_arg {v : AVal} (h : [v] = [.nilsl] ∨ ∃ xs : List (List AVal), [v] = [.isl xs.flatten xs.length false] ∧ (∀ x ∈ xs, x.length = 2 ∧ HdArg x) ∧ xs.length ≤ 9223372036854775807 ∧ xs.length * 32 ≤ 140737488351232) : ∃ h : List Hd, HI v h ∧ HArg h := by
  rcases h with h | ⟨xs, h, hx, _, hl⟩
  · cases h; exact ⟨[], .inl ⟨rfl, rfl⟩, by simp, by simp⟩
  · cases h
    obtain ⟨h, h1, h2, h3⟩ := hdCells xs hx
    exact ⟨h, .inr ⟨_, false, by rw [h2], h1⟩, by omega, h3⟩
def PsArg (x : List AVal) : Prop := ∃ a b, x = a ++ b ∧ (∃ n, a = [.int .u64 n] ∧ (Lit.int .u64 n).wf = true) ∧ (∃ n, b = [.int .u64 n] ∧ (Lit.int .u64 n).wf = true)
theorem p_arg {x : List AVal} (h : PsArg x) : ∃ p q : Int, x = [u64 p, u64 q] ∧ (0 ≤ p ∧ p ≤ 18446744073709551615) ∧ 0 ≤ q ∧ q ≤ 18446744073709551615 := by
  obtain ⟨_, _, rfl, ⟨p, rfl, hp⟩, ⟨q, rfl, hq⟩⟩ := h
  exact ⟨p, q, rfl, u64_of hp, u64_of hq⟩

end Go.Proofs.Ytinfnpbglapjhaa.AM
