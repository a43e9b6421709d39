-- Written by a program of this session's; its pattern is the kit's print.
import Derived.Test.YtmbealldhndeoaaYLedgersPlaces0
import Derived.Test.YtmbealldhndeoaaYLedgersPlaces2
namespace Go.Proofs.Ytmbealldhndeoaa.PLedgersPlaces
open Go.RowKit Go.Proofs.YtmbealldhndeoaaW.PrintWords Go.Proofs.YtmbealldhndeoaaW.PrintWords.Kd Go.Proofs.YtmbealldhndeoaaW.PrintLast Go.Proofs.YtmbealldhndeoaaW.PrintMore
attribute [local go_sem] max2_int min2_int max_two min_two max_three min_three max_four min_four   -- for this text's walks alone
set_option linter.unusedVariables false
set_option linter.unusedSimpArgs false

attribute [local go_sem high] eqA36
/-! ### mailcoachlaw13_Place: function 23 -/
def mailcoachlaw13_Place.f (a0_0 : Int) (a0_1 : Int) (a1 : Bool) : Option (Int × Int) := if a1 = true then (some (a0_0, a0_1)) else (some (Int.tmod a0_0 16, Int.tmod a0_1 8))
set_option maxHeartbeats 8000000 in
set_option maxRecDepth 100000 in
theorem mailcoachlaw13_Place.calls (a0_0 : Int) (a0_1 : Int) (a1 : Bool) (r1 : Int) (r2 : Int) (w : World) (h : mailcoachlaw13_Place.f a0_0 a0_1 a1 = some (r1, r2)) :
    Calls Try.prog 23 #[.agg #[.int .u64 a0_0, .int .u64 a0_1], .bool a1] w fun e w' => e = .returned (.agg #[.int .u64 r1, .int .u64 r2]) ∧ Below w.heap.size w w' := by
 have hu36 := Try.underlying36
 have HB := am (Below.refl w.heap.size w)
 have H : (if a1 = true then (some (a0_0, a0_1)) else (some (Int.tmod a0_0 16, Int.tmod a0_1 8))) = some (r1, r2) := h
 clear h
 by_cases c3 : a1 = true
 ·
  subst c3
  have H1 : (some (a0_0, a0_1)) = some (r1, r2) := by rw [if_pos rfl] at H; exact H
  clear H
  have H := H1
  clear H1
  simp only [Option.some.injEq, Prod.mk.injEq] at H
  obtain ⟨rfl, rfl⟩ := H
  go_enter Try.func23, Try.ntmps23
  go_wp2_with (first | ((with_reducible refine gate_dst (N := 2) rfl ?_); refine box_event ?hg (N := 2) ?hd (cs := #[.int .u64 a0_0, .int .u64 a0_1]) (t := 36) ?hr ?_; (case hd => rfl); (case hg => rfl); (case hr => first | (go_simp; done) | (go_simp; rfl)); intro gb194 hg w4 hbox hb; have n0_ := am (below_step (by repeat (first | (with_reducible first | exact HB.out | apply below_alloc | apply pw_below_drewN | apply below_drew1) | exact HB.out)) hb); have n1_ := am (hbox); have n2_ := am ((by rw [hg]; exact (below_size (by repeat (first | (with_reducible first | exact HB.out | apply below_alloc | apply pw_below_drewN | apply below_drew1) | exact HB.out))) : w.heap.size ≤ gb194)); have n3_ := am ((by rw [hg]; exact (below_size (by repeat (first | (with_reducible first | exact HB.out | apply below_alloc | apply pw_below_drewN | apply below_drew1) | exact HB.out))) : w.heap.size ≤ gb194)); clear HB; have HB := n0_; have BK194 := n1_; have GW194 := n2_; have GE194 := n3_; clear n0_ n1_ n2_ n3_; clear hb hbox hg) | ((with_reducible refine gate_dst (N := 4) rfl ?_); refine box_event ?hg (N := 4) ?hd (cs := #[.int .u64 0, .int .u64 0]) (t := 36) ?hr ?_; (case hd => rfl); (case hg => rfl); (case hr => first | (go_simp; done) | (go_simp; rfl)); intro gb195 hg w5 hbox hb; have n0_ := am (blk_below (g := gb194) (o := .cells #[.int .u64 a0_0, .int .u64 a0_1] 36 (0, 0)) (by (with_reducible repeat (first | refine blk_drewN ?_ _ | refine blk_drew ?_ | refine blk_alloc ?_ _)); exact BK194.out) hb); have n1_ := am (below_step (by repeat (first | (with_reducible first | exact HB.out | apply below_alloc | apply pw_below_drewN | apply below_drew1 | refine below_set ?_ GE194.out) | exact HB.out)) hb); have n2_ := am (hbox); have n3_ := am ((by rw [hg]; exact (below_size (by repeat (first | (with_reducible first | exact HB.out | apply below_alloc | apply pw_below_drewN | apply below_drew1 | refine below_set ?_ GE194.out) | exact HB.out))) : w.heap.size ≤ gb195)); have n4_ := am ((by rw [hg]; exact (below_size (by repeat (first | (with_reducible first | exact HB.out | apply below_alloc | apply pw_below_drewN | apply below_drew1 | refine below_set ?_ GE194.out) | exact HB.out))) : w.heap.size ≤ gb195)); have n5_ := am ((by rw [hg]; exact Nat.ne_of_lt (blk_lt (g := gb194) (o := .cells #[.int .u64 a0_0, .int .u64 a0_1] 36 (0, 0)) (by (with_reducible repeat (first | refine blk_drewN ?_ _ | refine blk_drew ?_ | refine blk_alloc ?_ _)); exact BK194.out)) : gb194 ≠ gb195)); have n6_ := am ((by rw [hg]; exact Nat.ne_of_gt (blk_lt (g := gb194) (o := .cells #[.int .u64 a0_0, .int .u64 a0_1] 36 (0, 0)) (by (with_reducible repeat (first | refine blk_drewN ?_ _ | refine blk_drew ?_ | refine blk_alloc ?_ _)); exact BK194.out)) : gb195 ≠ gb194)); clear BK194; clear HB; have BK194 := n0_; have HB := n1_; have BK195 := n2_; have GW195 := n3_; have GE195 := n4_; have NB194_195 := n5_; have NB195_194 := n6_; clear n0_ n1_ n2_ n3_ n4_ n5_ n6_; clear hb hbox hg; have hnb6 := NB194_195.out; have hnc6 := NB195_194.out; have hcz7_0 : w5.cell? ⟨gb194, 0, none⟩ = some (.int .u64 a0_0) := (blk_cell BK194.out 0).trans rfl; have hcz7_1 : w5.cell? ⟨gb194, 1, none⟩ = some (.int .u64 a0_1) := (blk_cell BK194.out 1).trans rfl; have hfz7_0 := blk_frozen BK194.out 0; have hfz7_1 := blk_frozen BK194.out 1; have hcz8_0 : w5.cell? ⟨gb195, 0, none⟩ = some (.int .u64 0) := (blk_cell BK195.out 0).trans rfl; have hcz8_1 : w5.cell? ⟨gb195, 1, none⟩ = some (.int .u64 0) := (blk_cell BK195.out 1).trans rfl; have hfz8_0 := blk_frozen BK195.out 0; have hfz8_1 := blk_frozen BK195.out 1))
  refine bodyPost_ret (results_cell_row rfl _ _ gb195 36 #[.int .u64 a0_0, .int .u64 a0_1] (0, 0) _ rfl (by (with_reducible repeat (first | refine blk_drewN ?_ _ | refine blk_drew ?_ | refine blk_alloc ?_ _)); refine blk_put (cs := #[.int .u64 a0_0, .int .u64 0]) ?_ 1 _ rfl; (with_reducible repeat (first | refine blk_drewN ?_ _ | refine blk_drew ?_ | refine blk_alloc ?_ _)); refine blk_put (cs := #[.int .u64 0, .int .u64 0]) ?_ 0 _ rfl; (with_reducible repeat (first | refine blk_drewN ?_ _ | refine blk_drew ?_ | refine blk_alloc ?_ _)); exact BK195.out) Try.underlying36 rfl (by kernel_rfl)) rfl ?_
  exact ⟨by first | rfl | (simp [errW_none, errW_some] <;> rfl) | (simp [*, errW_none, errW_some] <;> rfl), by repeat (first | (with_reducible first | exact HB.out | apply below_alloc | apply pw_below_drewN | apply below_drew1 | refine below_set ?_ GE194.out | refine below_set ?_ GE195.out) | exact HB.out)⟩
 replace c3 := Bool.eq_false_iff.mpr c3
 subst c3
 have H1 : (some (Int.tmod a0_0 16, Int.tmod a0_1 8)) = some (r1, r2) := by rw [if_neg (show ¬ (false = true) by decide)] at H; exact H
 clear H
 have H := H1
 clear H1
 simp only [Option.some.injEq, Prod.mk.injEq] at H
 obtain ⟨rfl, rfl⟩ := H
 go_enter Try.func23, Try.ntmps23
 go_wp2_with (first | ((with_reducible refine gate_dst (N := 2) rfl ?_); refine box_event ?hg (N := 2) ?hd (cs := #[.int .u64 a0_0, .int .u64 a0_1]) (t := 36) ?hr ?_; (case hd => rfl); (case hg => rfl); (case hr => first | (go_simp; done) | (go_simp; rfl)); intro gb194 hg w9 hbox hb; have n0_ := am (below_step (by repeat (first | (with_reducible first | exact HB.out | apply below_alloc | apply pw_below_drewN | apply below_drew1) | exact HB.out)) hb); have n1_ := am (hbox); have n2_ := am ((by rw [hg]; exact (below_size (by repeat (first | (with_reducible first | exact HB.out | apply below_alloc | apply pw_below_drewN | apply below_drew1) | exact HB.out))) : w.heap.size ≤ gb194)); have n3_ := am ((by rw [hg]; exact (below_size (by repeat (first | (with_reducible first | exact HB.out | apply below_alloc | apply pw_below_drewN | apply below_drew1) | exact HB.out))) : w.heap.size ≤ gb194)); clear HB; have HB := n0_; have BK194 := n1_; have GW194 := n2_; have GE194 := n3_; clear n0_ n1_ n2_ n3_; clear hb hbox hg) | ((with_reducible refine gate_dst (N := 4) rfl ?_); refine box_event ?hg (N := 4) ?hd (cs := #[.int .u64 0, .int .u64 0]) (t := 36) ?hr ?_; (case hd => rfl); (case hg => rfl); (case hr => first | (go_simp; done) | (go_simp; rfl)); intro gb195 hg w10 hbox hb; have n0_ := am (blk_below (g := gb194) (o := .cells #[.int .u64 a0_0, .int .u64 a0_1] 36 (0, 0)) (by (with_reducible repeat (first | refine blk_drewN ?_ _ | refine blk_drew ?_ | refine blk_alloc ?_ _)); exact BK194.out) hb); have n1_ := am (below_step (by repeat (first | (with_reducible first | exact HB.out | apply below_alloc | apply pw_below_drewN | apply below_drew1 | refine below_set ?_ GE194.out) | exact HB.out)) hb); have n2_ := am (hbox); have n3_ := am ((by rw [hg]; exact (below_size (by repeat (first | (with_reducible first | exact HB.out | apply below_alloc | apply pw_below_drewN | apply below_drew1 | refine below_set ?_ GE194.out) | exact HB.out))) : w.heap.size ≤ gb195)); have n4_ := am ((by rw [hg]; exact (below_size (by repeat (first | (with_reducible first | exact HB.out | apply below_alloc | apply pw_below_drewN | apply below_drew1 | refine below_set ?_ GE194.out) | exact HB.out))) : w.heap.size ≤ gb195)); have n5_ := am ((by rw [hg]; exact Nat.ne_of_lt (blk_lt (g := gb194) (o := .cells #[.int .u64 a0_0, .int .u64 a0_1] 36 (0, 0)) (by (with_reducible repeat (first | refine blk_drewN ?_ _ | refine blk_drew ?_ | refine blk_alloc ?_ _)); exact BK194.out)) : gb194 ≠ gb195)); have n6_ := am ((by rw [hg]; exact Nat.ne_of_gt (blk_lt (g := gb194) (o := .cells #[.int .u64 a0_0, .int .u64 a0_1] 36 (0, 0)) (by (with_reducible repeat (first | refine blk_drewN ?_ _ | refine blk_drew ?_ | refine blk_alloc ?_ _)); exact BK194.out)) : gb195 ≠ gb194)); clear BK194; clear HB; have BK194 := n0_; have HB := n1_; have BK195 := n2_; have GW195 := n3_; have GE195 := n4_; have NB194_195 := n5_; have NB195_194 := n6_; clear n0_ n1_ n2_ n3_ n4_ n5_ n6_; clear hb hbox hg; have hnb11 := NB194_195.out; have hnc11 := NB195_194.out; have hcz12_0 : w10.cell? ⟨gb194, 0, none⟩ = some (.int .u64 a0_0) := (blk_cell BK194.out 0).trans rfl; have hcz12_1 : w10.cell? ⟨gb194, 1, none⟩ = some (.int .u64 a0_1) := (blk_cell BK194.out 1).trans rfl; have hfz12_0 := blk_frozen BK194.out 0; have hfz12_1 := blk_frozen BK194.out 1; have hcz13_0 : w10.cell? ⟨gb195, 0, none⟩ = some (.int .u64 0) := (blk_cell BK195.out 0).trans rfl; have hcz13_1 : w10.cell? ⟨gb195, 1, none⟩ = some (.int .u64 0) := (blk_cell BK195.out 1).trans rfl; have hfz13_0 := blk_frozen BK195.out 0; have hfz13_1 := blk_frozen BK195.out 1))
 refine bodyPost_ret (results_cell_row rfl _ _ gb195 36 #[.int .u64 (Int.tmod a0_0 16), .int .u64 (Int.tmod a0_1 8)] (0, 0) _ rfl (by (with_reducible repeat (first | refine blk_drewN ?_ _ | refine blk_drew ?_ | refine blk_alloc ?_ _)); refine blk_put (cs := #[.int .u64 (Int.tmod a0_0 16), .int .u64 0]) ?_ 1 _ rfl; (with_reducible repeat (first | refine blk_drewN ?_ _ | refine blk_drew ?_ | refine blk_alloc ?_ _)); refine blk_put (cs := #[.int .u64 0, .int .u64 0]) ?_ 0 _ rfl; (with_reducible repeat (first | refine blk_drewN ?_ _ | refine blk_drew ?_ | refine blk_alloc ?_ _)); exact BK195.out) Try.underlying36 rfl (by kernel_rfl)) rfl ?_
 exact ⟨by first | rfl | (simp [errW_none, errW_some] <;> rfl) | (simp [*, errW_none, errW_some] <;> rfl), by repeat (first | (with_reducible first | exact HB.out | apply below_alloc | apply pw_below_drewN | apply below_drew1 | refine below_set ?_ GE194.out | refine below_set ?_ GE195.out) | exact HB.out)⟩

/-! ### mailcoachref13_Order: function 25 -/
def mailcoachref13_Order.j0 : Nat → Bool → Int → Int → Int → Int → Option (Int)
  | 0, _, _, _, _, _ => none
  | k + 1, x5, x197000, x197001, x198000, x198001 => if x5 = true then (some (-1)) else (if (x197000 == x198000 && (x197001 == x198001)) = true then (some 0) else (some 1))
def mailcoachref13_Order.f (k : Nat) (a0_0 : Int) (a0_1 : Int) (a1_0 : Int) (a1_1 : Int) : Option (Int) := if a0_0 < a1_0 then (mailcoachref13_Order.j0 k true a0_0 a0_1 a1_0 a1_1) else (if a0_0 = a1_0 then (mailcoachref13_Order.j0 k (decide (a0_1 < a1_1)) a0_0 a0_1 a1_0 a1_1) else (mailcoachref13_Order.j0 k false a0_0 a0_1 a1_0 a1_1))
theorem mailcoachref13_Order.mono_l : ∀ k, (∀ y0 y1 y2 y3 y4, LeO (mailcoachref13_Order.j0 k y0 y1 y2 y3 y4) (mailcoachref13_Order.j0 (k + 1) y0 y1 y2 y3 y4))
  | 0 => fun _ _ _ _ _ r h => by simp [mailcoachref13_Order.j0] at h
  | k + 1 => by
    have ih0 := mailcoachref13_Order.mono_l k
    · intro y0 y1 y2 y3 y4
      unfold mailcoachref13_Order.j0
      repeat' first
      | (with_reducible exact ih0 _ _ _ _ _)
      | (with_reducible exact LeO.refl _)
      | (with_reducible exact LeO.none _)
      | (with_reducible refine LeO.ite ?_ ?_)
      | (with_reducible refine LeO.bind ?_ (fun _ => ?_))
      | exact ih0 _ _ _ _ _
      | exact LeO.none _
      | refine LeO.ite ?_ ?_
      | refine LeO.bind ?_ (fun _ => ?_)
theorem mailcoachref13_Order.mono : ∀ a0 a1 a2 a3 k, LeO (mailcoachref13_Order.f k a0 a1 a2 a3) (mailcoachref13_Order.f (k + 1) a0 a1 a2 a3) := by
  intro a0 a1 a2 a3 k
  have ih0 := mailcoachref13_Order.mono_l k
  unfold mailcoachref13_Order.f
  repeat' first
      | (with_reducible exact ih0 _ _ _ _ _)
      | (with_reducible exact LeO.refl _)
      | (with_reducible exact LeO.none _)
      | (with_reducible refine LeO.ite ?_ ?_)
      | (with_reducible refine LeO.bind ?_ (fun _ => ?_))
      | exact ih0 _ _ _ _ _
      | exact LeO.none _
      | refine LeO.ite ?_ ?_
      | refine LeO.bind ?_ (fun _ => ?_)
set_option maxHeartbeats 8000000 in
set_option maxRecDepth 100000 in
theorem mailcoachref13_Order.calls (k : Nat) (a0_0 : Int) (a0_1 : Int) (a1_0 : Int) (a1_1 : Int) (r : Int) (w : World) (h : mailcoachref13_Order.f k a0_0 a0_1 a1_0 a1_1 = some r) :
    Calls Try.prog 25 #[.agg #[.int .u64 a0_0, .int .u64 a0_1], .agg #[.int .u64 a1_0, .int .u64 a1_1]] w fun e w' => e = .returned (.int .i64 r) ∧ Below w.heap.size w w' := by
 have hu36 := Try.underlying36
 have HB := am (Below.refl w.heap.size w)
 have H : (if a0_0 < a1_0 then (mailcoachref13_Order.j0 k true a0_0 a0_1 a1_0 a1_1) else (if a0_0 = a1_0 then (mailcoachref13_Order.j0 k (decide (a0_1 < a1_1)) a0_0 a0_1 a1_0 a1_1) else (mailcoachref13_Order.j0 k false a0_0 a0_1 a1_0 a1_1))) = some r := h
 clear h
 have HC3 := am H
 clear H
 go_enter Try.func25, Try.ntmps25
 go_upto_region 1 with (first | ((with_reducible refine gate_dst (N := 2) rfl ?_); refine box_event ?hg (N := 2) ?hd (cs := #[.int .u64 a0_0, .int .u64 a0_1]) (t := 36) ?hr ?_; (case hd => rfl); (case hg => rfl); (case hr => first | (go_simp; done) | (go_simp; rfl)); intro gb196 hg w4 hbox hb; have n0_ := am (below_step (by repeat (first | (with_reducible first | exact HB.out | apply below_alloc | apply pw_below_drewN | apply below_drew1) | exact HB.out)) hb); have n1_ := am (hbox); have n2_ := am ((by rw [hg]; exact (below_size (by repeat (first | (with_reducible first | exact HB.out | apply below_alloc | apply pw_below_drewN | apply below_drew1) | exact HB.out))) : w.heap.size ≤ gb196)); have n3_ := am ((by rw [hg]; exact (below_size (by repeat (first | (with_reducible first | exact HB.out | apply below_alloc | apply pw_below_drewN | apply below_drew1) | exact HB.out))) : w.heap.size ≤ gb196)); clear HB; have HB := n0_; have BK196 := n1_; have GW196 := n2_; have GE196 := n3_; clear n0_ n1_ n2_ n3_; clear hb hbox hg) | ((with_reducible refine gate_dst (N := 3) rfl ?_); refine box_event ?hg (N := 3) ?hd (cs := #[.int .u64 a1_0, .int .u64 a1_1]) (t := 36) ?hr ?_; (case hd => rfl); (case hg => rfl); (case hr => first | (go_simp; done) | (go_simp; rfl)); intro gb197 hg w5 hbox hb; have n0_ := am (blk_below (g := gb196) (o := .cells #[.int .u64 a0_0, .int .u64 a0_1] 36 (0, 0)) (by (with_reducible repeat (first | refine blk_drewN ?_ _ | refine blk_drew ?_ | refine blk_alloc ?_ _)); exact BK196.out) hb); have n1_ := am (below_step (by repeat (first | (with_reducible first | exact HB.out | apply below_alloc | apply pw_below_drewN | apply below_drew1 | refine below_set ?_ GE196.out) | exact HB.out)) hb); have n2_ := am (hbox); have n3_ := am ((by rw [hg]; exact (below_size (by repeat (first | (with_reducible first | exact HB.out | apply below_alloc | apply pw_below_drewN | apply below_drew1 | refine below_set ?_ GE196.out) | exact HB.out))) : w.heap.size ≤ gb197)); have n4_ := am ((by rw [hg]; exact (below_size (by repeat (first | (with_reducible first | exact HB.out | apply below_alloc | apply pw_below_drewN | apply below_drew1 | refine below_set ?_ GE196.out) | exact HB.out))) : w.heap.size ≤ gb197)); have n5_ := am ((by rw [hg]; exact Nat.ne_of_lt (blk_lt (g := gb196) (o := .cells #[.int .u64 a0_0, .int .u64 a0_1] 36 (0, 0)) (by (with_reducible repeat (first | refine blk_drewN ?_ _ | refine blk_drew ?_ | refine blk_alloc ?_ _)); exact BK196.out)) : gb196 ≠ gb197)); have n6_ := am ((by rw [hg]; exact Nat.ne_of_gt (blk_lt (g := gb196) (o := .cells #[.int .u64 a0_0, .int .u64 a0_1] 36 (0, 0)) (by (with_reducible repeat (first | refine blk_drewN ?_ _ | refine blk_drew ?_ | refine blk_alloc ?_ _)); exact BK196.out)) : gb197 ≠ gb196)); clear BK196; clear HB; have BK196 := n0_; have HB := n1_; have BK197 := n2_; have GW197 := n3_; have GE197 := n4_; have NB196_197 := n5_; have NB197_196 := n6_; clear n0_ n1_ n2_ n3_ n4_ n5_ n6_; clear hb hbox hg))
 (try simp only [Act.put, List.setIfInBounds_toArray, List.set_cons_zero, List.set_cons_succ])
 go_cut [5] (fun v5 wc => ∃ (kq : Nat) (x5_2 : Bool), v5 = .bool x5_2 ∧ Aside0 (mailcoachref13_Order.j0 kq x5_2 a0_0 a0_1 a1_0 a1_1 = some r) ∧ Aside0 (kq ≤ k) ∧ Aside0 (wc.heap[gb196]? = some (.cells #[.int .u64 a0_0, .int .u64 a0_1] 36 (0, 0))) ∧ Aside0 (wc.heap[gb197]? = some (.cells #[.int .u64 a1_0, .int .u64 a1_1] 36 (0, 0))) ∧ Aside0 (Below w.heap.size w wc))
 case first =>
  have H := HC3.out
  clear HC3
  by_cases c6 : a0_0 < a1_0
  ·
   rw [if_pos c6] at H
   have c6b0 : decide (a0_0 < a1_0) = true := decide_eq_true c6
   clear c6
   (first | rw [c6b0] | (simp only [i64_w, i32_w]; rw [c6b0]) | skip)
   have H' := am H
   clear H
   have hnb7 := NB196_197.out
   have hnc7 := NB197_196.out
   have hcz8_0 : w5.cell? ⟨gb196, 0, none⟩ = some (.int .u64 a0_0) := (blk_cell BK196.out 0).trans rfl
   have hcz8_1 : w5.cell? ⟨gb196, 1, none⟩ = some (.int .u64 a0_1) := (blk_cell BK196.out 1).trans rfl
   have hfz8_0 := blk_frozen BK196.out 0
   have hfz8_1 := blk_frozen BK196.out 1
   have hcz9_0 : w5.cell? ⟨gb197, 0, none⟩ = some (.int .u64 a1_0) := (blk_cell BK197.out 0).trans rfl
   have hcz9_1 : w5.cell? ⟨gb197, 1, none⟩ = some (.int .u64 a1_1) := (blk_cell BK197.out 1).trans rfl
   have hfz9_0 := blk_frozen BK197.out 0
   have hfz9_1 := blk_frozen BK197.out 1
   go_wp2
   go_meet
   case rel => exact ⟨_, (true), (by first | rfl | (simp; done) | (simp [*]; done)), H', ⟨by first | omega | exact Nat.le_refl _⟩, ⟨by (with_reducible repeat (first | refine blk_drewN ?_ _ | refine blk_drew ?_ | refine blk_alloc ?_ _)); exact BK196.out⟩, ⟨by (with_reducible repeat (first | refine blk_drewN ?_ _ | refine blk_drew ?_ | refine blk_alloc ?_ _)); exact BK197.out⟩, ⟨by repeat (first | (with_reducible first | exact HB.out | apply below_alloc | apply pw_below_drewN | apply below_drew1 | refine below_set ?_ GE196.out | refine below_set ?_ GE197.out) | exact HB.out)⟩⟩
  rw [if_neg c6] at H
  have c6b0 : decide (a0_0 < a1_0) = false := decide_eq_false c6
  clear c6
  (first | rw [c6b0] | (simp only [i64_w, i32_w]; rw [c6b0]) | skip)
  by_cases c10 : a0_0 = a1_0
  rotate_left
  ·
   rw [if_neg c10] at H
   have c10b0 : (a0_0 == a1_0) = false := beq_eq_false_iff_ne.mpr c10
   have c10b1 : (a0_0 != a1_0) = true := bne_iff_ne.mpr c10
   have H' := am H
   clear H
   have hnb14 := NB196_197.out
   have hnc14 := NB197_196.out
   have hcz15_0 : w5.cell? ⟨gb196, 0, none⟩ = some (.int .u64 a0_0) := (blk_cell BK196.out 0).trans rfl
   have hcz15_1 : w5.cell? ⟨gb196, 1, none⟩ = some (.int .u64 a0_1) := (blk_cell BK196.out 1).trans rfl
   have hfz15_0 := blk_frozen BK196.out 0
   have hfz15_1 := blk_frozen BK196.out 1
   have hcz16_0 : w5.cell? ⟨gb197, 0, none⟩ = some (.int .u64 a1_0) := (blk_cell BK197.out 0).trans rfl
   have hcz16_1 : w5.cell? ⟨gb197, 1, none⟩ = some (.int .u64 a1_1) := (blk_cell BK197.out 1).trans rfl
   have hfz16_0 := blk_frozen BK197.out 0
   have hfz16_1 := blk_frozen BK197.out 1
   go_wp2
   go_meet
   case rel => exact ⟨_, (false), (by first | rfl | (simp; done) | (simp [*]; done)), H', ⟨by first | omega | exact Nat.le_refl _⟩, ⟨by (with_reducible repeat (first | refine blk_drewN ?_ _ | refine blk_drew ?_ | refine blk_alloc ?_ _)); exact BK196.out⟩, ⟨by (with_reducible repeat (first | refine blk_drewN ?_ _ | refine blk_drew ?_ | refine blk_alloc ?_ _)); exact BK197.out⟩, ⟨by repeat (first | (with_reducible first | exact HB.out | apply below_alloc | apply pw_below_drewN | apply below_drew1 | refine below_set ?_ GE196.out | refine below_set ?_ GE197.out) | exact HB.out)⟩⟩
  rw [if_pos c10] at H
  have c10b0 : (a0_0 == a1_0) = true := beq_iff_eq.mpr c10
  have c10b1 : (a0_0 != a1_0) = false := bne_eq_false_iff_eq.mpr c10
  clear c10
  have H' := am H
  clear H
  have hnb11 := NB196_197.out
  have hnc11 := NB197_196.out
  have hcz12_0 : w5.cell? ⟨gb196, 0, none⟩ = some (.int .u64 a0_0) := (blk_cell BK196.out 0).trans rfl
  have hcz12_1 : w5.cell? ⟨gb196, 1, none⟩ = some (.int .u64 a0_1) := (blk_cell BK196.out 1).trans rfl
  have hfz12_0 := blk_frozen BK196.out 0
  have hfz12_1 := blk_frozen BK196.out 1
  have hcz13_0 : w5.cell? ⟨gb197, 0, none⟩ = some (.int .u64 a1_0) := (blk_cell BK197.out 0).trans rfl
  have hcz13_1 : w5.cell? ⟨gb197, 1, none⟩ = some (.int .u64 a1_1) := (blk_cell BK197.out 1).trans rfl
  have hfz13_0 := blk_frozen BK197.out 0
  have hfz13_1 := blk_frozen BK197.out 1
  go_wp2
  go_meet
  case rel => exact ⟨_, (decide (a0_1 < a1_1)), (by first | rfl | (simp; done) | (simp [*]; done)), H', ⟨by first | omega | exact Nat.le_refl _⟩, ⟨by (with_reducible repeat (first | refine blk_drewN ?_ _ | refine blk_drew ?_ | refine blk_alloc ?_ _)); exact BK196.out⟩, ⟨by (with_reducible repeat (first | refine blk_drewN ?_ _ | refine blk_drew ?_ | refine blk_alloc ?_ _)); exact BK197.out⟩, ⟨by repeat (first | (with_reducible first | exact HB.out | apply below_alloc | apply pw_below_drewN | apply below_drew1 | refine below_set ?_ GE196.out | refine below_set ?_ GE197.out) | exact HB.out)⟩⟩
 case rest =>
  clear HC3
  try clear c1
  try clear c2
  try clear p2
  try clear c6
  try clear c6b0
  try clear c7
  try clear c10
  try clear c10b0
  try clear c10b1
  try clear c11
  try clear c14
  try clear hcz12_0
  try clear hcz12_1
  try clear hcz13_0
  try clear hcz13_1
  try clear hcz15_0
  try clear hcz15_1
  try clear hcz16_0
  try clear hcz16_1
  try clear hcz8_0
  try clear hcz8_1
  try clear hcz9_0
  try clear hcz9_1
  try clear hfz12_0
  try clear hfz12_1
  try clear hfz13_0
  try clear hfz13_1
  try clear hfz15_0
  try clear hfz15_1
  try clear hfz16_0
  try clear hfz16_1
  try clear hfz8_0
  try clear hfz8_1
  try clear hfz9_0
  try clear hfz9_1
  obtain ⟨kq, x5_2, rfl, HA, HJ2, BK196, BK197, HB⟩ := hcut
  cases kq with
  | zero => exact absurd HA.out (by simp [mailcoachref13_Order.j0])
  | succ kj2 =>
   have H := HA.out
   clear HA
   simp only [mailcoachref13_Order.j0] at H
   by_cases c17 : x5_2 = true
   ·
    subst c17
    have H1 : (some (-1)) = some r := by rw [if_pos rfl] at H; exact H
    clear H
    have H := H1
    clear H1
    obtain rfl := Option.some.inj H
    go_wp2
    go_ret
    exact ⟨by first | rfl | (simp [errW_none, errW_some] <;> rfl) | (simp [*, errW_none, errW_some] <;> rfl), by repeat (first | (with_reducible first | exact HB.out | apply below_alloc | apply pw_below_drewN | apply below_drew1 | refine below_set ?_ GE196.out | refine below_set ?_ GE197.out) | exact HB.out)⟩
   replace c17 := Bool.eq_false_iff.mpr c17
   subst c17
   have H1 : (if (a0_0 == a1_0 && (a0_1 == a1_1)) = true then (some 0) else (some 1)) = some r := by rw [if_neg (show ¬ (false = true) by decide)] at H; exact H
   clear H
   have H := H1
   clear H1
   by_cases c18 : (a0_0 == a1_0 && (a0_1 == a1_1)) = true
   ·
    rw [if_pos c18] at H
    have c18b0 : (a0_0 == a1_0 && (a0_1 == a1_1)) = true := c18
    (try (have c18b1 : decide (a0_0 = a1_0 && (a0_1 == a1_1)) = true := by simpa using c18))
    (try (have c18b2 : (a0_0 == a1_0 && (a0_1 == a1_1)) = true := by simpa using c18))
    clear c18
    obtain rfl := Option.some.inj H
    have hnb19 := NB196_197.out
    have hnc19 := NB197_196.out
    have hcz20_0 : wc.cell? ⟨gb196, 0, none⟩ = some (.int .u64 a0_0) := (blk_cell BK196.out 0).trans rfl
    have hcz20_1 : wc.cell? ⟨gb196, 1, none⟩ = some (.int .u64 a0_1) := (blk_cell BK196.out 1).trans rfl
    have hfz20_0 := blk_frozen BK196.out 0
    have hfz20_1 := blk_frozen BK196.out 1
    have hcz21_0 : wc.cell? ⟨gb197, 0, none⟩ = some (.int .u64 a1_0) := (blk_cell BK197.out 0).trans rfl
    have hcz21_1 : wc.cell? ⟨gb197, 1, none⟩ = some (.int .u64 a1_1) := (blk_cell BK197.out 1).trans rfl
    have hfz21_0 := blk_frozen BK197.out 0
    have hfz21_1 := blk_frozen BK197.out 1
    go_wp2
    go_ret
    exact ⟨by first | rfl | (simp [errW_none, errW_some] <;> rfl) | (simp [*, errW_none, errW_some] <;> rfl), by repeat (first | (with_reducible first | exact HB.out | apply below_alloc | apply pw_below_drewN | apply below_drew1 | refine below_set ?_ GE196.out | refine below_set ?_ GE197.out) | exact HB.out)⟩
   rw [if_neg c18] at H
   have c18b0 : (a0_0 == a1_0 && (a0_1 == a1_1)) = false := by simpa using c18
   (try (have c18b1 : decide (a0_0 = a1_0 && (a0_1 == a1_1)) = false := by simpa using c18))
   (try (have c18b2 : (a0_0 == a1_0 && (a0_1 == a1_1)) = false := by simpa using c18))
   (try (have c18b3 : ¬ (a0_0 = a1_0 && (a0_1 == a1_1)) := by simpa using c18))
   clear c18
   obtain rfl := Option.some.inj H
   have hnb22 := NB196_197.out
   have hnc22 := NB197_196.out
   have hcz23_0 : wc.cell? ⟨gb196, 0, none⟩ = some (.int .u64 a0_0) := (blk_cell BK196.out 0).trans rfl
   have hcz23_1 : wc.cell? ⟨gb196, 1, none⟩ = some (.int .u64 a0_1) := (blk_cell BK196.out 1).trans rfl
   have hfz23_0 := blk_frozen BK196.out 0
   have hfz23_1 := blk_frozen BK196.out 1
   have hcz24_0 : wc.cell? ⟨gb197, 0, none⟩ = some (.int .u64 a1_0) := (blk_cell BK197.out 0).trans rfl
   have hcz24_1 : wc.cell? ⟨gb197, 1, none⟩ = some (.int .u64 a1_1) := (blk_cell BK197.out 1).trans rfl
   have hfz24_0 := blk_frozen BK197.out 0
   have hfz24_1 := blk_frozen BK197.out 1
   go_wp2
   go_ret
   exact ⟨by first | rfl | (simp [errW_none, errW_some] <;> rfl) | (simp [*, errW_none, errW_some] <;> rfl), by repeat (first | (with_reducible first | exact HB.out | apply below_alloc | apply pw_below_drewN | apply below_drew1 | refine below_set ?_ GE196.out | refine below_set ?_ GE197.out) | exact HB.out)⟩

/-! ### mailcoachref13_Size: function 35 -/
def mailcoachref13_Size.f (a0_0 : Int) (a0_1 : Bool) (a0_2 : Int) (a1 : Int) : Option (Int) := if a0_1 = true then (some a0_2) else (some a1)
set_option maxHeartbeats 8000000 in
set_option maxRecDepth 100000 in
theorem mailcoachref13_Size.calls (a0_0 : Int) (a0_1 : Bool) (a0_2 : Int) (a1 : Int) (r : Int) (w : World) (h : mailcoachref13_Size.f a0_0 a0_1 a0_2 a1 = some r) :
    Calls Try.prog 35 #[.agg #[.int .u64 a0_0, .bool a0_1, .int .u64 a0_2], .int .u64 a1] w fun e w' => e = .returned (.int .u64 r) ∧ Below w.heap.size w w' := by
 have hu32 := Try.underlying32
 have HB := am (Below.refl w.heap.size w)
 have H : (if a0_1 = true then (some a0_2) else (some a1)) = some r := h
 clear h
 by_cases c3 : a0_1 = true
 ·
  subst c3
  have H1 : (some a0_2) = some r := by rw [if_pos rfl] at H; exact H
  clear H
  have H := H1
  clear H1
  obtain rfl := Option.some.inj H
  go_enter Try.func35, Try.ntmps35
  go_wp2_with (first | ((with_reducible refine gate_dst (N := 2) rfl ?_); refine box_event ?hg (N := 2) ?hd (cs := #[.int .u64 a0_0, .bool true, .int .u64 a0_2]) (t := 32) ?hr ?_; (case hd => rfl); (case hg => rfl); (case hr => first | (go_simp; done) | (go_simp; rfl)); intro gb198 hg w4 hbox hb; have n0_ := am (below_step (by repeat (first | (with_reducible first | exact HB.out | apply below_alloc | apply pw_below_drewN | apply below_drew1) | exact HB.out)) hb); have n1_ := am (hbox); have n2_ := am ((by rw [hg]; exact (below_size (by repeat (first | (with_reducible first | exact HB.out | apply below_alloc | apply pw_below_drewN | apply below_drew1) | exact HB.out))) : w.heap.size ≤ gb198)); have n3_ := am ((by rw [hg]; exact (below_size (by repeat (first | (with_reducible first | exact HB.out | apply below_alloc | apply pw_below_drewN | apply below_drew1) | exact HB.out))) : w.heap.size ≤ gb198)); clear HB; have HB := n0_; have BK198 := n1_; have GW198 := n2_; have GE198 := n3_; clear n0_ n1_ n2_ n3_; clear hb hbox hg; have hcz5_0 : w4.cell? ⟨gb198, 0, none⟩ = some (.int .u64 a0_0) := (blk_cell BK198.out 0).trans rfl; have hcz5_1 : w4.cell? ⟨gb198, 1, none⟩ = some (.bool true) := (blk_cell BK198.out 1).trans rfl; have hcz5_2 : w4.cell? ⟨gb198, 2, none⟩ = some (.int .u64 a0_2) := (blk_cell BK198.out 2).trans rfl; have hfz5_0 := blk_frozen BK198.out 0; have hfz5_1 := blk_frozen BK198.out 1; have hfz5_2 := blk_frozen BK198.out 2))
  go_ret
  exact ⟨by first | rfl | (simp [errW_none, errW_some] <;> rfl) | (simp [*, errW_none, errW_some] <;> rfl), by repeat (first | (with_reducible first | exact HB.out | apply below_alloc | apply pw_below_drewN | apply below_drew1 | refine below_set ?_ GE198.out) | exact HB.out)⟩
 replace c3 := Bool.eq_false_iff.mpr c3
 subst c3
 have H1 : (some a1) = some r := by rw [if_neg (show ¬ (false = true) by decide)] at H; exact H
 clear H
 have H := H1
 clear H1
 obtain rfl := Option.some.inj H
 go_enter Try.func35, Try.ntmps35
 go_wp2_with (first | ((with_reducible refine gate_dst (N := 2) rfl ?_); refine box_event ?hg (N := 2) ?hd (cs := #[.int .u64 a0_0, .bool false, .int .u64 a0_2]) (t := 32) ?hr ?_; (case hd => rfl); (case hg => rfl); (case hr => first | (go_simp; done) | (go_simp; rfl)); intro gb198 hg w6 hbox hb; have n0_ := am (below_step (by repeat (first | (with_reducible first | exact HB.out | apply below_alloc | apply pw_below_drewN | apply below_drew1) | exact HB.out)) hb); have n1_ := am (hbox); have n2_ := am ((by rw [hg]; exact (below_size (by repeat (first | (with_reducible first | exact HB.out | apply below_alloc | apply pw_below_drewN | apply below_drew1) | exact HB.out))) : w.heap.size ≤ gb198)); have n3_ := am ((by rw [hg]; exact (below_size (by repeat (first | (with_reducible first | exact HB.out | apply below_alloc | apply pw_below_drewN | apply below_drew1) | exact HB.out))) : w.heap.size ≤ gb198)); clear HB; have HB := n0_; have BK198 := n1_; have GW198 := n2_; have GE198 := n3_; clear n0_ n1_ n2_ n3_; clear hb hbox hg; have hcz7_0 : w6.cell? ⟨gb198, 0, none⟩ = some (.int .u64 a0_0) := (blk_cell BK198.out 0).trans rfl; have hcz7_1 : w6.cell? ⟨gb198, 1, none⟩ = some (.bool false) := (blk_cell BK198.out 1).trans rfl; have hcz7_2 : w6.cell? ⟨gb198, 2, none⟩ = some (.int .u64 a0_2) := (blk_cell BK198.out 2).trans rfl; have hfz7_0 := blk_frozen BK198.out 0; have hfz7_1 := blk_frozen BK198.out 1; have hfz7_2 := blk_frozen BK198.out 2))
 go_ret
 exact ⟨by first | rfl | (simp [errW_none, errW_some] <;> rfl) | (simp [*, errW_none, errW_some] <;> rfl), by repeat (first | (with_reducible first | exact HB.out | apply below_alloc | apply pw_below_drewN | apply below_drew1 | refine below_set ?_ GE198.out) | exact HB.out)⟩

/-! ### mailcoachref13_All: function 36 -/
mutual
def mailcoachref13_All.l0 : Nat → List (S32) → Int → List (S36) → Int → Option ((List (S36)))
  | 0, _, _, _, _ => none
  | k + 1, x0, x1, x5, x6 => if x6 < (x0.length : Int) then (if 0 ≤ x6 then ((mailcoachref13_Size.f ((rd_T32 x0 x6).f0) ((rd_T32 x0 x6).f1) ((rd_T32 x0 x6).f2) x1).bind fun t200 => (mailcoachref13_All.l1 k x0 x1 x5 x6 t200 0)) else (none)) else (some x5)
def mailcoachref13_All.l1 : Nat → List (S32) → Int → List (S36) → Int → Int → Int → Option ((List (S36)))
  | 0, _, _, _, _, _, _ => none
  | k + 1, x0, x1, x5, x6, x7, x8 => if x8 < x7 then (if 0 ≤ x6 then (if x6 < (x0.length : Int) then (if x5.length < 8796093022208 then (mailcoachref13_All.l1 k x0 x1 (x5 ++ [(⟨(rd_T32 x0 x6).f0, x8⟩ : S36)]) x6 x7 (IntKind.u64.wrap (x8 + 1))) else (none)) else (none)) else (none)) else (mailcoachref13_All.l0 k x0 x1 x5 (wrap64 (x6 + 1)))
end
def mailcoachref13_All.f (k : Nat) (l0 : List (S32)) (a1 : Int) : Option ((List (S36))) := mailcoachref13_All.l0 k l0 a1 ([] : List (S36)) 0
theorem mailcoachref13_All.mono_l : ∀ k, (∀ y0 y1 y2 y3, LeO (mailcoachref13_All.l0 k y0 y1 y2 y3) (mailcoachref13_All.l0 (k + 1) y0 y1 y2 y3)) ∧ (∀ y0 y1 y2 y3 y4 y5, LeO (mailcoachref13_All.l1 k y0 y1 y2 y3 y4 y5) (mailcoachref13_All.l1 (k + 1) y0 y1 y2 y3 y4 y5))
  | 0 => ⟨fun _ _ _ _ r h => by simp [mailcoachref13_All.l0] at h, fun _ _ _ _ _ _ r h => by simp [mailcoachref13_All.l1] at h⟩
  | k + 1 => by
    obtain ⟨ih0, ih1⟩ := mailcoachref13_All.mono_l k
    refine ⟨?_, ?_⟩
    · intro y0 y1 y2 y3
      unfold mailcoachref13_All.l0
      repeat' first
      | (with_reducible exact ih0 _ _ _ _)
      | (with_reducible exact ih1 _ _ _ _ _ _)
      | (with_reducible exact LeO.refl _)
      | (with_reducible exact LeO.none _)
      | (with_reducible refine LeO.ite ?_ ?_)
      | (with_reducible refine LeO.bind ?_ (fun _ => ?_))
      | exact ih0 _ _ _ _
      | exact ih1 _ _ _ _ _ _
      | exact LeO.none _
      | refine LeO.ite ?_ ?_
      | refine LeO.bind ?_ (fun _ => ?_)
    · intro y0 y1 y2 y3 y4 y5
      unfold mailcoachref13_All.l1
      repeat' first
      | (with_reducible exact ih0 _ _ _ _)
      | (with_reducible exact ih1 _ _ _ _ _ _)
      | (with_reducible exact LeO.refl _)
      | (with_reducible exact LeO.none _)
      | (with_reducible refine LeO.ite ?_ ?_)
      | (with_reducible refine LeO.bind ?_ (fun _ => ?_))
      | exact ih0 _ _ _ _
      | exact ih1 _ _ _ _ _ _
      | exact LeO.none _
      | refine LeO.ite ?_ ?_
      | refine LeO.bind ?_ (fun _ => ?_)
theorem mailcoachref13_All.mono : ∀ a0 a1 k, LeO (mailcoachref13_All.f k a0 a1) (mailcoachref13_All.f (k + 1) a0 a1) := by
  intro a0 a1 k
  obtain ⟨ih0, ih1⟩ := mailcoachref13_All.mono_l k
  unfold mailcoachref13_All.f
  repeat' first
      | (with_reducible exact ih0 _ _ _ _)
      | (with_reducible exact ih1 _ _ _ _ _ _)
      | (with_reducible exact LeO.refl _)
      | (with_reducible exact LeO.none _)
      | (with_reducible refine LeO.ite ?_ ?_)
      | (with_reducible refine LeO.bind ?_ (fun _ => ?_))
      | exact ih0 _ _ _ _
      | exact ih1 _ _ _ _ _ _
      | exact LeO.none _
      | refine LeO.ite ?_ ?_
      | refine LeO.bind ?_ (fun _ => ?_)
set_option maxHeartbeats 8000000 in
set_option maxRecDepth 100000 in
theorem mailcoachref13_All.calls (k : Nat) (A0 : Option Addr) (c0 : Nat) (l0 : List (S32)) (a1 : Int) (r : List (S36)) (w : World) (hr0 : Kd.C k32 w A0 l0.length l0) (hc0 : l0.length ≤ c0) (h : mailcoachref13_All.f k l0 a1 = some r) :
    Calls Try.prog 36 #[.slice A0 l0.length c0, .int .u64 a1] w fun e w' => ∃ v0_ : Value, e = .returned (v0_) ∧ Kd.R k36 36 w' w.heap.size (fun _ => True) v0_ r ∧ Below w.heap.size w w' := by
 have hu32 := Try.underlying32
 have hu36 := Try.underlying36
 have HR0 := am hr0
 have HC0 := am hc0
 clear hr0 hc0
 have HB := am (Below.refl w.heap.size w)
 have H : (mailcoachref13_All.l0 k l0 a1 ([] : List (S36)) 0) = some r := h
 clear h
 have H' := am H
 clear H
 go_enter Try.func36, Try.ntmps36
 go_wp2
 go_loopg [5, 6] k (fun kq v5 v6 w' => ∃ (x5_1 : List (S36)) (x6_1 : Int), v6 = .int .i64 x6_1 ∧ Aside0 (mailcoachref13_All.l0 kq l0 a1 x5_1 x6_1 = some r) ∧ Aside0 (kq ≤ k) ∧ Aside0 (Kd.R k36 36 w' w.heap.size (fun _ => True) v5 x5_1) ∧ Aside0 (Below w.heap.size w w'))
 case atStart => exact ⟨(([] : List (S36))), (0), (by first | rfl | (simp; done) | (simp [*]; done)), H', ⟨Nat.le_refl _⟩, ⟨by first | exact Kd.R_nil _ _ _ _ _ | exact Kd.N_nil _ _ _ _ _ | exact Kd.V_nil _ _ _ _ _ | exact Kd.Q_nil _ _ _ _ _ | exact Kd.S_nil _ _ _ _ _⟩, ⟨by repeat (first | (with_reducible first | exact HB.out | apply below_alloc | apply pw_below_drewN | apply below_drew1) | exact HB.out)⟩⟩
 case round =>
  clear H'
  try clear p2
  obtain ⟨x5_1, x6_1, rfl, HA, HK1, HO_5, HB⟩ := hrel
  cases gk with
  | zero => exact absurd HA.out (by simp [mailcoachref13_All.l0])
  | succ k1 =>
   have H := HA.out
   clear HA
   simp only [mailcoachref13_All.l0] at H
   by_cases c3 : x6_1 < (l0.length : Int)
   rotate_left
   ·
    rw [if_neg c3] at H
    have c3b0 : decide (x6_1 < (l0.length : Int)) = false := decide_eq_false c3
    clear c3
    obtain rfl := Option.some.inj H
    go_wp2
    go_ret
    exact ⟨_, by first | rfl | (simp [errW_none, errW_some] <;> rfl) | (simp [*, errW_none, errW_some] <;> rfl), by (with_reducible repeat (first | apply R_alloc | apply R_drewN | apply R_drew)); exact HO_5.out, by repeat (first | (with_reducible first | exact HB.out | apply below_alloc | apply pw_below_drewN | apply below_drew1) | exact HB.out)⟩
   rw [if_pos c3] at H
   have c3b0 : decide (x6_1 < (l0.length : Int)) = true := decide_eq_true c3
   clear c3
   by_cases c4 : 0 ≤ x6_1
   rotate_left
   ·
    rw [if_neg c4] at H
    exact absurd H (by simp)
   rw [if_pos c4] at H
   have c4b0 : decide (0 ≤ x6_1) = true := decide_eq_true c4
   clear c4
   replace H := Option.bind_eq_some_iff.mp H
   obtain ⟨t200, A50, H⟩ := H
   replace H : (mailcoachref13_All.l1 k1 l0 a1 x5_1 x6_1 t200 0) = some r := H
   have A5 := am A50
   clear A50
   have H' := am H
   clear H
   have p199 : 0 ≤ (x6_1 : Int) := of_decide_eq_true (by first | (with_reducible assumption) | assumption)
   have q199 : x6_1 < (l0.length : Int) := of_decide_eq_true (by first | (with_reducible assumption) | assumption)
   obtain ⟨ad199, e199, hx199_0, hx199_1, hx199_2⟩ := at_T32 HR0.out x6_1 p199 q199
   cases e199
   replace hx199_0 := (HB.out.cell (World.block_lt_of_cell? w _ hx199_0)).trans hx199_0
   replace hx199_1 := (HB.out.cell (World.block_lt_of_cell? w _ hx199_1)).trans hx199_1
   replace hx199_2 := (HB.out.cell (World.block_lt_of_cell? w _ hx199_2)).trans hx199_2
   replace p199 := eq_true p199
   replace q199 := eq_true q199
   go_wp2_with (first | ((with_reducible refine gate_callee (f := 35) rfl ?_); refine goesL_ (some 20) rfl rfl Try.func35 (by kernel_rfl) rfl #[.agg #[.int .u64 ((rd_T32 l0 x6_1).f0), .bool ((rd_T32 l0 x6_1).f1), .int .u64 ((rd_T32 l0 x6_1).f2)], .int .u64 a1] rfl (by (try simp only [List.map_toArray, List.map_cons, List.map_nil]); first | done | rfl | (simp only [List.length_drop, List.length_take]; rfl)) ?_; (with_reducible refine (mailcoachref13_Size.calls ((rd_T32 l0 x6_1).f0) ((rd_T32 l0 x6_1).f1) ((rd_T32 l0 x6_1).f2) a1 t200 _ A5.out).mono ?_); rintro e w6 ⟨rfl, hb⟩; refine ⟨_, rfl, ?_⟩; have n0_ := am (Kd.R_below (by (with_reducible repeat (first | apply R_alloc | apply R_drewN | apply R_drew)); exact HO_5.out) hb); have n1_ := am (below_step (by repeat (first | (with_reducible first | exact HB.out | apply below_alloc | apply pw_below_drewN | apply below_drew1) | exact HB.out)) hb); clear HO_5; clear HB; have HO_5 := n0_; have HB := n1_; clear n0_ n1_; (try clear hb); (try clear hb2); (try clear hk); (try clear hi)))
   go_loopg [5, 8] k1 (fun kq v5 v8 w' => ∃ (x5_2 : List (S36)) (x8_2 : Int), v8 = .int .u64 x8_2 ∧ Aside0 (mailcoachref13_All.l1 kq l0 a1 x5_2 x6_1 t200 x8_2 = some r) ∧ Aside0 (kq ≤ k1) ∧ Aside0 (Kd.R k36 36 w' w.heap.size (fun _ => True) v5 x5_2) ∧ Aside0 (Below w.heap.size w w'))
   case atStart => exact ⟨(x5_1), (0), (by first | rfl | (simp; done) | (simp [*]; done)), H', ⟨Nat.le_refl _⟩, ⟨by (with_reducible repeat (first | apply R_alloc | apply R_drewN | apply R_drew)); exact HO_5.out⟩, ⟨by repeat (first | (with_reducible first | exact HB.out | apply below_alloc | apply pw_below_drewN | apply below_drew1) | exact HB.out)⟩⟩
   case round =>
    clear H'
    try clear p1
    try clear q1
    try clear hx1
    try clear p2
    try clear c3
    try clear c3b0
    try clear c4
    try clear c4b0
    try clear hx199_0
    try clear hx199_1
    try clear hx199_2
    try clear p199
    try clear p2
    try clear q199
    obtain ⟨x5_2, x8_2, rfl, HA, HK2, HO_5, HB⟩ := hrel
    cases gk with
    | zero => exact absurd HA.out (by simp [mailcoachref13_All.l1])
    | succ k2 =>
     have H := HA.out
     clear HA
     simp only [mailcoachref13_All.l1] at H
     by_cases c7 : x8_2 < t200
     rotate_left
     ·
      rw [if_neg c7] at H
      have c7b0 : decide (x8_2 < t200) = false := decide_eq_false c7
      clear c7
      have H' := am H
      clear H
      go_wp2
      go_roundg k2
      case measure => have := HK1.out; have := HK2.out; omega
      case rel => exact ⟨(x5_2), (wrap64 (x6_1 + 1)), (by first | rfl | (simp; done) | (simp [*]; done)), H', ⟨by have := HK1.out; have := HK2.out; omega⟩, ⟨by (with_reducible repeat (first | apply R_alloc | apply R_drewN | apply R_drew)); exact HO_5.out⟩, ⟨by repeat (first | (with_reducible first | exact HB.out | apply below_alloc | apply pw_below_drewN | apply below_drew1) | exact HB.out)⟩⟩
     rw [if_pos c7] at H
     have c7b0 : decide (x8_2 < t200) = true := decide_eq_true c7
     clear c7
     by_cases c8 : 0 ≤ x6_1
     rotate_left
     ·
      rw [if_neg c8] at H
      exact absurd H (by simp)
     rw [if_pos c8] at H
     have c8b0 : decide (0 ≤ x6_1) = true := decide_eq_true c8
     clear c8
     by_cases c9 : x6_1 < (l0.length : Int)
     rotate_left
     ·
      rw [if_neg c9] at H
      exact absurd H (by simp)
     rw [if_pos c9] at H
     have c9b0 : decide (x6_1 < (l0.length : Int)) = true := decide_eq_true c9
     clear c9
     by_cases c10 : x5_2.length < 8796093022208
     rotate_left
     ·
      rw [if_neg c10] at H
      exact absurd H (by simp)
     rw [if_pos c10] at H
     have LMc10 := am c10
     clear c10
     obtain ⟨y202, hy202⟩ : ∃ y_ : List (S36), y_ = (x5_2 ++ [(⟨(rd_T32 l0 x6_1).f0, x8_2⟩ : S36)]) := ⟨_, rfl⟩
     replace H : (mailcoachref13_All.l1 k2 l0 a1 y202 x6_1 t200 (IntKind.u64.wrap (x8_2 + 1))) = some r := by first | (rw [hy202]; with_reducible exact H) | (have H2_ := (Option.bind_some _ _).symm.trans H; rw [hy202]; with_reducible exact H2_) | (have H2_ := (Option.bind_some _ _).symm.trans H; with_reducible exact H2_) | with_reducible exact H | (rw [hy202]; exact H) | exact H
     have Ny202 := am hy202
     clear hy202
     have H' := am H
     clear H
     have p201 : 0 ≤ (x6_1 : Int) := of_decide_eq_true (by first | (with_reducible assumption) | assumption)
     have q201 : x6_1 < (l0.length : Int) := of_decide_eq_true (by first | (with_reducible assumption) | assumption)
     obtain ⟨ad201, e201, hx201_0, hx201_1, hx201_2⟩ := at_T32 HR0.out x6_1 p201 q201
     obtain rfl : ad199 = ad201 := (by injection e201)
     replace hx201_0 := (HB.out.cell (World.block_lt_of_cell? w _ hx201_0)).trans hx201_0
     replace hx201_1 := (HB.out.cell (World.block_lt_of_cell? w _ hx201_1)).trans hx201_1
     replace hx201_2 := (HB.out.cell (World.block_lt_of_cell? w _ hx201_2)).trans hx201_2
     replace p201 := eq_true p201
     replace q201 := eq_true q201
     go_wp2_with (first | ((with_reducible refine gate_builtin (b := .append) (xs := #[.tmp 26, .tmp 34]) rfl ?_); at_builtin; refine Kd.R_append k36 (w0 := w) w.heap.size rfl (.tmp 26) (.tmp 34) 54 36 (.agg #[(.int .u64 0), (.int .u64 0)]) 16 rfl Try.underlying54 info36 rfl (by decide) (by omega) u5 x5_2 (⟨(rd_T32 l0 x6_1).f0, x8_2⟩ : S36) [.int .u64 ((rd_T32 l0 x6_1).f0), .int .u64 x8_2] (fun _ => True) (fun _ => False) rfl rfl ?aP (fun _ hk => hk.elim) ?aF ?aO ?aB ?aS ?aL ?_; (case aP => exact k36_mkM _ _ _ (⟨(rd_T32 l0 x6_1).f0, x8_2⟩ : S36)); (case aB => exact (by repeat (first | (with_reducible first | exact HB.out | apply below_alloc | apply pw_below_drewN | apply below_drew1) | exact HB.out))); (case aF => exact (fun _ _ => trivial)); (case aO => exact (by (with_reducible repeat (first | apply R_alloc | apply R_drewN | apply R_drew)); exact HO_5.out)); (case aS => exact (below_size (by repeat (first | (with_reducible first | exact HB.out | apply below_alloc | apply pw_below_drewN | apply below_drew1) | exact HB.out)))); (case aL => have := LMc10.out; omega); intro v203 w11 ho hb hg hat; rw [← Ny202.out] at ho; have n0_ := am (hb); have n1_ := am (ho); clear HB; clear HO_5; have HB := n0_; have HO204 := n1_; clear n0_ n1_; clear ho hb hg hat))
     go_roundg k2
     case measure => have := HK1.out; have := HK2.out; omega
     case rel => exact ⟨(y202), (IntKind.u64.wrap (x8_2 + 1)), (by first | rfl | (simp; done) | (simp [*]; done)), H', ⟨by have := HK1.out; have := HK2.out; omega⟩, ⟨by (with_reducible repeat (first | apply R_alloc | apply R_drewN | apply R_drew)); exact HO204.out⟩, ⟨by repeat (first | (with_reducible first | exact HB.out | apply below_alloc | apply pw_below_drewN | apply below_drew1) | exact HB.out)⟩⟩

end Go.Proofs.Ytmbealldhndeoaa.PLedgersPlaces
