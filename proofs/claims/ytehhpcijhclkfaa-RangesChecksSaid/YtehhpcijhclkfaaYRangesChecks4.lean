-- Written by a program of this session's; its pattern is the kit's print.
import Derived.Test.YtehhpcijhclkfaaYRangesChecks0
import Derived.Test.YtehhpcijhclkfaaYRangesChecks1
import Derived.Test.YtehhpcijhclkfaaYRangesChecks3
namespace Go.Proofs.Ytehhpcijhclkfaa.PRangesChecks
open Go.RowKit Go.Proofs.YtehhpcijhclkfaaW.PrintWords Go.Proofs.YtehhpcijhclkfaaW.PrintLast Go.Proofs.YtehhpcijhclkfaaW.PrintMore
attribute [local go_sem] max2_int min2_int max_two min_two max_three min_three max_four min_four   -- for this text's walks alone
set_option linter.unusedVariables false
set_option linter.unusedSimpArgs false

attribute [local go_sem high] eqA25
/-! ### ranges_Remove: function 12 -/
mutual
def ranges_Remove.l0 : Nat → List (S25) → List (S25) → Int → Int → Int → Int → Option ((List (S25)))
  | 0, _, _, _, _, _, _ => none
  | k + 1, x5, x8, x9, x10, x178000, x178001 => if x10 < x9 then (if 0 ≤ x10 then (if x10 < (x8.length : Int) then (if x178000 ≥ x178001 then (ranges_Remove.j1 k x5 x8 x9 x10 true x178000 x178001 ((rd_T25 x8 x10).f0) ((rd_T25 x8 x10).f1)) else (if ((rd_T25 x8 x10).f1) ≤ x178000 then (ranges_Remove.j1 k x5 x8 x9 x10 true x178000 x178001 ((rd_T25 x8 x10).f0) ((rd_T25 x8 x10).f1)) else (ranges_Remove.j1 k x5 x8 x9 x10 (decide (x178001 ≤ ((rd_T25 x8 x10).f0))) x178000 x178001 ((rd_T25 x8 x10).f0) ((rd_T25 x8 x10).f1)))) else (none)) else (none)) else (some x5)
def ranges_Remove.j1 : Nat → List (S25) → List (S25) → Int → Int → Bool → Int → Int → Int → Int → Option ((List (S25)))
  | 0, _, _, _, _, _, _, _, _, _ => none
  | k + 1, x5, x8, x9, x10, x32, x178000, x178001, x180000, x180001 => if x32 = true then (if x5.length < 8796093022208 then (ranges_Remove.l0 k (x5 ++ [(⟨x180000, x180001⟩ : S25)]) x8 x9 (wrap64 (x10 + 1)) x178000 x178001) else (none)) else (if x180000 < x178000 then (if x5.length < 8796093022208 then ((some (x5 ++ [(⟨x180000, x178000⟩ : S25)] : List (S25))).bind fun y183 => (if x178001 < x180001 then (if y183.length < 8796093022208 then (ranges_Remove.l0 k (y183 ++ [(⟨x178001, x180001⟩ : S25)]) x8 x9 (wrap64 (x10 + 1)) x178000 x178001) else (none)) else (ranges_Remove.l0 k y183 x8 x9 (wrap64 (x10 + 1)) x178000 x178001))) else (none)) else (if x178001 < x180001 then (if x5.length < 8796093022208 then (ranges_Remove.l0 k (x5 ++ [(⟨x178001, x180001⟩ : S25)]) x8 x9 (wrap64 (x10 + 1)) x178000 x178001) else (none)) else (ranges_Remove.l0 k x5 x8 x9 (wrap64 (x10 + 1)) x178000 x178001)))
end
def ranges_Remove.f (k : Nat) (l0 : List (S25)) (a1_0 : Int) (a1_1 : Int) : Option ((List (S25))) := ranges_Remove.l0 k ([] : List (S25)) l0 (l0.length : Int) 0 a1_0 a1_1
theorem ranges_Remove.mono_l : ∀ k, (∀ y0 y1 y2 y3 y4 y5, LeO (ranges_Remove.l0 k y0 y1 y2 y3 y4 y5) (ranges_Remove.l0 (k + 1) y0 y1 y2 y3 y4 y5)) ∧ (∀ y0 y1 y2 y3 y4 y5 y6 y7 y8, LeO (ranges_Remove.j1 k y0 y1 y2 y3 y4 y5 y6 y7 y8) (ranges_Remove.j1 (k + 1) y0 y1 y2 y3 y4 y5 y6 y7 y8))
  | 0 => ⟨fun _ _ _ _ _ _ r h => by simp [ranges_Remove.l0] at h, fun _ _ _ _ _ _ _ _ _ r h => by simp [ranges_Remove.j1] at h⟩
  | k + 1 => by
    obtain ⟨ih0, ih1⟩ := ranges_Remove.mono_l k
    refine ⟨?_, ?_⟩
    · intro y0 y1 y2 y3 y4 y5
      unfold ranges_Remove.l0
      repeat' first
      | (with_reducible exact ih0 _ _ _ _ _ _)
      | (with_reducible exact ih1 _ _ _ _ _ _ _ _ _)
      | (with_reducible exact LeO.refl _)
      | (with_reducible exact LeO.none _)
      | (with_reducible refine LeO.ite ?_ ?_)
      | (with_reducible refine LeO.bind ?_ (fun _ => ?_))
      | exact ih0 _ _ _ _ _ _
      | exact ih1 _ _ _ _ _ _ _ _ _
      | exact LeO.none _
      | refine LeO.ite ?_ ?_
      | refine LeO.bind ?_ (fun _ => ?_)
    · intro y0 y1 y2 y3 y4 y5 y6 y7 y8
      unfold ranges_Remove.j1
      repeat' first
      | (with_reducible exact ih0 _ _ _ _ _ _)
      | (with_reducible exact ih1 _ _ _ _ _ _ _ _ _)
      | (with_reducible exact LeO.refl _)
      | (with_reducible exact LeO.none _)
      | (with_reducible refine LeO.ite ?_ ?_)
      | (with_reducible refine LeO.bind ?_ (fun _ => ?_))
      | exact ih0 _ _ _ _ _ _
      | exact ih1 _ _ _ _ _ _ _ _ _
      | exact LeO.none _
      | refine LeO.ite ?_ ?_
      | refine LeO.bind ?_ (fun _ => ?_)
theorem ranges_Remove.mono : ∀ a0 a1 a2 k, LeO (ranges_Remove.f k a0 a1 a2) (ranges_Remove.f (k + 1) a0 a1 a2) := by
  intro a0 a1 a2 k
  obtain ⟨ih0, ih1⟩ := ranges_Remove.mono_l k
  unfold ranges_Remove.f
  repeat' first
      | (with_reducible exact ih0 _ _ _ _ _ _)
      | (with_reducible exact ih1 _ _ _ _ _ _ _ _ _)
      | (with_reducible exact LeO.refl _)
      | (with_reducible exact LeO.none _)
      | (with_reducible refine LeO.ite ?_ ?_)
      | (with_reducible refine LeO.bind ?_ (fun _ => ?_))
      | exact ih0 _ _ _ _ _ _
      | exact ih1 _ _ _ _ _ _ _ _ _
      | exact LeO.none _
      | refine LeO.ite ?_ ?_
      | refine LeO.bind ?_ (fun _ => ?_)
set_option maxHeartbeats 8000000 in
set_option maxRecDepth 100000 in
theorem ranges_Remove.calls (k : Nat) (A0 : Option Addr) (c0 : Nat) (l0 : List (S25)) (a1_0 : Int) (a1_1 : Int) (r : List (S25)) (w : World) (hr0 : Kd.C k25 w A0 l0.length l0) (hc0 : l0.length ≤ c0) (h : ranges_Remove.f k l0 a1_0 a1_1 = some r) :
    Calls Try.prog 12 #[.slice A0 l0.length c0, .agg #[.int .u64 a1_0, .int .u64 a1_1]] w fun e w' => ∃ v0_ : Value, e = .returned (v0_) ∧ Kd.R k25 25 w' w.heap.size (fun _ => True) v0_ r ∧ Below w.heap.size w w' := by
  have hu25 := Try.underlying25
  have HR0 := Aside0.mk hr0
  have HC0 := Aside0.mk hc0
  clear hr0 hc0
  have HB := Aside0.mk (Below.refl w.heap.size w)
  have H : (ranges_Remove.l0 k ([] : List (S25)) l0 (l0.length : Int) 0 a1_0 a1_1) = some r := h
  clear h
  have H' := Aside0.mk H
  clear H
  go_enter Try.func12, Try.ntmps12
  go_wp2_with (first | ((with_reducible refine gate_dst (N := 3) rfl ?_); refine box_event ?hg (N := 3) ?hd (cs := #[.int .u64 a1_0, .int .u64 a1_1]) (t := 25) ?hr ?_; (case hd => rfl); (case hg => rfl); (case hr => first | (go_simp; done) | (go_simp; rfl)); intro gb177 hg w3 hbox hb; have n0_ := Aside0.mk (below_step (by repeat (first | (with_reducible first | exact HB.out | apply below_alloc | apply pw_below_drewN | apply below_drew1) | exact HB.out)) hb); have n1_ := Aside0.mk (hbox); have n2_ := Aside0.mk ((by rw [hg]; exact (below_size (by repeat (first | (with_reducible first | exact HB.out | apply below_alloc | apply pw_below_drewN | apply below_drew1) | exact HB.out))) : w.heap.size ≤ gb177)); have n3_ := Aside0.mk ((by rw [hg]; exact (below_size (by repeat (first | (with_reducible first | exact HB.out | apply below_alloc | apply pw_below_drewN | apply below_drew1) | exact HB.out))) : w.heap.size ≤ gb177)); clear HB; have HB := n0_; have BK177 := n1_; have GW177 := n2_; have GE177 := n3_; clear n0_ n1_ n2_ n3_; clear hb hbox hg))
  go_loopg [5, 10] k (fun kq v5 v10 w' => ∃ (x5_1 : List (S25)) (x10_1 : Int), v10 = .int .i64 x10_1 ∧ Aside0 (ranges_Remove.l0 kq x5_1 l0 (l0.length : Int) x10_1 a1_0 a1_1 = some r) ∧ Aside0 (kq ≤ k) ∧ Aside0 (Kd.R k25 25 w' w.heap.size (fun k_ => k_ ≠ gb177) v5 x5_1) ∧ Aside0 (w'.heap[gb177]? = some (.cells #[.int .u64 a1_0, .int .u64 a1_1] 25 (0, 0))) ∧ Aside0 (Below w.heap.size w w'))
  case atStart => exact ⟨(([] : List (S25))), (0), (by first | rfl | (simp; done) | (simp [*]; done)), H', ⟨Nat.le_refl _⟩, ⟨by first | exact Kd.R_nil _ _ _ _ _ | exact Kd.N_nil _ _ _ _ _ | exact Kd.V_nil _ _ _ _ _ | exact Kd.Q_nil _ _ _ _ _ | exact Kd.S_nil _ _ _ _ _⟩, ⟨by (with_reducible repeat (first | refine blk_drewN ?_ _ | refine blk_drew ?_ | refine blk_alloc ?_ _)); exact BK177.out⟩, ⟨by repeat (first | (with_reducible first | exact HB.out | apply below_alloc | apply pw_below_drewN | apply below_drew1 | refine below_set ?_ GE177.out) | exact HB.out)⟩⟩
  case round =>
    clear H'
    try clear c1
    try clear p2
    obtain ⟨x5_1, x10_1, rfl, HA, HK1, HO_5, BK177, HB⟩ := hrel
    cases gk with
    | zero => exact absurd HA.out (by simp [ranges_Remove.l0])
    | succ k1 =>
      have H := HA.out
      clear HA
      simp only [ranges_Remove.l0] at H
      by_cases c4 : x10_1 < (l0.length : Int)
      · rw [if_pos c4] at H
        have c4b0 : decide (x10_1 < (l0.length : Int)) = true := decide_eq_true c4
        clear c4
        by_cases c5 : 0 ≤ x10_1
        · rw [if_pos c5] at H
          have c5b0 : decide (0 ≤ x10_1) = true := decide_eq_true c5
          clear c5
          by_cases c6 : x10_1 < (l0.length : Int)
          · rw [if_pos c6] at H
            have c6b0 : decide (x10_1 < (l0.length : Int)) = true := decide_eq_true c6
            clear c6
            have HC7 := Aside0.mk H
            clear H
            have p178 : 0 ≤ (x10_1 : Int) := of_decide_eq_true (by first | (with_reducible assumption) | assumption)
            have q178 : x10_1 < (l0.length : Int) := of_decide_eq_true (by first | (with_reducible assumption) | assumption)
            obtain ⟨ad178, e178, hx178_0, hx178_1⟩ := at_T25 HR0.out x10_1 p178 q178
            cases e178
            replace hx178_0 := (HB.out.cell (World.block_lt_of_cell? w _ hx178_0)).trans hx178_0
            replace hx178_1 := (HB.out.cell (World.block_lt_of_cell? w _ hx178_1)).trans hx178_1
            replace p178 := eq_true p178
            replace q178 := eq_true q178
            go_upto_region 5 with (first | ((with_reducible refine gate_dst (N := 7) rfl ?_); refine box_event ?hg (N := 7) ?hd (cs := #[.int .u64 0, .int .u64 0]) (t := 25) ?hr ?_; (case hd => rfl); (case hg => rfl); (case hr => first | (go_simp; done) | (go_simp; rfl)); intro gb179 hg w8 hbox hb; have n0_ := Aside0.mk (Kd.R_below (Kd.R_elderB (by (with_reducible repeat (first | apply Kd.R_alloc | apply Kd.R_drewN | apply Kd.R_drew)); exact HO_5.out) gb179 (Nat.le_of_eq hg.symm)) hb); have n1_ := Aside0.mk (blk_below (g := gb177) (o := .cells #[.int .u64 a1_0, .int .u64 a1_1] 25 (0, 0)) (by (with_reducible repeat (first | refine blk_drewN ?_ _ | refine blk_drew ?_ | refine blk_alloc ?_ _)); exact BK177.out) hb); have n2_ := Aside0.mk (below_step (by repeat (first | (with_reducible first | exact HB.out | apply below_alloc | apply pw_below_drewN | apply below_drew1 | refine below_set ?_ GE177.out) | exact HB.out)) hb); have n3_ := Aside0.mk (hbox); have n4_ := Aside0.mk ((by rw [hg]; exact (below_size (by repeat (first | (with_reducible first | exact HB.out | apply below_alloc | apply pw_below_drewN | apply below_drew1 | refine below_set ?_ GE177.out) | exact HB.out))) : w.heap.size ≤ gb179)); have n5_ := Aside0.mk ((by rw [hg]; exact (below_size (by repeat (first | (with_reducible first | exact HB.out | apply below_alloc | apply pw_below_drewN | apply below_drew1 | refine below_set ?_ GE177.out) | exact HB.out))) : w.heap.size ≤ gb179)); have n6_ := Aside0.mk ((by rw [hg]; exact Nat.ne_of_lt (blk_lt (g := gb177) (o := .cells #[.int .u64 a1_0, .int .u64 a1_1] 25 (0, 0)) (by (with_reducible repeat (first | refine blk_drewN ?_ _ | refine blk_drew ?_ | refine blk_alloc ?_ _)); exact BK177.out)) : gb177 ≠ gb179)); have n7_ := Aside0.mk ((by rw [hg]; exact Nat.ne_of_gt (blk_lt (g := gb177) (o := .cells #[.int .u64 a1_0, .int .u64 a1_1] 25 (0, 0)) (by (with_reducible repeat (first | refine blk_drewN ?_ _ | refine blk_drew ?_ | refine blk_alloc ?_ _)); exact BK177.out)) : gb179 ≠ gb177)); clear HO_5; clear BK177; clear HB; have HO_5 := n0_; have BK177 := n1_; have HB := n2_; have BK179 := n3_; have GW179 := n4_; have GE179 := n5_; have NB177_179 := n6_; have NB179_177 := n7_; clear n0_ n1_ n2_ n3_ n4_ n5_ n6_ n7_; clear hb hbox hg; have hnb9 := NB179_177.out; have hnc9 := NB177_179.out; have hcz10_0 : w8.cell? ⟨gb179, 0, none⟩ = some (.int .u64 0) := (blk_cell BK179.out 0).trans rfl; have hcz10_1 : w8.cell? ⟨gb179, 1, none⟩ = some (.int .u64 0) := (blk_cell BK179.out 1).trans rfl; have hfz10_0 := blk_frozen BK179.out 0; have hfz10_1 := blk_frozen BK179.out 1))
            (try simp only [Act.put, List.setIfInBounds_toArray, List.set_cons_zero, List.set_cons_succ])
            go_cut [32] (fun v32 wc => ∃ (kq : Nat) (x32_6 : Bool), v32 = .bool x32_6 ∧ Aside0 (ranges_Remove.j1 kq x5_1 l0 (l0.length : Int) x10_1 x32_6 a1_0 a1_1 ((rd_T25 l0 x10_1).f0) ((rd_T25 l0 x10_1).f1) = some r) ∧ Aside0 (kq ≤ k1) ∧ Aside0 (Kd.R k25 25 wc w.heap.size (fun k_ => k_ ≠ gb177 ∧ k_ ≠ gb179) u5 x5_1) ∧ Aside0 (wc.heap[gb177]? = some (.cells #[.int .u64 a1_0, .int .u64 a1_1] 25 (0, 0))) ∧ Aside0 (wc.heap[gb179]? = some (.cells #[.int .u64 ((rd_T25 l0 x10_1).f0), .int .u64 ((rd_T25 l0 x10_1).f1)] 25 (0, 0))) ∧ Aside0 (Below w.heap.size w wc))
            case first =>
              have H := HC7.out
              clear HC7
              by_cases c11 : a1_0 ≥ a1_1
              · rw [if_pos c11] at H
                have c11b0 : decide (a1_1 ≤ a1_0) = true := decide_eq_true c11
                clear c11
                (first | rw [c11b0] | (simp only [i64_w, i32_w]; rw [c11b0]) | skip)
                have H' := Aside0.mk H
                clear H
                have hnb12 := NB177_179.out
                have hnc12 := NB179_177.out
                have hcz13_0 : w8.cell? ⟨gb177, 0, none⟩ = some (.int .u64 a1_0) := (blk_cell BK177.out 0).trans rfl
                have hcz13_1 : w8.cell? ⟨gb177, 1, none⟩ = some (.int .u64 a1_1) := (blk_cell BK177.out 1).trans rfl
                have hfz13_0 := blk_frozen BK177.out 0
                have hfz13_1 := blk_frozen BK177.out 1
                go_wp2
                go_meet
                case rel => exact ⟨_, (true), (by first | rfl | (simp; done) | (simp [*]; done)), H', ⟨by have := HK1.out; first | omega | exact Nat.le_refl _⟩, ⟨by (with_reducible repeat (first | apply Kd.R_alloc | apply Kd.R_drewN | apply Kd.R_drew)); exact Kd.R_mono (Kd.R_far (p := ⟨gb179, 1, none⟩) (Kd.R_far (p := ⟨gb179, 0, none⟩) (Kd.R_mono HO_5.out (fun k_ hk => (⟨hk, hk.2⟩ : _ ∧ k_ ≠ gb179))) (fun _ hk => hk.2) (.int .u64 ((rd_T25 l0 x10_1).f0))) (fun _ hk => hk.2) (.int .u64 ((rd_T25 l0 x10_1).f1))) (fun _ hk => ⟨hk.1.1, hk.1.2⟩)⟩, ⟨by (with_reducible repeat (first | refine blk_drewN ?_ _ | refine blk_drew ?_ | refine blk_alloc ?_ _)); refine blk_far ?_ NB177_179.out _; (with_reducible repeat (first | refine blk_drewN ?_ _ | refine blk_drew ?_ | refine blk_alloc ?_ _)); refine blk_far ?_ NB177_179.out _; (with_reducible repeat (first | refine blk_drewN ?_ _ | refine blk_drew ?_ | refine blk_alloc ?_ _)); exact BK177.out⟩, ⟨by (with_reducible repeat (first | refine blk_drewN ?_ _ | refine blk_drew ?_ | refine blk_alloc ?_ _)); refine blk_put (cs := #[.int .u64 ((rd_T25 l0 x10_1).f0), .int .u64 0]) ?_ 1 _ rfl; (with_reducible repeat (first | refine blk_drewN ?_ _ | refine blk_drew ?_ | refine blk_alloc ?_ _)); refine blk_put (cs := #[.int .u64 0, .int .u64 0]) ?_ 0 _ rfl; (with_reducible repeat (first | refine blk_drewN ?_ _ | refine blk_drew ?_ | refine blk_alloc ?_ _)); exact BK179.out⟩, ⟨by repeat (first | (with_reducible first | exact HB.out | apply below_alloc | apply pw_below_drewN | apply below_drew1 | refine below_set ?_ GE177.out | refine below_set ?_ GE179.out) | exact HB.out)⟩⟩
              · rw [if_neg c11] at H
                have c11b0 : decide (a1_1 ≤ a1_0) = false := decide_eq_false c11
                clear c11
                (first | rw [c11b0] | (simp only [i64_w, i32_w]; rw [c11b0]) | skip)
                by_cases c14 : ((rd_T25 l0 x10_1).f1) ≤ a1_0
                · rw [if_pos c14] at H
                  have c14b0 : decide (((rd_T25 l0 x10_1).f1) ≤ a1_0) = true := decide_eq_true c14
                  clear c14
                  have H' := Aside0.mk H
                  clear H
                  have hnb15 := NB177_179.out
                  have hnc15 := NB179_177.out
                  have hcz16_0 : w8.cell? ⟨gb177, 0, none⟩ = some (.int .u64 a1_0) := (blk_cell BK177.out 0).trans rfl
                  have hcz16_1 : w8.cell? ⟨gb177, 1, none⟩ = some (.int .u64 a1_1) := (blk_cell BK177.out 1).trans rfl
                  have hfz16_0 := blk_frozen BK177.out 0
                  have hfz16_1 := blk_frozen BK177.out 1
                  have hcz17_0 : w8.cell? ⟨gb179, 0, none⟩ = some (.int .u64 0) := (blk_cell BK179.out 0).trans rfl
                  have hcz17_1 : w8.cell? ⟨gb179, 1, none⟩ = some (.int .u64 0) := (blk_cell BK179.out 1).trans rfl
                  have hfz17_0 := blk_frozen BK179.out 0
                  have hfz17_1 := blk_frozen BK179.out 1
                  go_wp2
                  go_meet
                  case rel => exact ⟨_, (true), (by first | rfl | (simp; done) | (simp [*]; done)), H', ⟨by have := HK1.out; first | omega | exact Nat.le_refl _⟩, ⟨by (with_reducible repeat (first | apply Kd.R_alloc | apply Kd.R_drewN | apply Kd.R_drew)); exact Kd.R_mono (Kd.R_far (p := ⟨gb179, 1, none⟩) (Kd.R_far (p := ⟨gb179, 0, none⟩) (Kd.R_mono HO_5.out (fun k_ hk => (⟨hk, hk.2⟩ : _ ∧ k_ ≠ gb179))) (fun _ hk => hk.2) (.int .u64 ((rd_T25 l0 x10_1).f0))) (fun _ hk => hk.2) (.int .u64 ((rd_T25 l0 x10_1).f1))) (fun _ hk => ⟨hk.1.1, hk.1.2⟩)⟩, ⟨by (with_reducible repeat (first | refine blk_drewN ?_ _ | refine blk_drew ?_ | refine blk_alloc ?_ _)); refine blk_far ?_ NB177_179.out _; (with_reducible repeat (first | refine blk_drewN ?_ _ | refine blk_drew ?_ | refine blk_alloc ?_ _)); refine blk_far ?_ NB177_179.out _; (with_reducible repeat (first | refine blk_drewN ?_ _ | refine blk_drew ?_ | refine blk_alloc ?_ _)); exact BK177.out⟩, ⟨by (with_reducible repeat (first | refine blk_drewN ?_ _ | refine blk_drew ?_ | refine blk_alloc ?_ _)); refine blk_put (cs := #[.int .u64 ((rd_T25 l0 x10_1).f0), .int .u64 0]) ?_ 1 _ rfl; (with_reducible repeat (first | refine blk_drewN ?_ _ | refine blk_drew ?_ | refine blk_alloc ?_ _)); refine blk_put (cs := #[.int .u64 0, .int .u64 0]) ?_ 0 _ rfl; (with_reducible repeat (first | refine blk_drewN ?_ _ | refine blk_drew ?_ | refine blk_alloc ?_ _)); exact BK179.out⟩, ⟨by repeat (first | (with_reducible first | exact HB.out | apply below_alloc | apply pw_below_drewN | apply below_drew1 | refine below_set ?_ GE177.out | refine below_set ?_ GE179.out) | exact HB.out)⟩⟩
                · rw [if_neg c14] at H
                  have c14b0 : decide (((rd_T25 l0 x10_1).f1) ≤ a1_0) = false := decide_eq_false c14
                  clear c14
                  have H' := Aside0.mk H
                  clear H
                  have hnb18 := NB177_179.out
                  have hnc18 := NB179_177.out
                  have hcz19_0 : w8.cell? ⟨gb177, 0, none⟩ = some (.int .u64 a1_0) := (blk_cell BK177.out 0).trans rfl
                  have hcz19_1 : w8.cell? ⟨gb177, 1, none⟩ = some (.int .u64 a1_1) := (blk_cell BK177.out 1).trans rfl
                  have hfz19_0 := blk_frozen BK177.out 0
                  have hfz19_1 := blk_frozen BK177.out 1
                  have hcz20_0 : w8.cell? ⟨gb179, 0, none⟩ = some (.int .u64 0) := (blk_cell BK179.out 0).trans rfl
                  have hcz20_1 : w8.cell? ⟨gb179, 1, none⟩ = some (.int .u64 0) := (blk_cell BK179.out 1).trans rfl
                  have hfz20_0 := blk_frozen BK179.out 0
                  have hfz20_1 := blk_frozen BK179.out 1
                  go_wp2
                  go_meet
                  case rel => exact ⟨_, (decide (a1_1 ≤ ((rd_T25 l0 x10_1).f0))), (by first | rfl | (simp; done) | (simp [*]; done)), H', ⟨by have := HK1.out; first | omega | exact Nat.le_refl _⟩, ⟨by (with_reducible repeat (first | apply Kd.R_alloc | apply Kd.R_drewN | apply Kd.R_drew)); exact Kd.R_mono (Kd.R_far (p := ⟨gb179, 1, none⟩) (Kd.R_far (p := ⟨gb179, 0, none⟩) (Kd.R_mono HO_5.out (fun k_ hk => (⟨hk, hk.2⟩ : _ ∧ k_ ≠ gb179))) (fun _ hk => hk.2) (.int .u64 ((rd_T25 l0 x10_1).f0))) (fun _ hk => hk.2) (.int .u64 ((rd_T25 l0 x10_1).f1))) (fun _ hk => ⟨hk.1.1, hk.1.2⟩)⟩, ⟨by (with_reducible repeat (first | refine blk_drewN ?_ _ | refine blk_drew ?_ | refine blk_alloc ?_ _)); refine blk_far ?_ NB177_179.out _; (with_reducible repeat (first | refine blk_drewN ?_ _ | refine blk_drew ?_ | refine blk_alloc ?_ _)); refine blk_far ?_ NB177_179.out _; (with_reducible repeat (first | refine blk_drewN ?_ _ | refine blk_drew ?_ | refine blk_alloc ?_ _)); exact BK177.out⟩, ⟨by (with_reducible repeat (first | refine blk_drewN ?_ _ | refine blk_drew ?_ | refine blk_alloc ?_ _)); refine blk_put (cs := #[.int .u64 ((rd_T25 l0 x10_1).f0), .int .u64 0]) ?_ 1 _ rfl; (with_reducible repeat (first | refine blk_drewN ?_ _ | refine blk_drew ?_ | refine blk_alloc ?_ _)); refine blk_put (cs := #[.int .u64 0, .int .u64 0]) ?_ 0 _ rfl; (with_reducible repeat (first | refine blk_drewN ?_ _ | refine blk_drew ?_ | refine blk_alloc ?_ _)); exact BK179.out⟩, ⟨by repeat (first | (with_reducible first | exact HB.out | apply below_alloc | apply pw_below_drewN | apply below_drew1 | refine below_set ?_ GE177.out | refine below_set ?_ GE179.out) | exact HB.out)⟩⟩
            case rest =>
              clear HC7
              try clear c1
              try clear p1
              try clear q1
              try clear hx1
              try clear p2
              try clear c4
              try clear c4b0
              try clear c5
              try clear c5b0
              try clear c6
              try clear c6b0
              try clear c9
              try clear c11
              try clear c11b0
              try clear c12
              try clear c14
              try clear c14b0
              try clear c15
              try clear p17
              try clear q17
              try clear hx17
              try clear c18
              try clear hcz10_0
              try clear hcz10_1
              try clear hcz13_0
              try clear hcz13_1
              try clear hcz16_0
              try clear hcz16_1
              try clear hcz17_0
              try clear hcz17_1
              try clear hcz19_0
              try clear hcz19_1
              try clear hcz20_0
              try clear hcz20_1
              try clear hfz10_0
              try clear hfz10_1
              try clear hfz13_0
              try clear hfz13_1
              try clear hfz16_0
              try clear hfz16_1
              try clear hfz17_0
              try clear hfz17_1
              try clear hfz19_0
              try clear hfz19_1
              try clear hfz20_0
              try clear hfz20_1
              try clear hx178_0
              try clear hx178_1
              try clear p178
              try clear p2
              try clear q178
              obtain ⟨kq, x32_6, rfl, HA, HJ6, HO_5, BK177, BK179, HB⟩ := hcut
              cases kq with
              | zero => exact absurd HA.out (by simp [ranges_Remove.j1])
              | succ kj6 =>
                have H := HA.out
                clear HA
                simp only [ranges_Remove.j1] at H
                by_cases c21 : x32_6 = true
                · subst c21
                  have H1 : (if x5_1.length < 8796093022208 then (ranges_Remove.l0 kj6 (x5_1 ++ [(⟨((rd_T25 l0 x10_1).f0), ((rd_T25 l0 x10_1).f1)⟩ : S25)]) l0 (l0.length : Int) (wrap64 (x10_1 + 1)) a1_0 a1_1) else (none)) = some r := by rw [if_pos rfl] at H; exact H
                  clear H
                  have H := H1
                  clear H1
                  by_cases c22 : x5_1.length < 8796093022208
                  · rw [if_pos c22] at H
                    have LMc22 := Aside0.mk c22
                    clear c22
                    obtain ⟨y180, hy180⟩ : ∃ y_ : List (S25), y_ = (x5_1 ++ [(⟨((rd_T25 l0 x10_1).f0), ((rd_T25 l0 x10_1).f1)⟩ : S25)]) := ⟨_, rfl⟩
                    replace H : (ranges_Remove.l0 kj6 y180 l0 (l0.length : Int) (wrap64 (x10_1 + 1)) a1_0 a1_1) = some r := by first | (rw [hy180]; with_reducible exact H) | (have H2_ := (Option.bind_some _ _).symm.trans H; rw [hy180]; with_reducible exact H2_) | (have H2_ := (Option.bind_some _ _).symm.trans H; with_reducible exact H2_) | with_reducible exact H | (rw [hy180]; exact H) | exact H
                    have Ny180 := Aside0.mk hy180
                    clear hy180
                    have H' := Aside0.mk H
                    clear H
                    have hnb23 := NB179_177.out
                    have hnc23 := NB177_179.out
                    have hcz24_0 : wc.cell? ⟨gb179, 0, none⟩ = some (.int .u64 ((rd_T25 l0 x10_1).f0)) := (blk_cell BK179.out 0).trans rfl
                    have hcz24_1 : wc.cell? ⟨gb179, 1, none⟩ = some (.int .u64 ((rd_T25 l0 x10_1).f1)) := (blk_cell BK179.out 1).trans rfl
                    have hfz24_0 := blk_frozen BK179.out 0
                    have hfz24_1 := blk_frozen BK179.out 1
                    go_wp2_with (first | ((with_reducible refine gate_builtin (b := .append) (xs := #[.tmp 33, .tmp 35]) rfl ?_); at_builtin; refine Kd.R_append k25 (w0 := w) w.heap.size rfl (.tmp 33) (.tmp 35) 22 25 (.agg #[(.int .u64 0), (.int .u64 0)]) 16 rfl Try.underlying22 info25 rfl (by decide) (by omega) u5 x5_1 (⟨((rd_T25 l0 x10_1).f0), ((rd_T25 l0 x10_1).f1)⟩ : S25) [.int .u64 ((rd_T25 l0 x10_1).f0), .int .u64 ((rd_T25 l0 x10_1).f1)] (fun k_ => k_ ≠ gb177 ∧ k_ ≠ gb179) (fun _ => False) rfl rfl ?aP (fun _ hk => hk.elim) ?aF ?aO ?aB ?aS ?aL ?_; (case aP => exact k25_mkM _ _ _ (⟨((rd_T25 l0 x10_1).f0), ((rd_T25 l0 x10_1).f1)⟩ : S25)); (case aB => exact (by repeat (first | (with_reducible first | exact HB.out | apply below_alloc | apply pw_below_drewN | apply below_drew1 | refine below_set ?_ GE177.out | refine below_set ?_ GE179.out) | exact HB.out))); (case aF => exact (fun k_ hk => ⟨Kd.freshB (g := gb177) (o := .cells #[.int .u64 a1_0, .int .u64 a1_1] 25 (0, 0)) (by (with_reducible repeat (first | refine blk_drewN ?_ _ | refine blk_drew ?_ | refine blk_alloc ?_ _)); exact BK177.out) k_ hk, Kd.freshB (g := gb179) (o := .cells #[.int .u64 ((rd_T25 l0 x10_1).f0), .int .u64 ((rd_T25 l0 x10_1).f1)] 25 (0, 0)) (by (with_reducible repeat (first | refine blk_drewN ?_ _ | refine blk_drew ?_ | refine blk_alloc ?_ _)); exact BK179.out) k_ hk⟩)); (case aO => exact (by (with_reducible repeat (first | apply Kd.R_alloc | apply Kd.R_drewN | apply Kd.R_drew)); exact HO_5.out)); (case aS => exact (below_size (by repeat (first | (with_reducible first | exact HB.out | apply below_alloc | apply pw_below_drewN | apply below_drew1 | refine below_set ?_ GE177.out | refine below_set ?_ GE179.out) | exact HB.out)))); (case aL => have := LMc22.out; omega); intro v181 w25 ho hb hg hat; rw [← Ny180.out] at ho; have n0_ := Aside0.mk (blk_grown (g := gb177) (o := .cells #[.int .u64 a1_0, .int .u64 a1_1] 25 (0, 0)) (by (with_reducible repeat (first | refine blk_drewN ?_ _ | refine blk_drew ?_ | refine blk_alloc ?_ _)); exact BK177.out) hg (Kd.R_away HO_5.out (fun _ hk => hk.1))); have n1_ := Aside0.mk (blk_grown (g := gb179) (o := .cells #[.int .u64 ((rd_T25 l0 x10_1).f0), .int .u64 ((rd_T25 l0 x10_1).f1)] 25 (0, 0)) (by (with_reducible repeat (first | refine blk_drewN ?_ _ | refine blk_drew ?_ | refine blk_alloc ?_ _)); exact BK179.out) hg (Kd.R_away HO_5.out (fun _ hk => hk.2))); have n2_ := Aside0.mk (hb); have n3_ := Aside0.mk (ho); clear BK177; clear BK179; clear HB; clear HO_5; have BK177 := n0_; have BK179 := n1_; have HB := n2_; have HO182 := n3_; clear n0_ n1_ n2_ n3_; clear ho hb hg hat))
                    go_roundg kj6
                    case measure => have := HK1.out; have := HJ6.out; omega
                    case rel => exact ⟨(y180), (wrap64 (x10_1 + 1)), (by first | rfl | (simp; done) | (simp [*]; done)), H', ⟨by have := HK1.out; have := HJ6.out; omega⟩, ⟨by (with_reducible repeat (first | apply Kd.R_alloc | apply Kd.R_drewN | apply Kd.R_drew)); exact Kd.R_mono HO182.out (fun _ hk => hk.1)⟩, ⟨by (with_reducible repeat (first | refine blk_drewN ?_ _ | refine blk_drew ?_ | refine blk_alloc ?_ _)); exact BK177.out⟩, ⟨by repeat (first | (with_reducible first | exact HB.out | apply below_alloc | apply pw_below_drewN | apply below_drew1 | refine below_set ?_ GE177.out | refine below_set ?_ GE179.out) | exact HB.out)⟩⟩
                  · rw [if_neg c22] at H
                    exact absurd H (by simp)
                · replace c21 := Bool.eq_false_iff.mpr c21
                  subst c21
                  have H1 : (if ((rd_T25 l0 x10_1).f0) < a1_0 then (if x5_1.length < 8796093022208 then ((some (x5_1 ++ [(⟨((rd_T25 l0 x10_1).f0), a1_0⟩ : S25)] : List (S25))).bind fun y183 => (if a1_1 < ((rd_T25 l0 x10_1).f1) then (if y183.length < 8796093022208 then (ranges_Remove.l0 kj6 (y183 ++ [(⟨a1_1, ((rd_T25 l0 x10_1).f1)⟩ : S25)]) l0 (l0.length : Int) (wrap64 (x10_1 + 1)) a1_0 a1_1) else (none)) else (ranges_Remove.l0 kj6 y183 l0 (l0.length : Int) (wrap64 (x10_1 + 1)) a1_0 a1_1))) else (none)) else (if a1_1 < ((rd_T25 l0 x10_1).f1) then (if x5_1.length < 8796093022208 then (ranges_Remove.l0 kj6 (x5_1 ++ [(⟨a1_1, ((rd_T25 l0 x10_1).f1)⟩ : S25)]) l0 (l0.length : Int) (wrap64 (x10_1 + 1)) a1_0 a1_1) else (none)) else (ranges_Remove.l0 kj6 x5_1 l0 (l0.length : Int) (wrap64 (x10_1 + 1)) a1_0 a1_1))) = some r := by rw [if_neg (show ¬ (false = true) by decide)] at H; exact H
                  clear H
                  have H := H1
                  clear H1
                  by_cases c26 : ((rd_T25 l0 x10_1).f0) < a1_0
                  · rw [if_pos c26] at H
                    have c26b0 : decide (((rd_T25 l0 x10_1).f0) < a1_0) = true := decide_eq_true c26
                    clear c26
                    by_cases c27 : x5_1.length < 8796093022208
                    · rw [if_pos c27] at H
                      have LMc27 := Aside0.mk c27
                      clear c27
                      obtain ⟨y183, hy183⟩ : ∃ y_ : List (S25), y_ = (x5_1 ++ [(⟨((rd_T25 l0 x10_1).f0), a1_0⟩ : S25)]) := ⟨_, rfl⟩
                      replace H : (if a1_1 < ((rd_T25 l0 x10_1).f1) then (if y183.length < 8796093022208 then (ranges_Remove.l0 kj6 (y183 ++ [(⟨a1_1, ((rd_T25 l0 x10_1).f1)⟩ : S25)]) l0 (l0.length : Int) (wrap64 (x10_1 + 1)) a1_0 a1_1) else (none)) else (ranges_Remove.l0 kj6 y183 l0 (l0.length : Int) (wrap64 (x10_1 + 1)) a1_0 a1_1)) = some r := by first | (rw [hy183]; with_reducible exact H) | (have H2_ := (Option.bind_some _ _).symm.trans H; rw [hy183]; with_reducible exact H2_) | (have H2_ := (Option.bind_some _ _).symm.trans H; with_reducible exact H2_) | with_reducible exact H | (rw [hy183]; exact H) | exact H
                      have Ny183 := Aside0.mk hy183
                      clear hy183
                      by_cases c28 : a1_1 < ((rd_T25 l0 x10_1).f1)
                      · rw [if_pos c28] at H
                        have c28b0 : decide (a1_1 < ((rd_T25 l0 x10_1).f1)) = true := decide_eq_true c28
                        clear c28
                        by_cases c29 : y183.length < 8796093022208
                        · rw [if_pos c29] at H
                          have LMc29 := Aside0.mk c29
                          clear c29
                          obtain ⟨y186, hy186⟩ : ∃ y_ : List (S25), y_ = (y183 ++ [(⟨a1_1, ((rd_T25 l0 x10_1).f1)⟩ : S25)]) := ⟨_, rfl⟩
                          replace H : (ranges_Remove.l0 kj6 y186 l0 (l0.length : Int) (wrap64 (x10_1 + 1)) a1_0 a1_1) = some r := by first | (rw [hy186]; with_reducible exact H) | (have H2_ := (Option.bind_some _ _).symm.trans H; rw [hy186]; with_reducible exact H2_) | (have H2_ := (Option.bind_some _ _).symm.trans H; with_reducible exact H2_) | with_reducible exact H | (rw [hy186]; exact H) | exact H
                          have Ny186 := Aside0.mk hy186
                          clear hy186
                          have H' := Aside0.mk H
                          clear H
                          have hnb30 := NB179_177.out
                          have hnc30 := NB177_179.out
                          have hcz31_0 : wc.cell? ⟨gb179, 0, none⟩ = some (.int .u64 ((rd_T25 l0 x10_1).f0)) := (blk_cell BK179.out 0).trans rfl
                          have hcz31_1 : wc.cell? ⟨gb179, 1, none⟩ = some (.int .u64 ((rd_T25 l0 x10_1).f1)) := (blk_cell BK179.out 1).trans rfl
                          have hfz31_0 := blk_frozen BK179.out 0
                          have hfz31_1 := blk_frozen BK179.out 1
                          have hcz32_0 : wc.cell? ⟨gb177, 0, none⟩ = some (.int .u64 a1_0) := (blk_cell BK177.out 0).trans rfl
                          have hcz32_1 : wc.cell? ⟨gb177, 1, none⟩ = some (.int .u64 a1_1) := (blk_cell BK177.out 1).trans rfl
                          have hfz32_0 := blk_frozen BK177.out 0
                          have hfz32_1 := blk_frozen BK177.out 1
                          go_wp2_with (first | ((with_reducible refine gate_builtin (b := .append) (xs := #[.tmp 42, .tmp 48]) rfl ?_); at_builtin; refine Kd.R_append k25 (w0 := w) w.heap.size rfl (.tmp 42) (.tmp 48) 22 25 (.agg #[(.int .u64 0), (.int .u64 0)]) 16 rfl Try.underlying22 info25 rfl (by decide) (by omega) u5 x5_1 (⟨((rd_T25 l0 x10_1).f0), a1_0⟩ : S25) [.int .u64 ((rd_T25 l0 x10_1).f0), .int .u64 a1_0] (fun k_ => k_ ≠ gb177 ∧ k_ ≠ gb179) (fun _ => False) rfl rfl ?aP (fun _ hk => hk.elim) ?aF ?aO ?aB ?aS ?aL ?_; (case aP => exact k25_mkM _ _ _ (⟨((rd_T25 l0 x10_1).f0), a1_0⟩ : S25)); (case aB => exact (by repeat (first | (with_reducible first | exact HB.out | apply below_alloc | apply pw_below_drewN | apply below_drew1 | refine below_set ?_ GE177.out | refine below_set ?_ GE179.out) | exact HB.out))); (case aF => exact (fun k_ hk => ⟨Kd.freshB (g := gb177) (o := .cells #[.int .u64 a1_0, .int .u64 a1_1] 25 (0, 0)) (by (with_reducible repeat (first | refine blk_drewN ?_ _ | refine blk_drew ?_ | refine blk_alloc ?_ _)); exact BK177.out) k_ hk, Kd.freshB (g := gb179) (o := .cells #[.int .u64 ((rd_T25 l0 x10_1).f0), .int .u64 ((rd_T25 l0 x10_1).f1)] 25 (0, 0)) (by (with_reducible repeat (first | refine blk_drewN ?_ _ | refine blk_drew ?_ | refine blk_alloc ?_ _)); exact BK179.out) k_ hk⟩)); (case aO => exact (by (with_reducible repeat (first | apply Kd.R_alloc | apply Kd.R_drewN | apply Kd.R_drew)); exact HO_5.out)); (case aS => exact (below_size (by repeat (first | (with_reducible first | exact HB.out | apply below_alloc | apply pw_below_drewN | apply below_drew1 | refine below_set ?_ GE177.out | refine below_set ?_ GE179.out) | exact HB.out)))); (case aL => have := LMc27.out; omega); intro v184 w33 ho hb hg hat; rw [← Ny183.out] at ho; have n0_ := Aside0.mk (blk_grown (g := gb177) (o := .cells #[.int .u64 a1_0, .int .u64 a1_1] 25 (0, 0)) (by (with_reducible repeat (first | refine blk_drewN ?_ _ | refine blk_drew ?_ | refine blk_alloc ?_ _)); exact BK177.out) hg (Kd.R_away HO_5.out (fun _ hk => hk.1))); have n1_ := Aside0.mk (blk_grown (g := gb179) (o := .cells #[.int .u64 ((rd_T25 l0 x10_1).f0), .int .u64 ((rd_T25 l0 x10_1).f1)] 25 (0, 0)) (by (with_reducible repeat (first | refine blk_drewN ?_ _ | refine blk_drew ?_ | refine blk_alloc ?_ _)); exact BK179.out) hg (Kd.R_away HO_5.out (fun _ hk => hk.2))); have n2_ := Aside0.mk (hb); have n3_ := Aside0.mk (ho); clear BK177; clear BK179; clear HB; clear HO_5; have BK177 := n0_; have BK179 := n1_; have HB := n2_; have HO185 := n3_; clear n0_ n1_ n2_ n3_; clear ho hb hg hat; have hcz34_0 : w33.cell? ⟨gb177, 0, none⟩ = some (.int .u64 a1_0) := (blk_cell BK177.out 0).trans rfl; have hcz34_1 : w33.cell? ⟨gb177, 1, none⟩ = some (.int .u64 a1_1) := (blk_cell BK177.out 1).trans rfl; have hfz34_0 := blk_frozen BK177.out 0; have hfz34_1 := blk_frozen BK177.out 1; have hcz35_0 : w33.cell? ⟨gb179, 0, none⟩ = some (.int .u64 ((rd_T25 l0 x10_1).f0)) := (blk_cell BK179.out 0).trans rfl; have hcz35_1 : w33.cell? ⟨gb179, 1, none⟩ = some (.int .u64 ((rd_T25 l0 x10_1).f1)) := (blk_cell BK179.out 1).trans rfl; have hfz35_0 := blk_frozen BK179.out 0; have hfz35_1 := blk_frozen BK179.out 1) | ((with_reducible refine gate_builtin (b := .append) (xs := #[.tmp 55, .tmp 61]) rfl ?_); at_builtin; refine Kd.R_append k25 (w0 := w) w.heap.size rfl (.tmp 55) (.tmp 61) 22 25 (.agg #[(.int .u64 0), (.int .u64 0)]) 16 rfl Try.underlying22 info25 rfl (by decide) (by omega) v184 y183 (⟨a1_1, ((rd_T25 l0 x10_1).f1)⟩ : S25) [.int .u64 a1_1, .int .u64 ((rd_T25 l0 x10_1).f1)] (fun k_ => k_ ≠ gb177 ∧ k_ ≠ gb179) (fun _ => False) rfl rfl ?aP (fun _ hk => hk.elim) ?aF ?aO ?aB ?aS ?aL ?_; (case aP => exact k25_mkM _ _ _ (⟨a1_1, ((rd_T25 l0 x10_1).f1)⟩ : S25)); (case aB => exact (by repeat (first | (with_reducible first | exact HB.out | apply below_alloc | apply pw_below_drewN | apply below_drew1 | refine below_set ?_ GE177.out | refine below_set ?_ GE179.out) | exact HB.out))); (case aF => exact (fun k_ hk => ⟨Kd.freshB (g := gb177) (o := .cells #[.int .u64 a1_0, .int .u64 a1_1] 25 (0, 0)) (by (with_reducible repeat (first | refine blk_drewN ?_ _ | refine blk_drew ?_ | refine blk_alloc ?_ _)); exact BK177.out) k_ hk, Kd.freshB (g := gb179) (o := .cells #[.int .u64 ((rd_T25 l0 x10_1).f0), .int .u64 ((rd_T25 l0 x10_1).f1)] 25 (0, 0)) (by (with_reducible repeat (first | refine blk_drewN ?_ _ | refine blk_drew ?_ | refine blk_alloc ?_ _)); exact BK179.out) k_ hk⟩)); (case aO => exact (by (with_reducible repeat (first | apply Kd.R_alloc | apply Kd.R_drewN | apply Kd.R_drew)); exact HO185.out)); (case aS => exact (below_size (by repeat (first | (with_reducible first | exact HB.out | apply below_alloc | apply pw_below_drewN | apply below_drew1 | refine below_set ?_ GE177.out | refine below_set ?_ GE179.out) | exact HB.out)))); (case aL => have := LMc29.out; omega); intro v187 w36 ho hb hg hat; rw [← Ny186.out] at ho; have n0_ := Aside0.mk (blk_grown (g := gb177) (o := .cells #[.int .u64 a1_0, .int .u64 a1_1] 25 (0, 0)) (by (with_reducible repeat (first | refine blk_drewN ?_ _ | refine blk_drew ?_ | refine blk_alloc ?_ _)); exact BK177.out) hg (Kd.R_away HO185.out (fun _ hk => hk.1))); have n1_ := Aside0.mk (blk_grown (g := gb179) (o := .cells #[.int .u64 ((rd_T25 l0 x10_1).f0), .int .u64 ((rd_T25 l0 x10_1).f1)] 25 (0, 0)) (by (with_reducible repeat (first | refine blk_drewN ?_ _ | refine blk_drew ?_ | refine blk_alloc ?_ _)); exact BK179.out) hg (Kd.R_away HO185.out (fun _ hk => hk.2))); have n2_ := Aside0.mk (hb); have n3_ := Aside0.mk (ho); clear BK177; clear BK179; clear HB; clear HO185; have BK177 := n0_; have BK179 := n1_; have HB := n2_; have HO188 := n3_; clear n0_ n1_ n2_ n3_; clear ho hb hg hat))
                          go_roundg kj6
                          case measure => have := HK1.out; have := HJ6.out; omega
                          case rel => exact ⟨(y186), (wrap64 (x10_1 + 1)), (by first | rfl | (simp; done) | (simp [*]; done)), H', ⟨by have := HK1.out; have := HJ6.out; omega⟩, ⟨by (with_reducible repeat (first | apply Kd.R_alloc | apply Kd.R_drewN | apply Kd.R_drew)); exact Kd.R_mono HO188.out (fun _ hk => hk.1)⟩, ⟨by (with_reducible repeat (first | refine blk_drewN ?_ _ | refine blk_drew ?_ | refine blk_alloc ?_ _)); exact BK177.out⟩, ⟨by repeat (first | (with_reducible first | exact HB.out | apply below_alloc | apply pw_below_drewN | apply below_drew1 | refine below_set ?_ GE177.out | refine below_set ?_ GE179.out) | exact HB.out)⟩⟩
                        · rw [if_neg c29] at H
                          exact absurd H (by simp)
                      · rw [if_neg c28] at H
                        have c28b0 : decide (a1_1 < ((rd_T25 l0 x10_1).f1)) = false := decide_eq_false c28
                        clear c28
                        have H' := Aside0.mk H
                        clear H
                        have hnb37 := NB179_177.out
                        have hnc37 := NB177_179.out
                        have hcz38_0 : wc.cell? ⟨gb179, 0, none⟩ = some (.int .u64 ((rd_T25 l0 x10_1).f0)) := (blk_cell BK179.out 0).trans rfl
                        have hcz38_1 : wc.cell? ⟨gb179, 1, none⟩ = some (.int .u64 ((rd_T25 l0 x10_1).f1)) := (blk_cell BK179.out 1).trans rfl
                        have hfz38_0 := blk_frozen BK179.out 0
                        have hfz38_1 := blk_frozen BK179.out 1
                        have hcz39_0 : wc.cell? ⟨gb177, 0, none⟩ = some (.int .u64 a1_0) := (blk_cell BK177.out 0).trans rfl
                        have hcz39_1 : wc.cell? ⟨gb177, 1, none⟩ = some (.int .u64 a1_1) := (blk_cell BK177.out 1).trans rfl
                        have hfz39_0 := blk_frozen BK177.out 0
                        have hfz39_1 := blk_frozen BK177.out 1
                        go_wp2_with (first | ((with_reducible refine gate_builtin (b := .append) (xs := #[.tmp 42, .tmp 48]) rfl ?_); at_builtin; refine Kd.R_append k25 (w0 := w) w.heap.size rfl (.tmp 42) (.tmp 48) 22 25 (.agg #[(.int .u64 0), (.int .u64 0)]) 16 rfl Try.underlying22 info25 rfl (by decide) (by omega) u5 x5_1 (⟨((rd_T25 l0 x10_1).f0), a1_0⟩ : S25) [.int .u64 ((rd_T25 l0 x10_1).f0), .int .u64 a1_0] (fun k_ => k_ ≠ gb177 ∧ k_ ≠ gb179) (fun _ => False) rfl rfl ?aP (fun _ hk => hk.elim) ?aF ?aO ?aB ?aS ?aL ?_; (case aP => exact k25_mkM _ _ _ (⟨((rd_T25 l0 x10_1).f0), a1_0⟩ : S25)); (case aB => exact (by repeat (first | (with_reducible first | exact HB.out | apply below_alloc | apply pw_below_drewN | apply below_drew1 | refine below_set ?_ GE177.out | refine below_set ?_ GE179.out) | exact HB.out))); (case aF => exact (fun k_ hk => ⟨Kd.freshB (g := gb177) (o := .cells #[.int .u64 a1_0, .int .u64 a1_1] 25 (0, 0)) (by (with_reducible repeat (first | refine blk_drewN ?_ _ | refine blk_drew ?_ | refine blk_alloc ?_ _)); exact BK177.out) k_ hk, Kd.freshB (g := gb179) (o := .cells #[.int .u64 ((rd_T25 l0 x10_1).f0), .int .u64 ((rd_T25 l0 x10_1).f1)] 25 (0, 0)) (by (with_reducible repeat (first | refine blk_drewN ?_ _ | refine blk_drew ?_ | refine blk_alloc ?_ _)); exact BK179.out) k_ hk⟩)); (case aO => exact (by (with_reducible repeat (first | apply Kd.R_alloc | apply Kd.R_drewN | apply Kd.R_drew)); exact HO_5.out)); (case aS => exact (below_size (by repeat (first | (with_reducible first | exact HB.out | apply below_alloc | apply pw_below_drewN | apply below_drew1 | refine below_set ?_ GE177.out | refine below_set ?_ GE179.out) | exact HB.out)))); (case aL => have := LMc27.out; omega); intro v184 w40 ho hb hg hat; rw [← Ny183.out] at ho; have n0_ := Aside0.mk (blk_grown (g := gb177) (o := .cells #[.int .u64 a1_0, .int .u64 a1_1] 25 (0, 0)) (by (with_reducible repeat (first | refine blk_drewN ?_ _ | refine blk_drew ?_ | refine blk_alloc ?_ _)); exact BK177.out) hg (Kd.R_away HO_5.out (fun _ hk => hk.1))); have n1_ := Aside0.mk (blk_grown (g := gb179) (o := .cells #[.int .u64 ((rd_T25 l0 x10_1).f0), .int .u64 ((rd_T25 l0 x10_1).f1)] 25 (0, 0)) (by (with_reducible repeat (first | refine blk_drewN ?_ _ | refine blk_drew ?_ | refine blk_alloc ?_ _)); exact BK179.out) hg (Kd.R_away HO_5.out (fun _ hk => hk.2))); have n2_ := Aside0.mk (hb); have n3_ := Aside0.mk (ho); clear BK177; clear BK179; clear HB; clear HO_5; have BK177 := n0_; have BK179 := n1_; have HB := n2_; have HO185 := n3_; clear n0_ n1_ n2_ n3_; clear ho hb hg hat; have hcz41_0 : w40.cell? ⟨gb177, 0, none⟩ = some (.int .u64 a1_0) := (blk_cell BK177.out 0).trans rfl; have hcz41_1 : w40.cell? ⟨gb177, 1, none⟩ = some (.int .u64 a1_1) := (blk_cell BK177.out 1).trans rfl; have hfz41_0 := blk_frozen BK177.out 0; have hfz41_1 := blk_frozen BK177.out 1; have hcz42_0 : w40.cell? ⟨gb179, 0, none⟩ = some (.int .u64 ((rd_T25 l0 x10_1).f0)) := (blk_cell BK179.out 0).trans rfl; have hcz42_1 : w40.cell? ⟨gb179, 1, none⟩ = some (.int .u64 ((rd_T25 l0 x10_1).f1)) := (blk_cell BK179.out 1).trans rfl; have hfz42_0 := blk_frozen BK179.out 0; have hfz42_1 := blk_frozen BK179.out 1))
                        go_roundg kj6
                        case measure => have := HK1.out; have := HJ6.out; omega
                        case rel => exact ⟨(y183), (wrap64 (x10_1 + 1)), (by first | rfl | (simp; done) | (simp [*]; done)), H', ⟨by have := HK1.out; have := HJ6.out; omega⟩, ⟨by (with_reducible repeat (first | apply Kd.R_alloc | apply Kd.R_drewN | apply Kd.R_drew)); exact Kd.R_mono HO185.out (fun _ hk => hk.1)⟩, ⟨by (with_reducible repeat (first | refine blk_drewN ?_ _ | refine blk_drew ?_ | refine blk_alloc ?_ _)); exact BK177.out⟩, ⟨by repeat (first | (with_reducible first | exact HB.out | apply below_alloc | apply pw_below_drewN | apply below_drew1 | refine below_set ?_ GE177.out | refine below_set ?_ GE179.out) | exact HB.out)⟩⟩
                    · rw [if_neg c27] at H
                      exact absurd H (by simp)
                  · rw [if_neg c26] at H
                    have c26b0 : decide (((rd_T25 l0 x10_1).f0) < a1_0) = false := decide_eq_false c26
                    clear c26
                    by_cases c43 : a1_1 < ((rd_T25 l0 x10_1).f1)
                    · rw [if_pos c43] at H
                      have c43b0 : decide (a1_1 < ((rd_T25 l0 x10_1).f1)) = true := decide_eq_true c43
                      clear c43
                      by_cases c44 : x5_1.length < 8796093022208
                      · rw [if_pos c44] at H
                        have LMc44 := Aside0.mk c44
                        clear c44
                        obtain ⟨y189, hy189⟩ : ∃ y_ : List (S25), y_ = (x5_1 ++ [(⟨a1_1, ((rd_T25 l0 x10_1).f1)⟩ : S25)]) := ⟨_, rfl⟩
                        replace H : (ranges_Remove.l0 kj6 y189 l0 (l0.length : Int) (wrap64 (x10_1 + 1)) a1_0 a1_1) = some r := by first | (rw [hy189]; with_reducible exact H) | (have H2_ := (Option.bind_some _ _).symm.trans H; rw [hy189]; with_reducible exact H2_) | (have H2_ := (Option.bind_some _ _).symm.trans H; with_reducible exact H2_) | with_reducible exact H | (rw [hy189]; exact H) | exact H
                        have Ny189 := Aside0.mk hy189
                        clear hy189
                        have H' := Aside0.mk H
                        clear H
                        have hnb45 := NB179_177.out
                        have hnc45 := NB177_179.out
                        have hcz46_0 : wc.cell? ⟨gb179, 0, none⟩ = some (.int .u64 ((rd_T25 l0 x10_1).f0)) := (blk_cell BK179.out 0).trans rfl
                        have hcz46_1 : wc.cell? ⟨gb179, 1, none⟩ = some (.int .u64 ((rd_T25 l0 x10_1).f1)) := (blk_cell BK179.out 1).trans rfl
                        have hfz46_0 := blk_frozen BK179.out 0
                        have hfz46_1 := blk_frozen BK179.out 1
                        have hcz47_0 : wc.cell? ⟨gb177, 0, none⟩ = some (.int .u64 a1_0) := (blk_cell BK177.out 0).trans rfl
                        have hcz47_1 : wc.cell? ⟨gb177, 1, none⟩ = some (.int .u64 a1_1) := (blk_cell BK177.out 1).trans rfl
                        have hfz47_0 := blk_frozen BK177.out 0
                        have hfz47_1 := blk_frozen BK177.out 1
                        go_wp2_with (first | ((with_reducible refine gate_builtin (b := .append) (xs := #[.tmp 55, .tmp 61]) rfl ?_); at_builtin; refine Kd.R_append k25 (w0 := w) w.heap.size rfl (.tmp 55) (.tmp 61) 22 25 (.agg #[(.int .u64 0), (.int .u64 0)]) 16 rfl Try.underlying22 info25 rfl (by decide) (by omega) u5 x5_1 (⟨a1_1, ((rd_T25 l0 x10_1).f1)⟩ : S25) [.int .u64 a1_1, .int .u64 ((rd_T25 l0 x10_1).f1)] (fun k_ => k_ ≠ gb177 ∧ k_ ≠ gb179) (fun _ => False) rfl rfl ?aP (fun _ hk => hk.elim) ?aF ?aO ?aB ?aS ?aL ?_; (case aP => exact k25_mkM _ _ _ (⟨a1_1, ((rd_T25 l0 x10_1).f1)⟩ : S25)); (case aB => exact (by repeat (first | (with_reducible first | exact HB.out | apply below_alloc | apply pw_below_drewN | apply below_drew1 | refine below_set ?_ GE177.out | refine below_set ?_ GE179.out) | exact HB.out))); (case aF => exact (fun k_ hk => ⟨Kd.freshB (g := gb177) (o := .cells #[.int .u64 a1_0, .int .u64 a1_1] 25 (0, 0)) (by (with_reducible repeat (first | refine blk_drewN ?_ _ | refine blk_drew ?_ | refine blk_alloc ?_ _)); exact BK177.out) k_ hk, Kd.freshB (g := gb179) (o := .cells #[.int .u64 ((rd_T25 l0 x10_1).f0), .int .u64 ((rd_T25 l0 x10_1).f1)] 25 (0, 0)) (by (with_reducible repeat (first | refine blk_drewN ?_ _ | refine blk_drew ?_ | refine blk_alloc ?_ _)); exact BK179.out) k_ hk⟩)); (case aO => exact (by (with_reducible repeat (first | apply Kd.R_alloc | apply Kd.R_drewN | apply Kd.R_drew)); exact HO_5.out)); (case aS => exact (below_size (by repeat (first | (with_reducible first | exact HB.out | apply below_alloc | apply pw_below_drewN | apply below_drew1 | refine below_set ?_ GE177.out | refine below_set ?_ GE179.out) | exact HB.out)))); (case aL => have := LMc44.out; omega); intro v190 w48 ho hb hg hat; rw [← Ny189.out] at ho; have n0_ := Aside0.mk (blk_grown (g := gb177) (o := .cells #[.int .u64 a1_0, .int .u64 a1_1] 25 (0, 0)) (by (with_reducible repeat (first | refine blk_drewN ?_ _ | refine blk_drew ?_ | refine blk_alloc ?_ _)); exact BK177.out) hg (Kd.R_away HO_5.out (fun _ hk => hk.1))); have n1_ := Aside0.mk (blk_grown (g := gb179) (o := .cells #[.int .u64 ((rd_T25 l0 x10_1).f0), .int .u64 ((rd_T25 l0 x10_1).f1)] 25 (0, 0)) (by (with_reducible repeat (first | refine blk_drewN ?_ _ | refine blk_drew ?_ | refine blk_alloc ?_ _)); exact BK179.out) hg (Kd.R_away HO_5.out (fun _ hk => hk.2))); have n2_ := Aside0.mk (hb); have n3_ := Aside0.mk (ho); clear BK177; clear BK179; clear HB; clear HO_5; have BK177 := n0_; have BK179 := n1_; have HB := n2_; have HO191 := n3_; clear n0_ n1_ n2_ n3_; clear ho hb hg hat))
                        go_roundg kj6
                        case measure => have := HK1.out; have := HJ6.out; omega
                        case rel => exact ⟨(y189), (wrap64 (x10_1 + 1)), (by first | rfl | (simp; done) | (simp [*]; done)), H', ⟨by have := HK1.out; have := HJ6.out; omega⟩, ⟨by (with_reducible repeat (first | apply Kd.R_alloc | apply Kd.R_drewN | apply Kd.R_drew)); exact Kd.R_mono HO191.out (fun _ hk => hk.1)⟩, ⟨by (with_reducible repeat (first | refine blk_drewN ?_ _ | refine blk_drew ?_ | refine blk_alloc ?_ _)); exact BK177.out⟩, ⟨by repeat (first | (with_reducible first | exact HB.out | apply below_alloc | apply pw_below_drewN | apply below_drew1 | refine below_set ?_ GE177.out | refine below_set ?_ GE179.out) | exact HB.out)⟩⟩
                      · rw [if_neg c44] at H
                        exact absurd H (by simp)
                    · rw [if_neg c43] at H
                      have c43b0 : decide (a1_1 < ((rd_T25 l0 x10_1).f1)) = false := decide_eq_false c43
                      clear c43
                      have H' := Aside0.mk H
                      clear H
                      have hnb49 := NB179_177.out
                      have hnc49 := NB177_179.out
                      have hcz50_0 : wc.cell? ⟨gb179, 0, none⟩ = some (.int .u64 ((rd_T25 l0 x10_1).f0)) := (blk_cell BK179.out 0).trans rfl
                      have hcz50_1 : wc.cell? ⟨gb179, 1, none⟩ = some (.int .u64 ((rd_T25 l0 x10_1).f1)) := (blk_cell BK179.out 1).trans rfl
                      have hfz50_0 := blk_frozen BK179.out 0
                      have hfz50_1 := blk_frozen BK179.out 1
                      have hcz51_0 : wc.cell? ⟨gb177, 0, none⟩ = some (.int .u64 a1_0) := (blk_cell BK177.out 0).trans rfl
                      have hcz51_1 : wc.cell? ⟨gb177, 1, none⟩ = some (.int .u64 a1_1) := (blk_cell BK177.out 1).trans rfl
                      have hfz51_0 := blk_frozen BK177.out 0
                      have hfz51_1 := blk_frozen BK177.out 1
                      go_wp2
                      go_roundg kj6
                      case measure => have := HK1.out; have := HJ6.out; omega
                      case rel => exact ⟨(x5_1), (wrap64 (x10_1 + 1)), (by first | rfl | (simp; done) | (simp [*]; done)), H', ⟨by have := HK1.out; have := HJ6.out; omega⟩, ⟨by (with_reducible repeat (first | apply Kd.R_alloc | apply Kd.R_drewN | apply Kd.R_drew)); exact Kd.R_mono HO_5.out (fun _ hk => hk.1)⟩, ⟨by (with_reducible repeat (first | refine blk_drewN ?_ _ | refine blk_drew ?_ | refine blk_alloc ?_ _)); exact BK177.out⟩, ⟨by repeat (first | (with_reducible first | exact HB.out | apply below_alloc | apply pw_below_drewN | apply below_drew1 | refine below_set ?_ GE177.out | refine below_set ?_ GE179.out) | exact HB.out)⟩⟩
          · rw [if_neg c6] at H
            exact absurd H (by simp)
        · rw [if_neg c5] at H
          exact absurd H (by simp)
      · rw [if_neg c4] at H
        have c4b0 : decide (x10_1 < (l0.length : Int)) = false := decide_eq_false c4
        clear c4
        obtain rfl := Option.some.inj H
        go_wp2
        go_ret
        exact ⟨_, by first | rfl | (simp [errW_none, errW_some] <;> rfl) | (simp [*, errW_none, errW_some] <;> rfl), by (with_reducible repeat (first | apply Kd.R_alloc | apply Kd.R_drewN | apply Kd.R_drew)); exact Kd.R_mono HO_5.out (fun _ hk => trivial), by repeat (first | (with_reducible first | exact HB.out | apply below_alloc | apply pw_below_drewN | apply below_drew1 | refine below_set ?_ GE177.out) | exact HB.out)⟩

/-! ### ranges_Gap: function 17 -/
def ranges_Gap.l0 : Nat → Int → List (S25) → Int → Int → Option (Int)
  | 0, _, _, _, _ => none
  | k + 1, x1, x7, x8, x9 => if x9 < x8 then (if 0 ≤ x9 then (if x9 < (x7.length : Int) then (if ((rd_T25 x7 x9).f0) ≤ x1 then (if x1 < ((rd_T25 x7 x9).f1) then (ranges_Gap.l0 k ((rd_T25 x7 x9).f1) x7 x8 (wrap64 (x9 + 1))) else (ranges_Gap.l0 k x1 x7 x8 (wrap64 (x9 + 1)))) else (ranges_Gap.l0 k x1 x7 x8 (wrap64 (x9 + 1)))) else (none)) else (none)) else (some x1)
def ranges_Gap.f (k : Nat) (l0 : List (S25)) (a1 : Int) : Option (Int) := ranges_Gap.l0 k a1 l0 (l0.length : Int) 0
theorem ranges_Gap.mono_l : ∀ k, (∀ y0 y1 y2 y3, LeO (ranges_Gap.l0 k y0 y1 y2 y3) (ranges_Gap.l0 (k + 1) y0 y1 y2 y3))
  | 0 => fun _ _ _ _ r h => by simp [ranges_Gap.l0] at h
  | k + 1 => by
    have ih0 := ranges_Gap.mono_l k
    · intro y0 y1 y2 y3
      unfold ranges_Gap.l0
      repeat' first
      | (with_reducible exact ih0 _ _ _ _)
      | (with_reducible exact LeO.refl _)
      | (with_reducible exact LeO.none _)
      | (with_reducible refine LeO.ite ?_ ?_)
      | (with_reducible refine LeO.bind ?_ (fun _ => ?_))
      | exact ih0 _ _ _ _
      | exact LeO.none _
      | refine LeO.ite ?_ ?_
      | refine LeO.bind ?_ (fun _ => ?_)
theorem ranges_Gap.mono : ∀ a0 a1 k, LeO (ranges_Gap.f k a0 a1) (ranges_Gap.f (k + 1) a0 a1) := by
  intro a0 a1 k
  have ih0 := ranges_Gap.mono_l k
  unfold ranges_Gap.f
  repeat' first
      | (with_reducible exact ih0 _ _ _ _)
      | (with_reducible exact LeO.refl _)
      | (with_reducible exact LeO.none _)
      | (with_reducible refine LeO.ite ?_ ?_)
      | (with_reducible refine LeO.bind ?_ (fun _ => ?_))
      | exact ih0 _ _ _ _
      | exact LeO.none _
      | refine LeO.ite ?_ ?_
      | refine LeO.bind ?_ (fun _ => ?_)
set_option maxHeartbeats 8000000 in
set_option maxRecDepth 100000 in
theorem ranges_Gap.calls (k : Nat) (A0 : Option Addr) (c0 : Nat) (l0 : List (S25)) (a1 : Int) (r : Int) (w : World) (hr0 : Kd.C k25 w A0 l0.length l0) (hc0 : l0.length ≤ c0) (h : ranges_Gap.f k l0 a1 = some r) :
    Calls Try.prog 17 #[.slice A0 l0.length c0, .int .u64 a1] w fun e w' => e = .returned (.int .u64 r) ∧ Below w.heap.size w w' := by
  have hu25 := Try.underlying25
  have HR0 := Aside0.mk hr0
  have HC0 := Aside0.mk hc0
  clear hr0 hc0
  have HB := Aside0.mk (Below.refl w.heap.size w)
  have H : (ranges_Gap.l0 k a1 l0 (l0.length : Int) 0) = some r := h
  clear h
  have H' := Aside0.mk H
  clear H
  go_enter Try.func17, Try.ntmps17
  go_wp2
  go_loopg [1, 9] k (fun kq v1 v9 w' => ∃ (x1_1 : Int) (x9_1 : Int), v1 = .int .u64 x1_1 ∧ v9 = .int .i64 x9_1 ∧ Aside0 (ranges_Gap.l0 kq x1_1 l0 (l0.length : Int) x9_1 = some r) ∧ Aside0 (kq ≤ k) ∧ Aside0 (Below w.heap.size w w'))
  case atStart => exact ⟨(a1), (0), (by first | rfl | (simp; done) | (simp [*]; done)), (by first | rfl | (simp; done) | (simp [*]; done)), H', ⟨Nat.le_refl _⟩, ⟨by repeat (first | (with_reducible first | exact HB.out | apply below_alloc | apply pw_below_drewN | apply below_drew1) | exact HB.out)⟩⟩
  case round =>
    clear H'
    try clear c1
    try clear p2
    obtain ⟨x1_1, x9_1, rfl, rfl, HA, HK1, HB⟩ := hrel
    cases gk with
    | zero => exact absurd HA.out (by simp [ranges_Gap.l0])
    | succ k1 =>
      have H := HA.out
      clear HA
      simp only [ranges_Gap.l0] at H
      by_cases c3 : x9_1 < (l0.length : Int)
      · rw [if_pos c3] at H
        have c3b0 : decide (x9_1 < (l0.length : Int)) = true := decide_eq_true c3
        clear c3
        by_cases c4 : 0 ≤ x9_1
        · rw [if_pos c4] at H
          have c4b0 : decide (0 ≤ x9_1) = true := decide_eq_true c4
          clear c4
          by_cases c5 : x9_1 < (l0.length : Int)
          · rw [if_pos c5] at H
            have c5b0 : decide (x9_1 < (l0.length : Int)) = true := decide_eq_true c5
            clear c5
            by_cases c6 : ((rd_T25 l0 x9_1).f0) ≤ x1_1
            · rw [if_pos c6] at H
              have c6b0 : decide (((rd_T25 l0 x9_1).f0) ≤ x1_1) = true := decide_eq_true c6
              clear c6
              by_cases c7 : x1_1 < ((rd_T25 l0 x9_1).f1)
              · rw [if_pos c7] at H
                have c7b0 : decide (x1_1 < ((rd_T25 l0 x9_1).f1)) = true := decide_eq_true c7
                clear c7
                have H' := Aside0.mk H
                clear H
                have p192 : 0 ≤ (x9_1 : Int) := of_decide_eq_true (by first | (with_reducible assumption) | assumption)
                have q192 : x9_1 < (l0.length : Int) := of_decide_eq_true (by first | (with_reducible assumption) | assumption)
                obtain ⟨ad192, e192, hx192_0, hx192_1⟩ := at_T25 HR0.out x9_1 p192 q192
                cases e192
                replace hx192_0 := (HB.out.cell (World.block_lt_of_cell? w _ hx192_0)).trans hx192_0
                replace hx192_1 := (HB.out.cell (World.block_lt_of_cell? w _ hx192_1)).trans hx192_1
                replace p192 := eq_true p192
                replace q192 := eq_true q192
                go_wp2_with (first | ((with_reducible refine gate_dst (N := 6) rfl ?_); refine box_event ?hg (N := 6) ?hd (cs := #[.int .u64 0, .int .u64 0]) (t := 25) ?hr ?_; (case hd => rfl); (case hg => rfl); (case hr => first | (go_simp; done) | (go_simp; rfl)); intro gb193 hg w8 hbox hb; have n0_ := Aside0.mk (below_step (by repeat (first | (with_reducible first | exact HB.out | apply below_alloc | apply pw_below_drewN | apply below_drew1) | exact HB.out)) hb); have n1_ := Aside0.mk (hbox); have n2_ := Aside0.mk ((by rw [hg]; exact (below_size (by repeat (first | (with_reducible first | exact HB.out | apply below_alloc | apply pw_below_drewN | apply below_drew1) | exact HB.out))) : w.heap.size ≤ gb193)); have n3_ := Aside0.mk ((by rw [hg]; exact (below_size (by repeat (first | (with_reducible first | exact HB.out | apply below_alloc | apply pw_below_drewN | apply below_drew1) | exact HB.out))) : w.heap.size ≤ gb193)); clear HB; have HB := n0_; have BK193 := n1_; have GW193 := n2_; have GE193 := n3_; clear n0_ n1_ n2_ n3_; clear hb hbox hg; have hcz9_0 : w8.cell? ⟨gb193, 0, none⟩ = some (.int .u64 0) := (blk_cell BK193.out 0).trans rfl; have hcz9_1 : w8.cell? ⟨gb193, 1, none⟩ = some (.int .u64 0) := (blk_cell BK193.out 1).trans rfl; have hfz9_0 := blk_frozen BK193.out 0; have hfz9_1 := blk_frozen BK193.out 1))
                go_roundg k1
                case measure => have := HK1.out; omega
                case rel => exact ⟨((rd_T25 l0 x9_1).f1), (wrap64 (x9_1 + 1)), (by first | rfl | (simp; done) | (simp [*]; done)), (by first | rfl | (simp; done) | (simp [*]; done)), H', ⟨by have := HK1.out; omega⟩, ⟨by repeat (first | (with_reducible first | exact HB.out | apply below_alloc | apply pw_below_drewN | apply below_drew1 | refine below_set ?_ GE193.out) | exact HB.out)⟩⟩
              · rw [if_neg c7] at H
                have c7b0 : decide (x1_1 < ((rd_T25 l0 x9_1).f1)) = false := decide_eq_false c7
                clear c7
                have H' := Aside0.mk H
                clear H
                have p192 : 0 ≤ (x9_1 : Int) := of_decide_eq_true (by first | (with_reducible assumption) | assumption)
                have q192 : x9_1 < (l0.length : Int) := of_decide_eq_true (by first | (with_reducible assumption) | assumption)
                obtain ⟨ad192, e192, hx192_0, hx192_1⟩ := at_T25 HR0.out x9_1 p192 q192
                cases e192
                replace hx192_0 := (HB.out.cell (World.block_lt_of_cell? w _ hx192_0)).trans hx192_0
                replace hx192_1 := (HB.out.cell (World.block_lt_of_cell? w _ hx192_1)).trans hx192_1
                replace p192 := eq_true p192
                replace q192 := eq_true q192
                go_wp2_with (first | ((with_reducible refine gate_dst (N := 6) rfl ?_); refine box_event ?hg (N := 6) ?hd (cs := #[.int .u64 0, .int .u64 0]) (t := 25) ?hr ?_; (case hd => rfl); (case hg => rfl); (case hr => first | (go_simp; done) | (go_simp; rfl)); intro gb193 hg w10 hbox hb; have n0_ := Aside0.mk (below_step (by repeat (first | (with_reducible first | exact HB.out | apply below_alloc | apply pw_below_drewN | apply below_drew1) | exact HB.out)) hb); have n1_ := Aside0.mk (hbox); have n2_ := Aside0.mk ((by rw [hg]; exact (below_size (by repeat (first | (with_reducible first | exact HB.out | apply below_alloc | apply pw_below_drewN | apply below_drew1) | exact HB.out))) : w.heap.size ≤ gb193)); have n3_ := Aside0.mk ((by rw [hg]; exact (below_size (by repeat (first | (with_reducible first | exact HB.out | apply below_alloc | apply pw_below_drewN | apply below_drew1) | exact HB.out))) : w.heap.size ≤ gb193)); clear HB; have HB := n0_; have BK193 := n1_; have GW193 := n2_; have GE193 := n3_; clear n0_ n1_ n2_ n3_; clear hb hbox hg; have hcz11_0 : w10.cell? ⟨gb193, 0, none⟩ = some (.int .u64 0) := (blk_cell BK193.out 0).trans rfl; have hcz11_1 : w10.cell? ⟨gb193, 1, none⟩ = some (.int .u64 0) := (blk_cell BK193.out 1).trans rfl; have hfz11_0 := blk_frozen BK193.out 0; have hfz11_1 := blk_frozen BK193.out 1))
                go_roundg k1
                case measure => have := HK1.out; omega
                case rel => exact ⟨(x1_1), (wrap64 (x9_1 + 1)), (by first | rfl | (simp; done) | (simp [*]; done)), (by first | rfl | (simp; done) | (simp [*]; done)), H', ⟨by have := HK1.out; omega⟩, ⟨by repeat (first | (with_reducible first | exact HB.out | apply below_alloc | apply pw_below_drewN | apply below_drew1 | refine below_set ?_ GE193.out) | exact HB.out)⟩⟩
            · rw [if_neg c6] at H
              have c6b0 : decide (((rd_T25 l0 x9_1).f0) ≤ x1_1) = false := decide_eq_false c6
              clear c6
              have H' := Aside0.mk H
              clear H
              have p192 : 0 ≤ (x9_1 : Int) := of_decide_eq_true (by first | (with_reducible assumption) | assumption)
              have q192 : x9_1 < (l0.length : Int) := of_decide_eq_true (by first | (with_reducible assumption) | assumption)
              obtain ⟨ad192, e192, hx192_0, hx192_1⟩ := at_T25 HR0.out x9_1 p192 q192
              cases e192
              replace hx192_0 := (HB.out.cell (World.block_lt_of_cell? w _ hx192_0)).trans hx192_0
              replace hx192_1 := (HB.out.cell (World.block_lt_of_cell? w _ hx192_1)).trans hx192_1
              replace p192 := eq_true p192
              replace q192 := eq_true q192
              go_wp2_with (first | ((with_reducible refine gate_dst (N := 6) rfl ?_); refine box_event ?hg (N := 6) ?hd (cs := #[.int .u64 0, .int .u64 0]) (t := 25) ?hr ?_; (case hd => rfl); (case hg => rfl); (case hr => first | (go_simp; done) | (go_simp; rfl)); intro gb193 hg w12 hbox hb; have n0_ := Aside0.mk (below_step (by repeat (first | (with_reducible first | exact HB.out | apply below_alloc | apply pw_below_drewN | apply below_drew1) | exact HB.out)) hb); have n1_ := Aside0.mk (hbox); have n2_ := Aside0.mk ((by rw [hg]; exact (below_size (by repeat (first | (with_reducible first | exact HB.out | apply below_alloc | apply pw_below_drewN | apply below_drew1) | exact HB.out))) : w.heap.size ≤ gb193)); have n3_ := Aside0.mk ((by rw [hg]; exact (below_size (by repeat (first | (with_reducible first | exact HB.out | apply below_alloc | apply pw_below_drewN | apply below_drew1) | exact HB.out))) : w.heap.size ≤ gb193)); clear HB; have HB := n0_; have BK193 := n1_; have GW193 := n2_; have GE193 := n3_; clear n0_ n1_ n2_ n3_; clear hb hbox hg; have hcz13_0 : w12.cell? ⟨gb193, 0, none⟩ = some (.int .u64 0) := (blk_cell BK193.out 0).trans rfl; have hcz13_1 : w12.cell? ⟨gb193, 1, none⟩ = some (.int .u64 0) := (blk_cell BK193.out 1).trans rfl; have hfz13_0 := blk_frozen BK193.out 0; have hfz13_1 := blk_frozen BK193.out 1))
              go_roundg k1
              case measure => have := HK1.out; omega
              case rel => exact ⟨(x1_1), (wrap64 (x9_1 + 1)), (by first | rfl | (simp; done) | (simp [*]; done)), (by first | rfl | (simp; done) | (simp [*]; done)), H', ⟨by have := HK1.out; omega⟩, ⟨by repeat (first | (with_reducible first | exact HB.out | apply below_alloc | apply pw_below_drewN | apply below_drew1 | refine below_set ?_ GE193.out) | exact HB.out)⟩⟩
          · rw [if_neg c5] at H
            exact absurd H (by simp)
        · rw [if_neg c4] at H
          exact absurd H (by simp)
      · rw [if_neg c3] at H
        have c3b0 : decide (x9_1 < (l0.length : Int)) = false := decide_eq_false c3
        clear c3
        obtain rfl := Option.some.inj H
        go_wp2
        go_ret
        exact ⟨by first | rfl | (simp [errW_none, errW_some] <;> rfl) | (simp [*, errW_none, errW_some] <;> rfl), by repeat (first | (with_reducible first | exact HB.out | apply below_alloc | apply pw_below_drewN | apply below_drew1) | exact HB.out)⟩

/-! ### mailcoachlaw03_Awake: function 9 -/
def mailcoachlaw03_Awake.f (k : Nat)  : Option (Bool) := (ranges_Add.f k (([(⟨1, 3⟩ : S25), (⟨5, 6⟩ : S25)] : List (S25))) 3 5).bind fun t197 => ((ranges_Remove.f k t197 2 4).bind fun t200 => (if (t197.length : Int) = 1 then (if 0 < (t197.length : Int) then (if (((rd_T25 t197 0).f0) == 1 && (((rd_T25 t197 0).f1) == 6)) = true then (if (t200.length : Int) = 2 then (if 1 < (t200.length : Int) then (if (((rd_T25 t200 1).f0) == 4 && (((rd_T25 t200 1).f1) == 6)) = true then ((ranges_Gap.f k t197 3).bind fun t205 => (some (t205 == 6))) else (some false)) else (none)) else (some false)) else (some false)) else (none)) else (some false)))
theorem mailcoachlaw03_Awake.mono : ∀ k, LeO (mailcoachlaw03_Awake.f k ) (mailcoachlaw03_Awake.f (k + 1) ) := by
  intro  k
  unfold mailcoachlaw03_Awake.f
  repeat' first
      | (with_reducible exact ranges_Add.mono _ _ _ _)
      | (with_reducible exact ranges_Gap.mono _ _ _)
      | (with_reducible exact ranges_Remove.mono _ _ _ _)
      | (with_reducible exact LeO.refl _)
      | (with_reducible exact LeO.none _)
      | (with_reducible refine LeO.ite ?_ ?_)
      | (with_reducible refine LeO.bind ?_ (fun _ => ?_))
      | exact ranges_Add.mono _ _ _ _
      | exact ranges_Gap.mono _ _ _
      | exact ranges_Remove.mono _ _ _ _
      | exact LeO.none _
      | refine LeO.ite ?_ ?_
      | refine LeO.bind ?_ (fun _ => ?_)
set_option maxHeartbeats 8000000 in
set_option maxRecDepth 100000 in
theorem mailcoachlaw03_Awake.calls (k : Nat)  (r : Bool) (w : World) (h : mailcoachlaw03_Awake.f k  = some r) :
    Calls Try.prog 9 #[] w fun e w' => e = .returned (.bool r) ∧ Below w.heap.size w w' := by
  have hu25 := Try.underlying25
  have HB := Aside0.mk (Below.refl w.heap.size w)
  have H : ((ranges_Add.f k (([(⟨1, 3⟩ : S25), (⟨5, 6⟩ : S25)] : List (S25))) 3 5).bind fun t197 => ((ranges_Remove.f k t197 2 4).bind fun t200 => (if (t197.length : Int) = 1 then (if 0 < (t197.length : Int) then (if (((rd_T25 t197 0).f0) == 1 && (((rd_T25 t197 0).f1) == 6)) = true then (if (t200.length : Int) = 2 then (if 1 < (t200.length : Int) then (if (((rd_T25 t200 1).f0) == 4 && (((rd_T25 t200 1).f1) == 6)) = true then ((ranges_Gap.f k t197 3).bind fun t205 => (some (t205 == 6))) else (some false)) else (none)) else (some false)) else (some false)) else (none)) else (some false)))) = some r := h
  clear h
  obtain ⟨y194, hy194⟩ : ∃ y_ : List (S25), y_ = (([(⟨1, 3⟩ : S25), (⟨5, 6⟩ : S25)] : List (S25))) := ⟨_, rfl⟩
  replace H : ((ranges_Add.f k y194 3 5).bind fun t197 => ((ranges_Remove.f k t197 2 4).bind fun t200 => (if (t197.length : Int) = 1 then (if 0 < (t197.length : Int) then (if (((rd_T25 t197 0).f0) == 1 && (((rd_T25 t197 0).f1) == 6)) = true then (if (t200.length : Int) = 2 then (if 1 < (t200.length : Int) then (if (((rd_T25 t200 1).f0) == 4 && (((rd_T25 t200 1).f1) == 6)) = true then ((ranges_Gap.f k t197 3).bind fun t205 => (some (t205 == 6))) else (some false)) else (none)) else (some false)) else (some false)) else (none)) else (some false)))) = some r := by first | (rw [hy194]; with_reducible exact H) | (have H2_ := (Option.bind_some _ _).symm.trans H; rw [hy194]; with_reducible exact H2_) | (have H2_ := (Option.bind_some _ _).symm.trans H; with_reducible exact H2_) | with_reducible exact H | (rw [hy194]; exact H) | exact H
  have Ny194 := Aside0.mk hy194
  clear hy194
  replace H := Option.bind_eq_some_iff.mp H
  obtain ⟨t197, A10, H⟩ := H
  replace H : ((ranges_Remove.f k t197 2 4).bind fun t200 => (if (t197.length : Int) = 1 then (if 0 < (t197.length : Int) then (if (((rd_T25 t197 0).f0) == 1 && (((rd_T25 t197 0).f1) == 6)) = true then (if (t200.length : Int) = 2 then (if 1 < (t200.length : Int) then (if (((rd_T25 t200 1).f0) == 4 && (((rd_T25 t200 1).f1) == 6)) = true then ((ranges_Gap.f k t197 3).bind fun t205 => (some (t205 == 6))) else (some false)) else (none)) else (some false)) else (some false)) else (none)) else (some false))) = some r := H
  have A1 := Aside0.mk A10
  clear A10
  replace H := Option.bind_eq_some_iff.mp H
  obtain ⟨t200, A20, H⟩ := H
  replace H : (if (t197.length : Int) = 1 then (if 0 < (t197.length : Int) then (if (((rd_T25 t197 0).f0) == 1 && (((rd_T25 t197 0).f1) == 6)) = true then (if (t200.length : Int) = 2 then (if 1 < (t200.length : Int) then (if (((rd_T25 t200 1).f0) == 4 && (((rd_T25 t200 1).f1) == 6)) = true then ((ranges_Gap.f k t197 3).bind fun t205 => (some (t205 == 6))) else (some false)) else (none)) else (some false)) else (some false)) else (none)) else (some false)) = some r := H
  have A2 := Aside0.mk A20
  clear A20
  by_cases c3 : (t197.length : Int) = 1
  · rw [if_pos c3] at H
    have c3b0 : ((t197.length : Int) == 1) = true := beq_iff_eq.mpr c3
    have c3b1 : ((t197.length : Int) != 1) = false := bne_eq_false_iff_eq.mpr c3
    clear c3
    by_cases c4 : 0 < (t197.length : Int)
    · rw [if_pos c4] at H
      have c4b0 : decide (0 < (t197.length : Int)) = true := decide_eq_true c4
      have c4b1 : decide (0 < t197.length) = true := decide_eq_true (by omega)
      clear c4
      by_cases c5 : (((rd_T25 t197 0).f0) == 1 && (((rd_T25 t197 0).f1) == 6)) = true
      · rw [if_pos c5] at H
        have c5b0 : (((rd_T25 t197 0).f0) == 1 && (((rd_T25 t197 0).f1) == 6)) = true := c5
        (try (have c5b1 : decide (((rd_T25 t197 0).f0) = 1 && (((rd_T25 t197 0).f1) == 6)) = true := by simpa using c5))
        (try (have c5b2 : (((rd_T25 t197 0).f0) == 1 && (((rd_T25 t197 0).f1) == 6)) = true := by simpa using c5))
        clear c5
        by_cases c6 : (t200.length : Int) = 2
        · rw [if_pos c6] at H
          have c6b0 : ((t200.length : Int) == 2) = true := beq_iff_eq.mpr c6
          have c6b1 : ((t200.length : Int) != 2) = false := bne_eq_false_iff_eq.mpr c6
          clear c6
          by_cases c7 : 1 < (t200.length : Int)
          · rw [if_pos c7] at H
            have c7b0 : decide (1 < (t200.length : Int)) = true := decide_eq_true c7
            have c7b1 : decide (1 < t200.length) = true := decide_eq_true (by omega)
            clear c7
            by_cases c8 : (((rd_T25 t200 1).f0) == 4 && (((rd_T25 t200 1).f1) == 6)) = true
            · rw [if_pos c8] at H
              have c8b0 : (((rd_T25 t200 1).f0) == 4 && (((rd_T25 t200 1).f1) == 6)) = true := c8
              (try (have c8b1 : decide (((rd_T25 t200 1).f0) = 4 && (((rd_T25 t200 1).f1) == 6)) = true := by simpa using c8))
              (try (have c8b2 : (((rd_T25 t200 1).f0) == 4 && (((rd_T25 t200 1).f1) == 6)) = true := by simpa using c8))
              clear c8
              replace H := Option.bind_eq_some_iff.mp H
              obtain ⟨t205, A90, H⟩ := H
              replace H : (some (t205 == 6)) = some r := H
              have A9 := Aside0.mk A90
              clear A90
              obtain rfl := Option.some.inj H
              go_enter Try.func9, Try.ntmps9
              go_wp2_with (first | ((with_reducible refine gate_dst (N := 5) rfl ?_); (try (refine gate_guard (by rfl) ?_; dsimp only)); refine Kd.R_lit k25 _ 25 ?hg (N := 5) ?hd (xs := ([(⟨1, 3⟩ : S25), (⟨5, 6⟩ : S25)] : List (S25))) (inner := [.int .u64 1, .int .u64 3, .int .u64 5, .int .u64 6]) (ok := fun _ => True) (okp := fun _ => True) ?hr ?hp (fun _ hk => hk) trivial (Below.refl _ _) (Nat.le_refl _) (by simp) ?_; (case hd => rfl); (case hg => rfl); (case hr => first | (go_simp; done) | (go_simp; rfl)); (case hp => exact (Reps.c2 (show Kd.M k25 _ _ _ (⟨1, 3⟩ : S25) [.int .u64 1, .int .u64 3] from (k25_mkM _ _ _ (⟨1, 3⟩ : S25) )) (Reps.c2 (show Kd.M k25 _ _ _ (⟨5, 6⟩ : S25) [.int .u64 5, .int .u64 6] from (k25_mkM _ _ _ (⟨5, 6⟩ : S25) )) (Reps.none _ _)))); intro v195 w10 ho11 hb hg_ hnew_; clear hg_ hnew_; (first | rw [← Ny194.out] at ho11 | (simp only [Int.reduceToNat] at ho11; rw [← Ny194.out] at ho11)); have n0_ := Aside0.mk (Kd.R_lower ho11 (below_size (by repeat (first | (with_reducible first | exact HB.out | apply below_alloc | apply pw_below_drewN | apply below_drew1) | exact HB.out)))); have n1_ := Aside0.mk (below_step (by repeat (first | (with_reducible first | exact HB.out | apply below_alloc | apply pw_below_drewN | apply below_drew1) | exact HB.out)) hb); clear HB; have HO196 := n0_; have HB := n1_; clear n0_ n1_; clear hb ho11; obtain ⟨Ao12, co12, eo12⟩ := Kd.R_slice HO196.out; subst eo12) | ((with_reducible refine gate_callee (f := 11) rfl ?_); refine goesL_ (some 7) rfl rfl Try.func11 (by kernel_rfl) rfl #[.slice Ao12 y194.length co12, .agg #[.int .u64 3, .int .u64 5]] rfl (by (try simp only [List.map_toArray, List.map_cons, List.map_nil]); first | done | rfl | (simp only [List.length_drop, List.length_take]; rfl)) ?_; (with_reducible refine (ranges_Add.calls k (fun k_ => some k_ = (.slice Ao12 y194.length co12 : Value).ownBlock) _ _ y194 3 5 t197 _ ?side1 A1.out).mono ?_); (case side1 => exact Kd.R_V (Kd.R_tight rfl (HO196.out))); rintro e w13 ⟨v198, rfl, ho0, hb⟩; refine ⟨_, rfl, ?_⟩; have n0_ := Aside0.mk (Kd.R_elder' (by (with_reducible repeat (first | apply Kd.R_alloc | apply Kd.R_drewN | apply Kd.R_drew)); exact HO196.out) (Kd.R_base ho0) hb); have n1_ := Aside0.mk (Kd.R_lower (Kd.R_new' (Kd.R_mono (ok' := fun k_ => True) ho0 (fun _ hk_ => trivial)) (Kd.R_lt (by (with_reducible repeat (first | apply Kd.R_alloc | apply Kd.R_drewN | apply Kd.R_drew)); exact HO196.out))) (below_size (by repeat (first | (with_reducible first | exact HB.out | apply below_alloc | apply pw_below_drewN | apply below_drew1) | exact HB.out)))); have n2_ := Aside0.mk (below_step (by repeat (first | (with_reducible first | exact HB.out | apply below_alloc | apply pw_below_drewN | apply below_drew1) | exact HB.out)) hb); clear HO196; clear HB; have HO196 := n0_; have HO199 := n1_; have HB := n2_; clear n0_ n1_ n2_; (try clear hb); (try clear hb2); (try clear hk); (try clear hi); (try clear ho0); obtain ⟨Ao14, co14, eo14⟩ := Kd.R_slice HO199.out; subst eo14) | ((with_reducible refine gate_callee (f := 12) rfl ?_); refine goesL_ (some 10) rfl rfl Try.func12 (by kernel_rfl) rfl #[.slice Ao14 t197.length co14, .agg #[.int .u64 2, .int .u64 4]] rfl (by (try simp only [List.map_toArray, List.map_cons, List.map_nil]); first | done | rfl | (simp only [List.length_drop, List.length_take]; rfl)) ?_; (with_reducible refine (ranges_Remove.calls k _ _ t197 2 4 t200 _ ?side1 ?side2 A2.out).mono ?_); (case side1 => repeat (first | exact (Kd.R_reads' HO199.out).2.2 | (with_reducible refine Kd.C_alloc ?_ _) | (with_reducible refine Kd.C_drewN ?_ _) | (with_reducible refine Kd.C_drew ?_))); (case side2 => exact (Kd.R_reads' HO199.out).2.1); rintro e w15 ⟨v201, rfl, ho0, hb⟩; refine ⟨_, rfl, ?_⟩; have n0_ := Aside0.mk (Kd.R_elder' (by (with_reducible repeat (first | apply Kd.R_alloc | apply Kd.R_drewN | apply Kd.R_drew)); exact HO196.out) (Kd.R_base ho0) hb); have n1_ := Aside0.mk (Kd.R_elder' (by (with_reducible repeat (first | apply Kd.R_alloc | apply Kd.R_drewN | apply Kd.R_drew)); exact HO199.out) (Kd.R_base ho0) hb); have n2_ := Aside0.mk (Kd.R_lower (Kd.R_new' (Kd.R_new' ho0 (Kd.R_lt (by (with_reducible repeat (first | apply Kd.R_alloc | apply Kd.R_drewN | apply Kd.R_drew)); exact HO196.out))) (Kd.R_lt (by (with_reducible repeat (first | apply Kd.R_alloc | apply Kd.R_drewN | apply Kd.R_drew)); exact HO199.out))) (below_size (by repeat (first | (with_reducible first | exact HB.out | apply below_alloc | apply pw_below_drewN | apply below_drew1) | exact HB.out)))); have n3_ := Aside0.mk (below_step (by repeat (first | (with_reducible first | exact HB.out | apply below_alloc | apply pw_below_drewN | apply below_drew1) | exact HB.out)) hb); clear HO196; clear HO199; clear HB; have HO196 := n0_; have HO199 := n1_; have HO202 := n2_; have HB := n3_; clear n0_ n1_ n2_ n3_; (try clear hb); (try clear hb2); (try clear hk); (try clear hi); (try clear ho0); have p203 : 0 ≤ (0 : Int) := (by omega); have q203 : 0 < (t197.length : Int) := of_decide_eq_true (by first | (with_reducible assumption) | assumption); obtain ⟨ad203, e203, hx203_0, hx203_1⟩ := at_T25 (Kd.R_reads' HO199.out).2.2 0 p203 q203; cases e203; have qi203 : (0 < t197.length) = True := eq_true (by omega); (try rw [show ((0 : Int)).toNat = 0 from rfl] at hx203_0); (try rw [show 0 * 2 = 0 from rfl] at hx203_0); (try rw [Addr.add_zero'] at hx203_0); (try rw [show ((0 : Int)).toNat = 0 from rfl] at hx203_1); (try rw [show 0 * 2 = 0 from rfl] at hx203_1); (try rw [Addr.add_zero'] at hx203_1); replace p203 := eq_true p203; replace q203 := eq_true q203; obtain ⟨Ao16, co16, eo16⟩ := Kd.R_slice HO202.out; subst eo16; have p204 : 0 ≤ (1 : Int) := (by omega); have q204 : 1 < (t200.length : Int) := of_decide_eq_true (by first | (with_reducible assumption) | assumption); obtain ⟨ad204, e204, hx204_0, hx204_1⟩ := at_T25 (Kd.R_reads' HO202.out).2.2 1 p204 q204; cases e204; (try simp only [show (1 : Int).toNat = 1 from rfl, Nat.reduceMul, Nat.reduceEqDiff, Go.Addr.add, ↓reduceIte] at hx204_0); (try simp only [show (1 : Int).toNat = 1 from rfl, Nat.reduceMul, Nat.reduceEqDiff, Go.Addr.add, ↓reduceIte] at hx204_1); have qi204 : (1 < t200.length) = True := eq_true (by omega); (try rw [show ((1 : Int)).toNat = 1 from rfl] at hx204_0); (try rw [show 1 * 2 = 2 from rfl] at hx204_0); (try rw [show ((1 : Int)).toNat = 1 from rfl] at hx204_1); (try rw [show 1 * 2 = 2 from rfl] at hx204_1); replace p204 := eq_true p204; replace q204 := eq_true q204) | (go_at_call 17; (with_reducible refine (ranges_Gap.calls k _ _ t197 3 t205 _ ?side1 ?side2 A9.out).mono ?_); (case side1 => repeat (first | exact (Kd.R_reads' HO199.out).2.2 | (with_reducible refine Kd.C_alloc ?_ _) | (with_reducible refine Kd.C_drewN ?_ _) | (with_reducible refine Kd.C_drew ?_))); (case side2 => exact (Kd.R_reads' HO199.out).2.1); rintro e w17 ⟨rfl, hb⟩; have n0_ := Aside0.mk (Kd.R_below (by (with_reducible repeat (first | apply Kd.R_alloc | apply Kd.R_drewN | apply Kd.R_drew)); exact HO196.out) hb); have n1_ := Aside0.mk (Kd.R_below (by (with_reducible repeat (first | apply Kd.R_alloc | apply Kd.R_drewN | apply Kd.R_drew)); exact HO199.out) hb); have n2_ := Aside0.mk (Kd.R_below (by (with_reducible repeat (first | apply Kd.R_alloc | apply Kd.R_drewN | apply Kd.R_drew)); exact HO202.out) hb); have n3_ := Aside0.mk (below_step (by repeat (first | (with_reducible first | exact HB.out | apply below_alloc | apply pw_below_drewN | apply below_drew1) | exact HB.out)) hb); clear HO196; clear HO199; clear HO202; clear HB; have HO196 := n0_; have HO199 := n1_; have HO202 := n2_; have HB := n3_; clear n0_ n1_ n2_ n3_; (try clear hb); (try clear hb2); (try clear hk); (try clear hi)))
              go_ret
              exact ⟨by first | rfl | (simp [errW_none, errW_some] <;> rfl) | (simp [*, errW_none, errW_some] <;> rfl), by repeat (first | (with_reducible first | exact HB.out | apply below_alloc | apply pw_below_drewN | apply below_drew1) | exact HB.out)⟩
            · rw [if_neg c8] at H
              have c8b0 : (((rd_T25 t200 1).f0) == 4 && (((rd_T25 t200 1).f1) == 6)) = false := by simpa using c8
              (try (have c8b1 : decide (((rd_T25 t200 1).f0) = 4 && (((rd_T25 t200 1).f1) == 6)) = false := by simpa using c8))
              (try (have c8b2 : (((rd_T25 t200 1).f0) == 4 && (((rd_T25 t200 1).f1) == 6)) = false := by simpa using c8))
              (try (have c8b3 : ¬ (((rd_T25 t200 1).f0) = 4 && (((rd_T25 t200 1).f1) == 6)) := by simpa using c8))
              clear c8
              obtain rfl := Option.some.inj H
              go_enter Try.func9, Try.ntmps9
              go_wp2_with (first | ((with_reducible refine gate_dst (N := 5) rfl ?_); (try (refine gate_guard (by rfl) ?_; dsimp only)); refine Kd.R_lit k25 _ 25 ?hg (N := 5) ?hd (xs := ([(⟨1, 3⟩ : S25), (⟨5, 6⟩ : S25)] : List (S25))) (inner := [.int .u64 1, .int .u64 3, .int .u64 5, .int .u64 6]) (ok := fun _ => True) (okp := fun _ => True) ?hr ?hp (fun _ hk => hk) trivial (Below.refl _ _) (Nat.le_refl _) (by simp) ?_; (case hd => rfl); (case hg => rfl); (case hr => first | (go_simp; done) | (go_simp; rfl)); (case hp => exact (Reps.c2 (show Kd.M k25 _ _ _ (⟨1, 3⟩ : S25) [.int .u64 1, .int .u64 3] from (k25_mkM _ _ _ (⟨1, 3⟩ : S25) )) (Reps.c2 (show Kd.M k25 _ _ _ (⟨5, 6⟩ : S25) [.int .u64 5, .int .u64 6] from (k25_mkM _ _ _ (⟨5, 6⟩ : S25) )) (Reps.none _ _)))); intro v195 w18 ho19 hb hg_ hnew_; clear hg_ hnew_; (first | rw [← Ny194.out] at ho19 | (simp only [Int.reduceToNat] at ho19; rw [← Ny194.out] at ho19)); have n0_ := Aside0.mk (Kd.R_lower ho19 (below_size (by repeat (first | (with_reducible first | exact HB.out | apply below_alloc | apply pw_below_drewN | apply below_drew1) | exact HB.out)))); have n1_ := Aside0.mk (below_step (by repeat (first | (with_reducible first | exact HB.out | apply below_alloc | apply pw_below_drewN | apply below_drew1) | exact HB.out)) hb); clear HB; have HO196 := n0_; have HB := n1_; clear n0_ n1_; clear hb ho19; obtain ⟨Ao20, co20, eo20⟩ := Kd.R_slice HO196.out; subst eo20) | ((with_reducible refine gate_callee (f := 11) rfl ?_); refine goesL_ (some 7) rfl rfl Try.func11 (by kernel_rfl) rfl #[.slice Ao20 y194.length co20, .agg #[.int .u64 3, .int .u64 5]] rfl (by (try simp only [List.map_toArray, List.map_cons, List.map_nil]); first | done | rfl | (simp only [List.length_drop, List.length_take]; rfl)) ?_; (with_reducible refine (ranges_Add.calls k (fun k_ => some k_ = (.slice Ao20 y194.length co20 : Value).ownBlock) _ _ y194 3 5 t197 _ ?side1 A1.out).mono ?_); (case side1 => exact Kd.R_V (Kd.R_tight rfl (HO196.out))); rintro e w21 ⟨v198, rfl, ho0, hb⟩; refine ⟨_, rfl, ?_⟩; have n0_ := Aside0.mk (Kd.R_elder' (by (with_reducible repeat (first | apply Kd.R_alloc | apply Kd.R_drewN | apply Kd.R_drew)); exact HO196.out) (Kd.R_base ho0) hb); have n1_ := Aside0.mk (Kd.R_lower (Kd.R_new' (Kd.R_mono (ok' := fun k_ => True) ho0 (fun _ hk_ => trivial)) (Kd.R_lt (by (with_reducible repeat (first | apply Kd.R_alloc | apply Kd.R_drewN | apply Kd.R_drew)); exact HO196.out))) (below_size (by repeat (first | (with_reducible first | exact HB.out | apply below_alloc | apply pw_below_drewN | apply below_drew1) | exact HB.out)))); have n2_ := Aside0.mk (below_step (by repeat (first | (with_reducible first | exact HB.out | apply below_alloc | apply pw_below_drewN | apply below_drew1) | exact HB.out)) hb); clear HO196; clear HB; have HO196 := n0_; have HO199 := n1_; have HB := n2_; clear n0_ n1_ n2_; (try clear hb); (try clear hb2); (try clear hk); (try clear hi); (try clear ho0); obtain ⟨Ao22, co22, eo22⟩ := Kd.R_slice HO199.out; subst eo22) | ((with_reducible refine gate_callee (f := 12) rfl ?_); refine goesL_ (some 10) rfl rfl Try.func12 (by kernel_rfl) rfl #[.slice Ao22 t197.length co22, .agg #[.int .u64 2, .int .u64 4]] rfl (by (try simp only [List.map_toArray, List.map_cons, List.map_nil]); first | done | rfl | (simp only [List.length_drop, List.length_take]; rfl)) ?_; (with_reducible refine (ranges_Remove.calls k _ _ t197 2 4 t200 _ ?side1 ?side2 A2.out).mono ?_); (case side1 => repeat (first | exact (Kd.R_reads' HO199.out).2.2 | (with_reducible refine Kd.C_alloc ?_ _) | (with_reducible refine Kd.C_drewN ?_ _) | (with_reducible refine Kd.C_drew ?_))); (case side2 => exact (Kd.R_reads' HO199.out).2.1); rintro e w23 ⟨v201, rfl, ho0, hb⟩; refine ⟨_, rfl, ?_⟩; have n0_ := Aside0.mk (Kd.R_elder' (by (with_reducible repeat (first | apply Kd.R_alloc | apply Kd.R_drewN | apply Kd.R_drew)); exact HO196.out) (Kd.R_base ho0) hb); have n1_ := Aside0.mk (Kd.R_elder' (by (with_reducible repeat (first | apply Kd.R_alloc | apply Kd.R_drewN | apply Kd.R_drew)); exact HO199.out) (Kd.R_base ho0) hb); have n2_ := Aside0.mk (Kd.R_lower (Kd.R_new' (Kd.R_new' ho0 (Kd.R_lt (by (with_reducible repeat (first | apply Kd.R_alloc | apply Kd.R_drewN | apply Kd.R_drew)); exact HO196.out))) (Kd.R_lt (by (with_reducible repeat (first | apply Kd.R_alloc | apply Kd.R_drewN | apply Kd.R_drew)); exact HO199.out))) (below_size (by repeat (first | (with_reducible first | exact HB.out | apply below_alloc | apply pw_below_drewN | apply below_drew1) | exact HB.out)))); have n3_ := Aside0.mk (below_step (by repeat (first | (with_reducible first | exact HB.out | apply below_alloc | apply pw_below_drewN | apply below_drew1) | exact HB.out)) hb); clear HO196; clear HO199; clear HB; have HO196 := n0_; have HO199 := n1_; have HO202 := n2_; have HB := n3_; clear n0_ n1_ n2_ n3_; (try clear hb); (try clear hb2); (try clear hk); (try clear hi); (try clear ho0); have p203 : 0 ≤ (0 : Int) := (by omega); have q203 : 0 < (t197.length : Int) := of_decide_eq_true (by first | (with_reducible assumption) | assumption); obtain ⟨ad203, e203, hx203_0, hx203_1⟩ := at_T25 (Kd.R_reads' HO199.out).2.2 0 p203 q203; cases e203; have qi203 : (0 < t197.length) = True := eq_true (by omega); (try rw [show ((0 : Int)).toNat = 0 from rfl] at hx203_0); (try rw [show 0 * 2 = 0 from rfl] at hx203_0); (try rw [Addr.add_zero'] at hx203_0); (try rw [show ((0 : Int)).toNat = 0 from rfl] at hx203_1); (try rw [show 0 * 2 = 0 from rfl] at hx203_1); (try rw [Addr.add_zero'] at hx203_1); replace p203 := eq_true p203; replace q203 := eq_true q203; obtain ⟨Ao24, co24, eo24⟩ := Kd.R_slice HO202.out; subst eo24; have p204 : 0 ≤ (1 : Int) := (by omega); have q204 : 1 < (t200.length : Int) := of_decide_eq_true (by first | (with_reducible assumption) | assumption); obtain ⟨ad204, e204, hx204_0, hx204_1⟩ := at_T25 (Kd.R_reads' HO202.out).2.2 1 p204 q204; cases e204; (try simp only [show (1 : Int).toNat = 1 from rfl, Nat.reduceMul, Nat.reduceEqDiff, Go.Addr.add, ↓reduceIte] at hx204_0); (try simp only [show (1 : Int).toNat = 1 from rfl, Nat.reduceMul, Nat.reduceEqDiff, Go.Addr.add, ↓reduceIte] at hx204_1); have qi204 : (1 < t200.length) = True := eq_true (by omega); (try rw [show ((1 : Int)).toNat = 1 from rfl] at hx204_0); (try rw [show 1 * 2 = 2 from rfl] at hx204_0); (try rw [show ((1 : Int)).toNat = 1 from rfl] at hx204_1); (try rw [show 1 * 2 = 2 from rfl] at hx204_1); replace p204 := eq_true p204; replace q204 := eq_true q204))
              go_ret
              exact ⟨by first | rfl | (simp [errW_none, errW_some] <;> rfl) | (simp [*, errW_none, errW_some] <;> rfl), by repeat (first | (with_reducible first | exact HB.out | apply below_alloc | apply pw_below_drewN | apply below_drew1) | exact HB.out)⟩
          · rw [if_neg c7] at H
            exact absurd H (by simp)
        · rw [if_neg c6] at H
          have c6b0 : ((t200.length : Int) == 2) = false := beq_eq_false_iff_ne.mpr c6
          have c6b1 : ((t200.length : Int) != 2) = true := bne_iff_ne.mpr c6
          obtain rfl := Option.some.inj H
          go_enter Try.func9, Try.ntmps9
          go_wp2_with (first | ((with_reducible refine gate_dst (N := 5) rfl ?_); (try (refine gate_guard (by rfl) ?_; dsimp only)); refine Kd.R_lit k25 _ 25 ?hg (N := 5) ?hd (xs := ([(⟨1, 3⟩ : S25), (⟨5, 6⟩ : S25)] : List (S25))) (inner := [.int .u64 1, .int .u64 3, .int .u64 5, .int .u64 6]) (ok := fun _ => True) (okp := fun _ => True) ?hr ?hp (fun _ hk => hk) trivial (Below.refl _ _) (Nat.le_refl _) (by simp) ?_; (case hd => rfl); (case hg => rfl); (case hr => first | (go_simp; done) | (go_simp; rfl)); (case hp => exact (Reps.c2 (show Kd.M k25 _ _ _ (⟨1, 3⟩ : S25) [.int .u64 1, .int .u64 3] from (k25_mkM _ _ _ (⟨1, 3⟩ : S25) )) (Reps.c2 (show Kd.M k25 _ _ _ (⟨5, 6⟩ : S25) [.int .u64 5, .int .u64 6] from (k25_mkM _ _ _ (⟨5, 6⟩ : S25) )) (Reps.none _ _)))); intro v195 w25 ho26 hb hg_ hnew_; clear hg_ hnew_; (first | rw [← Ny194.out] at ho26 | (simp only [Int.reduceToNat] at ho26; rw [← Ny194.out] at ho26)); have n0_ := Aside0.mk (Kd.R_lower ho26 (below_size (by repeat (first | (with_reducible first | exact HB.out | apply below_alloc | apply pw_below_drewN | apply below_drew1) | exact HB.out)))); have n1_ := Aside0.mk (below_step (by repeat (first | (with_reducible first | exact HB.out | apply below_alloc | apply pw_below_drewN | apply below_drew1) | exact HB.out)) hb); clear HB; have HO196 := n0_; have HB := n1_; clear n0_ n1_; clear hb ho26; obtain ⟨Ao27, co27, eo27⟩ := Kd.R_slice HO196.out; subst eo27) | ((with_reducible refine gate_callee (f := 11) rfl ?_); refine goesL_ (some 7) rfl rfl Try.func11 (by kernel_rfl) rfl #[.slice Ao27 y194.length co27, .agg #[.int .u64 3, .int .u64 5]] rfl (by (try simp only [List.map_toArray, List.map_cons, List.map_nil]); first | done | rfl | (simp only [List.length_drop, List.length_take]; rfl)) ?_; (with_reducible refine (ranges_Add.calls k (fun k_ => some k_ = (.slice Ao27 y194.length co27 : Value).ownBlock) _ _ y194 3 5 t197 _ ?side1 A1.out).mono ?_); (case side1 => exact Kd.R_V (Kd.R_tight rfl (HO196.out))); rintro e w28 ⟨v198, rfl, ho0, hb⟩; refine ⟨_, rfl, ?_⟩; have n0_ := Aside0.mk (Kd.R_elder' (by (with_reducible repeat (first | apply Kd.R_alloc | apply Kd.R_drewN | apply Kd.R_drew)); exact HO196.out) (Kd.R_base ho0) hb); have n1_ := Aside0.mk (Kd.R_lower (Kd.R_new' (Kd.R_mono (ok' := fun k_ => True) ho0 (fun _ hk_ => trivial)) (Kd.R_lt (by (with_reducible repeat (first | apply Kd.R_alloc | apply Kd.R_drewN | apply Kd.R_drew)); exact HO196.out))) (below_size (by repeat (first | (with_reducible first | exact HB.out | apply below_alloc | apply pw_below_drewN | apply below_drew1) | exact HB.out)))); have n2_ := Aside0.mk (below_step (by repeat (first | (with_reducible first | exact HB.out | apply below_alloc | apply pw_below_drewN | apply below_drew1) | exact HB.out)) hb); clear HO196; clear HB; have HO196 := n0_; have HO199 := n1_; have HB := n2_; clear n0_ n1_ n2_; (try clear hb); (try clear hb2); (try clear hk); (try clear hi); (try clear ho0); obtain ⟨Ao29, co29, eo29⟩ := Kd.R_slice HO199.out; subst eo29) | ((with_reducible refine gate_callee (f := 12) rfl ?_); refine goesL_ (some 10) rfl rfl Try.func12 (by kernel_rfl) rfl #[.slice Ao29 t197.length co29, .agg #[.int .u64 2, .int .u64 4]] rfl (by (try simp only [List.map_toArray, List.map_cons, List.map_nil]); first | done | rfl | (simp only [List.length_drop, List.length_take]; rfl)) ?_; (with_reducible refine (ranges_Remove.calls k _ _ t197 2 4 t200 _ ?side1 ?side2 A2.out).mono ?_); (case side1 => repeat (first | exact (Kd.R_reads' HO199.out).2.2 | (with_reducible refine Kd.C_alloc ?_ _) | (with_reducible refine Kd.C_drewN ?_ _) | (with_reducible refine Kd.C_drew ?_))); (case side2 => exact (Kd.R_reads' HO199.out).2.1); rintro e w30 ⟨v201, rfl, ho0, hb⟩; refine ⟨_, rfl, ?_⟩; have n0_ := Aside0.mk (Kd.R_elder' (by (with_reducible repeat (first | apply Kd.R_alloc | apply Kd.R_drewN | apply Kd.R_drew)); exact HO196.out) (Kd.R_base ho0) hb); have n1_ := Aside0.mk (Kd.R_elder' (by (with_reducible repeat (first | apply Kd.R_alloc | apply Kd.R_drewN | apply Kd.R_drew)); exact HO199.out) (Kd.R_base ho0) hb); have n2_ := Aside0.mk (Kd.R_lower (Kd.R_new' (Kd.R_new' ho0 (Kd.R_lt (by (with_reducible repeat (first | apply Kd.R_alloc | apply Kd.R_drewN | apply Kd.R_drew)); exact HO196.out))) (Kd.R_lt (by (with_reducible repeat (first | apply Kd.R_alloc | apply Kd.R_drewN | apply Kd.R_drew)); exact HO199.out))) (below_size (by repeat (first | (with_reducible first | exact HB.out | apply below_alloc | apply pw_below_drewN | apply below_drew1) | exact HB.out)))); have n3_ := Aside0.mk (below_step (by repeat (first | (with_reducible first | exact HB.out | apply below_alloc | apply pw_below_drewN | apply below_drew1) | exact HB.out)) hb); clear HO196; clear HO199; clear HB; have HO196 := n0_; have HO199 := n1_; have HO202 := n2_; have HB := n3_; clear n0_ n1_ n2_ n3_; (try clear hb); (try clear hb2); (try clear hk); (try clear hi); (try clear ho0); have p203 : 0 ≤ (0 : Int) := (by omega); have q203 : 0 < (t197.length : Int) := of_decide_eq_true (by first | (with_reducible assumption) | assumption); obtain ⟨ad203, e203, hx203_0, hx203_1⟩ := at_T25 (Kd.R_reads' HO199.out).2.2 0 p203 q203; cases e203; have qi203 : (0 < t197.length) = True := eq_true (by omega); (try rw [show ((0 : Int)).toNat = 0 from rfl] at hx203_0); (try rw [show 0 * 2 = 0 from rfl] at hx203_0); (try rw [Addr.add_zero'] at hx203_0); (try rw [show ((0 : Int)).toNat = 0 from rfl] at hx203_1); (try rw [show 0 * 2 = 0 from rfl] at hx203_1); (try rw [Addr.add_zero'] at hx203_1); replace p203 := eq_true p203; replace q203 := eq_true q203; obtain ⟨Ao31, co31, eo31⟩ := Kd.R_slice HO202.out; subst eo31))
          go_ret
          exact ⟨by first | rfl | (simp [errW_none, errW_some] <;> rfl) | (simp [*, errW_none, errW_some] <;> rfl), by repeat (first | (with_reducible first | exact HB.out | apply below_alloc | apply pw_below_drewN | apply below_drew1) | exact HB.out)⟩
      · rw [if_neg c5] at H
        have c5b0 : (((rd_T25 t197 0).f0) == 1 && (((rd_T25 t197 0).f1) == 6)) = false := by simpa using c5
        (try (have c5b1 : decide (((rd_T25 t197 0).f0) = 1 && (((rd_T25 t197 0).f1) == 6)) = false := by simpa using c5))
        (try (have c5b2 : (((rd_T25 t197 0).f0) == 1 && (((rd_T25 t197 0).f1) == 6)) = false := by simpa using c5))
        (try (have c5b3 : ¬ (((rd_T25 t197 0).f0) = 1 && (((rd_T25 t197 0).f1) == 6)) := by simpa using c5))
        clear c5
        obtain rfl := Option.some.inj H
        go_enter Try.func9, Try.ntmps9
        go_wp2_with (first | ((with_reducible refine gate_dst (N := 5) rfl ?_); (try (refine gate_guard (by rfl) ?_; dsimp only)); refine Kd.R_lit k25 _ 25 ?hg (N := 5) ?hd (xs := ([(⟨1, 3⟩ : S25), (⟨5, 6⟩ : S25)] : List (S25))) (inner := [.int .u64 1, .int .u64 3, .int .u64 5, .int .u64 6]) (ok := fun _ => True) (okp := fun _ => True) ?hr ?hp (fun _ hk => hk) trivial (Below.refl _ _) (Nat.le_refl _) (by simp) ?_; (case hd => rfl); (case hg => rfl); (case hr => first | (go_simp; done) | (go_simp; rfl)); (case hp => exact (Reps.c2 (show Kd.M k25 _ _ _ (⟨1, 3⟩ : S25) [.int .u64 1, .int .u64 3] from (k25_mkM _ _ _ (⟨1, 3⟩ : S25) )) (Reps.c2 (show Kd.M k25 _ _ _ (⟨5, 6⟩ : S25) [.int .u64 5, .int .u64 6] from (k25_mkM _ _ _ (⟨5, 6⟩ : S25) )) (Reps.none _ _)))); intro v195 w32 ho33 hb hg_ hnew_; clear hg_ hnew_; (first | rw [← Ny194.out] at ho33 | (simp only [Int.reduceToNat] at ho33; rw [← Ny194.out] at ho33)); have n0_ := Aside0.mk (Kd.R_lower ho33 (below_size (by repeat (first | (with_reducible first | exact HB.out | apply below_alloc | apply pw_below_drewN | apply below_drew1) | exact HB.out)))); have n1_ := Aside0.mk (below_step (by repeat (first | (with_reducible first | exact HB.out | apply below_alloc | apply pw_below_drewN | apply below_drew1) | exact HB.out)) hb); clear HB; have HO196 := n0_; have HB := n1_; clear n0_ n1_; clear hb ho33; obtain ⟨Ao34, co34, eo34⟩ := Kd.R_slice HO196.out; subst eo34) | ((with_reducible refine gate_callee (f := 11) rfl ?_); refine goesL_ (some 7) rfl rfl Try.func11 (by kernel_rfl) rfl #[.slice Ao34 y194.length co34, .agg #[.int .u64 3, .int .u64 5]] rfl (by (try simp only [List.map_toArray, List.map_cons, List.map_nil]); first | done | rfl | (simp only [List.length_drop, List.length_take]; rfl)) ?_; (with_reducible refine (ranges_Add.calls k (fun k_ => some k_ = (.slice Ao34 y194.length co34 : Value).ownBlock) _ _ y194 3 5 t197 _ ?side1 A1.out).mono ?_); (case side1 => exact Kd.R_V (Kd.R_tight rfl (HO196.out))); rintro e w35 ⟨v198, rfl, ho0, hb⟩; refine ⟨_, rfl, ?_⟩; have n0_ := Aside0.mk (Kd.R_elder' (by (with_reducible repeat (first | apply Kd.R_alloc | apply Kd.R_drewN | apply Kd.R_drew)); exact HO196.out) (Kd.R_base ho0) hb); have n1_ := Aside0.mk (Kd.R_lower (Kd.R_new' (Kd.R_mono (ok' := fun k_ => True) ho0 (fun _ hk_ => trivial)) (Kd.R_lt (by (with_reducible repeat (first | apply Kd.R_alloc | apply Kd.R_drewN | apply Kd.R_drew)); exact HO196.out))) (below_size (by repeat (first | (with_reducible first | exact HB.out | apply below_alloc | apply pw_below_drewN | apply below_drew1) | exact HB.out)))); have n2_ := Aside0.mk (below_step (by repeat (first | (with_reducible first | exact HB.out | apply below_alloc | apply pw_below_drewN | apply below_drew1) | exact HB.out)) hb); clear HO196; clear HB; have HO196 := n0_; have HO199 := n1_; have HB := n2_; clear n0_ n1_ n2_; (try clear hb); (try clear hb2); (try clear hk); (try clear hi); (try clear ho0); obtain ⟨Ao36, co36, eo36⟩ := Kd.R_slice HO199.out; subst eo36) | ((with_reducible refine gate_callee (f := 12) rfl ?_); refine goesL_ (some 10) rfl rfl Try.func12 (by kernel_rfl) rfl #[.slice Ao36 t197.length co36, .agg #[.int .u64 2, .int .u64 4]] rfl (by (try simp only [List.map_toArray, List.map_cons, List.map_nil]); first | done | rfl | (simp only [List.length_drop, List.length_take]; rfl)) ?_; (with_reducible refine (ranges_Remove.calls k _ _ t197 2 4 t200 _ ?side1 ?side2 A2.out).mono ?_); (case side1 => repeat (first | exact (Kd.R_reads' HO199.out).2.2 | (with_reducible refine Kd.C_alloc ?_ _) | (with_reducible refine Kd.C_drewN ?_ _) | (with_reducible refine Kd.C_drew ?_))); (case side2 => exact (Kd.R_reads' HO199.out).2.1); rintro e w37 ⟨v201, rfl, ho0, hb⟩; refine ⟨_, rfl, ?_⟩; have n0_ := Aside0.mk (Kd.R_elder' (by (with_reducible repeat (first | apply Kd.R_alloc | apply Kd.R_drewN | apply Kd.R_drew)); exact HO196.out) (Kd.R_base ho0) hb); have n1_ := Aside0.mk (Kd.R_elder' (by (with_reducible repeat (first | apply Kd.R_alloc | apply Kd.R_drewN | apply Kd.R_drew)); exact HO199.out) (Kd.R_base ho0) hb); have n2_ := Aside0.mk (Kd.R_lower (Kd.R_new' (Kd.R_new' ho0 (Kd.R_lt (by (with_reducible repeat (first | apply Kd.R_alloc | apply Kd.R_drewN | apply Kd.R_drew)); exact HO196.out))) (Kd.R_lt (by (with_reducible repeat (first | apply Kd.R_alloc | apply Kd.R_drewN | apply Kd.R_drew)); exact HO199.out))) (below_size (by repeat (first | (with_reducible first | exact HB.out | apply below_alloc | apply pw_below_drewN | apply below_drew1) | exact HB.out)))); have n3_ := Aside0.mk (below_step (by repeat (first | (with_reducible first | exact HB.out | apply below_alloc | apply pw_below_drewN | apply below_drew1) | exact HB.out)) hb); clear HO196; clear HO199; clear HB; have HO196 := n0_; have HO199 := n1_; have HO202 := n2_; have HB := n3_; clear n0_ n1_ n2_ n3_; (try clear hb); (try clear hb2); (try clear hk); (try clear hi); (try clear ho0); have p203 : 0 ≤ (0 : Int) := (by omega); have q203 : 0 < (t197.length : Int) := of_decide_eq_true (by first | (with_reducible assumption) | assumption); obtain ⟨ad203, e203, hx203_0, hx203_1⟩ := at_T25 (Kd.R_reads' HO199.out).2.2 0 p203 q203; cases e203; have qi203 : (0 < t197.length) = True := eq_true (by omega); (try rw [show ((0 : Int)).toNat = 0 from rfl] at hx203_0); (try rw [show 0 * 2 = 0 from rfl] at hx203_0); (try rw [Addr.add_zero'] at hx203_0); (try rw [show ((0 : Int)).toNat = 0 from rfl] at hx203_1); (try rw [show 0 * 2 = 0 from rfl] at hx203_1); (try rw [Addr.add_zero'] at hx203_1); replace p203 := eq_true p203; replace q203 := eq_true q203))
        go_ret
        exact ⟨by first | rfl | (simp [errW_none, errW_some] <;> rfl) | (simp [*, errW_none, errW_some] <;> rfl), by repeat (first | (with_reducible first | exact HB.out | apply below_alloc | apply pw_below_drewN | apply below_drew1) | exact HB.out)⟩
    · rw [if_neg c4] at H
      exact absurd H (by simp)
  · rw [if_neg c3] at H
    have c3b0 : ((t197.length : Int) == 1) = false := beq_eq_false_iff_ne.mpr c3
    have c3b1 : ((t197.length : Int) != 1) = true := bne_iff_ne.mpr c3
    obtain rfl := Option.some.inj H
    go_enter Try.func9, Try.ntmps9
    go_wp2_with (first | ((with_reducible refine gate_dst (N := 5) rfl ?_); (try (refine gate_guard (by rfl) ?_; dsimp only)); refine Kd.R_lit k25 _ 25 ?hg (N := 5) ?hd (xs := ([(⟨1, 3⟩ : S25), (⟨5, 6⟩ : S25)] : List (S25))) (inner := [.int .u64 1, .int .u64 3, .int .u64 5, .int .u64 6]) (ok := fun _ => True) (okp := fun _ => True) ?hr ?hp (fun _ hk => hk) trivial (Below.refl _ _) (Nat.le_refl _) (by simp) ?_; (case hd => rfl); (case hg => rfl); (case hr => first | (go_simp; done) | (go_simp; rfl)); (case hp => exact (Reps.c2 (show Kd.M k25 _ _ _ (⟨1, 3⟩ : S25) [.int .u64 1, .int .u64 3] from (k25_mkM _ _ _ (⟨1, 3⟩ : S25) )) (Reps.c2 (show Kd.M k25 _ _ _ (⟨5, 6⟩ : S25) [.int .u64 5, .int .u64 6] from (k25_mkM _ _ _ (⟨5, 6⟩ : S25) )) (Reps.none _ _)))); intro v195 w38 ho39 hb hg_ hnew_; clear hg_ hnew_; (first | rw [← Ny194.out] at ho39 | (simp only [Int.reduceToNat] at ho39; rw [← Ny194.out] at ho39)); have n0_ := Aside0.mk (Kd.R_lower ho39 (below_size (by repeat (first | (with_reducible first | exact HB.out | apply below_alloc | apply pw_below_drewN | apply below_drew1) | exact HB.out)))); have n1_ := Aside0.mk (below_step (by repeat (first | (with_reducible first | exact HB.out | apply below_alloc | apply pw_below_drewN | apply below_drew1) | exact HB.out)) hb); clear HB; have HO196 := n0_; have HB := n1_; clear n0_ n1_; clear hb ho39; obtain ⟨Ao40, co40, eo40⟩ := Kd.R_slice HO196.out; subst eo40) | ((with_reducible refine gate_callee (f := 11) rfl ?_); refine goesL_ (some 7) rfl rfl Try.func11 (by kernel_rfl) rfl #[.slice Ao40 y194.length co40, .agg #[.int .u64 3, .int .u64 5]] rfl (by (try simp only [List.map_toArray, List.map_cons, List.map_nil]); first | done | rfl | (simp only [List.length_drop, List.length_take]; rfl)) ?_; (with_reducible refine (ranges_Add.calls k (fun k_ => some k_ = (.slice Ao40 y194.length co40 : Value).ownBlock) _ _ y194 3 5 t197 _ ?side1 A1.out).mono ?_); (case side1 => exact Kd.R_V (Kd.R_tight rfl (HO196.out))); rintro e w41 ⟨v198, rfl, ho0, hb⟩; refine ⟨_, rfl, ?_⟩; have n0_ := Aside0.mk (Kd.R_elder' (by (with_reducible repeat (first | apply Kd.R_alloc | apply Kd.R_drewN | apply Kd.R_drew)); exact HO196.out) (Kd.R_base ho0) hb); have n1_ := Aside0.mk (Kd.R_lower (Kd.R_new' (Kd.R_mono (ok' := fun k_ => True) ho0 (fun _ hk_ => trivial)) (Kd.R_lt (by (with_reducible repeat (first | apply Kd.R_alloc | apply Kd.R_drewN | apply Kd.R_drew)); exact HO196.out))) (below_size (by repeat (first | (with_reducible first | exact HB.out | apply below_alloc | apply pw_below_drewN | apply below_drew1) | exact HB.out)))); have n2_ := Aside0.mk (below_step (by repeat (first | (with_reducible first | exact HB.out | apply below_alloc | apply pw_below_drewN | apply below_drew1) | exact HB.out)) hb); clear HO196; clear HB; have HO196 := n0_; have HO199 := n1_; have HB := n2_; clear n0_ n1_ n2_; (try clear hb); (try clear hb2); (try clear hk); (try clear hi); (try clear ho0); obtain ⟨Ao42, co42, eo42⟩ := Kd.R_slice HO199.out; subst eo42) | ((with_reducible refine gate_callee (f := 12) rfl ?_); refine goesL_ (some 10) rfl rfl Try.func12 (by kernel_rfl) rfl #[.slice Ao42 t197.length co42, .agg #[.int .u64 2, .int .u64 4]] rfl (by (try simp only [List.map_toArray, List.map_cons, List.map_nil]); first | done | rfl | (simp only [List.length_drop, List.length_take]; rfl)) ?_; (with_reducible refine (ranges_Remove.calls k _ _ t197 2 4 t200 _ ?side1 ?side2 A2.out).mono ?_); (case side1 => repeat (first | exact (Kd.R_reads' HO199.out).2.2 | (with_reducible refine Kd.C_alloc ?_ _) | (with_reducible refine Kd.C_drewN ?_ _) | (with_reducible refine Kd.C_drew ?_))); (case side2 => exact (Kd.R_reads' HO199.out).2.1); rintro e w43 ⟨v201, rfl, ho0, hb⟩; refine ⟨_, rfl, ?_⟩; have n0_ := Aside0.mk (Kd.R_elder' (by (with_reducible repeat (first | apply Kd.R_alloc | apply Kd.R_drewN | apply Kd.R_drew)); exact HO196.out) (Kd.R_base ho0) hb); have n1_ := Aside0.mk (Kd.R_elder' (by (with_reducible repeat (first | apply Kd.R_alloc | apply Kd.R_drewN | apply Kd.R_drew)); exact HO199.out) (Kd.R_base ho0) hb); have n2_ := Aside0.mk (Kd.R_lower (Kd.R_new' (Kd.R_new' ho0 (Kd.R_lt (by (with_reducible repeat (first | apply Kd.R_alloc | apply Kd.R_drewN | apply Kd.R_drew)); exact HO196.out))) (Kd.R_lt (by (with_reducible repeat (first | apply Kd.R_alloc | apply Kd.R_drewN | apply Kd.R_drew)); exact HO199.out))) (below_size (by repeat (first | (with_reducible first | exact HB.out | apply below_alloc | apply pw_below_drewN | apply below_drew1) | exact HB.out)))); have n3_ := Aside0.mk (below_step (by repeat (first | (with_reducible first | exact HB.out | apply below_alloc | apply pw_below_drewN | apply below_drew1) | exact HB.out)) hb); clear HO196; clear HO199; clear HB; have HO196 := n0_; have HO199 := n1_; have HO202 := n2_; have HB := n3_; clear n0_ n1_ n2_ n3_; (try clear hb); (try clear hb2); (try clear hk); (try clear hi); (try clear ho0)))
    go_ret
    exact ⟨by first | rfl | (simp [errW_none, errW_some] <;> rfl) | (simp [*, errW_none, errW_some] <;> rfl), by repeat (first | (with_reducible first | exact HB.out | apply below_alloc | apply pw_below_drewN | apply below_drew1) | exact HB.out)⟩

/-! ### mailcoachref03_In: function 22 -/
def mailcoachref03_In.l0 : Nat → List (S25) → Int → Int → Option (Bool)
  | 0, _, _, _ => none
  | k + 1, x0, x1, x5 => if x5 < (x0.length : Int) then (if 0 ≤ x5 then (if ((rd_T25 x0 x5).f0) ≤ x1 then (if x1 < ((rd_T25 x0 x5).f1) then (some true) else (mailcoachref03_In.l0 k x0 x1 (wrap64 (x5 + 1)))) else (mailcoachref03_In.l0 k x0 x1 (wrap64 (x5 + 1)))) else (none)) else (some false)
def mailcoachref03_In.f (k : Nat) (l0 : List (S25)) (a1 : Int) : Option (Bool) := mailcoachref03_In.l0 k l0 a1 0
theorem mailcoachref03_In.mono_l : ∀ k, (∀ y0 y1 y2, LeO (mailcoachref03_In.l0 k y0 y1 y2) (mailcoachref03_In.l0 (k + 1) y0 y1 y2))
  | 0 => fun _ _ _ r h => by simp [mailcoachref03_In.l0] at h
  | k + 1 => by
    have ih0 := mailcoachref03_In.mono_l k
    · intro y0 y1 y2
      unfold mailcoachref03_In.l0
      repeat' first
      | (with_reducible exact ih0 _ _ _)
      | (with_reducible exact LeO.refl _)
      | (with_reducible exact LeO.none _)
      | (with_reducible refine LeO.ite ?_ ?_)
      | (with_reducible refine LeO.bind ?_ (fun _ => ?_))
      | exact ih0 _ _ _
      | exact LeO.none _
      | refine LeO.ite ?_ ?_
      | refine LeO.bind ?_ (fun _ => ?_)
theorem mailcoachref03_In.mono : ∀ a0 a1 k, LeO (mailcoachref03_In.f k a0 a1) (mailcoachref03_In.f (k + 1) a0 a1) := by
  intro a0 a1 k
  have ih0 := mailcoachref03_In.mono_l k
  unfold mailcoachref03_In.f
  repeat' first
      | (with_reducible exact ih0 _ _ _)
      | (with_reducible exact LeO.refl _)
      | (with_reducible exact LeO.none _)
      | (with_reducible refine LeO.ite ?_ ?_)
      | (with_reducible refine LeO.bind ?_ (fun _ => ?_))
      | exact ih0 _ _ _
      | exact LeO.none _
      | refine LeO.ite ?_ ?_
      | refine LeO.bind ?_ (fun _ => ?_)
set_option maxHeartbeats 8000000 in
set_option maxRecDepth 100000 in
theorem mailcoachref03_In.calls (k : Nat) (A0 : Option Addr) (c0 : Nat) (l0 : List (S25)) (a1 : Int) (r : Bool) (w : World) (hr0 : Kd.C k25 w A0 l0.length l0) (hc0 : l0.length ≤ c0) (h : mailcoachref03_In.f k l0 a1 = some r) :
    Calls Try.prog 22 #[.slice A0 l0.length c0, .int .u64 a1] w fun e w' => e = .returned (.bool r) ∧ Drawn0 w w' := by
  have HR0 := Aside0.mk hr0
  have HC0 := Aside0.mk hc0
  clear hr0 hc0
  have H : (mailcoachref03_In.l0 k l0 a1 0) = some r := h
  clear h
  have H' := Aside0.mk H
  clear H
  go_enter Try.func22, Try.ntmps22
  go_wp2
  go_loopg [5] k (fun kq v5 w' => ∃ (x5_1 : Int), v5 = .int .i64 x5_1 ∧ Aside0 (mailcoachref03_In.l0 kq l0 a1 x5_1 = some r) ∧ Aside0 (kq ≤ k) ∧ Drawn0 w w')
  case atStart => exact ⟨(0), (by first | rfl | (simp; done) | (simp [*]; done)), H', ⟨Nat.le_refl _⟩, by repeat (first | exact Drawn0.refl _ | apply Drawn0.step)⟩
  case round =>
    clear H'
    try clear c2
    try clear p2
    obtain ⟨x5_1, rfl, HA, HK1, ⟨m1, rfl⟩⟩ := hrel
    cases gk with
    | zero => exact absurd HA.out (by simp [mailcoachref03_In.l0])
    | succ k1 =>
      have H := HA.out
      clear HA
      simp only [mailcoachref03_In.l0] at H
      by_cases c3 : x5_1 < (l0.length : Int)
      · rw [if_pos c3] at H
        have c3b0 : decide (x5_1 < (l0.length : Int)) = true := decide_eq_true c3
        clear c3
        by_cases c4 : 0 ≤ x5_1
        · rw [if_pos c4] at H
          have c4b0 : decide (0 ≤ x5_1) = true := decide_eq_true c4
          clear c4
          by_cases c5 : ((rd_T25 l0 x5_1).f0) ≤ a1
          · rw [if_pos c5] at H
            have c5b0 : decide (((rd_T25 l0 x5_1).f0) ≤ a1) = true := decide_eq_true c5
            clear c5
            by_cases c6 : a1 < ((rd_T25 l0 x5_1).f1)
            · rw [if_pos c6] at H
              have c6b0 : decide (a1 < ((rd_T25 l0 x5_1).f1)) = true := decide_eq_true c6
              clear c6
              obtain rfl := Option.some.inj H
              have p206 : 0 ≤ (x5_1 : Int) := of_decide_eq_true (by first | (with_reducible assumption) | assumption)
              have q206 : x5_1 < (l0.length : Int) := of_decide_eq_true (by first | (with_reducible assumption) | assumption)
              obtain ⟨ad206, e206, hx206_0, hx206_1⟩ := at_T25 HR0.out x5_1 p206 q206
              cases e206
              replace p206 := eq_true p206
              replace q206 := eq_true q206
              have p207 : 0 ≤ (x5_1 : Int) := of_decide_eq_true (by first | (with_reducible assumption) | assumption)
              have q207 : x5_1 < (l0.length : Int) := of_decide_eq_true (by first | (with_reducible assumption) | assumption)
              obtain ⟨ad207, e207, hx207_0, hx207_1⟩ := at_T25 HR0.out x5_1 p207 q207
              obtain rfl : ad206 = ad207 := (by injection e207)
              replace p207 := eq_true p207
              replace q207 := eq_true q207
              go_wp2
              go_ret
              exact ⟨by first | rfl | (simp; done) | (simp [*]; done), by repeat (first | exact Drawn0.refl _ | apply Drawn0.step)⟩
            · rw [if_neg c6] at H
              have c6b0 : decide (a1 < ((rd_T25 l0 x5_1).f1)) = false := decide_eq_false c6
              clear c6
              have H' := Aside0.mk H
              clear H
              have p206 : 0 ≤ (x5_1 : Int) := of_decide_eq_true (by first | (with_reducible assumption) | assumption)
              have q206 : x5_1 < (l0.length : Int) := of_decide_eq_true (by first | (with_reducible assumption) | assumption)
              obtain ⟨ad206, e206, hx206_0, hx206_1⟩ := at_T25 HR0.out x5_1 p206 q206
              cases e206
              replace p206 := eq_true p206
              replace q206 := eq_true q206
              have p207 : 0 ≤ (x5_1 : Int) := of_decide_eq_true (by first | (with_reducible assumption) | assumption)
              have q207 : x5_1 < (l0.length : Int) := of_decide_eq_true (by first | (with_reducible assumption) | assumption)
              obtain ⟨ad207, e207, hx207_0, hx207_1⟩ := at_T25 HR0.out x5_1 p207 q207
              obtain rfl : ad206 = ad207 := (by injection e207)
              replace p207 := eq_true p207
              replace q207 := eq_true q207
              go_wp2
              go_roundg k1
              case measure => have := HK1.out; omega
              case rel => exact ⟨(wrap64 (x5_1 + 1)), (by first | rfl | (simp; done) | (simp [*]; done)), H', ⟨by have := HK1.out; omega⟩, by repeat (first | exact Drawn0.refl _ | apply Drawn0.step)⟩
          · rw [if_neg c5] at H
            have c5b0 : decide (((rd_T25 l0 x5_1).f0) ≤ a1) = false := decide_eq_false c5
            clear c5
            have H' := Aside0.mk H
            clear H
            have p206 : 0 ≤ (x5_1 : Int) := of_decide_eq_true (by first | (with_reducible assumption) | assumption)
            have q206 : x5_1 < (l0.length : Int) := of_decide_eq_true (by first | (with_reducible assumption) | assumption)
            obtain ⟨ad206, e206, hx206_0, hx206_1⟩ := at_T25 HR0.out x5_1 p206 q206
            cases e206
            replace p206 := eq_true p206
            replace q206 := eq_true q206
            go_wp2
            go_roundg k1
            case measure => have := HK1.out; omega
            case rel => exact ⟨(wrap64 (x5_1 + 1)), (by first | rfl | (simp; done) | (simp [*]; done)), H', ⟨by have := HK1.out; omega⟩, by repeat (first | exact Drawn0.refl _ | apply Drawn0.step)⟩
        · rw [if_neg c4] at H
          exact absurd H (by simp)
      · rw [if_neg c3] at H
        have c3b0 : decide (x5_1 < (l0.length : Int)) = false := decide_eq_false c3
        clear c3
        obtain rfl := Option.some.inj H
        go_wp2
        go_ret
        exact ⟨by first | rfl | (simp; done) | (simp [*]; done), by repeat (first | exact Drawn0.refl _ | apply Drawn0.step)⟩

end Go.Proofs.Ytehhpcijhclkfaa.PRangesChecks
