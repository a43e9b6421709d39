-- Written by a program of this session's; its pattern is the kit's print.
import Derived.Test.YtehhpcijhclkfaaYRangesGaps0
import Derived.Test.YtehhpcijhclkfaaYRangesGaps2
import Derived.Test.YtehhpcijhclkfaaYRangesGaps3
import Derived.Test.YtehhpcijhclkfaaYRangesGaps4
import Derived.Test.YtehhpcijhclkfaaYRangesGaps7
namespace Go.Proofs.Ytehhpcijhclkfaa.PRangesGaps
open Go.RowKit Go.Proofs.YtehhpcijhclkfaaW.PrintWords Go.Proofs.YtehhpcijhclkfaaW.PrintLast Go.Proofs.YtehhpcijhclkfaaW.PrintMore
attribute [local go_sem] max2_int min2_int max_two min_two max_three min_three max_four min_four   -- for this text's walks alone
set_option linter.unusedVariables false
set_option linter.unusedSimpArgs false

/-! ### mailcoachlaw03_Right: function 10 -/
def mailcoachlaw03_Right.f (k : Nat) (l0 : List (S25)) : Option ((List (S25))) := if 0 ≤ (mn (l0.length : Int) 40) then (if (mn (l0.length : Int) 40) ≤ (l0.length : Int) then ((mailcoachref03_Set.f k (l0.take ((mn (l0.length : Int) 40) : Int).toNat) ([] : List (S25))).bind fun t298 => (some t298)) else (none)) else (none)
theorem mailcoachlaw03_Right.mono : ∀ a0 k, LeO (mailcoachlaw03_Right.f k a0) (mailcoachlaw03_Right.f (k + 1) a0) := by
  intro a0 k
  unfold mailcoachlaw03_Right.f
  repeat' first
      | (with_reducible exact mailcoachref03_Set.mono _ _ _)
      | (with_reducible exact LeO.refl _)
      | (with_reducible exact LeO.none _)
      | (with_reducible refine LeO.ite ?_ ?_)
      | (with_reducible refine LeO.bind ?_ (fun _ => ?_))
      | exact mailcoachref03_Set.mono _ _ _
      | exact LeO.none _
      | refine LeO.ite ?_ ?_
      | refine LeO.bind ?_ (fun _ => ?_)
set_option maxHeartbeats 8000000 in
set_option maxRecDepth 100000 in
theorem mailcoachlaw03_Right.calls (k : Nat) (A0 : Option Addr) (c0 : Nat) (l0 : List (S25)) (r : List (S25)) (w : World) (hr0 : Kd.C k25 w A0 l0.length l0) (hc0 : l0.length ≤ c0) (h : mailcoachlaw03_Right.f k l0 = some r) :
    Calls Try.prog 10 #[.slice A0 l0.length c0] w fun e w' => ∃ v0_ : Value, e = .returned (v0_) ∧ Kd.R k25 25 w' w.heap.size (fun _ => True) v0_ r ∧ Below w.heap.size w w' := by
  have HR0 := Aside0.mk hr0
  have HC0 := Aside0.mk hc0
  clear hr0 hc0
  have HB := Aside0.mk (Below.refl w.heap.size w)
  have H : (if 0 ≤ (mn (l0.length : Int) 40) then (if (mn (l0.length : Int) 40) ≤ (l0.length : Int) then ((mailcoachref03_Set.f k (l0.take ((mn (l0.length : Int) 40) : Int).toNat) ([] : List (S25))).bind fun t298 => (some t298)) else (none)) else (none)) = some r := h
  clear h
  obtain ⟨ji2, hji2⟩ : ∃ j_ : Int, (mn (l0.length : Int) 40) = j_ := ⟨_, rfl⟩
  replace H : (if 0 ≤ (ji2) then (if (ji2) ≤ (l0.length : Int) then ((mailcoachref03_Set.f k (l0.take ((ji2) : Int).toNat) ([] : List (S25))).bind fun t298 => (some t298)) else (none)) else (none)) = some r := by first | (rw [hji2] at H; exact H) | (simp only [hji2] at H ⊢; exact H)
  (try (have hji2h : ji2 ≤ 40 := by (rw [← hji2]; unfold mn; (repeat' split) <;> omega)))
  (try (have hji2g : ji2 ≤ 64 := by omega))
  (try (have hji2l : 0 ≤ ji2 := by (rw [← hji2]; unfold mn; (repeat' split) <;> omega)))
  (try (have hji2m : 0 ≤ ji2 := by omega))
  have hji2_ : (if 40 < (l0.length : Int) then 40 else (l0.length : Int)) = ji2 := hji2
  by_cases c3 : 0 ≤ (ji2)
  · rw [if_pos c3] at H
    have c3b0 := eq_true c3
    have c3b1 : decide (0 ≤ (ji2)) = true := decide_eq_true c3
    clear c3
    by_cases c4 : (ji2) ≤ (l0.length : Int)
    · rw [if_pos c4] at H
      have c4b0 := eq_true c4
      have c4b1 : decide ((ji2) ≤ (l0.length : Int)) = true := decide_eq_true c4
      clear c4
      obtain ⟨y294, hy294⟩ : ∃ y_ : List (S25), y_ = (l0.take ((ji2) : Int).toNat) := ⟨_, rfl⟩
      replace H : ((mailcoachref03_Set.f k y294 ([] : List (S25))).bind fun t298 => (some t298)) = some r := by first | (rw [hy294]; with_reducible exact H) | (have H2_ := (Option.bind_some _ _).symm.trans H; rw [hy294]; with_reducible exact H2_) | (have H2_ := (Option.bind_some _ _).symm.trans H; with_reducible exact H2_) | with_reducible exact H | (rw [hy294]; exact H) | exact H
      have Ny294 := Aside0.mk hy294
      clear hy294
      replace H := Option.bind_eq_some_iff.mp H
      obtain ⟨t298, A50, H⟩ := H
      replace H : (some t298) = some r := H
      have A5 := Aside0.mk A50
      clear A50
      obtain rfl := Option.some.inj H
      have q6 : ((ji2) : Int) ≤ ((l0.length : Int) : Int) := of_decide_eq_true (by first | (with_reducible assumption) | assumption)
      obtain ⟨i06, hi06, _, hsz6, _⟩ := info_parts info25
      have hroom6 : l0.length ≤ c0 := HC0.out
      have hC6 : Kd.C k25 _ A0 l0.length l0 := HR0.out
      have hcut6 := cut_to (P := Try.prog) 22 25 .i64 Try.underlying22 hi06 A0 l0.length c0 (ji2) (of_decide_eq_true (by first | (with_reducible assumption) | assumption)) q6 hroom6
      have hr6 := Kd.C_take (m := ((ji2) : Int).toNat) hC6 (by omega)
      have hy6 : y294.length = ((ji2) : Int).toNat := (by rw [Ny294.out, List.length_take]; omega)
      rw [← Ny294.out] at hr6
      rw [← hy6] at hcut6
      have HR297 := Aside0.mk hr6
      have HC297 := Aside0.mk (show y294.length ≤ c0 from by omega)
      clear hr6 hC6 hroom6 hi06 hsz6
      have KY6 := Aside0.mk hy6
      clear hy6
      replace q6 := eq_true q6
      go_enter Try.func10, Try.ntmps10
      go_wp2_with (first | ((with_reducible refine gate_callee (f := 14) rfl ?_); refine goesL_ (some 8) rfl rfl Try.func14 (by kernel_rfl) rfl #[.slice A0 y294.length c0, .slice none 0 0] rfl (by (try simp only [List.map_toArray, List.map_cons, List.map_nil]); first | done | rfl | (simp only [List.length_drop, List.length_take]; rfl)) ?_; (refine (mailcoachref03_Set.calls k _ _ y294 _ _ ([] : List (S25)) t298 _ ?side1 ?side2 ?side3 ?side4 A5.out).mono ?_); (case side1 => repeat (first | exact HR297.out | (with_reducible refine Kd.C_alloc ?_ _) | (with_reducible refine Kd.C_drewN ?_ _) | (with_reducible refine Kd.C_drew ?_))); (case side2 => exact HC297.out); (case side3 => exact Kd.C_nil _ _); (case side4 => exact Nat.le_refl _); rintro e w7 ⟨v299, rfl, ho0, hb⟩; refine ⟨_, rfl, ?_⟩; have n0_ := Aside0.mk (Kd.R_lower ho0 (below_size (by repeat (first | (with_reducible first | exact HB.out | apply below_alloc | apply pw_below_drewN | apply below_drew1) | exact HB.out)))); have n1_ := Aside0.mk (below_step (by repeat (first | (with_reducible first | exact HB.out | apply below_alloc | apply pw_below_drewN | apply below_drew1) | exact HB.out)) hb); clear HB; have HO300 := n0_; have HB := n1_; clear n0_ n1_; (try clear hb); (try clear hb2); (try clear hk); (try clear hi); (try clear ho0)))
      go_ret
      exact ⟨_, by first | rfl | (simp [errW_none, errW_some] <;> rfl) | (simp only [← hji2]; first | rfl | (simp [errW_none, errW_some] <;> rfl)) | (simp [*, errW_none, errW_some] <;> rfl), by (with_reducible repeat (first | apply Kd.R_alloc | apply Kd.R_drewN | apply Kd.R_drew)); exact HO300.out, by repeat (first | (with_reducible first | exact HB.out | apply below_alloc | apply pw_below_drewN | apply below_drew1) | exact HB.out)⟩
    · rw [if_neg c4] at H
      exact absurd H (by simp)
  · rw [if_neg c3] at H
    exact absurd H (by simp)

/-! ### ranges_Count: function 16 -/
def ranges_Count.l0 : Nat → Int → List (S25) → Int → Int → Option (Int)
  | 0, _, _, _, _ => none
  | k + 1, x3, x6, x7, x8 => if x8 < x7 then (if 0 ≤ x8 then (if x8 < (x6.length : Int) then (ranges_Count.l0 k (IntKind.u64.wrap (x3 + (IntKind.u64.wrap (((rd_T25 x6 x8).f1) - ((rd_T25 x6 x8).f0))))) x6 x7 (wrap64 (x8 + 1))) else (none)) else (none)) else (some x3)
def ranges_Count.f (k : Nat) (l0 : List (S25)) : Option (Int) := ranges_Count.l0 k 0 l0 (l0.length : Int) 0
theorem ranges_Count.mono_l : ∀ k, (∀ y0 y1 y2 y3, LeO (ranges_Count.l0 k y0 y1 y2 y3) (ranges_Count.l0 (k + 1) y0 y1 y2 y3))
  | 0 => fun _ _ _ _ r h => by simp [ranges_Count.l0] at h
  | k + 1 => by
    have ih0 := ranges_Count.mono_l k
    · intro y0 y1 y2 y3
      unfold ranges_Count.l0
      repeat' first
      | (with_reducible exact ih0 _ _ _ _)
      | (with_reducible exact LeO.refl _)
      | (with_reducible exact LeO.none _)
      | (with_reducible refine LeO.ite ?_ ?_)
      | (with_reducible refine LeO.bind ?_ (fun _ => ?_))
      | exact ih0 _ _ _ _
      | exact LeO.none _
      | refine LeO.ite ?_ ?_
      | refine LeO.bind ?_ (fun _ => ?_)
theorem ranges_Count.mono : ∀ a0 k, LeO (ranges_Count.f k a0) (ranges_Count.f (k + 1) a0) := by
  intro a0 k
  have ih0 := ranges_Count.mono_l k
  unfold ranges_Count.f
  repeat' first
      | (with_reducible exact ih0 _ _ _ _)
      | (with_reducible exact LeO.refl _)
      | (with_reducible exact LeO.none _)
      | (with_reducible refine LeO.ite ?_ ?_)
      | (with_reducible refine LeO.bind ?_ (fun _ => ?_))
      | exact ih0 _ _ _ _
      | exact LeO.none _
      | refine LeO.ite ?_ ?_
      | refine LeO.bind ?_ (fun _ => ?_)
set_option maxHeartbeats 8000000 in
set_option maxRecDepth 100000 in
theorem ranges_Count.calls (k : Nat) (A0 : Option Addr) (c0 : Nat) (l0 : List (S25)) (r : Int) (w : World) (hr0 : Kd.C k25 w A0 l0.length l0) (hc0 : l0.length ≤ c0) (h : ranges_Count.f k l0 = some r) :
    Calls Try.prog 16 #[.slice A0 l0.length c0] w fun e w' => e = .returned (.int .u64 r) ∧ Below w.heap.size w w' := by
  have hu25 := Try.underlying25
  have HR0 := Aside0.mk hr0
  have HC0 := Aside0.mk hc0
  clear hr0 hc0
  have HB := Aside0.mk (Below.refl w.heap.size w)
  have H : (ranges_Count.l0 k 0 l0 (l0.length : Int) 0) = some r := h
  clear h
  have H' := Aside0.mk H
  clear H
  go_enter Try.func16, Try.ntmps16
  go_wp2
  go_loopg [3, 8] k (fun kq v3 v8 w' => ∃ (x3_1 : Int) (x8_1 : Int), v3 = .int .u64 x3_1 ∧ v8 = .int .i64 x8_1 ∧ Aside0 (ranges_Count.l0 kq x3_1 l0 (l0.length : Int) x8_1 = some r) ∧ Aside0 (kq ≤ k) ∧ Aside0 (Below w.heap.size w w'))
  case atStart => exact ⟨(0), (0), (by first | rfl | (simp; done) | (simp [*]; done)), (by first | rfl | (simp; done) | (simp [*]; done)), H', ⟨Nat.le_refl _⟩, ⟨by repeat (first | (with_reducible first | exact HB.out | apply below_alloc | apply pw_below_drewN | apply below_drew1) | exact HB.out)⟩⟩
  case round =>
    clear H'
    try clear c1
    obtain ⟨x3_1, x8_1, rfl, rfl, HA, HK1, HB⟩ := hrel
    cases gk with
    | zero => exact absurd HA.out (by simp [ranges_Count.l0])
    | succ k1 =>
      have H := HA.out
      clear HA
      simp only [ranges_Count.l0] at H
      by_cases c2 : x8_1 < (l0.length : Int)
      · rw [if_pos c2] at H
        have c2b0 : decide (x8_1 < (l0.length : Int)) = true := decide_eq_true c2
        clear c2
        by_cases c3 : 0 ≤ x8_1
        · rw [if_pos c3] at H
          have c3b0 : decide (0 ≤ x8_1) = true := decide_eq_true c3
          clear c3
          by_cases c4 : x8_1 < (l0.length : Int)
          · rw [if_pos c4] at H
            have c4b0 : decide (x8_1 < (l0.length : Int)) = true := decide_eq_true c4
            clear c4
            have H' := Aside0.mk H
            clear H
            have p301 : 0 ≤ (x8_1 : Int) := of_decide_eq_true (by first | (with_reducible assumption) | assumption)
            have q301 : x8_1 < (l0.length : Int) := of_decide_eq_true (by first | (with_reducible assumption) | assumption)
            obtain ⟨ad301, e301, hx301_0, hx301_1⟩ := at_T25 HR0.out x8_1 p301 q301
            cases e301
            replace hx301_0 := (HB.out.cell (World.block_lt_of_cell? w _ hx301_0)).trans hx301_0
            replace hx301_1 := (HB.out.cell (World.block_lt_of_cell? w _ hx301_1)).trans hx301_1
            replace p301 := eq_true p301
            replace q301 := eq_true q301
            go_wp2_with (first | ((with_reducible refine gate_dst (N := 5) rfl ?_); refine box_event ?hg (N := 5) ?hd (cs := #[.int .u64 0, .int .u64 0]) (t := 25) ?hr ?_; (case hd => rfl); (case hg => rfl); (case hr => first | (go_simp; done) | (go_simp; rfl)); intro gb302 hg w5 hbox hb; have n0_ := Aside0.mk (below_step (by repeat (first | (with_reducible first | exact HB.out | apply below_alloc | apply pw_below_drewN | apply below_drew1) | exact HB.out)) hb); have n1_ := Aside0.mk (hbox); have n2_ := Aside0.mk ((by rw [hg]; exact (below_size (by repeat (first | (with_reducible first | exact HB.out | apply below_alloc | apply pw_below_drewN | apply below_drew1) | exact HB.out))) : w.heap.size ≤ gb302)); have n3_ := Aside0.mk ((by rw [hg]; exact (below_size (by repeat (first | (with_reducible first | exact HB.out | apply below_alloc | apply pw_below_drewN | apply below_drew1) | exact HB.out))) : w.heap.size ≤ gb302)); clear HB; have HB := n0_; have BK302 := n1_; have GW302 := n2_; have GE302 := n3_; clear n0_ n1_ n2_ n3_; clear hb hbox hg; have hcz6_0 : w5.cell? ⟨gb302, 0, none⟩ = some (.int .u64 0) := (blk_cell BK302.out 0).trans rfl; have hcz6_1 : w5.cell? ⟨gb302, 1, none⟩ = some (.int .u64 0) := (blk_cell BK302.out 1).trans rfl; have hfz6_0 := blk_frozen BK302.out 0; have hfz6_1 := blk_frozen BK302.out 1))
            go_roundg k1
            case measure => have := HK1.out; omega
            case rel => exact ⟨(IntKind.u64.wrap (x3_1 + (IntKind.u64.wrap (((rd_T25 l0 x8_1).f1) - ((rd_T25 l0 x8_1).f0))))), (wrap64 (x8_1 + 1)), (by first | rfl | (simp; done) | (simp [*]; done)), (by first | rfl | (simp; done) | (simp [*]; done)), H', ⟨by have := HK1.out; omega⟩, ⟨by repeat (first | (with_reducible first | exact HB.out | apply below_alloc | apply pw_below_drewN | apply below_drew1 | refine below_set ?_ GE302.out) | exact HB.out)⟩⟩
          · rw [if_neg c4] at H
            exact absurd H (by simp)
        · rw [if_neg c3] at H
          exact absurd H (by simp)
      · rw [if_neg c2] at H
        have c2b0 : decide (x8_1 < (l0.length : Int)) = false := decide_eq_false c2
        clear c2
        obtain rfl := Option.some.inj H
        go_wp2
        go_ret
        exact ⟨by first | rfl | (simp [errW_none, errW_some] <;> rfl) | (simp [*, errW_none, errW_some] <;> rfl), by repeat (first | (with_reducible first | exact HB.out | apply below_alloc | apply pw_below_drewN | apply below_drew1) | exact HB.out)⟩

/-! ### ranges_Has: function 18 -/
mutual
def ranges_Has.l0 : Nat → List (S25) → Int → Int → Option (Bool)
  | 0, _, _, _ => none
  | k + 1, x0, x1, x5 => if x5 < (x0.length : Int) then (if 0 ≤ x5 then (ranges_Has.j1 k x0 x1 x5 (decide (((rd_T25 x0 x5).f0) ≤ x1))) else (none)) else (ranges_Has.j1 k x0 x1 x5 false)
def ranges_Has.j1 : Nat → List (S25) → Int → Int → Bool → Option (Bool)
  | 0, _, _, _, _ => none
  | k + 1, x0, x1, x5, x21 => if x21 = true then (if 0 ≤ x5 then (if x5 < (x0.length : Int) then (if x1 < ((rd_T25 x0 x5).f1) then (some true) else (ranges_Has.l0 k x0 x1 (wrap64 (x5 + 1)))) else (none)) else (none)) else (some false)
end
def ranges_Has.f (k : Nat) (l0 : List (S25)) (a1 : Int) : Option (Bool) := (ranges_behind.f k l0 a1).bind fun t303 => (ranges_Has.l0 k l0 a1 t303)
theorem ranges_Has.mono_l : ∀ k, (∀ y0 y1 y2, LeO (ranges_Has.l0 k y0 y1 y2) (ranges_Has.l0 (k + 1) y0 y1 y2)) ∧ (∀ y0 y1 y2 y3, LeO (ranges_Has.j1 k y0 y1 y2 y3) (ranges_Has.j1 (k + 1) y0 y1 y2 y3))
  | 0 => ⟨fun _ _ _ r h => by simp [ranges_Has.l0] at h, fun _ _ _ _ r h => by simp [ranges_Has.j1] at h⟩
  | k + 1 => by
    obtain ⟨ih0, ih1⟩ := ranges_Has.mono_l k
    refine ⟨?_, ?_⟩
    · intro y0 y1 y2
      unfold ranges_Has.l0
      repeat' first
      | (with_reducible exact ih0 _ _ _)
      | (with_reducible exact ih1 _ _ _ _)
      | (with_reducible exact ranges_behind.mono _ _ _)
      | (with_reducible exact LeO.refl _)
      | (with_reducible exact LeO.none _)
      | (with_reducible refine LeO.ite ?_ ?_)
      | (with_reducible refine LeO.bind ?_ (fun _ => ?_))
      | exact ih0 _ _ _
      | exact ih1 _ _ _ _
      | exact ranges_behind.mono _ _ _
      | exact LeO.none _
      | refine LeO.ite ?_ ?_
      | refine LeO.bind ?_ (fun _ => ?_)
    · intro y0 y1 y2 y3
      unfold ranges_Has.j1
      repeat' first
      | (with_reducible exact ih0 _ _ _)
      | (with_reducible exact ih1 _ _ _ _)
      | (with_reducible exact ranges_behind.mono _ _ _)
      | (with_reducible exact LeO.refl _)
      | (with_reducible exact LeO.none _)
      | (with_reducible refine LeO.ite ?_ ?_)
      | (with_reducible refine LeO.bind ?_ (fun _ => ?_))
      | exact ih0 _ _ _
      | exact ih1 _ _ _ _
      | exact ranges_behind.mono _ _ _
      | exact LeO.none _
      | refine LeO.ite ?_ ?_
      | refine LeO.bind ?_ (fun _ => ?_)
theorem ranges_Has.mono : ∀ a0 a1 k, LeO (ranges_Has.f k a0 a1) (ranges_Has.f (k + 1) a0 a1) := by
  intro a0 a1 k
  obtain ⟨ih0, ih1⟩ := ranges_Has.mono_l k
  unfold ranges_Has.f
  repeat' first
      | (with_reducible exact ih0 _ _ _)
      | (with_reducible exact ih1 _ _ _ _)
      | (with_reducible exact ranges_behind.mono _ _ _)
      | (with_reducible exact LeO.refl _)
      | (with_reducible exact LeO.none _)
      | (with_reducible refine LeO.ite ?_ ?_)
      | (with_reducible refine LeO.bind ?_ (fun _ => ?_))
      | exact ih0 _ _ _
      | exact ih1 _ _ _ _
      | exact ranges_behind.mono _ _ _
      | exact LeO.none _
      | refine LeO.ite ?_ ?_
      | refine LeO.bind ?_ (fun _ => ?_)
set_option maxHeartbeats 8000000 in
set_option maxRecDepth 100000 in
theorem ranges_Has.calls (k : Nat) (A0 : Option Addr) (c0 : Nat) (l0 : List (S25)) (a1 : Int) (r : Bool) (w : World) (hr0 : Kd.C k25 w A0 l0.length l0) (hc0 : l0.length ≤ c0) (h : ranges_Has.f k l0 a1 = some r) :
    Calls Try.prog 18 #[.slice A0 l0.length c0, .int .u64 a1] w fun e w' => e = .returned (.bool r) ∧ Below w.heap.size w w' := by
  have HR0 := Aside0.mk hr0
  have HC0 := Aside0.mk hc0
  clear hr0 hc0
  have HB := Aside0.mk (Below.refl w.heap.size w)
  have H : ((ranges_behind.f k l0 a1).bind fun t303 => (ranges_Has.l0 k l0 a1 t303)) = some r := h
  clear h
  replace H := Option.bind_eq_some_iff.mp H
  obtain ⟨t303, A30, H⟩ := H
  replace H : (ranges_Has.l0 k l0 a1 t303) = some r := H
  have A3 := Aside0.mk A30
  clear A30
  have H' := Aside0.mk H
  clear H
  go_enter Try.func18, Try.ntmps18
  go_wp2_with (first | ((with_reducible refine gate_callee (f := 26) rfl ?_); refine goesL_ (some 8) rfl rfl Try.func26 (by kernel_rfl) rfl #[.slice A0 l0.length c0, .int .u64 a1] rfl (by (try simp only [List.map_toArray, List.map_cons, List.map_nil]); first | done | rfl | (simp only [List.length_drop, List.length_take]; rfl)) ?_; (with_reducible refine (ranges_behind.calls k _ _ l0 a1 t303 _ ?side1 ?side2 A3.out).mono ?_); (case side1 => repeat (first | exact HR0.out | (with_reducible refine Kd.C_alloc ?_ _) | (with_reducible refine Kd.C_drewN ?_ _) | (with_reducible refine Kd.C_drew ?_))); (case side2 => exact HC0.out); rintro e w4 ⟨rfl, hb⟩; refine ⟨_, rfl, ?_⟩; have n0_ := Aside0.mk (below_step (by repeat (first | (with_reducible first | exact HB.out | apply below_alloc | apply pw_below_drewN | apply below_drew1) | exact HB.out)) hb); clear HB; have HB := n0_; clear n0_; (try clear hb); (try clear hb2); (try clear hk); (try clear hi)))
  go_loopg [5] k (fun kq v5 w' => ∃ (x5_1 : Int), v5 = .int .i64 x5_1 ∧ Aside0 (ranges_Has.l0 kq l0 a1 x5_1 = some r) ∧ Aside0 (kq ≤ k) ∧ Aside0 (Below w.heap.size w w'))
  case atStart => exact ⟨(t303), (by first | rfl | (simp; done) | (simp [*]; done)), H', ⟨Nat.le_refl _⟩, ⟨by repeat (first | (with_reducible first | exact HB.out | apply below_alloc | apply pw_below_drewN | apply below_drew1) | exact HB.out)⟩⟩
  case round =>
    clear H'
    try clear c1
    try clear c2
    try clear p2
    obtain ⟨x5_1, rfl, HA, HK1, HB⟩ := hrel
    cases gk with
    | zero => exact absurd HA.out (by simp [ranges_Has.l0])
    | succ k1 =>
      have H := HA.out
      clear HA
      simp only [ranges_Has.l0] at H
      have HC5 := Aside0.mk H
      clear H
      go_upto_region 2 with (fail)
      go_cut [21] (fun v21 wc => ∃ (kq : Nat) (x21_4 : Bool), v21 = .bool x21_4 ∧ Aside0 (ranges_Has.j1 kq l0 a1 x5_1 x21_4 = some r) ∧ Aside0 (kq ≤ k1) ∧ Aside0 (Below w.heap.size w wc))
      case first =>
        have H := HC5.out
        clear HC5
        by_cases c6 : x5_1 < (l0.length : Int)
        · rw [if_pos c6] at H
          have c6b0 : decide (x5_1 < (l0.length : Int)) = true := decide_eq_true c6
          clear c6
          (first | rw [c6b0] | (simp only [i64_w, i32_w]; rw [c6b0]) | skip)
          by_cases c7 : 0 ≤ x5_1
          · rw [if_pos c7] at H
            have c7b0 : decide (0 ≤ x5_1) = true := decide_eq_true c7
            clear c7
            have H' := Aside0.mk H
            clear H
            have p304 : 0 ≤ (x5_1 : Int) := of_decide_eq_true (by first | (with_reducible assumption) | assumption)
            have q304 : x5_1 < (l0.length : Int) := of_decide_eq_true (by first | (with_reducible assumption) | assumption)
            obtain ⟨ad304, e304, hx304_0, hx304_1⟩ := at_T25 HR0.out x5_1 p304 q304
            cases e304
            replace hx304_0 := (HB.out.cell (World.block_lt_of_cell? w _ hx304_0)).trans hx304_0
            replace hx304_1 := (HB.out.cell (World.block_lt_of_cell? w _ hx304_1)).trans hx304_1
            replace p304 := eq_true p304
            replace q304 := eq_true q304
            go_wp2
            go_meet
            case rel => exact ⟨_, (decide (((rd_T25 l0 x5_1).f0) ≤ a1)), (by first | rfl | (simp; done) | (simp [*]; done)), H', ⟨by have := HK1.out; first | omega | exact Nat.le_refl _⟩, ⟨by repeat (first | (with_reducible first | exact HB.out | apply below_alloc | apply pw_below_drewN | apply below_drew1) | exact HB.out)⟩⟩
          · rw [if_neg c7] at H
            exact absurd H (by simp)
        · rw [if_neg c6] at H
          have c6b0 : decide (x5_1 < (l0.length : Int)) = false := decide_eq_false c6
          clear c6
          (first | rw [c6b0] | (simp only [i64_w, i32_w]; rw [c6b0]) | skip)
          have H' := Aside0.mk H
          clear H
          go_wp2
          go_meet
          case rel => exact ⟨_, (false), (by first | rfl | (simp; done) | (simp [*]; done)), H', ⟨by have := HK1.out; first | omega | exact Nat.le_refl _⟩, ⟨by repeat (first | (with_reducible first | exact HB.out | apply below_alloc | apply pw_below_drewN | apply below_drew1) | exact HB.out)⟩⟩
      case rest =>
        clear HC5
        try clear c1
        try clear c2
        try clear p2
        try clear p3
        try clear q3
        try clear hx3
        try clear c6
        try clear c6b0
        try clear c7
        try clear c7b0
        try clear hx304_0
        try clear hx304_1
        try clear p2
        try clear p304
        try clear q304
        obtain ⟨kq, x21_4, rfl, HA, HJ4, HB⟩ := hcut
        cases kq with
        | zero => exact absurd HA.out (by simp [ranges_Has.j1])
        | succ kj4 =>
          have H := HA.out
          clear HA
          simp only [ranges_Has.j1] at H
          by_cases c8 : x21_4 = true
          · subst c8
            have H1 : (if 0 ≤ x5_1 then (if x5_1 < (l0.length : Int) then (if a1 < ((rd_T25 l0 x5_1).f1) then (some true) else (ranges_Has.l0 kj4 l0 a1 (wrap64 (x5_1 + 1)))) else (none)) else (none)) = some r := by rw [if_pos rfl] at H; exact H
            clear H
            have H := H1
            clear H1
            by_cases c9 : 0 ≤ x5_1
            · rw [if_pos c9] at H
              have c9b0 : decide (0 ≤ x5_1) = true := decide_eq_true c9
              clear c9
              by_cases c10 : x5_1 < (l0.length : Int)
              · rw [if_pos c10] at H
                have c10b0 : decide (x5_1 < (l0.length : Int)) = true := decide_eq_true c10
                clear c10
                by_cases c11 : a1 < ((rd_T25 l0 x5_1).f1)
                · rw [if_pos c11] at H
                  have c11b0 : decide (a1 < ((rd_T25 l0 x5_1).f1)) = true := decide_eq_true c11
                  clear c11
                  obtain rfl := Option.some.inj H
                  have p305 : 0 ≤ (x5_1 : Int) := of_decide_eq_true (by first | (with_reducible assumption) | assumption)
                  have q305 : x5_1 < (l0.length : Int) := of_decide_eq_true (by first | (with_reducible assumption) | assumption)
                  obtain ⟨ad305, e305, hx305_0, hx305_1⟩ := at_T25 HR0.out x5_1 p305 q305
                  cases e305
                  replace hx305_0 := (HB.out.cell (World.block_lt_of_cell? w _ hx305_0)).trans hx305_0
                  replace hx305_1 := (HB.out.cell (World.block_lt_of_cell? w _ hx305_1)).trans hx305_1
                  replace p305 := eq_true p305
                  replace q305 := eq_true q305
                  go_wp2
                  go_ret
                  exact ⟨by first | rfl | (simp [errW_none, errW_some] <;> rfl) | (simp [*, errW_none, errW_some] <;> rfl), by repeat (first | (with_reducible first | exact HB.out | apply below_alloc | apply pw_below_drewN | apply below_drew1) | exact HB.out)⟩
                · rw [if_neg c11] at H
                  have c11b0 : decide (a1 < ((rd_T25 l0 x5_1).f1)) = false := decide_eq_false c11
                  clear c11
                  have H' := Aside0.mk H
                  clear H
                  have p305 : 0 ≤ (x5_1 : Int) := of_decide_eq_true (by first | (with_reducible assumption) | assumption)
                  have q305 : x5_1 < (l0.length : Int) := of_decide_eq_true (by first | (with_reducible assumption) | assumption)
                  obtain ⟨ad305, e305, hx305_0, hx305_1⟩ := at_T25 HR0.out x5_1 p305 q305
                  cases e305
                  replace hx305_0 := (HB.out.cell (World.block_lt_of_cell? w _ hx305_0)).trans hx305_0
                  replace hx305_1 := (HB.out.cell (World.block_lt_of_cell? w _ hx305_1)).trans hx305_1
                  replace p305 := eq_true p305
                  replace q305 := eq_true q305
                  go_wp2
                  go_roundg kj4
                  case measure => have := HK1.out; have := HJ4.out; omega
                  case rel => exact ⟨(wrap64 (x5_1 + 1)), (by first | rfl | (simp; done) | (simp [*]; done)), H', ⟨by have := HK1.out; have := HJ4.out; omega⟩, ⟨by repeat (first | (with_reducible first | exact HB.out | apply below_alloc | apply pw_below_drewN | apply below_drew1) | exact HB.out)⟩⟩
              · rw [if_neg c10] at H
                exact absurd H (by simp)
            · rw [if_neg c9] at H
              exact absurd H (by simp)
          · replace c8 := Bool.eq_false_iff.mpr c8
            subst c8
            have H1 : (some false) = some r := by rw [if_neg (show ¬ (false = true) by decide)] at H; exact H
            clear H
            have H := H1
            clear H1
            obtain rfl := Option.some.inj H
            go_wp2
            go_ret
            exact ⟨by first | rfl | (simp [errW_none, errW_some] <;> rfl) | (simp [*, errW_none, errW_some] <;> rfl), by repeat (first | (with_reducible first | exact HB.out | apply below_alloc | apply pw_below_drewN | apply below_drew1) | exact HB.out)⟩

/-! ### mailcoachlaw03_RangesGaps: function 6 -/
def mailcoachlaw03_RangesGaps.j0 : Nat → Int → List (S25) → Int → Bool → Option (Bool)
  | 0, _, _, _, _ => none
  | k + 1, x1, x5, x6, x40 => if x40 = true then (some false) else (if x6 = 18446744073709551615 then (some true) else ((ranges_Add.f k x5 x6 (IntKind.u64.wrap (x6 + 1))).bind fun t314 => ((ranges_Count.f k t314).bind fun t317 => ((ranges_Count.f k x5).bind fun t318 => (if t317 = (IntKind.u64.wrap (t318 + 1)) then ((ranges_Gap.f k t314 x1).bind fun t319 => (some (decide (t319 > x6)))) else (some false))))))
def mailcoachlaw03_RangesGaps.f (k : Nat) (l0 : List (S25)) (a1 : Int) : Option (Bool) := (mailcoachlaw03_Awake.f k).bind fun t306 => (if t306 = true then ((mailcoachlaw03_Right.f k l0).bind fun t307 => ((ranges_Gap.f k t307 a1).bind fun t310 => (if t310 < a1 then (mailcoachlaw03_RangesGaps.j0 k a1 t307 t310 true) else ((ranges_Has.f k t307 t310).bind fun t311 => (if t311 = true then (mailcoachlaw03_RangesGaps.j0 k a1 t307 t310 true) else (if t310 > a1 then ((ranges_Has.f k t307 a1).bind fun t312 => (if t312 = true then ((ranges_Has.f k t307 (IntKind.u64.wrap (t310 - 1))).bind fun t313 => (mailcoachlaw03_RangesGaps.j0 k a1 t307 t310 (!t313))) else (mailcoachlaw03_RangesGaps.j0 k a1 t307 t310 true))) else (mailcoachlaw03_RangesGaps.j0 k a1 t307 t310 false))))))) else (some false))
theorem mailcoachlaw03_RangesGaps.mono_l : ∀ k, (∀ y0 y1 y2 y3, LeO (mailcoachlaw03_RangesGaps.j0 k y0 y1 y2 y3) (mailcoachlaw03_RangesGaps.j0 (k + 1) y0 y1 y2 y3))
  | 0 => fun _ _ _ _ r h => by simp [mailcoachlaw03_RangesGaps.j0] at h
  | k + 1 => by
    have ih0 := mailcoachlaw03_RangesGaps.mono_l k
    · intro y0 y1 y2 y3
      unfold mailcoachlaw03_RangesGaps.j0
      repeat' first
      | (with_reducible exact ih0 _ _ _ _)
      | (with_reducible exact mailcoachlaw03_Awake.mono _)
      | (with_reducible exact mailcoachlaw03_Right.mono _ _)
      | (with_reducible exact ranges_Add.mono _ _ _ _)
      | (with_reducible exact ranges_Count.mono _ _)
      | (with_reducible exact ranges_Gap.mono _ _ _)
      | (with_reducible exact ranges_Has.mono _ _ _)
      | (with_reducible exact LeO.refl _)
      | (with_reducible exact LeO.none _)
      | (with_reducible refine LeO.ite ?_ ?_)
      | (with_reducible refine LeO.bind ?_ (fun _ => ?_))
      | exact ih0 _ _ _ _
      | exact mailcoachlaw03_Awake.mono _
      | exact mailcoachlaw03_Right.mono _ _
      | exact ranges_Add.mono _ _ _ _
      | exact ranges_Count.mono _ _
      | exact ranges_Gap.mono _ _ _
      | exact ranges_Has.mono _ _ _
      | exact LeO.none _
      | refine LeO.ite ?_ ?_
      | refine LeO.bind ?_ (fun _ => ?_)
theorem mailcoachlaw03_RangesGaps.mono : ∀ a0 a1 k, LeO (mailcoachlaw03_RangesGaps.f k a0 a1) (mailcoachlaw03_RangesGaps.f (k + 1) a0 a1) := by
  intro a0 a1 k
  have ih0 := mailcoachlaw03_RangesGaps.mono_l k
  unfold mailcoachlaw03_RangesGaps.f
  repeat' first
      | (with_reducible exact ih0 _ _ _ _)
      | (with_reducible exact mailcoachlaw03_Awake.mono _)
      | (with_reducible exact mailcoachlaw03_Right.mono _ _)
      | (with_reducible exact ranges_Add.mono _ _ _ _)
      | (with_reducible exact ranges_Count.mono _ _)
      | (with_reducible exact ranges_Gap.mono _ _ _)
      | (with_reducible exact ranges_Has.mono _ _ _)
      | (with_reducible exact LeO.refl _)
      | (with_reducible exact LeO.none _)
      | (with_reducible refine LeO.ite ?_ ?_)
      | (with_reducible refine LeO.bind ?_ (fun _ => ?_))
      | exact ih0 _ _ _ _
      | exact mailcoachlaw03_Awake.mono _
      | exact mailcoachlaw03_Right.mono _ _
      | exact ranges_Add.mono _ _ _ _
      | exact ranges_Count.mono _ _
      | exact ranges_Gap.mono _ _ _
      | exact ranges_Has.mono _ _ _
      | exact LeO.none _
      | refine LeO.ite ?_ ?_
      | refine LeO.bind ?_ (fun _ => ?_)
set_option maxHeartbeats 8000000 in
set_option maxRecDepth 100000 in
theorem mailcoachlaw03_RangesGaps.calls (k : Nat) (A0 : Option Addr) (c0 : Nat) (l0 : List (S25)) (a1 : Int) (r : Bool) (w : World) (hr0 : Kd.C k25 w A0 l0.length l0) (hc0 : l0.length ≤ c0) (ht_ : r = true) (h : mailcoachlaw03_RangesGaps.f k l0 a1 = some r) :
    Calls Try.prog 6 #[.slice A0 l0.length c0, .int .u64 a1] w fun e w' => e = .returned (.bool r) ∧ Below w.heap.size w w' := by
  have HT0_ := Aside0.mk ht_
  clear ht_
  have hu25 := Try.underlying25
  have HR0 := Aside0.mk hr0
  have HC0 := Aside0.mk hc0
  clear hr0 hc0
  have HB := Aside0.mk (Below.refl w.heap.size w)
  have H : ((mailcoachlaw03_Awake.f k).bind fun t306 => (if t306 = true then ((mailcoachlaw03_Right.f k l0).bind fun t307 => ((ranges_Gap.f k t307 a1).bind fun t310 => (if t310 < a1 then (mailcoachlaw03_RangesGaps.j0 k a1 t307 t310 true) else ((ranges_Has.f k t307 t310).bind fun t311 => (if t311 = true then (mailcoachlaw03_RangesGaps.j0 k a1 t307 t310 true) else (if t310 > a1 then ((ranges_Has.f k t307 a1).bind fun t312 => (if t312 = true then ((ranges_Has.f k t307 (IntKind.u64.wrap (t310 - 1))).bind fun t313 => (mailcoachlaw03_RangesGaps.j0 k a1 t307 t310 (!t313))) else (mailcoachlaw03_RangesGaps.j0 k a1 t307 t310 true))) else (mailcoachlaw03_RangesGaps.j0 k a1 t307 t310 false))))))) else (some false))) = some r := h
  clear h
  replace H := Option.bind_eq_some_iff.mp H
  obtain ⟨t306, A30, H⟩ := H
  replace H : (if t306 = true then ((mailcoachlaw03_Right.f k l0).bind fun t307 => ((ranges_Gap.f k t307 a1).bind fun t310 => (if t310 < a1 then (mailcoachlaw03_RangesGaps.j0 k a1 t307 t310 true) else ((ranges_Has.f k t307 t310).bind fun t311 => (if t311 = true then (mailcoachlaw03_RangesGaps.j0 k a1 t307 t310 true) else (if t310 > a1 then ((ranges_Has.f k t307 a1).bind fun t312 => (if t312 = true then ((ranges_Has.f k t307 (IntKind.u64.wrap (t310 - 1))).bind fun t313 => (mailcoachlaw03_RangesGaps.j0 k a1 t307 t310 (!t313))) else (mailcoachlaw03_RangesGaps.j0 k a1 t307 t310 true))) else (mailcoachlaw03_RangesGaps.j0 k a1 t307 t310 false))))))) else (some false)) = some r := H
  have A3 := Aside0.mk A30
  clear A30
  by_cases c4 : t306 = true
  · subst c4
    have H1 : ((mailcoachlaw03_Right.f k l0).bind fun t307 => ((ranges_Gap.f k t307 a1).bind fun t310 => (if t310 < a1 then (mailcoachlaw03_RangesGaps.j0 k a1 t307 t310 true) else ((ranges_Has.f k t307 t310).bind fun t311 => (if t311 = true then (mailcoachlaw03_RangesGaps.j0 k a1 t307 t310 true) else (if t310 > a1 then ((ranges_Has.f k t307 a1).bind fun t312 => (if t312 = true then ((ranges_Has.f k t307 (IntKind.u64.wrap (t310 - 1))).bind fun t313 => (mailcoachlaw03_RangesGaps.j0 k a1 t307 t310 (!t313))) else (mailcoachlaw03_RangesGaps.j0 k a1 t307 t310 true))) else (mailcoachlaw03_RangesGaps.j0 k a1 t307 t310 false))))))) = some r := by rw [if_pos rfl] at H; exact H
    clear H
    have H := H1
    clear H1
    replace H := Option.bind_eq_some_iff.mp H
    obtain ⟨t307, A50, H⟩ := H
    replace H : ((ranges_Gap.f k t307 a1).bind fun t310 => (if t310 < a1 then (mailcoachlaw03_RangesGaps.j0 k a1 t307 t310 true) else ((ranges_Has.f k t307 t310).bind fun t311 => (if t311 = true then (mailcoachlaw03_RangesGaps.j0 k a1 t307 t310 true) else (if t310 > a1 then ((ranges_Has.f k t307 a1).bind fun t312 => (if t312 = true then ((ranges_Has.f k t307 (IntKind.u64.wrap (t310 - 1))).bind fun t313 => (mailcoachlaw03_RangesGaps.j0 k a1 t307 t310 (!t313))) else (mailcoachlaw03_RangesGaps.j0 k a1 t307 t310 true))) else (mailcoachlaw03_RangesGaps.j0 k a1 t307 t310 false)))))) = some r := H
    have A5 := Aside0.mk A50
    clear A50
    replace H := Option.bind_eq_some_iff.mp H
    obtain ⟨t310, A60, H⟩ := H
    replace H : (if t310 < a1 then (mailcoachlaw03_RangesGaps.j0 k a1 t307 t310 true) else ((ranges_Has.f k t307 t310).bind fun t311 => (if t311 = true then (mailcoachlaw03_RangesGaps.j0 k a1 t307 t310 true) else (if t310 > a1 then ((ranges_Has.f k t307 a1).bind fun t312 => (if t312 = true then ((ranges_Has.f k t307 (IntKind.u64.wrap (t310 - 1))).bind fun t313 => (mailcoachlaw03_RangesGaps.j0 k a1 t307 t310 (!t313))) else (mailcoachlaw03_RangesGaps.j0 k a1 t307 t310 true))) else (mailcoachlaw03_RangesGaps.j0 k a1 t307 t310 false))))) = some r := H
    have A6 := Aside0.mk A60
    clear A60
    have HC7 := Aside0.mk H
    clear H
    go_enter Try.func6, Try.ntmps6
    go_upto_region 5 with (first | ((with_reducible refine gate_callee (f := 9) rfl ?_); refine goesL_ (some 8) rfl rfl Try.func9 (by kernel_rfl) rfl #[] rfl (by (try simp only [List.map_toArray, List.map_cons, List.map_nil]); first | done | rfl | (simp only [List.length_drop, List.length_take]; rfl)) ?_; (with_reducible refine (mailcoachlaw03_Awake.calls k  true _ A3.out).mono ?_); rintro e w8 ⟨rfl, hb⟩; refine ⟨_, rfl, ?_⟩; have n0_ := Aside0.mk (below_step (by repeat (first | (with_reducible first | exact HB.out | apply below_alloc | apply pw_below_drewN | apply below_drew1) | exact HB.out)) hb); clear HB; have HB := n0_; clear n0_; (try clear hb); (try clear hb2); (try clear hk); (try clear hi)) | ((with_reducible refine gate_callee (f := 10) rfl ?_); refine goesL_ (some 11) rfl rfl Try.func10 (by kernel_rfl) rfl #[.slice A0 l0.length c0] rfl (by (try simp only [List.map_toArray, List.map_cons, List.map_nil]); first | done | rfl | (simp only [List.length_drop, List.length_take]; rfl)) ?_; (with_reducible refine (mailcoachlaw03_Right.calls k _ _ l0 t307 _ ?side1 ?side2 A5.out).mono ?_); (case side1 => repeat (first | exact (Kd.C_below HR0.out HB.out) | (with_reducible refine Kd.C_alloc ?_ _) | (with_reducible refine Kd.C_drewN ?_ _) | (with_reducible refine Kd.C_drew ?_))); (case side2 => exact HC0.out); rintro e w9 ⟨v308, rfl, ho0, hb⟩; refine ⟨_, rfl, ?_⟩; have n0_ := Aside0.mk (Kd.R_lower ho0 (below_size (by repeat (first | (with_reducible first | exact HB.out | apply below_alloc | apply pw_below_drewN | apply below_drew1) | exact HB.out)))); have n1_ := Aside0.mk (below_step (by repeat (first | (with_reducible first | exact HB.out | apply below_alloc | apply pw_below_drewN | apply below_drew1) | exact HB.out)) hb); clear HB; have HO309 := n0_; have HB := n1_; clear n0_ n1_; (try clear hb); (try clear hb2); (try clear hk); (try clear hi); (try clear ho0); obtain ⟨Ao10, co10, eo10⟩ := Kd.R_slice HO309.out; subst eo10) | ((with_reducible refine gate_callee (f := 17) rfl ?_); refine goesL_ (some 14) rfl rfl Try.func17 (by kernel_rfl) rfl #[.slice Ao10 t307.length co10, .int .u64 a1] rfl (by (try simp only [List.map_toArray, List.map_cons, List.map_nil]); first | done | rfl | (simp only [List.length_drop, List.length_take]; rfl)) ?_; (with_reducible refine (ranges_Gap.calls k _ _ t307 a1 t310 _ ?side1 ?side2 A6.out).mono ?_); (case side1 => repeat (first | exact (Kd.R_reads' HO309.out).2.2 | (with_reducible refine Kd.C_alloc ?_ _) | (with_reducible refine Kd.C_drewN ?_ _) | (with_reducible refine Kd.C_drew ?_))); (case side2 => exact (Kd.R_reads' HO309.out).2.1); rintro e w11 ⟨rfl, hb⟩; refine ⟨_, rfl, ?_⟩; have n0_ := Aside0.mk (Kd.R_below (by (with_reducible repeat (first | apply Kd.R_alloc | apply Kd.R_drewN | apply Kd.R_drew)); exact HO309.out) hb); have n1_ := Aside0.mk (below_step (by repeat (first | (with_reducible first | exact HB.out | apply below_alloc | apply pw_below_drewN | apply below_drew1) | exact HB.out)) hb); clear HO309; clear HB; have HO309 := n0_; have HB := n1_; clear n0_ n1_; (try clear hb); (try clear hb2); (try clear hk); (try clear hi)))
    (try simp only [Act.put, List.setIfInBounds_toArray, List.set_cons_zero, List.set_cons_succ])
    go_cut [40] (fun v40 wc => ∃ (kq : Nat) (x40_6 : Bool), v40 = .bool x40_6 ∧ Aside0 (mailcoachlaw03_RangesGaps.j0 kq a1 t307 t310 x40_6 = some r) ∧ Aside0 (kq ≤ k) ∧ Aside0 (Kd.R k25 25 wc w.heap.size (fun _ => True) (.slice Ao10 t307.length co10) t307) ∧ Aside0 (Below w.heap.size w wc))
    case first =>
      have H := HC7.out
      clear HC7
      by_cases c12 : t310 < a1
      · rw [if_pos c12] at H
        have c12b0 : decide (t310 < a1) = true := decide_eq_true c12
        clear c12
        (first | rw [c12b0] | (simp only [i64_w, i32_w]; rw [c12b0]) | skip)
        have H' := Aside0.mk H
        clear H
        go_wp2
        go_meet
        case rel => exact ⟨_, (true), (by first | rfl | (simp; done) | (simp [*]; done)), H', ⟨by first | omega | exact Nat.le_refl _⟩, ⟨by (with_reducible repeat (first | apply Kd.R_alloc | apply Kd.R_drewN | apply Kd.R_drew)); exact HO309.out⟩, ⟨by repeat (first | (with_reducible first | exact HB.out | apply below_alloc | apply pw_below_drewN | apply below_drew1) | exact HB.out)⟩⟩
      · rw [if_neg c12] at H
        have c12b0 : decide (t310 < a1) = false := decide_eq_false c12
        clear c12
        (first | rw [c12b0] | (simp only [i64_w, i32_w]; rw [c12b0]) | skip)
        replace H := Option.bind_eq_some_iff.mp H
        obtain ⟨t311, A130, H⟩ := H
        replace H : (if t311 = true then (mailcoachlaw03_RangesGaps.j0 k a1 t307 t310 true) else (if t310 > a1 then ((ranges_Has.f k t307 a1).bind fun t312 => (if t312 = true then ((ranges_Has.f k t307 (IntKind.u64.wrap (t310 - 1))).bind fun t313 => (mailcoachlaw03_RangesGaps.j0 k a1 t307 t310 (!t313))) else (mailcoachlaw03_RangesGaps.j0 k a1 t307 t310 true))) else (mailcoachlaw03_RangesGaps.j0 k a1 t307 t310 false))) = some r := H
        have A13 := Aside0.mk A130
        clear A130
        by_cases c14 : t311 = true
        · subst c14
          have H1 : (mailcoachlaw03_RangesGaps.j0 k a1 t307 t310 true) = some r := by rw [if_pos rfl] at H; exact H
          clear H
          have H := H1
          clear H1
          have H' := Aside0.mk H
          clear H
          go_wp2_with (first | (go_at_call 18; (with_reducible refine (ranges_Has.calls k _ _ t307 t310 true _ ?side1 ?side2 A13.out).mono ?_); (case side1 => repeat (first | exact (Kd.R_reads' HO309.out).2.2 | (with_reducible refine Kd.C_alloc ?_ _) | (with_reducible refine Kd.C_drewN ?_ _) | (with_reducible refine Kd.C_drew ?_))); (case side2 => exact (Kd.R_reads' HO309.out).2.1); rintro e w15 ⟨rfl, hb⟩; have n0_ := Aside0.mk (Kd.R_below (by (with_reducible repeat (first | apply Kd.R_alloc | apply Kd.R_drewN | apply Kd.R_drew)); exact HO309.out) hb); have n1_ := Aside0.mk (below_step (by repeat (first | (with_reducible first | exact HB.out | apply below_alloc | apply pw_below_drewN | apply below_drew1) | exact HB.out)) hb); clear HO309; clear HB; have HO309 := n0_; have HB := n1_; clear n0_ n1_; (try clear hb); (try clear hb2); (try clear hk); (try clear hi)))
          go_meet
          case rel => exact ⟨_, (true), (by first | rfl | (simp; done) | (simp [*]; done)), H', ⟨by first | omega | exact Nat.le_refl _⟩, ⟨by (with_reducible repeat (first | apply Kd.R_alloc | apply Kd.R_drewN | apply Kd.R_drew)); exact HO309.out⟩, ⟨by repeat (first | (with_reducible first | exact HB.out | apply below_alloc | apply pw_below_drewN | apply below_drew1) | exact HB.out)⟩⟩
        · replace c14 := Bool.eq_false_iff.mpr c14
          subst c14
          have H1 : (if t310 > a1 then ((ranges_Has.f k t307 a1).bind fun t312 => (if t312 = true then ((ranges_Has.f k t307 (IntKind.u64.wrap (t310 - 1))).bind fun t313 => (mailcoachlaw03_RangesGaps.j0 k a1 t307 t310 (!t313))) else (mailcoachlaw03_RangesGaps.j0 k a1 t307 t310 true))) else (mailcoachlaw03_RangesGaps.j0 k a1 t307 t310 false)) = some r := by rw [if_neg (show ¬ (false = true) by decide)] at H; exact H
          clear H
          have H := H1
          clear H1
          by_cases c16 : t310 > a1
          · rw [if_pos c16] at H
            have c16b0 : decide (a1 < t310) = true := decide_eq_true c16
            clear c16
            replace H := Option.bind_eq_some_iff.mp H
            obtain ⟨t312, A170, H⟩ := H
            replace H : (if t312 = true then ((ranges_Has.f k t307 (IntKind.u64.wrap (t310 - 1))).bind fun t313 => (mailcoachlaw03_RangesGaps.j0 k a1 t307 t310 (!t313))) else (mailcoachlaw03_RangesGaps.j0 k a1 t307 t310 true)) = some r := H
            have A17 := Aside0.mk A170
            clear A170
            by_cases c18 : t312 = true
            · subst c18
              have H1 : ((ranges_Has.f k t307 (IntKind.u64.wrap (t310 - 1))).bind fun t313 => (mailcoachlaw03_RangesGaps.j0 k a1 t307 t310 (!t313))) = some r := by rw [if_pos rfl] at H; exact H
              clear H
              have H := H1
              clear H1
              replace H := Option.bind_eq_some_iff.mp H
              obtain ⟨t313, A190, H⟩ := H
              replace H : (mailcoachlaw03_RangesGaps.j0 k a1 t307 t310 (!t313)) = some r := H
              have A19 := Aside0.mk A190
              clear A190
              have H' := Aside0.mk H
              clear H
              go_wp2_with (first | (go_at_call 18; (with_reducible refine (ranges_Has.calls k _ _ t307 t310 false _ ?side1 ?side2 A13.out).mono ?_); (case side1 => repeat (first | exact (Kd.R_reads' HO309.out).2.2 | (with_reducible refine Kd.C_alloc ?_ _) | (with_reducible refine Kd.C_drewN ?_ _) | (with_reducible refine Kd.C_drew ?_))); (case side2 => exact (Kd.R_reads' HO309.out).2.1); rintro e w20 ⟨rfl, hb⟩; have n0_ := Aside0.mk (Kd.R_below (by (with_reducible repeat (first | apply Kd.R_alloc | apply Kd.R_drewN | apply Kd.R_drew)); exact HO309.out) hb); have n1_ := Aside0.mk (below_step (by repeat (first | (with_reducible first | exact HB.out | apply below_alloc | apply pw_below_drewN | apply below_drew1) | exact HB.out)) hb); clear HO309; clear HB; have HO309 := n0_; have HB := n1_; clear n0_ n1_; (try clear hb); (try clear hb2); (try clear hk); (try clear hi)) | (go_at_call 18; (with_reducible refine (ranges_Has.calls k _ _ t307 a1 true _ ?side1 ?side2 A17.out).mono ?_); (case side1 => repeat (first | exact (Kd.R_reads' HO309.out).2.2 | (with_reducible refine Kd.C_alloc ?_ _) | (with_reducible refine Kd.C_drewN ?_ _) | (with_reducible refine Kd.C_drew ?_))); (case side2 => exact (Kd.R_reads' HO309.out).2.1); rintro e w21 ⟨rfl, hb⟩; have n0_ := Aside0.mk (Kd.R_below (by (with_reducible repeat (first | apply Kd.R_alloc | apply Kd.R_drewN | apply Kd.R_drew)); exact HO309.out) hb); have n1_ := Aside0.mk (below_step (by repeat (first | (with_reducible first | exact HB.out | apply below_alloc | apply pw_below_drewN | apply below_drew1) | exact HB.out)) hb); clear HO309; clear HB; have HO309 := n0_; have HB := n1_; clear n0_ n1_; (try clear hb); (try clear hb2); (try clear hk); (try clear hi)) | (go_at_call 18; (with_reducible refine (ranges_Has.calls k _ _ t307 (IntKind.u64.wrap (t310 - 1)) t313 _ ?side1 ?side2 A19.out).mono ?_); (case side1 => repeat (first | exact (Kd.R_reads' HO309.out).2.2 | (with_reducible refine Kd.C_alloc ?_ _) | (with_reducible refine Kd.C_drewN ?_ _) | (with_reducible refine Kd.C_drew ?_))); (case side2 => exact (Kd.R_reads' HO309.out).2.1); rintro e w22 ⟨rfl, hb⟩; have n0_ := Aside0.mk (Kd.R_below (by (with_reducible repeat (first | apply Kd.R_alloc | apply Kd.R_drewN | apply Kd.R_drew)); exact HO309.out) hb); have n1_ := Aside0.mk (below_step (by repeat (first | (with_reducible first | exact HB.out | apply below_alloc | apply pw_below_drewN | apply below_drew1) | exact HB.out)) hb); clear HO309; clear HB; have HO309 := n0_; have HB := n1_; clear n0_ n1_; (try clear hb); (try clear hb2); (try clear hk); (try clear hi)))
              go_meet
              case rel => exact ⟨_, (!t313), (by first | rfl | (simp; done) | (simp [*]; done)), H', ⟨by first | omega | exact Nat.le_refl _⟩, ⟨by (with_reducible repeat (first | apply Kd.R_alloc | apply Kd.R_drewN | apply Kd.R_drew)); exact HO309.out⟩, ⟨by repeat (first | (with_reducible first | exact HB.out | apply below_alloc | apply pw_below_drewN | apply below_drew1) | exact HB.out)⟩⟩
            · replace c18 := Bool.eq_false_iff.mpr c18
              subst c18
              have H1 : (mailcoachlaw03_RangesGaps.j0 k a1 t307 t310 true) = some r := by rw [if_neg (show ¬ (false = true) by decide)] at H; exact H
              clear H
              have H := H1
              clear H1
              have H' := Aside0.mk H
              clear H
              go_wp2_with (first | (go_at_call 18; (with_reducible refine (ranges_Has.calls k _ _ t307 t310 false _ ?side1 ?side2 A13.out).mono ?_); (case side1 => repeat (first | exact (Kd.R_reads' HO309.out).2.2 | (with_reducible refine Kd.C_alloc ?_ _) | (with_reducible refine Kd.C_drewN ?_ _) | (with_reducible refine Kd.C_drew ?_))); (case side2 => exact (Kd.R_reads' HO309.out).2.1); rintro e w23 ⟨rfl, hb⟩; have n0_ := Aside0.mk (Kd.R_below (by (with_reducible repeat (first | apply Kd.R_alloc | apply Kd.R_drewN | apply Kd.R_drew)); exact HO309.out) hb); have n1_ := Aside0.mk (below_step (by repeat (first | (with_reducible first | exact HB.out | apply below_alloc | apply pw_below_drewN | apply below_drew1) | exact HB.out)) hb); clear HO309; clear HB; have HO309 := n0_; have HB := n1_; clear n0_ n1_; (try clear hb); (try clear hb2); (try clear hk); (try clear hi)) | (go_at_call 18; (with_reducible refine (ranges_Has.calls k _ _ t307 a1 false _ ?side1 ?side2 A17.out).mono ?_); (case side1 => repeat (first | exact (Kd.R_reads' HO309.out).2.2 | (with_reducible refine Kd.C_alloc ?_ _) | (with_reducible refine Kd.C_drewN ?_ _) | (with_reducible refine Kd.C_drew ?_))); (case side2 => exact (Kd.R_reads' HO309.out).2.1); rintro e w24 ⟨rfl, hb⟩; have n0_ := Aside0.mk (Kd.R_below (by (with_reducible repeat (first | apply Kd.R_alloc | apply Kd.R_drewN | apply Kd.R_drew)); exact HO309.out) hb); have n1_ := Aside0.mk (below_step (by repeat (first | (with_reducible first | exact HB.out | apply below_alloc | apply pw_below_drewN | apply below_drew1) | exact HB.out)) hb); clear HO309; clear HB; have HO309 := n0_; have HB := n1_; clear n0_ n1_; (try clear hb); (try clear hb2); (try clear hk); (try clear hi)))
              go_meet
              case rel => exact ⟨_, (true), (by first | rfl | (simp; done) | (simp [*]; done)), H', ⟨by first | omega | exact Nat.le_refl _⟩, ⟨by (with_reducible repeat (first | apply Kd.R_alloc | apply Kd.R_drewN | apply Kd.R_drew)); exact HO309.out⟩, ⟨by repeat (first | (with_reducible first | exact HB.out | apply below_alloc | apply pw_below_drewN | apply below_drew1) | exact HB.out)⟩⟩
          · rw [if_neg c16] at H
            have c16b0 : decide (a1 < t310) = false := decide_eq_false c16
            clear c16
            have H' := Aside0.mk H
            clear H
            go_wp2_with (first | (go_at_call 18; (with_reducible refine (ranges_Has.calls k _ _ t307 t310 false _ ?side1 ?side2 A13.out).mono ?_); (case side1 => repeat (first | exact (Kd.R_reads' HO309.out).2.2 | (with_reducible refine Kd.C_alloc ?_ _) | (with_reducible refine Kd.C_drewN ?_ _) | (with_reducible refine Kd.C_drew ?_))); (case side2 => exact (Kd.R_reads' HO309.out).2.1); rintro e w25 ⟨rfl, hb⟩; have n0_ := Aside0.mk (Kd.R_below (by (with_reducible repeat (first | apply Kd.R_alloc | apply Kd.R_drewN | apply Kd.R_drew)); exact HO309.out) hb); have n1_ := Aside0.mk (below_step (by repeat (first | (with_reducible first | exact HB.out | apply below_alloc | apply pw_below_drewN | apply below_drew1) | exact HB.out)) hb); clear HO309; clear HB; have HO309 := n0_; have HB := n1_; clear n0_ n1_; (try clear hb); (try clear hb2); (try clear hk); (try clear hi)))
            go_meet
            case rel => exact ⟨_, (false), (by first | rfl | (simp; done) | (simp [*]; done)), H', ⟨by first | omega | exact Nat.le_refl _⟩, ⟨by (with_reducible repeat (first | apply Kd.R_alloc | apply Kd.R_drewN | apply Kd.R_drew)); exact HO309.out⟩, ⟨by repeat (first | (with_reducible first | exact HB.out | apply below_alloc | apply pw_below_drewN | apply below_drew1) | exact HB.out)⟩⟩
    case rest =>
      clear HC7
      try clear c1
      try clear p2
      try clear c4
      try clear c6
      try clear c9
      try clear c10
      try clear c12
      try clear c12b0
      try clear c14
      try clear c16
      try clear c16b0
      try clear c17
      try clear c18
      obtain ⟨kq, x40_6, rfl, HA, HJ6, HO_5, HB⟩ := hcut
      cases kq with
      | zero => exact absurd HA.out (by simp [mailcoachlaw03_RangesGaps.j0])
      | succ kj6 =>
        have H := HA.out
        clear HA
        simp only [mailcoachlaw03_RangesGaps.j0] at H
        by_cases c26 : x40_6 = true
        · subst c26
          have H1 : (some false) = some r := by rw [if_pos rfl] at H; exact H
          clear H
          have H := H1
          clear H1
          exact absurd ((Option.some.inj H).trans HT0_.out) (by decide)
        · replace c26 := Bool.eq_false_iff.mpr c26
          subst c26
          have H1 : (if t310 = 18446744073709551615 then (some true) else ((ranges_Add.f kj6 t307 t310 (IntKind.u64.wrap (t310 + 1))).bind fun t314 => ((ranges_Count.f kj6 t314).bind fun t317 => ((ranges_Count.f kj6 t307).bind fun t318 => (if t317 = (IntKind.u64.wrap (t318 + 1)) then ((ranges_Gap.f kj6 t314 a1).bind fun t319 => (some (decide (t319 > t310)))) else (some false)))))) = some r := by rw [if_neg (show ¬ (false = true) by decide)] at H; exact H
          clear H
          have H := H1
          clear H1
          by_cases c27 : t310 = 18446744073709551615
          · rw [if_pos c27] at H
            have c27b0 : (t310 == 18446744073709551615) = true := beq_iff_eq.mpr c27
            have c27b1 : (t310 != 18446744073709551615) = false := bne_eq_false_iff_eq.mpr c27
            clear c27
            obtain rfl := Option.some.inj H
            go_wp2
            go_ret
            exact ⟨by first | rfl | (simp [errW_none, errW_some] <;> rfl) | (simp [*, errW_none, errW_some] <;> rfl), by repeat (first | (with_reducible first | exact HB.out | apply below_alloc | apply pw_below_drewN | apply below_drew1) | exact HB.out)⟩
          · rw [if_neg c27] at H
            have c27b0 : (t310 == 18446744073709551615) = false := beq_eq_false_iff_ne.mpr c27
            have c27b1 : (t310 != 18446744073709551615) = true := bne_iff_ne.mpr c27
            replace H := Option.bind_eq_some_iff.mp H
            obtain ⟨t314, A280, H⟩ := H
            replace H : ((ranges_Count.f kj6 t314).bind fun t317 => ((ranges_Count.f kj6 t307).bind fun t318 => (if t317 = (IntKind.u64.wrap (t318 + 1)) then ((ranges_Gap.f kj6 t314 a1).bind fun t319 => (some (decide (t319 > t310)))) else (some false)))) = some r := H
            have A28 := Aside0.mk A280
            clear A280
            replace H := Option.bind_eq_some_iff.mp H
            obtain ⟨t317, A290, H⟩ := H
            replace H : ((ranges_Count.f kj6 t307).bind fun t318 => (if t317 = (IntKind.u64.wrap (t318 + 1)) then ((ranges_Gap.f kj6 t314 a1).bind fun t319 => (some (decide (t319 > t310)))) else (some false))) = some r := H
            have A29 := Aside0.mk A290
            clear A290
            replace H := Option.bind_eq_some_iff.mp H
            obtain ⟨t318, A300, H⟩ := H
            replace H : (if t317 = (IntKind.u64.wrap (t318 + 1)) then ((ranges_Gap.f kj6 t314 a1).bind fun t319 => (some (decide (t319 > t310)))) else (some false)) = some r := H
            have A30 := Aside0.mk A300
            clear A300
            by_cases c31 : t317 = (IntKind.u64.wrap (t318 + 1))
            · rw [if_pos c31] at H
              have c31b0 : (t317 == (IntKind.u64.wrap (t318 + 1))) = true := beq_iff_eq.mpr c31
              have c31b1 : (t317 != (IntKind.u64.wrap (t318 + 1))) = false := bne_eq_false_iff_eq.mpr c31
              clear c31
              replace H := Option.bind_eq_some_iff.mp H
              obtain ⟨t319, A320, H⟩ := H
              replace H : (some (decide (t319 > t310))) = some r := H
              have A32 := Aside0.mk A320
              clear A320
              obtain rfl := Option.some.inj H
              go_wp2_with (first | ((with_reducible refine gate_callee (f := 11) rfl ?_); refine goesL_ (some 48) rfl rfl Try.func11 (by kernel_rfl) rfl #[.slice Ao10 t307.length co10, .agg #[.int .u64 t310, .int .u64 (IntKind.u64.wrap (t310 + 1))]] rfl (by (try simp only [List.map_toArray, List.map_cons, List.map_nil]); first | done | rfl | (simp only [List.length_drop, List.length_take]; rfl)) ?_; (with_reducible refine (ranges_Add.calls kj6 (fun k_ => some k_ = (.slice Ao10 t307.length co10 : Value).ownBlock) _ _ t307 t310 (IntKind.u64.wrap (t310 + 1)) t314 _ ?side1 A28.out).mono ?_); (case side1 => exact Kd.R_V (Kd.R_tight rfl (HO_5.out))); rintro e w33 ⟨v315, rfl, ho0, hb⟩; refine ⟨_, rfl, ?_⟩; have n0_ := Aside0.mk (Kd.R_elder' (by (with_reducible repeat (first | apply Kd.R_alloc | apply Kd.R_drewN | apply Kd.R_drew)); exact HO_5.out) (Kd.R_base ho0) hb); have n1_ := Aside0.mk (Kd.R_lower (Kd.R_new' (Kd.R_mono (ok' := fun k_ => True) ho0 (fun _ hk_ => trivial)) (Kd.R_lt (by (with_reducible repeat (first | apply Kd.R_alloc | apply Kd.R_drewN | apply Kd.R_drew)); exact HO_5.out))) (below_size (by repeat (first | (with_reducible first | exact HB.out | apply below_alloc | apply pw_below_drewN | apply below_drew1) | exact HB.out)))); have n2_ := Aside0.mk (below_step (by repeat (first | (with_reducible first | exact HB.out | apply below_alloc | apply pw_below_drewN | apply below_drew1) | exact HB.out)) hb); clear HO_5; clear HB; have HO_5 := n0_; have HO316 := n1_; have HB := n2_; clear n0_ n1_ n2_; (try clear hb); (try clear hb2); (try clear hk); (try clear hi); (try clear ho0); obtain ⟨Ao34, co34, eo34⟩ := Kd.R_slice HO316.out; subst eo34) | ((with_reducible refine gate_callee (f := 16) rfl ?_); refine goesL_ (some 50) rfl rfl Try.func16 (by kernel_rfl) rfl #[.slice Ao34 t314.length co34] rfl (by (try simp only [List.map_toArray, List.map_cons, List.map_nil]); first | done | rfl | (simp only [List.length_drop, List.length_take]; rfl)) ?_; (with_reducible refine (ranges_Count.calls kj6 _ _ t314 t317 _ ?side1 ?side2 A29.out).mono ?_); (case side1 => repeat (first | exact (Kd.R_reads' HO316.out).2.2 | (with_reducible refine Kd.C_alloc ?_ _) | (with_reducible refine Kd.C_drewN ?_ _) | (with_reducible refine Kd.C_drew ?_))); (case side2 => exact (Kd.R_reads' HO316.out).2.1); rintro e w35 ⟨rfl, hb⟩; refine ⟨_, rfl, ?_⟩; have n0_ := Aside0.mk (Kd.R_below (by (with_reducible repeat (first | apply Kd.R_alloc | apply Kd.R_drewN | apply Kd.R_drew)); exact HO_5.out) hb); have n1_ := Aside0.mk (Kd.R_below (by (with_reducible repeat (first | apply Kd.R_alloc | apply Kd.R_drewN | apply Kd.R_drew)); exact HO316.out) hb); have n2_ := Aside0.mk (below_step (by repeat (first | (with_reducible first | exact HB.out | apply below_alloc | apply pw_below_drewN | apply below_drew1) | exact HB.out)) hb); clear HO_5; clear HO316; clear HB; have HO_5 := n0_; have HO316 := n1_; have HB := n2_; clear n0_ n1_ n2_; (try clear hb); (try clear hb2); (try clear hk); (try clear hi)) | ((with_reducible refine gate_callee (f := 16) rfl ?_); refine goesL_ (some 52) rfl rfl Try.func16 (by kernel_rfl) rfl #[.slice Ao10 t307.length co10] rfl (by (try simp only [List.map_toArray, List.map_cons, List.map_nil]); first | done | rfl | (simp only [List.length_drop, List.length_take]; rfl)) ?_; (with_reducible refine (ranges_Count.calls kj6 _ _ t307 t318 _ ?side1 ?side2 A30.out).mono ?_); (case side1 => repeat (first | exact (Kd.R_reads' HO_5.out).2.2 | (with_reducible refine Kd.C_alloc ?_ _) | (with_reducible refine Kd.C_drewN ?_ _) | (with_reducible refine Kd.C_drew ?_))); (case side2 => exact (Kd.R_reads' HO_5.out).2.1); rintro e w36 ⟨rfl, hb⟩; refine ⟨_, rfl, ?_⟩; have n0_ := Aside0.mk (Kd.R_below (by (with_reducible repeat (first | apply Kd.R_alloc | apply Kd.R_drewN | apply Kd.R_drew)); exact HO_5.out) hb); have n1_ := Aside0.mk (Kd.R_below (by (with_reducible repeat (first | apply Kd.R_alloc | apply Kd.R_drewN | apply Kd.R_drew)); exact HO316.out) hb); have n2_ := Aside0.mk (below_step (by repeat (first | (with_reducible first | exact HB.out | apply below_alloc | apply pw_below_drewN | apply below_drew1) | exact HB.out)) hb); clear HO_5; clear HO316; clear HB; have HO_5 := n0_; have HO316 := n1_; have HB := n2_; clear n0_ n1_ n2_; (try clear hb); (try clear hb2); (try clear hk); (try clear hi)) | (go_at_call 17; (with_reducible refine (ranges_Gap.calls kj6 _ _ t314 a1 t319 _ ?side1 ?side2 A32.out).mono ?_); (case side1 => repeat (first | exact (Kd.R_reads' HO316.out).2.2 | (with_reducible refine Kd.C_alloc ?_ _) | (with_reducible refine Kd.C_drewN ?_ _) | (with_reducible refine Kd.C_drew ?_))); (case side2 => exact (Kd.R_reads' HO316.out).2.1); rintro e w37 ⟨rfl, hb⟩; have n0_ := Aside0.mk (Kd.R_below (by (with_reducible repeat (first | apply Kd.R_alloc | apply Kd.R_drewN | apply Kd.R_drew)); exact HO_5.out) hb); have n1_ := Aside0.mk (Kd.R_below (by (with_reducible repeat (first | apply Kd.R_alloc | apply Kd.R_drewN | apply Kd.R_drew)); exact HO316.out) hb); have n2_ := Aside0.mk (below_step (by repeat (first | (with_reducible first | exact HB.out | apply below_alloc | apply pw_below_drewN | apply below_drew1) | exact HB.out)) hb); clear HO_5; clear HO316; clear HB; have HO_5 := n0_; have HO316 := n1_; have HB := n2_; clear n0_ n1_ n2_; (try clear hb); (try clear hb2); (try clear hk); (try clear hi)))
              go_ret
              exact ⟨by first | rfl | (simp [errW_none, errW_some] <;> rfl) | (simp [*, errW_none, errW_some] <;> rfl), by repeat (first | (with_reducible first | exact HB.out | apply below_alloc | apply pw_below_drewN | apply below_drew1) | exact HB.out)⟩
            · rw [if_neg c31] at H
              have c31b0 : (t317 == (IntKind.u64.wrap (t318 + 1))) = false := beq_eq_false_iff_ne.mpr c31
              have c31b1 : (t317 != (IntKind.u64.wrap (t318 + 1))) = true := bne_iff_ne.mpr c31
              exact absurd ((Option.some.inj H).trans HT0_.out) (by decide)
  · replace c4 := Bool.eq_false_iff.mpr c4
    subst c4
    have H1 : (some false) = some r := by rw [if_neg (show ¬ (false = true) by decide)] at H; exact H
    clear H
    have H := H1
    clear H1
    exact absurd ((Option.some.inj H).trans HT0_.out) (by decide)

end Go.Proofs.Ytehhpcijhclkfaa.PRangesGaps
