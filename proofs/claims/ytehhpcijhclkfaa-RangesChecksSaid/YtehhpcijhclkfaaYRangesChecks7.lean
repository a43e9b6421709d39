-- Written by a program of this session's; its pattern is the kit's print.
import Derived.Test.YtehhpcijhclkfaaYRangesChecks0
import Derived.Test.YtehhpcijhclkfaaYRangesChecks4
import Derived.Test.YtehhpcijhclkfaaYRangesChecks6
namespace Go.Proofs.Ytehhpcijhclkfaa.PRangesChecks
open Go.RowKit Go.Proofs.YtehhpcijhclkfaaW.PrintWords Go.Proofs.YtehhpcijhclkfaaW.PrintLast Go.Proofs.YtehhpcijhclkfaaW.PrintMore
attribute [local go_sem] max2_int min2_int max_two min_two max_three min_three max_four min_four   -- for this text's walks alone
set_option linter.unusedVariables false
set_option linter.unusedSimpArgs false

/-! ### mailcoachref03_Set: function 14 -/
mutual
def mailcoachref03_Set.l0 : Nat → List (S25) → List (S25) → List Int → List (S25) → Int → Option ((List (S25)))
  | 0, _, _, _, _, _ => none
  | k + 1, x0, x1, x5, x6, x7 => if (wrap64 (x7 + 1)) < (x5.length : Int) then (if 0 ≤ x7 then (if x7 < (x5.length : Int) then ((mailcoachref03_In.f k x0 (rd x5 x7)).bind fun t277 => (if t277 = true then ((mailcoachref03_In.f k x1 (rd x5 x7)).bind fun t279 => (mailcoachref03_Set.j1 k x0 x1 x5 x6 x7 t279)) else (mailcoachref03_Set.j1 k x0 x1 x5 x6 x7 true))) else (none)) else (none)) else (some x6)
def mailcoachref03_Set.j1 : Nat → List (S25) → List (S25) → List Int → List (S25) → Int → Bool → Option ((List (S25)))
  | 0, _, _, _, _, _, _ => none
  | k + 1, x0, x1, x5, x6, x7, x36 => if x36 = true then (mailcoachref03_Set.l0 k x0 x1 x5 x6 (wrap64 (x7 + 1))) else (if (x6.length : Int) > 0 then (if 0 ≤ (wrap64 ((x6.length : Int) - 1)) then (if (wrap64 ((x6.length : Int) - 1)) < (x6.length : Int) then (if 0 ≤ x7 then (if x7 < (x5.length : Int) then (if ((rd_T25 x6 (wrap64 ((x6.length : Int) - 1))).f1) = (rd x5 x7) then (if 0 ≤ (wrap64 (x7 + 1)) then (if (wrap64 (x7 + 1)) < (x5.length : Int) then (mailcoachref03_Set.l0 k x0 x1 x5 (x6.set ((wrap64 ((x6.length : Int) - 1)) : Int).toNat (⟨(rd_T25 x6 (wrap64 ((x6.length : Int) - 1))).f0, rd x5 (wrap64 (x7 + 1))⟩ : S25)) (wrap64 (x7 + 1))) else (none)) else (none)) else (if 0 ≤ (wrap64 (x7 + 1)) then (if (wrap64 (x7 + 1)) < (x5.length : Int) then (if x6.length < 8796093022208 then (mailcoachref03_Set.l0 k x0 x1 x5 (x6 ++ [(⟨rd x5 x7, rd x5 (wrap64 (x7 + 1))⟩ : S25)]) (wrap64 (x7 + 1))) else (none)) else (none)) else (none))) else (none)) else (none)) else (none)) else (none)) else (if 0 ≤ x7 then (if x7 < (x5.length : Int) then (if 0 ≤ (wrap64 (x7 + 1)) then (if (wrap64 (x7 + 1)) < (x5.length : Int) then (if x6.length < 8796093022208 then (mailcoachref03_Set.l0 k x0 x1 x5 (x6 ++ [(⟨rd x5 x7, rd x5 (wrap64 (x7 + 1))⟩ : S25)]) (wrap64 (x7 + 1))) else (none)) else (none)) else (none)) else (none)) else (none)))
end
def mailcoachref03_Set.f (k : Nat) (l0 : List (S25)) (l1 : List (S25)) : Option ((List (S25))) := (some (([] : List (S25)) : List (S25))).bind fun y264 => (if y264.length + l0.length < 8796093022208 then ((some (y264 ++ l0 : List (S25))).bind fun y267 => (if y267.length + l1.length < 8796093022208 then ((mailcoachref03_ends.f k (y267 ++ l1)).bind fun t273 => (mailcoachref03_Set.l0 k l0 l1 t273 ([] : List (S25)) 0)) else (none))) else (none))
theorem mailcoachref03_Set.mono_l : ∀ k, (∀ y0 y1 y2 y3 y4, LeO (mailcoachref03_Set.l0 k y0 y1 y2 y3 y4) (mailcoachref03_Set.l0 (k + 1) y0 y1 y2 y3 y4)) ∧ (∀ y0 y1 y2 y3 y4 y5, LeO (mailcoachref03_Set.j1 k y0 y1 y2 y3 y4 y5) (mailcoachref03_Set.j1 (k + 1) y0 y1 y2 y3 y4 y5))
  | 0 => ⟨fun _ _ _ _ _ r h => by simp [mailcoachref03_Set.l0] at h, fun _ _ _ _ _ _ r h => by simp [mailcoachref03_Set.j1] at h⟩
  | k + 1 => by
    obtain ⟨ih0, ih1⟩ := mailcoachref03_Set.mono_l k
    refine ⟨?_, ?_⟩
    · intro y0 y1 y2 y3 y4
      unfold mailcoachref03_Set.l0
      repeat' first
      | (with_reducible exact ih0 _ _ _ _ _)
      | (with_reducible exact ih1 _ _ _ _ _ _)
      | (with_reducible exact mailcoachref03_In.mono _ _ _)
      | (with_reducible exact mailcoachref03_ends.mono _ _)
      | (with_reducible exact LeO.refl _)
      | (with_reducible exact LeO.none _)
      | (with_reducible refine LeO.ite ?_ ?_)
      | (with_reducible refine LeO.bind ?_ (fun _ => ?_))
      | exact ih0 _ _ _ _ _
      | exact ih1 _ _ _ _ _ _
      | exact mailcoachref03_In.mono _ _ _
      | exact mailcoachref03_ends.mono _ _
      | exact LeO.none _
      | refine LeO.ite ?_ ?_
      | refine LeO.bind ?_ (fun _ => ?_)
    · intro y0 y1 y2 y3 y4 y5
      unfold mailcoachref03_Set.j1
      repeat' first
      | (with_reducible exact ih0 _ _ _ _ _)
      | (with_reducible exact ih1 _ _ _ _ _ _)
      | (with_reducible exact mailcoachref03_In.mono _ _ _)
      | (with_reducible exact mailcoachref03_ends.mono _ _)
      | (with_reducible exact LeO.refl _)
      | (with_reducible exact LeO.none _)
      | (with_reducible refine LeO.ite ?_ ?_)
      | (with_reducible refine LeO.bind ?_ (fun _ => ?_))
      | exact ih0 _ _ _ _ _
      | exact ih1 _ _ _ _ _ _
      | exact mailcoachref03_In.mono _ _ _
      | exact mailcoachref03_ends.mono _ _
      | exact LeO.none _
      | refine LeO.ite ?_ ?_
      | refine LeO.bind ?_ (fun _ => ?_)
theorem mailcoachref03_Set.mono : ∀ a0 a1 k, LeO (mailcoachref03_Set.f k a0 a1) (mailcoachref03_Set.f (k + 1) a0 a1) := by
  intro a0 a1 k
  obtain ⟨ih0, ih1⟩ := mailcoachref03_Set.mono_l k
  unfold mailcoachref03_Set.f
  repeat' first
      | (with_reducible exact ih0 _ _ _ _ _)
      | (with_reducible exact ih1 _ _ _ _ _ _)
      | (with_reducible exact mailcoachref03_In.mono _ _ _)
      | (with_reducible exact mailcoachref03_ends.mono _ _)
      | (with_reducible exact LeO.refl _)
      | (with_reducible exact LeO.none _)
      | (with_reducible refine LeO.ite ?_ ?_)
      | (with_reducible refine LeO.bind ?_ (fun _ => ?_))
      | exact ih0 _ _ _ _ _
      | exact ih1 _ _ _ _ _ _
      | exact mailcoachref03_In.mono _ _ _
      | exact mailcoachref03_ends.mono _ _
      | exact LeO.none _
      | refine LeO.ite ?_ ?_
      | refine LeO.bind ?_ (fun _ => ?_)
def mailcoachref03_Set.T8 : Bool × List (List Nat × List Nat) := (true, [([], []), ([0], [0]), ([1], [1]), ([2], [2]), ([2], [2]), ([4, 2], [2, 4]), ([3, 5, 2], [2, 3, 5]), ([6, 2], [2, 6]), ([7, 2], [2, 7]), ([2], [2]), ([2], [2]), ([9, 10, 2], [2, 9, 10]), ([11, 2], [2, 11]), ([8, 12, 2], [2, 8, 12]), ([2, 13], [2, 13])])
def mailcoachref03_Set.B8 : List Nat := [0, 1, 3, 7, 7, 23, 63, 127, 255, 7, 7, 1543, 3591, 8191, 16383]
theorem mailcoachref03_Set.tab8 : rtab .any (opsOf Try.f14 8) = mailcoachref03_Set.T8 := by kernel_rfl
theorem mailcoachref03_Set.bits8 : waitsOk mailcoachref03_Set.T8.2 mailcoachref03_Set.B8 = true := by kernel_rfl
def mailcoachref03_Set.T10 : Bool × List (List Nat × List Nat) := (true, [([], []), ([], []), ([], []), ([1, 2], [1, 2]), ([3], [3]), ([], []), ([], []), ([6], [6]), ([5, 7], [5, 7]), ([8], [8]), ([4, 9], [4, 9]), ([10], [10]), ([0, 11], [0, 11]), ([12, 12, 0, 1, 2, 3, 4, 5, 6, 7, 8, 9, 10, 11, 12], [0, 12])])
def mailcoachref03_Set.B10 : List Nat := [0, 0, 0, 6, 14, 0, 0, 64, 224, 480, 1022, 2046, 4095, 8191]
theorem mailcoachref03_Set.tab10 : rtab .any (opsOf Try.f14 10) = mailcoachref03_Set.T10 := by kernel_rfl
theorem mailcoachref03_Set.bits10 : waitsOk mailcoachref03_Set.T10.2 mailcoachref03_Set.B10 = true := by kernel_rfl
set_option maxHeartbeats 8000000 in
set_option maxRecDepth 100000 in
theorem mailcoachref03_Set.calls (k : Nat) (A0 : Option Addr) (c0 : Nat) (l0 : List (S25)) (A1 : Option Addr) (c1 : Nat) (l1 : List (S25)) (r : List (S25)) (w : World) (hr0 : Kd.C k25 w A0 l0.length l0) (hc0 : l0.length ≤ c0) (hr1 : Kd.C k25 w A1 l1.length l1) (hc1 : l1.length ≤ c1) (h : mailcoachref03_Set.f k l0 l1 = some r) :
    Calls Try.prog 14 #[.slice A0 l0.length c0, .slice A1 l1.length c1] w fun e w' => ∃ v0_ : Value, e = .returned (v0_) ∧ Kd.R k25 25 w' w.heap.size (fun _ => True) v0_ r ∧ Below w.heap.size w w' := by
  have hu25 := Try.underlying25
  have HR0 := Aside0.mk hr0
  have HC0 := Aside0.mk hc0
  clear hr0 hc0
  have HR1 := Aside0.mk hr1
  have HC1 := Aside0.mk hc1
  clear hr1 hc1
  have HB := Aside0.mk (Below.refl w.heap.size w)
  have H : ((some (([] : List (S25)) : List (S25))).bind fun y264 => (if y264.length + l0.length < 8796093022208 then ((some (y264 ++ l0 : List (S25))).bind fun y267 => (if y267.length + l1.length < 8796093022208 then ((mailcoachref03_ends.f k (y267 ++ l1)).bind fun t273 => (mailcoachref03_Set.l0 k l0 l1 t273 ([] : List (S25)) 0)) else (none))) else (none))) = some r := h
  clear h
  obtain ⟨y264, hy264⟩ : ∃ y_ : List (S25), y_ = (([] : List (S25))) := ⟨_, rfl⟩
  replace H : (if y264.length + l0.length < 8796093022208 then ((some (y264 ++ l0 : List (S25))).bind fun y267 => (if y267.length + l1.length < 8796093022208 then ((mailcoachref03_ends.f k (y267 ++ l1)).bind fun t273 => (mailcoachref03_Set.l0 k l0 l1 t273 ([] : List (S25)) 0)) else (none))) else (none)) = some r := by first | (rw [hy264]; with_reducible exact H) | (have H2_ := (Option.bind_some _ _).symm.trans H; rw [hy264]; with_reducible exact H2_) | (have H2_ := (Option.bind_some _ _).symm.trans H; with_reducible exact H2_) | with_reducible exact H | (rw [hy264]; exact H) | exact H
  have Ny264 := Aside0.mk hy264
  clear hy264
  by_cases c3 : y264.length + l0.length < 8796093022208
  · rw [if_pos c3] at H
    have LMc3 := Aside0.mk c3
    clear c3
    obtain ⟨y267, hy267⟩ : ∃ y_ : List (S25), y_ = (y264 ++ l0) := ⟨_, rfl⟩
    replace H : (if y267.length + l1.length < 8796093022208 then ((mailcoachref03_ends.f k (y267 ++ l1)).bind fun t273 => (mailcoachref03_Set.l0 k l0 l1 t273 ([] : List (S25)) 0)) else (none)) = some r := by first | (rw [hy267]; with_reducible exact H) | (have H2_ := (Option.bind_some _ _).symm.trans H; rw [hy267]; with_reducible exact H2_) | (have H2_ := (Option.bind_some _ _).symm.trans H; with_reducible exact H2_) | with_reducible exact H | (rw [hy267]; exact H) | exact H
    have Ny267 := Aside0.mk hy267
    clear hy267
    by_cases c4 : y267.length + l1.length < 8796093022208
    · rw [if_pos c4] at H
      have LMc4 := Aside0.mk c4
      clear c4
      obtain ⟨y270, hy270⟩ : ∃ y_ : List (S25), y_ = (y267 ++ l1) := ⟨_, rfl⟩
      replace H : ((mailcoachref03_ends.f k y270).bind fun t273 => (mailcoachref03_Set.l0 k l0 l1 t273 ([] : List (S25)) 0)) = some r := by first | (rw [hy270]; with_reducible exact H) | (have H2_ := (Option.bind_some _ _).symm.trans H; rw [hy270]; with_reducible exact H2_) | (have H2_ := (Option.bind_some _ _).symm.trans H; with_reducible exact H2_) | with_reducible exact H | (rw [hy270]; exact H) | exact H
      have Ny270 := Aside0.mk hy270
      clear hy270
      replace H := Option.bind_eq_some_iff.mp H
      obtain ⟨t273, A50, H⟩ := H
      replace H : (mailcoachref03_Set.l0 k l0 l1 t273 ([] : List (S25)) 0) = some r := H
      have A5 := Aside0.mk A50
      clear A50
      have H' := Aside0.mk H
      clear H
      go_enter Try.func14, Try.ntmps14
      go_wp2_with (first | ((with_reducible refine gate_dst (N := 9) rfl ?_); refine Kd.R_lit k25 _ 25 ?hg (N := 9) ?hd (xs := ([] : List (S25))) (inner := []) (ok := fun _ => True) (okp := fun _ => True) ?hr ?hp (fun _ hk => hk) trivial (Below.refl _ _) (Nat.le_refl _) (by simp) ?_; (case hd => rfl); (case hg => rfl); (case hr => first | (go_simp; done) | (go_simp; rfl)); (case hp => exact (Reps.none _ _)); intro v265 w6 ho7 hb hg_ hnew_; clear hg_ hnew_; (first | rw [← Ny264.out] at ho7 | (simp only [Int.reduceToNat] at ho7; rw [← Ny264.out] at ho7)); have n0_ := Aside0.mk (Kd.R_lower ho7 (below_size (by repeat (first | (with_reducible first | exact HB.out | apply below_alloc | apply pw_below_drewN | apply below_drew1) | exact HB.out)))); have n1_ := Aside0.mk (below_step (by repeat (first | (with_reducible first | exact HB.out | apply below_alloc | apply pw_below_drewN | apply below_drew1) | exact HB.out)) hb); clear HB; have HO266 := n0_; have HB := n1_; clear n0_ n1_; clear hb ho7) | ((with_reducible refine gate_builtin (b := .append) (xs := #[.tmp 9, .tmp 10]) rfl ?_); at_builtin; refine Kd.R_append_rows k25 (w0 := w) w.heap.size rfl (.tmp 9) (.tmp 10) 22 25 (.agg #[(.int .u64 0), (.int .u64 0)]) 16 rfl Try.underlying22 info25 rfl (by decide) (by omega) v265 y264 l0 _ _ _ (fun _ => True) (fun _ => False) rfl rfl ?aO ?aR (fun _ _ h => h) (fun _ h => h.elim) ?aF ?aB ?aS ?aL ?_; (case aR => repeat (first | exact (Kd.C_below HR0.out HB.out) | (with_reducible refine Kd.C_alloc ?_ _) | (with_reducible refine Kd.C_drewN ?_ _) | (with_reducible refine Kd.C_drew ?_))); (case aB => exact (by repeat (first | (with_reducible first | exact HB.out | apply below_alloc | apply pw_below_drewN | apply below_drew1) | exact HB.out))); (case aF => exact (fun _ _ => trivial)); (case aO => exact (by (with_reducible repeat (first | apply Kd.R_alloc | apply Kd.R_drewN | apply Kd.R_drew)); exact HO266.out)); (case aS => exact (below_size (by repeat (first | (with_reducible first | exact HB.out | apply below_alloc | apply pw_below_drewN | apply below_drew1) | exact HB.out)))); (case aL => have := LMc3.out; omega); intro v268 w8 ho hb hg hat; rw [← Ny267.out] at ho; have n0_ := Aside0.mk (hb); have n1_ := Aside0.mk (ho); clear HB; clear HO266; have HB := n0_; have HO269 := n1_; clear n0_ n1_; clear ho hb hg hat) | ((with_reducible refine gate_builtin (b := .append) (xs := #[.tmp 11, .tmp 12]) rfl ?_); at_builtin; refine Kd.R_append_rows k25 (w0 := w) w.heap.size rfl (.tmp 11) (.tmp 12) 22 25 (.agg #[(.int .u64 0), (.int .u64 0)]) 16 rfl Try.underlying22 info25 rfl (by decide) (by omega) v268 y267 l1 _ _ _ (fun _ => True) (fun _ => False) rfl rfl ?aO ?aR (fun _ _ h => h) (fun _ h => h.elim) ?aF ?aB ?aS ?aL ?_; (case aR => repeat (first | exact (Kd.C_below HR1.out HB.out) | (with_reducible refine Kd.C_alloc ?_ _) | (with_reducible refine Kd.C_drewN ?_ _) | (with_reducible refine Kd.C_drew ?_))); (case aB => exact (by repeat (first | (with_reducible first | exact HB.out | apply below_alloc | apply pw_below_drewN | apply below_drew1) | exact HB.out))); (case aF => exact (fun _ _ => trivial)); (case aO => exact (by (with_reducible repeat (first | apply Kd.R_alloc | apply Kd.R_drewN | apply Kd.R_drew)); exact HO269.out)); (case aS => exact (below_size (by repeat (first | (with_reducible first | exact HB.out | apply below_alloc | apply pw_below_drewN | apply below_drew1) | exact HB.out)))); (case aL => have := LMc4.out; omega); intro v271 w9 ho hb hg hat; rw [← Ny270.out] at ho; have n0_ := Aside0.mk (hb); have n1_ := Aside0.mk (ho); clear HB; clear HO269; have HB := n0_; have HO272 := n1_; clear n0_ n1_; clear ho hb hg hat; obtain ⟨Ao10, co10, eo10⟩ := Kd.R_slice HO272.out; subst eo10) | ((with_reducible refine gate_callee (f := 28) rfl ?_); refine goesL_ (some 14) rfl rfl Try.func28 (by kernel_rfl) rfl #[.slice Ao10 y270.length co10] rfl (by (try simp only [List.map_toArray, List.map_cons, List.map_nil]); first | done | rfl | (simp only [List.length_drop, List.length_take]; rfl)) ?_; (with_reducible refine (mailcoachref03_ends.calls k _ _ y270 t273 _ ?side1 ?side2 A5.out).mono ?_); (case side1 => repeat (first | exact (Kd.R_reads' HO272.out).2.2 | (with_reducible refine Kd.C_alloc ?_ _) | (with_reducible refine Kd.C_drewN ?_ _) | (with_reducible refine Kd.C_drew ?_))); (case side2 => exact (Kd.R_reads' HO272.out).2.1); rintro e w11 ⟨v274, rfl, ho0, hb⟩; refine ⟨_, rfl, ?_⟩; have n0_ := Aside0.mk (Kd.R_below (by (with_reducible repeat (first | apply Kd.R_alloc | apply Kd.R_drewN | apply Kd.R_drew)); exact HO272.out) hb); have n1_ := Aside0.mk (Kd.R_lower ho0 (below_size (by repeat (first | (with_reducible first | exact HB.out | apply below_alloc | apply pw_below_drewN | apply below_drew1) | exact HB.out)))); have n2_ := Aside0.mk (below_step (by repeat (first | (with_reducible first | exact HB.out | apply below_alloc | apply pw_below_drewN | apply below_drew1) | exact HB.out)) hb); clear HO272; clear HB; have HO272 := n0_; have HO275 := n1_; have HB := n2_; clear n0_ n1_ n2_; (try clear hb); (try clear hb2); (try clear hk); (try clear hi); (try clear ho0)))
      go_loopg [6, 7] k (fun kq v6 v7 w' => ∃ (x6_1 : List (S25)) (x7_1 : Int), v7 = .int .i64 x7_1 ∧ Aside0 (mailcoachref03_Set.l0 kq l0 l1 t273 x6_1 x7_1 = some r) ∧ Aside0 (kq ≤ k) ∧ Aside0 (Kd.R (Kd.int .u64) 23 w' w.heap.size (fun _ => True) v274 t273) ∧ Aside0 (Kd.R k25 25 w' w.heap.size (fun _ => True) v6 x6_1) ∧ Aside0 (Below w.heap.size w w'))
      case atStart => exact ⟨(([] : List (S25))), (0), (by first | rfl | (simp; done) | (simp [*]; done)), H', ⟨Nat.le_refl _⟩, ⟨by (with_reducible repeat (first | apply Kd.R_alloc | apply Kd.R_drewN | apply Kd.R_drew)); exact HO275.out⟩, ⟨by first | exact Kd.R_nil _ _ _ _ _ | exact Kd.N_nil _ _ _ _ _ | exact Kd.V_nil _ _ _ _ _ | exact Kd.Q_nil _ _ _ _ _ | exact Kd.S_nil _ _ _ _ _⟩, ⟨by repeat (first | (with_reducible first | exact HB.out | apply below_alloc | apply pw_below_drewN | apply below_drew1) | exact HB.out)⟩⟩
      case round =>
        clear H'
        try clear c1
        try clear c2
        try clear p2
        try clear c3
        try clear c4
        obtain ⟨x6_1, x7_1, rfl, HA, HK1, HO_5, HO_6, HB⟩ := hrel
        cases gk with
        | zero => exact absurd HA.out (by simp [mailcoachref03_Set.l0])
        | succ k1 =>
          have H := HA.out
          clear HA
          simp only [mailcoachref03_Set.l0] at H
          by_cases c12 : (wrap64 (x7_1 + 1)) < (t273.length : Int)
          · rw [if_pos c12] at H
            have c12b0 : decide ((wrap64 (x7_1 + 1)) < (t273.length : Int)) = true := decide_eq_true c12
            clear c12
            have HC13 := Aside0.mk H
            clear H
            obtain ⟨Ao14, co14, eo14⟩ := Kd.R_slice HO_5.out
            subst eo14
            go_upto_region 6 with (fail)
            go_cut [36] (fun v36 wc => ∃ (kq : Nat) (x36_12 : Bool), v36 = .bool x36_12 ∧ Aside0 (mailcoachref03_Set.j1 kq l0 l1 t273 x6_1 x7_1 x36_12 = some r) ∧ Aside0 (kq ≤ k1) ∧ Aside0 (Kd.R (Kd.int .u64) 23 wc w.heap.size (fun _ => True) (.slice Ao14 t273.length co14) t273) ∧ Aside0 (Kd.R k25 25 wc w.heap.size (fun _ => True) u6 x6_1) ∧ Aside0 (Below w.heap.size w wc))
            case first =>
              have H := HC13.out
              clear HC13
              by_cases c15 : 0 ≤ x7_1
              · rw [if_pos c15] at H
                have c15b0 : decide (0 ≤ x7_1) = true := decide_eq_true c15
                clear c15
                (first | rw [c15b0] | (simp only [i64_w, i32_w]; rw [c15b0]) | skip)
                by_cases c16 : x7_1 < (t273.length : Int)
                · rw [if_pos c16] at H
                  have c16b0 : decide (x7_1 < (t273.length : Int)) = true := decide_eq_true c16
                  clear c16
                  replace H := Option.bind_eq_some_iff.mp H
                  obtain ⟨t277, A170, H⟩ := H
                  replace H : (if t277 = true then ((mailcoachref03_In.f k1 l1 (rd t273 x7_1)).bind fun t279 => (mailcoachref03_Set.j1 k1 l0 l1 t273 x6_1 x7_1 t279)) else (mailcoachref03_Set.j1 k1 l0 l1 t273 x6_1 x7_1 true)) = some r := H
                  have A17 := Aside0.mk A170
                  clear A170
                  by_cases c18 : t277 = true
                  · subst c18
                    have H1 : ((mailcoachref03_In.f k1 l1 (rd t273 x7_1)).bind fun t279 => (mailcoachref03_Set.j1 k1 l0 l1 t273 x6_1 x7_1 t279)) = some r := by rw [if_pos rfl] at H; exact H
                    clear H
                    have H := H1
                    clear H1
                    replace H := Option.bind_eq_some_iff.mp H
                    obtain ⟨t279, A190, H⟩ := H
                    replace H : (mailcoachref03_Set.j1 k1 l0 l1 t273 x6_1 x7_1 t279) = some r := H
                    have A19 := Aside0.mk A190
                    clear A190
                    have H' := Aside0.mk H
                    clear H
                    have p276 : 0 ≤ (x7_1 : Int) := of_decide_eq_true (by first | (with_reducible assumption) | assumption)
                    have q276 : x7_1 < (t273.length : Int) := of_decide_eq_true (by first | (with_reducible assumption) | assumption)
                    obtain ⟨ad276, e276, hx276_0⟩ := Kd.at_int (Kd.R_reads' HO_5.out).2.2 x7_1 p276 q276
                    cases e276
                    replace p276 := eq_true p276
                    replace q276 := eq_true q276
                    go_wp2_with (first | ((with_reducible refine gate_callee (f := 22) rfl ?_); refine goesL_ (some 27) rfl rfl Try.func22 (by kernel_rfl) rfl #[.slice A0 l0.length c0, .int .u64 (rd t273 x7_1)] rfl (by (try simp only [List.map_toArray, List.map_cons, List.map_nil]); first | done | rfl | (simp only [List.length_drop, List.length_take]; rfl)) ?_; (with_reducible refine (mailcoachref03_In.calls k1 _ _ l0 (rd t273 x7_1) true _ ?side1 ?side2 A17.out).mono ?_); (case side1 => repeat (first | exact (Kd.C_below HR0.out HB.out) | (with_reducible refine Kd.C_alloc ?_ _) | (with_reducible refine Kd.C_drewN ?_ _) | (with_reducible refine Kd.C_drew ?_))); (case side2 => exact HC0.out); rintro e w' ⟨rfl, ⟨nd, rfl⟩⟩; refine ⟨_, rfl, ?_⟩; have p278 : 0 ≤ (x7_1 : Int) := of_decide_eq_true (by first | (with_reducible assumption) | assumption); have q278 : x7_1 < (t273.length : Int) := of_decide_eq_true (by first | (with_reducible assumption) | assumption); obtain ⟨ad278, e278, hx278_0⟩ := Kd.at_int (Kd.R_reads' HO_5.out).2.2 x7_1 p278 q278; obtain rfl : ad276 = ad278 := (by injection e278); replace p278 := eq_true p278; replace q278 := eq_true q278) | (go_at_call 22; (with_reducible refine (mailcoachref03_In.calls k1 _ _ l1 (rd t273 x7_1) t279 _ ?side1 ?side2 A19.out).mono ?_); (case side1 => repeat (first | exact (Kd.C_below HR1.out (by repeat (first | (with_reducible first | exact HB.out | apply below_alloc | apply pw_below_drewN | apply below_drew1) | exact HB.out))) | (with_reducible refine Kd.C_alloc ?_ _) | (with_reducible refine Kd.C_drewN ?_ _) | (with_reducible refine Kd.C_drew ?_))); (case side2 => exact HC1.out); rintro e w' ⟨rfl, ⟨nd, rfl⟩⟩))
                    go_meet
                    case rel => exact ⟨_, (t279), (by first | rfl | (simp; done) | (simp [*]; done)), H', ⟨by have := HK1.out; first | omega | exact Nat.le_refl _⟩, ⟨by (with_reducible repeat (first | apply Kd.R_alloc | apply Kd.R_drewN | apply Kd.R_drew)); exact HO_5.out⟩, ⟨by (with_reducible repeat (first | apply Kd.R_alloc | apply Kd.R_drewN | apply Kd.R_drew)); exact HO_6.out⟩, ⟨by repeat (first | (with_reducible first | exact HB.out | apply below_alloc | apply pw_below_drewN | apply below_drew1) | exact HB.out)⟩⟩
                  · replace c18 := Bool.eq_false_iff.mpr c18
                    subst c18
                    have H1 : (mailcoachref03_Set.j1 k1 l0 l1 t273 x6_1 x7_1 true) = some r := by rw [if_neg (show ¬ (false = true) by decide)] at H; exact H
                    clear H
                    have H := H1
                    clear H1
                    have H' := Aside0.mk H
                    clear H
                    have p276 : 0 ≤ (x7_1 : Int) := of_decide_eq_true (by first | (with_reducible assumption) | assumption)
                    have q276 : x7_1 < (t273.length : Int) := of_decide_eq_true (by first | (with_reducible assumption) | assumption)
                    obtain ⟨ad276, e276, hx276_0⟩ := Kd.at_int (Kd.R_reads' HO_5.out).2.2 x7_1 p276 q276
                    cases e276
                    replace p276 := eq_true p276
                    replace q276 := eq_true q276
                    go_wp2_with (first | ((with_reducible refine gate_callee (f := 22) rfl ?_); refine goesL_ (some 27) rfl rfl Try.func22 (by kernel_rfl) rfl #[.slice A0 l0.length c0, .int .u64 (rd t273 x7_1)] rfl (by (try simp only [List.map_toArray, List.map_cons, List.map_nil]); first | done | rfl | (simp only [List.length_drop, List.length_take]; rfl)) ?_; (with_reducible refine (mailcoachref03_In.calls k1 _ _ l0 (rd t273 x7_1) false _ ?side1 ?side2 A17.out).mono ?_); (case side1 => repeat (first | exact (Kd.C_below HR0.out HB.out) | (with_reducible refine Kd.C_alloc ?_ _) | (with_reducible refine Kd.C_drewN ?_ _) | (with_reducible refine Kd.C_drew ?_))); (case side2 => exact HC0.out); rintro e w' ⟨rfl, ⟨nd, rfl⟩⟩; refine ⟨_, rfl, ?_⟩))
                    go_meet
                    case rel => exact ⟨_, (true), (by first | rfl | (simp; done) | (simp [*]; done)), H', ⟨by have := HK1.out; first | omega | exact Nat.le_refl _⟩, ⟨by (with_reducible repeat (first | apply Kd.R_alloc | apply Kd.R_drewN | apply Kd.R_drew)); exact HO_5.out⟩, ⟨by (with_reducible repeat (first | apply Kd.R_alloc | apply Kd.R_drewN | apply Kd.R_drew)); exact HO_6.out⟩, ⟨by repeat (first | (with_reducible first | exact HB.out | apply below_alloc | apply pw_below_drewN | apply below_drew1) | exact HB.out)⟩⟩
                · rw [if_neg c16] at H
                  exact absurd H (by simp)
              · rw [if_neg c15] at H
                exact absurd H (by simp)
            case rest =>
              clear HC13
              try clear c1
              try clear c2
              try clear p2
              try clear q2
              try clear hx2
              try clear c3
              try clear c4
              try clear p6
              try clear c12
              try clear c12b0
              try clear c14
              try clear c15
              try clear c15b0
              try clear c16
              try clear c16b0
              try clear c18
              try clear hx276_0
              try clear hx278_0
              try clear p2
              try clear p276
              try clear p278
              try clear q276
              try clear q278
              obtain ⟨kq, x36_12, rfl, HA, HJ12, HO_5, HO_6, HB⟩ := hcut
              cases kq with
              | zero => exact absurd HA.out (by simp [mailcoachref03_Set.j1])
              | succ kj12 =>
                have H := HA.out
                clear HA
                simp only [mailcoachref03_Set.j1] at H
                by_cases c20 : x36_12 = true
                · subst c20
                  have H1 : (mailcoachref03_Set.l0 kj12 l0 l1 t273 x6_1 (wrap64 (x7_1 + 1))) = some r := by rw [if_pos rfl] at H; exact H
                  clear H
                  have H := H1
                  clear H1
                  have H' := Aside0.mk H
                  clear H
                  go_wp2
                  go_roundg kj12
                  case measure => have := HK1.out; have := HJ12.out; omega
                  case rel => exact ⟨(x6_1), (wrap64 (x7_1 + 1)), (by first | rfl | (simp; done) | (simp [*]; done)), H', ⟨by have := HK1.out; have := HJ12.out; omega⟩, ⟨by (with_reducible repeat (first | apply Kd.R_alloc | apply Kd.R_drewN | apply Kd.R_drew)); exact HO_5.out⟩, ⟨by (with_reducible repeat (first | apply Kd.R_alloc | apply Kd.R_drewN | apply Kd.R_drew)); exact HO_6.out⟩, ⟨by repeat (first | (with_reducible first | exact HB.out | apply below_alloc | apply pw_below_drewN | apply below_drew1) | exact HB.out)⟩⟩
                · replace c20 := Bool.eq_false_iff.mpr c20
                  subst c20
                  have H1 : (if (x6_1.length : Int) > 0 then (if 0 ≤ (wrap64 ((x6_1.length : Int) - 1)) then (if (wrap64 ((x6_1.length : Int) - 1)) < (x6_1.length : Int) then (if 0 ≤ x7_1 then (if x7_1 < (t273.length : Int) then (if ((rd_T25 x6_1 (wrap64 ((x6_1.length : Int) - 1))).f1) = (rd t273 x7_1) then (if 0 ≤ (wrap64 (x7_1 + 1)) then (if (wrap64 (x7_1 + 1)) < (t273.length : Int) then (mailcoachref03_Set.l0 kj12 l0 l1 t273 (x6_1.set ((wrap64 ((x6_1.length : Int) - 1)) : Int).toNat (⟨(rd_T25 x6_1 (wrap64 ((x6_1.length : Int) - 1))).f0, rd t273 (wrap64 (x7_1 + 1))⟩ : S25)) (wrap64 (x7_1 + 1))) else (none)) else (none)) else (if 0 ≤ (wrap64 (x7_1 + 1)) then (if (wrap64 (x7_1 + 1)) < (t273.length : Int) then (if x6_1.length < 8796093022208 then (mailcoachref03_Set.l0 kj12 l0 l1 t273 (x6_1 ++ [(⟨rd t273 x7_1, rd t273 (wrap64 (x7_1 + 1))⟩ : S25)]) (wrap64 (x7_1 + 1))) else (none)) else (none)) else (none))) else (none)) else (none)) else (none)) else (none)) else (if 0 ≤ x7_1 then (if x7_1 < (t273.length : Int) then (if 0 ≤ (wrap64 (x7_1 + 1)) then (if (wrap64 (x7_1 + 1)) < (t273.length : Int) then (if x6_1.length < 8796093022208 then (mailcoachref03_Set.l0 kj12 l0 l1 t273 (x6_1 ++ [(⟨rd t273 x7_1, rd t273 (wrap64 (x7_1 + 1))⟩ : S25)]) (wrap64 (x7_1 + 1))) else (none)) else (none)) else (none)) else (none)) else (none))) = some r := by rw [if_neg (show ¬ (false = true) by decide)] at H; exact H
                  clear H
                  have H := H1
                  clear H1
                  by_cases c21 : (x6_1.length : Int) > 0
                  · rw [if_pos c21] at H
                    have c21b0 : decide (0 < (x6_1.length : Int)) = true := decide_eq_true c21
                    have c21b1 : decide (0 < x6_1.length) = true := decide_eq_true (by omega)
                    clear c21
                    obtain ⟨ji22, hji22⟩ : ∃ j_ : Int, (wrap64 ((x6_1.length : Int) - 1)) = j_ := ⟨_, rfl⟩
                    replace H : (if 0 ≤ (ji22) then (if (ji22) < (x6_1.length : Int) then (if 0 ≤ x7_1 then (if x7_1 < (t273.length : Int) then (if ((rd_T25 x6_1 (ji22)).f1) = (rd t273 x7_1) then (if 0 ≤ (wrap64 (x7_1 + 1)) then (if (wrap64 (x7_1 + 1)) < (t273.length : Int) then (mailcoachref03_Set.l0 kj12 l0 l1 t273 (x6_1.set ((ji22) : Int).toNat (⟨(rd_T25 x6_1 (ji22)).f0, rd t273 (wrap64 (x7_1 + 1))⟩ : S25)) (wrap64 (x7_1 + 1))) else (none)) else (none)) else (if 0 ≤ (wrap64 (x7_1 + 1)) then (if (wrap64 (x7_1 + 1)) < (t273.length : Int) then (if x6_1.length < 8796093022208 then (mailcoachref03_Set.l0 kj12 l0 l1 t273 (x6_1 ++ [(⟨rd t273 x7_1, rd t273 (wrap64 (x7_1 + 1))⟩ : S25)]) (wrap64 (x7_1 + 1))) else (none)) else (none)) else (none))) else (none)) else (none)) else (none)) else (none)) = some r := by first | (rw [hji22] at H; exact H) | (simp only [hji22] at H ⊢; exact H)
                    have hji22w : (IntKind.i64.wrap ((x6_1.length : Int) - 1)) = ji22 := (i64_w _).trans hji22
                    by_cases c23 : 0 ≤ (ji22)
                    · rw [if_pos c23] at H
                      have c23b0 : decide (0 ≤ (ji22)) = true := decide_eq_true c23
                      clear c23
                      by_cases c24 : (ji22) < (x6_1.length : Int)
                      · rw [if_pos c24] at H
                        have c24b0 : decide ((ji22) < (x6_1.length : Int)) = true := decide_eq_true c24
                        clear c24
                        by_cases c25 : 0 ≤ x7_1
                        · rw [if_pos c25] at H
                          have c25b0 : decide (0 ≤ x7_1) = true := decide_eq_true c25
                          clear c25
                          by_cases c26 : x7_1 < (t273.length : Int)
                          · rw [if_pos c26] at H
                            have c26b0 : decide (x7_1 < (t273.length : Int)) = true := decide_eq_true c26
                            clear c26
                            by_cases c27 : ((rd_T25 x6_1 (ji22)).f1) = (rd t273 x7_1)
                            · rw [if_pos c27] at H
                              have c27b0 : (((rd_T25 x6_1 (ji22)).f1) == (rd t273 x7_1)) = true := beq_iff_eq.mpr c27
                              have c27b1 : (((rd_T25 x6_1 (ji22)).f1) != (rd t273 x7_1)) = false := bne_eq_false_iff_eq.mpr c27
                              clear c27
                              obtain ⟨ji28, hji28⟩ : ∃ j_ : Int, (wrap64 (x7_1 + 1)) = j_ := ⟨_, rfl⟩
                              replace H : (if 0 ≤ (ji28) then (if (ji28) < (t273.length : Int) then (mailcoachref03_Set.l0 kj12 l0 l1 t273 (x6_1.set ((ji22) : Int).toNat (⟨(rd_T25 x6_1 (ji22)).f0, rd t273 (ji28)⟩ : S25)) ji28) else (none)) else (none)) = some r := by first | (rw [hji28] at H; exact H) | (simp only [hji28] at H ⊢; exact H)
                              (try rw [hji28] at c12b0)
                              have hji28w : (IntKind.i64.wrap (x7_1 + 1)) = ji28 := (i64_w _).trans hji28
                              by_cases c29 : 0 ≤ (ji28)
                              · rw [if_pos c29] at H
                                have c29b0 : decide (0 ≤ (ji28)) = true := decide_eq_true c29
                                clear c29
                                by_cases c30 : (ji28) < (t273.length : Int)
                                · rw [if_pos c30] at H
                                  have c30b0 : decide ((ji28) < (t273.length : Int)) = true := decide_eq_true c30
                                  clear c30
                                  obtain ⟨y283, hy283⟩ : ∃ y_ : List (S25), y_ = (x6_1.set ((ji22) : Int).toNat (⟨(rd_T25 x6_1 (ji22)).f0, rd t273 (ji28)⟩ : S25)) := ⟨_, rfl⟩
                                  replace H : (mailcoachref03_Set.l0 kj12 l0 l1 t273 y283 ji28) = some r := by first | (rw [hy283]; with_reducible exact H) | (have H2_ := (Option.bind_some _ _).symm.trans H; rw [hy283]; with_reducible exact H2_) | (have H2_ := (Option.bind_some _ _).symm.trans H; with_reducible exact H2_) | with_reducible exact H | (rw [hy283]; exact H) | exact H
                                  have Ny283 := Aside0.mk hy283
                                  clear hy283
                                  have H' := Aside0.mk H
                                  clear H
                                  obtain ⟨Ao32, co32, eo32⟩ := Kd.R_slice HO_6.out
                                  subst eo32
                                  try go_wp2
                                  have n0_ := Aside0.mk (Kd.R_drew HO_5.out)
                                  have n1_ := Aside0.mk (Kd.R_drew HO_6.out)
                                  have n2_ := Aside0.mk (below_drew1 HB.out)
                                  clear HO_5
                                  clear HO_6
                                  clear HB
                                  have HO_5 := n0_
                                  have HO_6 := n1_
                                  have HB := n2_
                                  clear n0_ n1_ n2_
                                  have p280 : 0 ≤ ((ji22) : Int) := of_decide_eq_true (by first | (with_reducible assumption) | assumption)
                                  have q280 : (ji22) < (x6_1.length : Int) := of_decide_eq_true (by first | (with_reducible assumption) | assumption)
                                  obtain ⟨ad280, e280, hx280_0, hx280_1⟩ := at_T25 (Kd.R_reads' HO_6.out).2.2 (ji22) p280 q280
                                  cases e280
                                  replace p280 := eq_true p280
                                  replace q280 := eq_true q280
                                  have p281 : 0 ≤ (x7_1 : Int) := of_decide_eq_true (by first | (with_reducible assumption) | assumption)
                                  have q281 : x7_1 < (t273.length : Int) := of_decide_eq_true (by first | (with_reducible assumption) | assumption)
                                  obtain ⟨ad281, e281, hx281_0⟩ := Kd.at_int (Kd.R_reads' HO_5.out).2.2 x7_1 p281 q281
                                  cases e281
                                  replace p281 := eq_true p281
                                  replace q281 := eq_true q281
                                  refine start_ (n := 15) (S := fun w' => w'.cell? (ad280.add (((ji22)).toNat * 2)) = some (.int .u64 ((rd_T25 x6_1 (ji22)).f0)) ∧ w'.cell? ⟨(ad280.add (((ji22)).toNat * 2)).block, (ad280.add (((ji22)).toNat * 2)).off + 1, none⟩ = some (.int .u64 ((rd_T25 x6_1 (ji22)).f1)) ∧ w'.cell? (ad281.add (x7_1).toNat) = some (.int .u64 (rd t273 x7_1))) (ds := []) #[false, false, false, false, false, false, false, false, false, false, false, false, false, false, false] (by kernel_rfl) rfl rfl ⟨hx280_0, hx280_1, hx281_0⟩ (fun hHeld => ?_); refine with_tabW mailcoachref03_Set.tab8 mailcoachref03_Set.bits8 (fun HT_ HW_ => ?_)
                                  generalize wc.drew = w33 at HO_5 HO_6 HB hx280_0 hx280_1 hx281_0 hHeld ⊢
                                  refine pure_ (i := 0) (N := some 39) (v := ?_) (a' := ?_) #[true, false, false, false, false, false, false, false, false, false, false, false, false, false, false] rfl rfl (any_of HT_.out (by kernel_rfl)) (fun _ _ _ h => h) (Or.inl ⟨by rfl, ?_⟩) ?_ ?_
                                  rotate_left
                                  · intro w'
                                    go_simp
                                    with_reducible rfl
                                  rotate_left
                                  · simp only [Act.put, List.setIfInBounds_toArray, List.set_cons_zero, List.set_cons_succ, i64_w, i32_w]
                                    rfl
                                  refine pure_ (i := 1) (N := some 40) (v := ?_) (a' := ?_) #[true, true, false, false, false, false, false, false, false, false, false, false, false, false, false] rfl rfl (any_of HT_.out (by kernel_rfl)) (fun _ _ _ h => h) (Or.inl ⟨by rfl, ?_⟩) ?_ ?_
                                  rotate_left
                                  · intro w'
                                    go_simp
                                    with_reducible rfl
                                  rotate_left
                                  · simp only [Act.put, List.setIfInBounds_toArray, List.set_cons_zero, List.set_cons_succ, i64_w, i32_w]
                                    rfl
                                  refine pure_ (i := 2) (N := some 41) (v := ?_) (a' := ?_) #[true, true, true, false, false, false, false, false, false, false, false, false, false, false, false] rfl rfl (any_of HT_.out (by kernel_rfl)) (fun _ _ _ h => h) (Or.inl ⟨by rfl, ?_⟩) ?_ ?_
                                  rotate_left
                                  · intro w'
                                    go_simp
                                    with_reducible rfl
                                  rotate_left
                                  · simp only [Act.put, List.setIfInBounds_toArray, List.set_cons_zero, List.set_cons_succ, i64_w, i32_w]
                                    rfl
                                  refine pure_ (i := 3) (N := some 42) (v := ?_) (a' := ?_) #[true, true, true, true, false, false, false, false, false, false, false, false, false, false, false] rfl rfl (any_of HT_.out (by kernel_rfl)) (fun _ _ _ h => h) (Or.inl ⟨by rfl, ?_⟩) ?_ ?_
                                  rotate_left
                                  · intro w'
                                    go_simp
                                    with_reducible rfl
                                  rotate_left
                                  · simp only [Act.put, List.setIfInBounds_toArray, List.set_cons_zero, List.set_cons_succ, i64_w, i32_w]
                                    rfl
                                  refine pure_ (i := 4) (N := some 43) (v := ?_) (a' := ?_) #[true, true, true, true, true, false, false, false, false, false, false, false, false, false, false] rfl rfl (any_of HT_.out (by kernel_rfl)) (fun _ _ _ h => h) (Or.inl ⟨by rfl, ?_⟩) ?_ ?_
                                  rotate_left
                                  · intro w'
                                    go_simp
                                    with_reducible rfl
                                  rotate_left
                                  · simp only [Act.put, List.setIfInBounds_toArray, List.set_cons_zero, List.set_cons_succ, i64_w, i32_w]
                                    rfl
                                  refine pure_ (i := 5) (N := some 44) (v := ?_) (a' := ?_) #[true, true, true, true, true, true, false, false, false, false, false, false, false, false, false] rfl rfl (any_of HT_.out (by kernel_rfl)) (fun _ _ _ h => h) (Or.inl ⟨by rfl, ?_⟩) ?_ ?_
                                  rotate_left
                                  · intro w'
                                    go_simp
                                    with_reducible rfl
                                  rotate_left
                                  · simp only [Act.put, List.setIfInBounds_toArray, List.set_cons_zero, List.set_cons_succ, i64_w, i32_w]
                                    rfl
                                  refine pure_ (i := 6) (N := some 45) (v := ?_) (a' := ?_) #[true, true, true, true, true, true, true, false, false, false, false, false, false, false, false] rfl rfl (any_of HT_.out (by kernel_rfl)) (fun _ _ _ h => h) (Or.inl ⟨by rfl, ?_⟩) ?_ ?_
                                  rotate_left
                                  · intro w'
                                    go_simp
                                    with_reducible rfl
                                  rotate_left
                                  · simp only [Act.put, List.setIfInBounds_toArray, List.set_cons_zero, List.set_cons_succ, i64_w, i32_w]
                                    rfl
                                  refine pure_ (i := 7) (N := some 46) (v := ?_) (a' := ?_) #[true, true, true, true, true, true, true, true, false, false, false, false, false, false, false] rfl rfl (any_of HT_.out (by kernel_rfl)) (fun _ _ _ h => h) (Or.inl ⟨by rfl, ?_⟩) ?_ ?_
                                  rotate_left
                                  · intro w'
                                    go_simp
                                    with_reducible rfl
                                  rotate_left
                                  · simp only [Act.put, List.setIfInBounds_toArray, List.set_cons_zero, List.set_cons_succ, i64_w, i32_w]
                                    rfl
                                  refine pure_ (i := 9) (N := some 48) (v := ?_) (a' := ?_) #[true, true, true, true, true, true, true, true, false, true, false, false, false, false, false] rfl rfl (any_of HT_.out (by kernel_rfl)) (fun _ _ _ h => h) (Or.inl ⟨by rfl, ?_⟩) ?_ ?_
                                  rotate_left
                                  · intro w'
                                    go_simp
                                    with_reducible rfl
                                  rotate_left
                                  · simp only [Act.put, List.setIfInBounds_toArray, List.set_cons_zero, List.set_cons_succ, i64_w, i32_w]
                                    rfl
                                  refine pure_ (i := 10) (N := some 49) (v := ?_) (a' := ?_) #[true, true, true, true, true, true, true, true, false, true, true, false, false, false, false] rfl rfl (any_of HT_.out (by kernel_rfl)) (fun _ _ _ h => h) (Or.inl ⟨by rfl, ?_⟩) ?_ ?_
                                  rotate_left
                                  · intro w'
                                    go_simp
                                    with_reducible rfl
                                  rotate_left
                                  · simp only [Act.put, List.setIfInBounds_toArray, List.set_cons_zero, List.set_cons_succ, i64_w, i32_w]
                                    rfl
                                  refine pure_ (i := 11) (N := some 50) (v := ?_) (a' := ?_) #[true, true, true, true, true, true, true, true, false, true, true, true, false, false, false] rfl rfl (any_of HT_.out (by kernel_rfl)) (fun _ _ _ h => h) (Or.inl ⟨by rfl, ?_⟩) ?_ ?_
                                  rotate_left
                                  · intro w'
                                    go_simp
                                    with_reducible rfl
                                  rotate_left
                                  · simp only [Act.put, List.setIfInBounds_toArray, List.set_cons_zero, List.set_cons_succ, i64_w, i32_w]
                                    rfl
                                  refine take_ (i := 8) (N := some 47) (v := ?_) (a' := ?_) #[true, true, true, true, true, true, true, true, true, true, true, true, false, false, false] rfl rfl (take_ofW HT_.out HW_.out (by kernel_rfl)) (fun _ _ _ h => h) (Or.inl ⟨by rfl, ?_⟩) hHeld ?_ ?_
                                  rotate_left
                                  · rintro w' ⟨s0, s1, s2⟩
                                    go_simp
                                    with_reducible rfl
                                  rotate_left
                                  · simp only [Act.put, List.setIfInBounds_toArray, List.set_cons_zero, List.set_cons_succ, i64_w, i32_w]
                                    rfl
                                  refine take_ (i := 12) (N := some 51) (v := ?_) (a' := ?_) #[true, true, true, true, true, true, true, true, true, true, true, true, true, false, false] rfl rfl (take_ofW HT_.out HW_.out (by kernel_rfl)) (fun _ _ _ h => h) (Or.inl ⟨by rfl, ?_⟩) hHeld ?_ ?_
                                  rotate_left
                                  · rintro w' ⟨s0, s1, s2⟩
                                    go_simp
                                    with_reducible rfl
                                  rotate_left
                                  · simp only [Act.put, List.setIfInBounds_toArray, List.set_cons_zero, List.set_cons_succ, i64_w, i32_w]
                                    rfl
                                  refine pure_ (i := 13) (N := some 52) (v := ?_) (a' := ?_) #[true, true, true, true, true, true, true, true, true, true, true, true, true, true, false] rfl rfl (any_of HT_.out (by kernel_rfl)) (fun _ _ _ h => h) (Or.inl ⟨by rfl, ?_⟩) ?_ ?_
                                  rotate_left
                                  · intro w'
                                    go_simp
                                    with_reducible rfl
                                  rotate_left
                                  · simp only [Act.put, List.setIfInBounds_toArray, List.set_cons_zero, List.set_cons_succ, i64_w, i32_w]
                                    rfl
                                  refine pure_ (i := 14) (N := some 53) (v := ?_) (a' := ?_) #[true, true, true, true, true, true, true, true, true, true, true, true, true, true, true] rfl rfl (any_of HT_.out (by kernel_rfl)) (fun _ _ _ h => h) (Or.inl ⟨by rfl, ?_⟩) ?_ ?_
                                  rotate_left
                                  · intro w'
                                    go_simp
                                    with_reducible rfl
                                  rotate_left
                                  · simp only [Act.put, List.setIfInBounds_toArray, List.set_cons_zero, List.set_cons_succ, i64_w, i32_w]
                                    rfl
                                  refine done_ (done_of HT_.out (by kernel_rfl)) ?_
                                  have p282 : 0 ≤ ((ji28) : Int) := of_decide_eq_true (by first | (with_reducible assumption) | assumption)
                                  have q282 : (ji28) < (t273.length : Int) := of_decide_eq_true (by first | (with_reducible assumption) | assumption)
                                  obtain ⟨ad282, e282, hx282_0⟩ := Kd.at_int (Kd.R_reads' HO_5.out).2.2 (ji28) p282 q282
                                  obtain rfl : ad281 = ad282 := (by injection e282)
                                  replace p282 := eq_true p282
                                  replace q282 := eq_true q282
                                  have p31 : 0 ≤ ((ji22) : Int) := of_decide_eq_true (by first | (with_reducible assumption) | assumption)
                                  have q31 : ((ji22) : Int) < ((x6_1.length : Int) : Int) := of_decide_eq_true (by first | (with_reducible assumption) | assumption)
                                  obtain ⟨go31, co31, eo31, gb31, gl31, cl31, HG31⟩ := Kd.R_form HO_6.out (by omega)
                                  (first | cases eo31 | (injection eo31 with ea_ en_ ec_; (first | subst ea_ | (injection ea_ with ea_; subst ea_)); subst ec_; clear en_))
                                  have GB31 := Aside0.mk gb31
                                  have GG31 := Aside0.mk HG31
                                  clear gb31 gl31 HG31
                                  (first | simp only [add_plain] at hx280_0 | skip)
                                  (first | simp only [add_plain] at hx280_1 | skip)
                                  obtain ⟨ce31, hcl31, hM31, hcc31, hfr31⟩ := Kd.R_elem HO_6.out z25 ((ji22) : Int) p31 q31
                                  obtain rfl := k25_openM hM31
                                  have hx31_0 : w33.cell? ⟨go31, ((ji22) : Int).toNat * 2, none⟩ = some (.int .u64 ((rd_T25 x6_1 (ji22)).f0)) := hcc31 0 _ rfl
                                  have hx31_1 : w33.cell? ⟨go31, ((ji22) : Int).toNat * 2 + 1, none⟩ = some (.int .u64 ((rd_T25 x6_1 (ji22)).f1)) := hcc31 1 _ rfl
                                  have hf31_0 : w33.frozen? ⟨go31, ((ji22) : Int).toNat * 2, none⟩ = false := hfr31 0
                                  have hf31_1 : w33.frozen? ⟨go31, ((ji22) : Int).toNat * 2 + 1, none⟩ = false := hfr31 1
                                  clear hcl31 hcc31 hfr31 hM31
                                  replace p31 := eq_true p31
                                  replace q31 := eq_true q31
                                  have HX34 := Aside0.mk (show Kd.R k25 25 w33 w.heap.size (fun _ => True) (.slice (some ⟨go31, 0, none⟩) x6_1.length co32) x6_1 from (by (with_reducible repeat (first | apply Kd.R_alloc | apply Kd.R_drewN | apply Kd.R_drew)); exact HO_6.out))
                                  obtain ⟨ce34, hcl34, hM34, hcc34, hfr34⟩ := Kd.R_elem HX34.out z25 ((ji22) : Int) (of_decide_eq_true (by first | (with_reducible assumption) | assumption)) (by have h_ : ((ji22) : Int) < ((x6_1.length : Int) : Int) := of_decide_eq_true (by first | (with_reducible assumption) | assumption); first | exact h_ | (have e_ := (Kd.R_reads' HO_6.out).1; omega) | simpa using h_)
                                  obtain rfl := k25_openM hM34
                                  have HP34 := Kd.R_seg HX34.out ((ji22) : Int) (of_decide_eq_true (by first | (with_reducible assumption) | assumption)) (by have h_ : ((ji22) : Int) < ((x6_1.length : Int) : Int) := of_decide_eq_true (by first | (with_reducible assumption) | assumption); first | exact h_ | (have e_ := (Kd.R_reads' HO_6.out).1; omega) | simpa using h_) (seg := [.int .u64 (rd t273 (ji28))]) (j := 1) hcl34 hcc34 (show 2 ≤ 2 from by decide) (x' := (⟨(rd_T25 x6_1 (ji22)).f0, rd t273 (ji28)⟩ : S25)) (k25_mkM _ _ _ (⟨(rd_T25 x6_1 (ji22)).f0, rd t273 (ji28)⟩ : S25) ) (fun _ hk => hk)
                                  have hx34_1 := hcc34 1 _ rfl
                                  (try simp only [show (k25).sz = 2 from rfl, Nat.mul_one, Nat.add_zero] at hx34_1)
                                  have hf34_1 := hfr34 1
                                  (try simp only [show (k25).sz = 2 from rfl, Nat.mul_one, Nat.add_zero] at hf34_1)
                                  clear hcl34 hcc34 hfr34 hM34
                                  try go_wp2_with (first | ((with_reducible refine gate_store (t := 23) (p := 63) rfl ?_); refine store_event (t := 23) (p := 63) (v := ?vo_w35) (w1 := (w33.setCell ⟨go31, ((ji22) : Int).toNat * 2 + 1, none⟩ (.int .u64 (rd t273 (ji28))))) ?hg ?ho ?hn ?hr ?_; (case ho => rfl); (case hg => rfl); (case hn => rfl); (case hr => first | (go_simp; done) | (go_simp; rfl)); intro w35 hw; have hg : w33.grownBy w35 (some go31) := (by rw [hw]; exact HP34.2); have hp_ : Kd.R k25 25 w35 w.heap.size (fun _ => True) (.slice (some ⟨go31, 0, none⟩) x6_1.length co32) y283 := (by rw [hw, Ny283.out]; exact HP34.1); clear HP34; have n0_ := Aside0.mk (Kd.R_over' (v := (.slice (some ⟨go31, 0, none⟩) x6_1.length co32)) (by (with_reducible repeat (first | apply Kd.R_alloc | apply Kd.R_drewN | apply Kd.R_drew)); exact HO_5.out) (Kd.R_typed HO_6.out) (by decide) hg); have n1_ := Aside0.mk (hp_); have n2_ := Aside0.mk ((by rw [hw]; exact below_set (HB.out) GB31.out : Below w.heap.size w w35)); clear HO_5; clear HO_6; clear HB; have HO_5 := n0_; have HO_6 := n1_; have HB := n2_; clear n0_ n1_ n2_; clear hg hw hp_))
                                  go_roundg kj12
                                  case measure => have := HK1.out; have := HJ12.out; omega
                                  case rel => exact ⟨(y283), (ji28), (by first | rfl | (simp; done) | (simp only [← hji28] <;> (first | rfl | simp)) | (simp [*]; done)), H', ⟨by have := HK1.out; have := HJ12.out; omega⟩, ⟨by (with_reducible repeat (first | apply Kd.R_alloc | apply Kd.R_drewN | apply Kd.R_drew)); exact HO_5.out⟩, ⟨by (with_reducible repeat (first | apply Kd.R_alloc | apply Kd.R_drewN | apply Kd.R_drew)); exact HO_6.out⟩, ⟨by repeat (first | (with_reducible first | exact HB.out | apply below_alloc | apply pw_below_drewN | apply below_drew1) | exact HB.out)⟩⟩
                                · rw [if_neg c30] at H
                                  exact absurd H (by simp)
                              · rw [if_neg c29] at H
                                exact absurd H (by simp)
                            · rw [if_neg c27] at H
                              have c27b0 : (((rd_T25 x6_1 (ji22)).f1) == (rd t273 x7_1)) = false := beq_eq_false_iff_ne.mpr c27
                              have c27b1 : (((rd_T25 x6_1 (ji22)).f1) != (rd t273 x7_1)) = true := bne_iff_ne.mpr c27
                              obtain ⟨ji36, hji36⟩ : ∃ j_ : Int, (wrap64 (x7_1 + 1)) = j_ := ⟨_, rfl⟩
                              replace H : (if 0 ≤ (ji36) then (if (ji36) < (t273.length : Int) then (if x6_1.length < 8796093022208 then (mailcoachref03_Set.l0 kj12 l0 l1 t273 (x6_1 ++ [(⟨rd t273 x7_1, rd t273 (ji36)⟩ : S25)]) ji36) else (none)) else (none)) else (none)) = some r := by first | (rw [hji36] at H; exact H) | (simp only [hji36] at H ⊢; exact H)
                              (try rw [hji36] at c12b0)
                              have hji36w : (IntKind.i64.wrap (x7_1 + 1)) = ji36 := (i64_w _).trans hji36
                              by_cases c37 : 0 ≤ (ji36)
                              · rw [if_pos c37] at H
                                have c37b0 : decide (0 ≤ (ji36)) = true := decide_eq_true c37
                                clear c37
                                by_cases c38 : (ji36) < (t273.length : Int)
                                · rw [if_pos c38] at H
                                  have c38b0 : decide ((ji36) < (t273.length : Int)) = true := decide_eq_true c38
                                  clear c38
                                  by_cases c39 : x6_1.length < 8796093022208
                                  · rw [if_pos c39] at H
                                    have LMc39 := Aside0.mk c39
                                    clear c39
                                    obtain ⟨y286, hy286⟩ : ∃ y_ : List (S25), y_ = (x6_1 ++ [(⟨rd t273 x7_1, rd t273 (ji36)⟩ : S25)]) := ⟨_, rfl⟩
                                    replace H : (mailcoachref03_Set.l0 kj12 l0 l1 t273 y286 ji36) = some r := by first | (rw [hy286]; with_reducible exact H) | (have H2_ := (Option.bind_some _ _).symm.trans H; rw [hy286]; with_reducible exact H2_) | (have H2_ := (Option.bind_some _ _).symm.trans H; with_reducible exact H2_) | with_reducible exact H | (rw [hy286]; exact H) | exact H
                                    have Ny286 := Aside0.mk hy286
                                    clear hy286
                                    have H' := Aside0.mk H
                                    clear H
                                    obtain ⟨Ao40, co40, eo40⟩ := Kd.R_slice HO_6.out
                                    subst eo40
                                    try go_wp2
                                    have n0_ := Aside0.mk (Kd.R_drew HO_5.out)
                                    have n1_ := Aside0.mk (Kd.R_drew HO_6.out)
                                    have n2_ := Aside0.mk (below_drew1 HB.out)
                                    clear HO_5
                                    clear HO_6
                                    clear HB
                                    have HO_5 := n0_
                                    have HO_6 := n1_
                                    have HB := n2_
                                    clear n0_ n1_ n2_
                                    have p280 : 0 ≤ ((ji22) : Int) := of_decide_eq_true (by first | (with_reducible assumption) | assumption)
                                    have q280 : (ji22) < (x6_1.length : Int) := of_decide_eq_true (by first | (with_reducible assumption) | assumption)
                                    obtain ⟨ad280, e280, hx280_0, hx280_1⟩ := at_T25 (Kd.R_reads' HO_6.out).2.2 (ji22) p280 q280
                                    cases e280
                                    replace p280 := eq_true p280
                                    replace q280 := eq_true q280
                                    have p281 : 0 ≤ (x7_1 : Int) := of_decide_eq_true (by first | (with_reducible assumption) | assumption)
                                    have q281 : x7_1 < (t273.length : Int) := of_decide_eq_true (by first | (with_reducible assumption) | assumption)
                                    obtain ⟨ad281, e281, hx281_0⟩ := Kd.at_int (Kd.R_reads' HO_5.out).2.2 x7_1 p281 q281
                                    cases e281
                                    replace p281 := eq_true p281
                                    replace q281 := eq_true q281
                                    refine start_ (n := 15) (S := fun w' => w'.cell? (ad280.add (((ji22)).toNat * 2)) = some (.int .u64 ((rd_T25 x6_1 (ji22)).f0)) ∧ w'.cell? ⟨(ad280.add (((ji22)).toNat * 2)).block, (ad280.add (((ji22)).toNat * 2)).off + 1, none⟩ = some (.int .u64 ((rd_T25 x6_1 (ji22)).f1)) ∧ w'.cell? (ad281.add (x7_1).toNat) = some (.int .u64 (rd t273 x7_1))) (ds := []) #[false, false, false, false, false, false, false, false, false, false, false, false, false, false, false] (by kernel_rfl) rfl rfl ⟨hx280_0, hx280_1, hx281_0⟩ (fun hHeld => ?_); refine with_tabW mailcoachref03_Set.tab8 mailcoachref03_Set.bits8 (fun HT_ HW_ => ?_)
                                    generalize wc.drew = w41 at HO_5 HO_6 HB hx280_0 hx280_1 hx281_0 hHeld ⊢
                                    refine pure_ (i := 0) (N := some 39) (v := ?_) (a' := ?_) #[true, false, false, false, false, false, false, false, false, false, false, false, false, false, false] rfl rfl (any_of HT_.out (by kernel_rfl)) (fun _ _ _ h => h) (Or.inl ⟨by rfl, ?_⟩) ?_ ?_
                                    rotate_left
                                    · intro w'
                                      go_simp
                                      with_reducible rfl
                                    rotate_left
                                    · simp only [Act.put, List.setIfInBounds_toArray, List.set_cons_zero, List.set_cons_succ, i64_w, i32_w]
                                      rfl
                                    refine pure_ (i := 1) (N := some 40) (v := ?_) (a' := ?_) #[true, true, false, false, false, false, false, false, false, false, false, false, false, false, false] rfl rfl (any_of HT_.out (by kernel_rfl)) (fun _ _ _ h => h) (Or.inl ⟨by rfl, ?_⟩) ?_ ?_
                                    rotate_left
                                    · intro w'
                                      go_simp
                                      with_reducible rfl
                                    rotate_left
                                    · simp only [Act.put, List.setIfInBounds_toArray, List.set_cons_zero, List.set_cons_succ, i64_w, i32_w]
                                      rfl
                                    refine pure_ (i := 2) (N := some 41) (v := ?_) (a' := ?_) #[true, true, true, false, false, false, false, false, false, false, false, false, false, false, false] rfl rfl (any_of HT_.out (by kernel_rfl)) (fun _ _ _ h => h) (Or.inl ⟨by rfl, ?_⟩) ?_ ?_
                                    rotate_left
                                    · intro w'
                                      go_simp
                                      with_reducible rfl
                                    rotate_left
                                    · simp only [Act.put, List.setIfInBounds_toArray, List.set_cons_zero, List.set_cons_succ, i64_w, i32_w]
                                      rfl
                                    refine pure_ (i := 3) (N := some 42) (v := ?_) (a' := ?_) #[true, true, true, true, false, false, false, false, false, false, false, false, false, false, false] rfl rfl (any_of HT_.out (by kernel_rfl)) (fun _ _ _ h => h) (Or.inl ⟨by rfl, ?_⟩) ?_ ?_
                                    rotate_left
                                    · intro w'
                                      go_simp
                                      with_reducible rfl
                                    rotate_left
                                    · simp only [Act.put, List.setIfInBounds_toArray, List.set_cons_zero, List.set_cons_succ, i64_w, i32_w]
                                      rfl
                                    refine pure_ (i := 4) (N := some 43) (v := ?_) (a' := ?_) #[true, true, true, true, true, false, false, false, false, false, false, false, false, false, false] rfl rfl (any_of HT_.out (by kernel_rfl)) (fun _ _ _ h => h) (Or.inl ⟨by rfl, ?_⟩) ?_ ?_
                                    rotate_left
                                    · intro w'
                                      go_simp
                                      with_reducible rfl
                                    rotate_left
                                    · simp only [Act.put, List.setIfInBounds_toArray, List.set_cons_zero, List.set_cons_succ, i64_w, i32_w]
                                      rfl
                                    refine pure_ (i := 5) (N := some 44) (v := ?_) (a' := ?_) #[true, true, true, true, true, true, false, false, false, false, false, false, false, false, false] rfl rfl (any_of HT_.out (by kernel_rfl)) (fun _ _ _ h => h) (Or.inl ⟨by rfl, ?_⟩) ?_ ?_
                                    rotate_left
                                    · intro w'
                                      go_simp
                                      with_reducible rfl
                                    rotate_left
                                    · simp only [Act.put, List.setIfInBounds_toArray, List.set_cons_zero, List.set_cons_succ, i64_w, i32_w]
                                      rfl
                                    refine pure_ (i := 6) (N := some 45) (v := ?_) (a' := ?_) #[true, true, true, true, true, true, true, false, false, false, false, false, false, false, false] rfl rfl (any_of HT_.out (by kernel_rfl)) (fun _ _ _ h => h) (Or.inl ⟨by rfl, ?_⟩) ?_ ?_
                                    rotate_left
                                    · intro w'
                                      go_simp
                                      with_reducible rfl
                                    rotate_left
                                    · simp only [Act.put, List.setIfInBounds_toArray, List.set_cons_zero, List.set_cons_succ, i64_w, i32_w]
                                      rfl
                                    refine pure_ (i := 7) (N := some 46) (v := ?_) (a' := ?_) #[true, true, true, true, true, true, true, true, false, false, false, false, false, false, false] rfl rfl (any_of HT_.out (by kernel_rfl)) (fun _ _ _ h => h) (Or.inl ⟨by rfl, ?_⟩) ?_ ?_
                                    rotate_left
                                    · intro w'
                                      go_simp
                                      with_reducible rfl
                                    rotate_left
                                    · simp only [Act.put, List.setIfInBounds_toArray, List.set_cons_zero, List.set_cons_succ, i64_w, i32_w]
                                      rfl
                                    refine pure_ (i := 9) (N := some 48) (v := ?_) (a' := ?_) #[true, true, true, true, true, true, true, true, false, true, false, false, false, false, false] rfl rfl (any_of HT_.out (by kernel_rfl)) (fun _ _ _ h => h) (Or.inl ⟨by rfl, ?_⟩) ?_ ?_
                                    rotate_left
                                    · intro w'
                                      go_simp
                                      with_reducible rfl
                                    rotate_left
                                    · simp only [Act.put, List.setIfInBounds_toArray, List.set_cons_zero, List.set_cons_succ, i64_w, i32_w]
                                      rfl
                                    refine pure_ (i := 10) (N := some 49) (v := ?_) (a' := ?_) #[true, true, true, true, true, true, true, true, false, true, true, false, false, false, false] rfl rfl (any_of HT_.out (by kernel_rfl)) (fun _ _ _ h => h) (Or.inl ⟨by rfl, ?_⟩) ?_ ?_
                                    rotate_left
                                    · intro w'
                                      go_simp
                                      with_reducible rfl
                                    rotate_left
                                    · simp only [Act.put, List.setIfInBounds_toArray, List.set_cons_zero, List.set_cons_succ, i64_w, i32_w]
                                      rfl
                                    refine pure_ (i := 11) (N := some 50) (v := ?_) (a' := ?_) #[true, true, true, true, true, true, true, true, false, true, true, true, false, false, false] rfl rfl (any_of HT_.out (by kernel_rfl)) (fun _ _ _ h => h) (Or.inl ⟨by rfl, ?_⟩) ?_ ?_
                                    rotate_left
                                    · intro w'
                                      go_simp
                                      with_reducible rfl
                                    rotate_left
                                    · simp only [Act.put, List.setIfInBounds_toArray, List.set_cons_zero, List.set_cons_succ, i64_w, i32_w]
                                      rfl
                                    refine take_ (i := 8) (N := some 47) (v := ?_) (a' := ?_) #[true, true, true, true, true, true, true, true, true, true, true, true, false, false, false] rfl rfl (take_ofW HT_.out HW_.out (by kernel_rfl)) (fun _ _ _ h => h) (Or.inl ⟨by rfl, ?_⟩) hHeld ?_ ?_
                                    rotate_left
                                    · rintro w' ⟨s0, s1, s2⟩
                                      go_simp
                                      with_reducible rfl
                                    rotate_left
                                    · simp only [Act.put, List.setIfInBounds_toArray, List.set_cons_zero, List.set_cons_succ, i64_w, i32_w]
                                      rfl
                                    refine take_ (i := 12) (N := some 51) (v := ?_) (a' := ?_) #[true, true, true, true, true, true, true, true, true, true, true, true, true, false, false] rfl rfl (take_ofW HT_.out HW_.out (by kernel_rfl)) (fun _ _ _ h => h) (Or.inl ⟨by rfl, ?_⟩) hHeld ?_ ?_
                                    rotate_left
                                    · rintro w' ⟨s0, s1, s2⟩
                                      go_simp
                                      with_reducible rfl
                                    rotate_left
                                    · simp only [Act.put, List.setIfInBounds_toArray, List.set_cons_zero, List.set_cons_succ, i64_w, i32_w]
                                      rfl
                                    refine pure_ (i := 13) (N := some 52) (v := ?_) (a' := ?_) #[true, true, true, true, true, true, true, true, true, true, true, true, true, true, false] rfl rfl (any_of HT_.out (by kernel_rfl)) (fun _ _ _ h => h) (Or.inl ⟨by rfl, ?_⟩) ?_ ?_
                                    rotate_left
                                    · intro w'
                                      go_simp
                                      with_reducible rfl
                                    rotate_left
                                    · simp only [Act.put, List.setIfInBounds_toArray, List.set_cons_zero, List.set_cons_succ, i64_w, i32_w]
                                      rfl
                                    refine pure_ (i := 14) (N := some 53) (v := ?_) (a' := ?_) #[true, true, true, true, true, true, true, true, true, true, true, true, true, true, true] rfl rfl (any_of HT_.out (by kernel_rfl)) (fun _ _ _ h => h) (Or.inl ⟨by rfl, ?_⟩) ?_ ?_
                                    rotate_left
                                    · intro w'
                                      go_simp
                                      with_reducible rfl
                                    rotate_left
                                    · simp only [Act.put, List.setIfInBounds_toArray, List.set_cons_zero, List.set_cons_succ, i64_w, i32_w]
                                      rfl
                                    refine done_ (done_of HT_.out (by kernel_rfl)) ?_
                                    try go_wp2
                                    have n0_ := Aside0.mk (Kd.R_drew HO_5.out)
                                    have n1_ := Aside0.mk (Kd.R_drew HO_6.out)
                                    have n2_ := Aside0.mk (below_drew1 HB.out)
                                    clear HO_5
                                    clear HO_6
                                    clear HB
                                    have HO_5 := n0_
                                    have HO_6 := n1_
                                    have HB := n2_
                                    clear n0_ n1_ n2_
                                    have p284 : 0 ≤ (x7_1 : Int) := of_decide_eq_true (by first | (with_reducible assumption) | assumption)
                                    have q284 : x7_1 < (t273.length : Int) := of_decide_eq_true (by first | (with_reducible assumption) | assumption)
                                    obtain ⟨ad284, e284, hx284_0⟩ := Kd.at_int (Kd.R_reads' HO_5.out).2.2 x7_1 p284 q284
                                    obtain rfl : ad281 = ad284 := (by injection e284)
                                    replace p284 := eq_true p284
                                    replace q284 := eq_true q284
                                    have p285 : 0 ≤ ((ji36) : Int) := of_decide_eq_true (by first | (with_reducible assumption) | assumption)
                                    have q285 : (ji36) < (t273.length : Int) := of_decide_eq_true (by first | (with_reducible assumption) | assumption)
                                    obtain ⟨ad285, e285, hx285_0⟩ := Kd.at_int (Kd.R_reads' HO_5.out).2.2 (ji36) p285 q285
                                    obtain rfl : ad281 = ad285 := (by injection e285)
                                    replace p285 := eq_true p285
                                    replace q285 := eq_true q285
                                    refine start_ (n := 14) (S := fun w' => w'.cell? (ad281.add (x7_1).toNat) = some (.int .u64 (rd t273 x7_1)) ∧ w'.cell? (ad281.add ((ji36)).toNat) = some (.int .u64 (rd t273 (ji36)))) (ds := [11, 12]) #[false, false, false, false, false, false, false, false, false, false, false, false, false, false] (by kernel_rfl) rfl rfl ⟨hx284_0, hx285_0⟩ (fun hHeld => ?_); refine with_tabW mailcoachref03_Set.tab10 mailcoachref03_Set.bits10 (fun HT_ HW_ => ?_)
                                    generalize w41.drew = w42 at HO_5 HO_6 HB hx284_0 hx285_0 hHeld ⊢
                                    refine pure_ (i := 0) (N := some 64) (v := ?_) (a' := ?_) #[true, false, false, false, false, false, false, false, false, false, false, false, false, false] rfl rfl (any_of HT_.out (by kernel_rfl)) (fun _ _ _ h => h) (Or.inl ⟨by rfl, ?_⟩) ?_ ?_
                                    rotate_left
                                    · intro w'
                                      go_simp
                                      with_reducible rfl
                                    rotate_left
                                    · simp only [Act.put, List.setIfInBounds_toArray, List.set_cons_zero, List.set_cons_succ, i64_w, i32_w]
                                      rfl
                                    refine pure_ (i := 1) (N := some 65) (v := ?_) (a' := ?_) #[true, true, false, false, false, false, false, false, false, false, false, false, false, false] rfl rfl (any_of HT_.out (by kernel_rfl)) (fun _ _ _ h => h) (Or.inl ⟨by rfl, ?_⟩) ?_ ?_
                                    rotate_left
                                    · intro w'
                                      go_simp
                                      with_reducible rfl
                                    rotate_left
                                    · simp only [Act.put, List.setIfInBounds_toArray, List.set_cons_zero, List.set_cons_succ, i64_w, i32_w]
                                      rfl
                                    refine pure_ (i := 2) (N := some 66) (v := ?_) (a' := ?_) #[true, true, true, false, false, false, false, false, false, false, false, false, false, false] rfl rfl (any_of HT_.out (by kernel_rfl)) (fun _ _ _ h => h) (Or.inl ⟨by rfl, ?_⟩) ?_ ?_
                                    rotate_left
                                    · intro w'
                                      go_simp
                                      with_reducible rfl
                                    rotate_left
                                    · simp only [Act.put, List.setIfInBounds_toArray, List.set_cons_zero, List.set_cons_succ, i64_w, i32_w]
                                      rfl
                                    refine pure_ (i := 3) (N := some 67) (v := ?_) (a' := ?_) #[true, true, true, true, false, false, false, false, false, false, false, false, false, false] rfl rfl (any_of HT_.out (by kernel_rfl)) (fun _ _ _ h => h) (Or.inl ⟨by rfl, ?_⟩) ?_ ?_
                                    rotate_left
                                    · intro w'
                                      go_simp
                                      with_reducible rfl
                                    rotate_left
                                    · simp only [Act.put, List.setIfInBounds_toArray, List.set_cons_zero, List.set_cons_succ, i64_w, i32_w]
                                      rfl
                                    refine pure_ (i := 5) (N := some 69) (v := ?_) (a' := ?_) #[true, true, true, true, false, true, false, false, false, false, false, false, false, false] rfl rfl (any_of HT_.out (by kernel_rfl)) (fun _ _ _ h => h) (Or.inl ⟨by rfl, ?_⟩) ?_ ?_
                                    rotate_left
                                    · intro w'
                                      go_simp
                                      with_reducible rfl
                                    rotate_left
                                    · simp only [Act.put, List.setIfInBounds_toArray, List.set_cons_zero, List.set_cons_succ, i64_w, i32_w]
                                      rfl
                                    refine pure_ (i := 6) (N := some 70) (v := ?_) (a' := ?_) #[true, true, true, true, false, true, true, false, false, false, false, false, false, false] rfl rfl (any_of HT_.out (by kernel_rfl)) (fun _ _ _ h => h) (Or.inl ⟨by rfl, ?_⟩) ?_ ?_
                                    rotate_left
                                    · intro w'
                                      go_simp
                                      with_reducible rfl
                                    rotate_left
                                    · simp only [Act.put, List.setIfInBounds_toArray, List.set_cons_zero, List.set_cons_succ, i64_w, i32_w]
                                      rfl
                                    refine pure_ (i := 7) (N := some 71) (v := ?_) (a' := ?_) #[true, true, true, true, false, true, true, true, false, false, false, false, false, false] rfl rfl (any_of HT_.out (by kernel_rfl)) (fun _ _ _ h => h) (Or.inl ⟨by rfl, ?_⟩) ?_ ?_
                                    rotate_left
                                    · intro w'
                                      go_simp
                                      with_reducible rfl
                                    rotate_left
                                    · simp only [Act.put, List.setIfInBounds_toArray, List.set_cons_zero, List.set_cons_succ, i64_w, i32_w]
                                      rfl
                                    refine pure_ (i := 8) (N := some 72) (v := ?_) (a' := ?_) #[true, true, true, true, false, true, true, true, true, false, false, false, false, false] rfl rfl (any_of HT_.out (by kernel_rfl)) (fun _ _ _ h => h) (Or.inl ⟨by rfl, ?_⟩) ?_ ?_
                                    rotate_left
                                    · intro w'
                                      go_simp
                                      with_reducible rfl
                                    rotate_left
                                    · simp only [Act.put, List.setIfInBounds_toArray, List.set_cons_zero, List.set_cons_succ, i64_w, i32_w]
                                      rfl
                                    refine take_ (i := 4) (N := some 68) (v := ?_) (a' := ?_) #[true, true, true, true, true, true, true, true, true, false, false, false, false, false] rfl rfl (take_ofW HT_.out HW_.out (by kernel_rfl)) (fun _ _ _ h => h) (Or.inl ⟨by rfl, ?_⟩) hHeld ?_ ?_
                                    rotate_left
                                    · rintro w' ⟨s0, s1⟩
                                      go_simp
                                      with_reducible rfl
                                    rotate_left
                                    · simp only [Act.put, List.setIfInBounds_toArray, List.set_cons_zero, List.set_cons_succ, i64_w, i32_w]
                                      rfl
                                    refine take_ (i := 9) (N := some 73) (v := ?_) (a' := ?_) #[true, true, true, true, true, true, true, true, true, true, false, false, false, false] rfl rfl (take_ofW HT_.out HW_.out (by kernel_rfl)) (fun _ _ _ h => h) (Or.inl ⟨by rfl, ?_⟩) hHeld ?_ ?_
                                    rotate_left
                                    · rintro w' ⟨s0, s1⟩
                                      go_simp
                                      with_reducible rfl
                                    rotate_left
                                    · simp only [Act.put, List.setIfInBounds_toArray, List.set_cons_zero, List.set_cons_succ, i64_w, i32_w]
                                      rfl
                                    refine pure_ (i := 10) (N := some 74) (v := ?_) (a' := ?_) #[true, true, true, true, true, true, true, true, true, true, true, false, false, false] rfl rfl (any_of HT_.out (by kernel_rfl)) (fun _ _ _ h => h) (Or.inl ⟨by rfl, ?_⟩) ?_ ?_
                                    rotate_left
                                    · intro w'
                                      go_simp
                                      with_reducible rfl
                                    rotate_left
                                    · simp only [Act.put, List.setIfInBounds_toArray, List.set_cons_zero, List.set_cons_succ, i64_w, i32_w]
                                      rfl
                                    refine last_ (i := 11) (N := some 75) #[true, true, true, true, true, true, true, true, true, true, true, true, false, false] rfl rfl (one_of HT_.out (by kernel_rfl)) (by decide) (fun K hK => ?_)
                                    refine value_ (w1 := ?_) (v := ?_) (by rfl) rfl ?_ ?_
                                    rotate_left 2
                                    · go_simp
                                      constructor
                                      · rfl
                                      · rfl
                                    refine hK.out _ _ ?_
                                    clear hK K
                                    refine norm_ (a' := ?_) ?_ ?_
                                    rotate_left
                                    · show Act.put _ (some 75) _ = _
                                      simp only [Act.put, List.setIfInBounds_toArray, List.set_cons_zero, List.set_cons_succ, i64_w, i32_w]
                                      rfl
                                    refine last_ (i := 12) (N := some 76) #[true, true, true, true, true, true, true, true, true, true, true, true, true, false] rfl rfl (one_of HT_.out (by kernel_rfl)) (by decide) (fun K hK => ?_)
                                    refine Kd.R_append_step k25 (w0 := w) w.heap.size (by rfl) (.tmp 64) (.tmp 75) 22 25 (.agg #[(.int .u64 0), (.int .u64 0)]) 16 rfl Try.underlying22 info25 rfl (by decide) (by omega) (.slice (some ad280) x6_1.length co40) x6_1 (⟨rd t273 x7_1, rd t273 (ji36)⟩ : S25) [.int .u64 (rd t273 x7_1), .int .u64 (rd t273 (ji36))] (fun _ => True) (fun _ => False) rfl rfl ?aP (fun _ hk => hk.elim) ?aF ?aO ?aB ?aS ?aL ?_
                                    (case aP => exact k25_mkM _ _ _ (⟨rd t273 x7_1, rd t273 (ji36)⟩ : S25))
                                    (case aB => exact (by repeat (first | (with_reducible first | exact HB.out | apply below_alloc | apply pw_below_drewN | apply below_drew1) | exact HB.out)))
                                    (case aF => exact (fun _ _ => trivial))
                                    (case aO => exact (by (with_reducible repeat (first | apply Kd.R_alloc | apply Kd.R_drewN | apply Kd.R_drew)); exact HO_6.out))
                                    (case aS => exact (below_size (by repeat (first | (with_reducible first | exact HB.out | apply below_alloc | apply pw_below_drewN | apply below_drew1) | exact HB.out))))
                                    (case aL => have := LMc39.out; omega)
                                    intro v287 w43 ho hb hg hat
                                    rw [← Ny286.out] at ho
                                    have n0_ := Aside0.mk (Kd.R_over' (by (with_reducible repeat (first | apply Kd.R_alloc | apply Kd.R_drewN | apply Kd.R_drew)); exact HO_5.out) (Kd.R_typed (by (with_reducible repeat (first | apply Kd.R_alloc | apply Kd.R_drewN | apply Kd.R_drew)); exact HO_6.out)) (by decide) hg)
                                    have n1_ := Aside0.mk (hb)
                                    have n2_ := Aside0.mk (ho)
                                    clear HO_5
                                    clear HB
                                    clear HO_6
                                    have HO_5 := n0_
                                    have HB := n1_
                                    have HO288 := n2_
                                    clear n0_ n1_ n2_
                                    clear ho hb hg hat
                                    refine hK.out _ _ ?_
                                    clear hK K
                                    refine norm_ (a' := ?_) ?_ ?_
                                    rotate_left
                                    · show Act.put _ (some 76) _ = _
                                      simp only [Act.put, List.setIfInBounds_toArray, List.set_cons_zero, List.set_cons_succ, i64_w, i32_w]
                                      rfl
                                    refine pure_ (i := 13) (N := some 6) (v := ?_) (a' := ?_) #[true, true, true, true, true, true, true, true, true, true, true, true, true, true] rfl rfl (any_of HT_.out (by kernel_rfl)) (fun _ _ _ h => h) (Or.inl ⟨by rfl, ?_⟩) ?_ ?_
                                    rotate_left
                                    · intro w'
                                      go_simp
                                      with_reducible rfl
                                    rotate_left
                                    · simp only [Act.put, List.setIfInBounds_toArray, List.set_cons_zero, List.set_cons_succ, i64_w, i32_w]
                                      rfl
                                    refine done_ (done_of HT_.out (by kernel_rfl)) ?_
                                    try go_wp2
                                    go_roundg kj12
                                    case measure => have := HK1.out; have := HJ12.out; omega
                                    case rel => exact ⟨(y286), (ji36), (by first | rfl | (simp; done) | (simp only [← hji36] <;> (first | rfl | simp)) | (simp [*]; done)), H', ⟨by have := HK1.out; have := HJ12.out; omega⟩, ⟨by (with_reducible repeat (first | apply Kd.R_alloc | apply Kd.R_drewN | apply Kd.R_drew)); exact HO_5.out⟩, ⟨by (with_reducible repeat (first | apply Kd.R_alloc | apply Kd.R_drewN | apply Kd.R_drew)); exact HO288.out⟩, ⟨by repeat (first | (with_reducible first | exact HB.out | apply below_alloc | apply pw_below_drewN | apply below_drew1) | exact HB.out)⟩⟩
                                  · rw [if_neg c39] at H
                                    exact absurd H (by simp)
                                · rw [if_neg c38] at H
                                  exact absurd H (by simp)
                              · rw [if_neg c37] at H
                                exact absurd H (by simp)
                          · rw [if_neg c26] at H
                            exact absurd H (by simp)
                        · rw [if_neg c25] at H
                          exact absurd H (by simp)
                      · rw [if_neg c24] at H
                        exact absurd H (by simp)
                    · rw [if_neg c23] at H
                      exact absurd H (by simp)
                  · rw [if_neg c21] at H
                    have c21b0 : decide (0 < (x6_1.length : Int)) = false := decide_eq_false c21
                    have c21b1 : decide (0 < x6_1.length) = false := decide_eq_false (by omega)
                    clear c21
                    by_cases c44 : 0 ≤ x7_1
                    · rw [if_pos c44] at H
                      have c44b0 : decide (0 ≤ x7_1) = true := decide_eq_true c44
                      clear c44
                      by_cases c45 : x7_1 < (t273.length : Int)
                      · rw [if_pos c45] at H
                        have c45b0 : decide (x7_1 < (t273.length : Int)) = true := decide_eq_true c45
                        clear c45
                        obtain ⟨ji46, hji46⟩ : ∃ j_ : Int, (wrap64 (x7_1 + 1)) = j_ := ⟨_, rfl⟩
                        replace H : (if 0 ≤ (ji46) then (if (ji46) < (t273.length : Int) then (if x6_1.length < 8796093022208 then (mailcoachref03_Set.l0 kj12 l0 l1 t273 (x6_1 ++ [(⟨rd t273 x7_1, rd t273 (ji46)⟩ : S25)]) ji46) else (none)) else (none)) else (none)) = some r := by first | (rw [hji46] at H; exact H) | (simp only [hji46] at H ⊢; exact H)
                        (try rw [hji46] at c12b0)
                        have hji46w : (IntKind.i64.wrap (x7_1 + 1)) = ji46 := (i64_w _).trans hji46
                        by_cases c47 : 0 ≤ (ji46)
                        · rw [if_pos c47] at H
                          have c47b0 : decide (0 ≤ (ji46)) = true := decide_eq_true c47
                          clear c47
                          by_cases c48 : (ji46) < (t273.length : Int)
                          · rw [if_pos c48] at H
                            have c48b0 : decide ((ji46) < (t273.length : Int)) = true := decide_eq_true c48
                            clear c48
                            by_cases c49 : x6_1.length < 8796093022208
                            · rw [if_pos c49] at H
                              have LMc49 := Aside0.mk c49
                              clear c49
                              obtain ⟨y291, hy291⟩ : ∃ y_ : List (S25), y_ = (x6_1 ++ [(⟨rd t273 x7_1, rd t273 (ji46)⟩ : S25)]) := ⟨_, rfl⟩
                              replace H : (mailcoachref03_Set.l0 kj12 l0 l1 t273 y291 ji46) = some r := by first | (rw [hy291]; with_reducible exact H) | (have H2_ := (Option.bind_some _ _).symm.trans H; rw [hy291]; with_reducible exact H2_) | (have H2_ := (Option.bind_some _ _).symm.trans H; with_reducible exact H2_) | with_reducible exact H | (rw [hy291]; exact H) | exact H
                              have Ny291 := Aside0.mk hy291
                              clear hy291
                              have H' := Aside0.mk H
                              clear H
                              obtain ⟨Ao50, co50, eo50⟩ := Kd.R_slice HO_6.out
                              subst eo50
                              try go_wp2
                              have n0_ := Aside0.mk (Kd.R_drew HO_5.out)
                              have n1_ := Aside0.mk (Kd.R_drew HO_6.out)
                              have n2_ := Aside0.mk (below_drew1 HB.out)
                              clear HO_5
                              clear HO_6
                              clear HB
                              have HO_5 := n0_
                              have HO_6 := n1_
                              have HB := n2_
                              clear n0_ n1_ n2_
                              refine start_ (n := 15) (S := fun w' => True) (ds := []) #[false, false, false, false, false, false, false, false, false, false, false, false, false, false, false] (by kernel_rfl) rfl rfl trivial (fun hHeld => ?_); refine with_tabW mailcoachref03_Set.tab8 mailcoachref03_Set.bits8 (fun HT_ HW_ => ?_)
                              generalize wc.drew = w51 at HO_5 HO_6 HB hHeld ⊢
                              refine pure_ (i := 0) (N := some 39) (v := ?_) (a' := ?_) #[true, false, false, false, false, false, false, false, false, false, false, false, false, false, false] rfl rfl (any_of HT_.out (by kernel_rfl)) (fun _ _ _ h => h) (Or.inl ⟨by rfl, ?_⟩) ?_ ?_
                              rotate_left
                              · intro w'
                                go_simp
                                with_reducible rfl
                              rotate_left
                              · simp only [Act.put, List.setIfInBounds_toArray, List.set_cons_zero, List.set_cons_succ, i64_w, i32_w]
                                rfl
                              refine pure_ (i := 1) (N := some 40) (v := ?_) (a' := ?_) #[true, true, false, false, false, false, false, false, false, false, false, false, false, false, false] rfl rfl (any_of HT_.out (by kernel_rfl)) (fun _ _ _ h => h) (Or.inl ⟨by rfl, ?_⟩) ?_ ?_
                              rotate_left
                              · intro w'
                                go_simp
                                with_reducible rfl
                              rotate_left
                              · simp only [Act.put, List.setIfInBounds_toArray, List.set_cons_zero, List.set_cons_succ, i64_w, i32_w]
                                rfl
                              refine pure_ (i := 2) (N := some 41) (v := ?_) (a' := ?_) #[true, true, true, false, false, false, false, false, false, false, false, false, false, false, false] rfl rfl (any_of HT_.out (by kernel_rfl)) (fun _ _ _ h => h) (Or.inl ⟨by rfl, ?_⟩) ?_ ?_
                              rotate_left
                              · intro w'
                                go_simp
                                with_reducible rfl
                              rotate_left
                              · simp only [Act.put, List.setIfInBounds_toArray, List.set_cons_zero, List.set_cons_succ, i64_w, i32_w]
                                rfl
                              refine pure_ (i := 3) (N := some 42) (v := undef) (a' := ?_) #[true, true, true, true, false, false, false, false, false, false, false, false, false, false, false] rfl rfl (any_of HT_.out (by kernel_rfl)) (fun _ _ _ h => h) (Or.inr ⟨by rfl, rfl⟩) ?_ ?_
                              rotate_left
                              · simp only [Act.put, List.setIfInBounds_toArray, List.set_cons_zero, List.set_cons_succ, i64_w, i32_w]
                                rfl
                              refine pure_ (i := 4) (N := some 43) (v := undef) (a' := ?_) #[true, true, true, true, true, false, false, false, false, false, false, false, false, false, false] rfl rfl (any_of HT_.out (by kernel_rfl)) (fun _ _ _ h => h) (Or.inr ⟨by rfl, rfl⟩) ?_ ?_
                              rotate_left
                              · simp only [Act.put, List.setIfInBounds_toArray, List.set_cons_zero, List.set_cons_succ, i64_w, i32_w]
                                rfl
                              refine pure_ (i := 5) (N := some 44) (v := undef) (a' := ?_) #[true, true, true, true, true, true, false, false, false, false, false, false, false, false, false] rfl rfl (any_of HT_.out (by kernel_rfl)) (fun _ _ _ h => h) (Or.inr ⟨by rfl, rfl⟩) ?_ ?_
                              rotate_left
                              · simp only [Act.put, List.setIfInBounds_toArray, List.set_cons_zero, List.set_cons_succ, i64_w, i32_w]
                                rfl
                              refine pure_ (i := 6) (N := some 45) (v := undef) (a' := ?_) #[true, true, true, true, true, true, true, false, false, false, false, false, false, false, false] rfl rfl (any_of HT_.out (by kernel_rfl)) (fun _ _ _ h => h) (Or.inr ⟨by rfl, rfl⟩) ?_ ?_
                              rotate_left
                              · simp only [Act.put, List.setIfInBounds_toArray, List.set_cons_zero, List.set_cons_succ, i64_w, i32_w]
                                rfl
                              refine pure_ (i := 7) (N := some 46) (v := undef) (a' := ?_) #[true, true, true, true, true, true, true, true, false, false, false, false, false, false, false] rfl rfl (any_of HT_.out (by kernel_rfl)) (fun _ _ _ h => h) (Or.inr ⟨by rfl, rfl⟩) ?_ ?_
                              rotate_left
                              · simp only [Act.put, List.setIfInBounds_toArray, List.set_cons_zero, List.set_cons_succ, i64_w, i32_w]
                                rfl
                              refine pure_ (i := 8) (N := some 47) (v := undef) (a' := ?_) #[true, true, true, true, true, true, true, true, true, false, false, false, false, false, false] rfl rfl (any_of HT_.out (by kernel_rfl)) (fun _ _ _ h => h) (Or.inr ⟨by rfl, rfl⟩) ?_ ?_
                              rotate_left
                              · simp only [Act.put, List.setIfInBounds_toArray, List.set_cons_zero, List.set_cons_succ, i64_w, i32_w]
                                rfl
                              refine pure_ (i := 9) (N := some 48) (v := undef) (a' := ?_) #[true, true, true, true, true, true, true, true, true, true, false, false, false, false, false] rfl rfl (any_of HT_.out (by kernel_rfl)) (fun _ _ _ h => h) (Or.inr ⟨by rfl, rfl⟩) ?_ ?_
                              rotate_left
                              · simp only [Act.put, List.setIfInBounds_toArray, List.set_cons_zero, List.set_cons_succ, i64_w, i32_w]
                                rfl
                              refine pure_ (i := 10) (N := some 49) (v := undef) (a' := ?_) #[true, true, true, true, true, true, true, true, true, true, true, false, false, false, false] rfl rfl (any_of HT_.out (by kernel_rfl)) (fun _ _ _ h => h) (Or.inr ⟨by rfl, rfl⟩) ?_ ?_
                              rotate_left
                              · simp only [Act.put, List.setIfInBounds_toArray, List.set_cons_zero, List.set_cons_succ, i64_w, i32_w]
                                rfl
                              refine pure_ (i := 11) (N := some 50) (v := undef) (a' := ?_) #[true, true, true, true, true, true, true, true, true, true, true, true, false, false, false] rfl rfl (any_of HT_.out (by kernel_rfl)) (fun _ _ _ h => h) (Or.inr ⟨by rfl, rfl⟩) ?_ ?_
                              rotate_left
                              · simp only [Act.put, List.setIfInBounds_toArray, List.set_cons_zero, List.set_cons_succ, i64_w, i32_w]
                                rfl
                              refine pure_ (i := 12) (N := some 51) (v := undef) (a' := ?_) #[true, true, true, true, true, true, true, true, true, true, true, true, true, false, false] rfl rfl (any_of HT_.out (by kernel_rfl)) (fun _ _ _ h => h) (Or.inr ⟨by rfl, rfl⟩) ?_ ?_
                              rotate_left
                              · simp only [Act.put, List.setIfInBounds_toArray, List.set_cons_zero, List.set_cons_succ, i64_w, i32_w]
                                rfl
                              refine pure_ (i := 13) (N := some 52) (v := undef) (a' := ?_) #[true, true, true, true, true, true, true, true, true, true, true, true, true, true, false] rfl rfl (any_of HT_.out (by kernel_rfl)) (fun _ _ _ h => h) (Or.inr ⟨by rfl, rfl⟩) ?_ ?_
                              rotate_left
                              · simp only [Act.put, List.setIfInBounds_toArray, List.set_cons_zero, List.set_cons_succ, i64_w, i32_w]
                                rfl
                              refine pure_ (i := 14) (N := some 53) (v := ?_) (a' := ?_) #[true, true, true, true, true, true, true, true, true, true, true, true, true, true, true] rfl rfl (any_of HT_.out (by kernel_rfl)) (fun _ _ _ h => h) (Or.inl ⟨by rfl, ?_⟩) ?_ ?_
                              rotate_left
                              · intro w'
                                go_simp
                                with_reducible rfl
                              rotate_left
                              · simp only [Act.put, List.setIfInBounds_toArray, List.set_cons_zero, List.set_cons_succ, i64_w, i32_w]
                                rfl
                              refine done_ (done_of HT_.out (by kernel_rfl)) ?_
                              try go_wp2
                              have n0_ := Aside0.mk (Kd.R_drew HO_5.out)
                              have n1_ := Aside0.mk (Kd.R_drew HO_6.out)
                              have n2_ := Aside0.mk (below_drew1 HB.out)
                              clear HO_5
                              clear HO_6
                              clear HB
                              have HO_5 := n0_
                              have HO_6 := n1_
                              have HB := n2_
                              clear n0_ n1_ n2_
                              have p289 : 0 ≤ (x7_1 : Int) := of_decide_eq_true (by first | (with_reducible assumption) | assumption)
                              have q289 : x7_1 < (t273.length : Int) := of_decide_eq_true (by first | (with_reducible assumption) | assumption)
                              obtain ⟨ad289, e289, hx289_0⟩ := Kd.at_int (Kd.R_reads' HO_5.out).2.2 x7_1 p289 q289
                              cases e289
                              replace p289 := eq_true p289
                              replace q289 := eq_true q289
                              have p290 : 0 ≤ ((ji46) : Int) := of_decide_eq_true (by first | (with_reducible assumption) | assumption)
                              have q290 : (ji46) < (t273.length : Int) := of_decide_eq_true (by first | (with_reducible assumption) | assumption)
                              obtain ⟨ad290, e290, hx290_0⟩ := Kd.at_int (Kd.R_reads' HO_5.out).2.2 (ji46) p290 q290
                              obtain rfl : ad289 = ad290 := (by injection e290)
                              replace p290 := eq_true p290
                              replace q290 := eq_true q290
                              refine start_ (n := 14) (S := fun w' => w'.cell? (ad289.add (x7_1).toNat) = some (.int .u64 (rd t273 x7_1)) ∧ w'.cell? (ad289.add ((ji46)).toNat) = some (.int .u64 (rd t273 (ji46)))) (ds := [11, 12]) #[false, false, false, false, false, false, false, false, false, false, false, false, false, false] (by kernel_rfl) rfl rfl ⟨hx289_0, hx290_0⟩ (fun hHeld => ?_); refine with_tabW mailcoachref03_Set.tab10 mailcoachref03_Set.bits10 (fun HT_ HW_ => ?_)
                              generalize w51.drew = w52 at HO_5 HO_6 HB hx289_0 hx290_0 hHeld ⊢
                              refine pure_ (i := 0) (N := some 64) (v := ?_) (a' := ?_) #[true, false, false, false, false, false, false, false, false, false, false, false, false, false] rfl rfl (any_of HT_.out (by kernel_rfl)) (fun _ _ _ h => h) (Or.inl ⟨by rfl, ?_⟩) ?_ ?_
                              rotate_left
                              · intro w'
                                go_simp
                                with_reducible rfl
                              rotate_left
                              · simp only [Act.put, List.setIfInBounds_toArray, List.set_cons_zero, List.set_cons_succ, i64_w, i32_w]
                                rfl
                              refine pure_ (i := 1) (N := some 65) (v := ?_) (a' := ?_) #[true, true, false, false, false, false, false, false, false, false, false, false, false, false] rfl rfl (any_of HT_.out (by kernel_rfl)) (fun _ _ _ h => h) (Or.inl ⟨by rfl, ?_⟩) ?_ ?_
                              rotate_left
                              · intro w'
                                go_simp
                                with_reducible rfl
                              rotate_left
                              · simp only [Act.put, List.setIfInBounds_toArray, List.set_cons_zero, List.set_cons_succ, i64_w, i32_w]
                                rfl
                              refine pure_ (i := 2) (N := some 66) (v := ?_) (a' := ?_) #[true, true, true, false, false, false, false, false, false, false, false, false, false, false] rfl rfl (any_of HT_.out (by kernel_rfl)) (fun _ _ _ h => h) (Or.inl ⟨by rfl, ?_⟩) ?_ ?_
                              rotate_left
                              · intro w'
                                go_simp
                                with_reducible rfl
                              rotate_left
                              · simp only [Act.put, List.setIfInBounds_toArray, List.set_cons_zero, List.set_cons_succ, i64_w, i32_w]
                                rfl
                              refine pure_ (i := 3) (N := some 67) (v := ?_) (a' := ?_) #[true, true, true, true, false, false, false, false, false, false, false, false, false, false] rfl rfl (any_of HT_.out (by kernel_rfl)) (fun _ _ _ h => h) (Or.inl ⟨by rfl, ?_⟩) ?_ ?_
                              rotate_left
                              · intro w'
                                go_simp
                                with_reducible rfl
                              rotate_left
                              · simp only [Act.put, List.setIfInBounds_toArray, List.set_cons_zero, List.set_cons_succ, i64_w, i32_w]
                                rfl
                              refine pure_ (i := 5) (N := some 69) (v := ?_) (a' := ?_) #[true, true, true, true, false, true, false, false, false, false, false, false, false, false] rfl rfl (any_of HT_.out (by kernel_rfl)) (fun _ _ _ h => h) (Or.inl ⟨by rfl, ?_⟩) ?_ ?_
                              rotate_left
                              · intro w'
                                go_simp
                                with_reducible rfl
                              rotate_left
                              · simp only [Act.put, List.setIfInBounds_toArray, List.set_cons_zero, List.set_cons_succ, i64_w, i32_w]
                                rfl
                              refine pure_ (i := 6) (N := some 70) (v := ?_) (a' := ?_) #[true, true, true, true, false, true, true, false, false, false, false, false, false, false] rfl rfl (any_of HT_.out (by kernel_rfl)) (fun _ _ _ h => h) (Or.inl ⟨by rfl, ?_⟩) ?_ ?_
                              rotate_left
                              · intro w'
                                go_simp
                                with_reducible rfl
                              rotate_left
                              · simp only [Act.put, List.setIfInBounds_toArray, List.set_cons_zero, List.set_cons_succ, i64_w, i32_w]
                                rfl
                              refine pure_ (i := 7) (N := some 71) (v := ?_) (a' := ?_) #[true, true, true, true, false, true, true, true, false, false, false, false, false, false] rfl rfl (any_of HT_.out (by kernel_rfl)) (fun _ _ _ h => h) (Or.inl ⟨by rfl, ?_⟩) ?_ ?_
                              rotate_left
                              · intro w'
                                go_simp
                                with_reducible rfl
                              rotate_left
                              · simp only [Act.put, List.setIfInBounds_toArray, List.set_cons_zero, List.set_cons_succ, i64_w, i32_w]
                                rfl
                              refine pure_ (i := 8) (N := some 72) (v := ?_) (a' := ?_) #[true, true, true, true, false, true, true, true, true, false, false, false, false, false] rfl rfl (any_of HT_.out (by kernel_rfl)) (fun _ _ _ h => h) (Or.inl ⟨by rfl, ?_⟩) ?_ ?_
                              rotate_left
                              · intro w'
                                go_simp
                                with_reducible rfl
                              rotate_left
                              · simp only [Act.put, List.setIfInBounds_toArray, List.set_cons_zero, List.set_cons_succ, i64_w, i32_w]
                                rfl
                              refine take_ (i := 4) (N := some 68) (v := ?_) (a' := ?_) #[true, true, true, true, true, true, true, true, true, false, false, false, false, false] rfl rfl (take_ofW HT_.out HW_.out (by kernel_rfl)) (fun _ _ _ h => h) (Or.inl ⟨by rfl, ?_⟩) hHeld ?_ ?_
                              rotate_left
                              · rintro w' ⟨s0, s1⟩
                                go_simp
                                with_reducible rfl
                              rotate_left
                              · simp only [Act.put, List.setIfInBounds_toArray, List.set_cons_zero, List.set_cons_succ, i64_w, i32_w]
                                rfl
                              refine take_ (i := 9) (N := some 73) (v := ?_) (a' := ?_) #[true, true, true, true, true, true, true, true, true, true, false, false, false, false] rfl rfl (take_ofW HT_.out HW_.out (by kernel_rfl)) (fun _ _ _ h => h) (Or.inl ⟨by rfl, ?_⟩) hHeld ?_ ?_
                              rotate_left
                              · rintro w' ⟨s0, s1⟩
                                go_simp
                                with_reducible rfl
                              rotate_left
                              · simp only [Act.put, List.setIfInBounds_toArray, List.set_cons_zero, List.set_cons_succ, i64_w, i32_w]
                                rfl
                              refine pure_ (i := 10) (N := some 74) (v := ?_) (a' := ?_) #[true, true, true, true, true, true, true, true, true, true, true, false, false, false] rfl rfl (any_of HT_.out (by kernel_rfl)) (fun _ _ _ h => h) (Or.inl ⟨by rfl, ?_⟩) ?_ ?_
                              rotate_left
                              · intro w'
                                go_simp
                                with_reducible rfl
                              rotate_left
                              · simp only [Act.put, List.setIfInBounds_toArray, List.set_cons_zero, List.set_cons_succ, i64_w, i32_w]
                                rfl
                              refine last_ (i := 11) (N := some 75) #[true, true, true, true, true, true, true, true, true, true, true, true, false, false] rfl rfl (one_of HT_.out (by kernel_rfl)) (by decide) (fun K hK => ?_)
                              refine value_ (w1 := ?_) (v := ?_) (by rfl) rfl ?_ ?_
                              rotate_left 2
                              · go_simp
                                constructor
                                · rfl
                                · rfl
                              refine hK.out _ _ ?_
                              clear hK K
                              refine norm_ (a' := ?_) ?_ ?_
                              rotate_left
                              · show Act.put _ (some 75) _ = _
                                simp only [Act.put, List.setIfInBounds_toArray, List.set_cons_zero, List.set_cons_succ, i64_w, i32_w]
                                rfl
                              refine last_ (i := 12) (N := some 76) #[true, true, true, true, true, true, true, true, true, true, true, true, true, false] rfl rfl (one_of HT_.out (by kernel_rfl)) (by decide) (fun K hK => ?_)
                              refine Kd.R_append_step k25 (w0 := w) w.heap.size (by rfl) (.tmp 64) (.tmp 75) 22 25 (.agg #[(.int .u64 0), (.int .u64 0)]) 16 rfl Try.underlying22 info25 rfl (by decide) (by omega) (.slice Ao50 x6_1.length co50) x6_1 (⟨rd t273 x7_1, rd t273 (ji46)⟩ : S25) [.int .u64 (rd t273 x7_1), .int .u64 (rd t273 (ji46))] (fun _ => True) (fun _ => False) rfl rfl ?aP (fun _ hk => hk.elim) ?aF ?aO ?aB ?aS ?aL ?_
                              (case aP => exact k25_mkM _ _ _ (⟨rd t273 x7_1, rd t273 (ji46)⟩ : S25))
                              (case aB => exact (by repeat (first | (with_reducible first | exact HB.out | apply below_alloc | apply pw_below_drewN | apply below_drew1) | exact HB.out)))
                              (case aF => exact (fun _ _ => trivial))
                              (case aO => exact (by (with_reducible repeat (first | apply Kd.R_alloc | apply Kd.R_drewN | apply Kd.R_drew)); exact HO_6.out))
                              (case aS => exact (below_size (by repeat (first | (with_reducible first | exact HB.out | apply below_alloc | apply pw_below_drewN | apply below_drew1) | exact HB.out))))
                              (case aL => have := LMc49.out; omega)
                              intro v292 w53 ho hb hg hat
                              rw [← Ny291.out] at ho
                              have n0_ := Aside0.mk (Kd.R_over' (by (with_reducible repeat (first | apply Kd.R_alloc | apply Kd.R_drewN | apply Kd.R_drew)); exact HO_5.out) (Kd.R_typed (by (with_reducible repeat (first | apply Kd.R_alloc | apply Kd.R_drewN | apply Kd.R_drew)); exact HO_6.out)) (by decide) hg)
                              have n1_ := Aside0.mk (hb)
                              have n2_ := Aside0.mk (ho)
                              clear HO_5
                              clear HB
                              clear HO_6
                              have HO_5 := n0_
                              have HB := n1_
                              have HO293 := n2_
                              clear n0_ n1_ n2_
                              clear ho hb hg hat
                              refine hK.out _ _ ?_
                              clear hK K
                              refine norm_ (a' := ?_) ?_ ?_
                              rotate_left
                              · show Act.put _ (some 76) _ = _
                                simp only [Act.put, List.setIfInBounds_toArray, List.set_cons_zero, List.set_cons_succ, i64_w, i32_w]
                                rfl
                              refine pure_ (i := 13) (N := some 6) (v := ?_) (a' := ?_) #[true, true, true, true, true, true, true, true, true, true, true, true, true, true] rfl rfl (any_of HT_.out (by kernel_rfl)) (fun _ _ _ h => h) (Or.inl ⟨by rfl, ?_⟩) ?_ ?_
                              rotate_left
                              · intro w'
                                go_simp
                                with_reducible rfl
                              rotate_left
                              · simp only [Act.put, List.setIfInBounds_toArray, List.set_cons_zero, List.set_cons_succ, i64_w, i32_w]
                                rfl
                              refine done_ (done_of HT_.out (by kernel_rfl)) ?_
                              try go_wp2
                              go_roundg kj12
                              case measure => have := HK1.out; have := HJ12.out; omega
                              case rel => exact ⟨(y291), (ji46), (by first | rfl | (simp; done) | (simp only [← hji46] <;> (first | rfl | simp)) | (simp [*]; done)), H', ⟨by have := HK1.out; have := HJ12.out; omega⟩, ⟨by (with_reducible repeat (first | apply Kd.R_alloc | apply Kd.R_drewN | apply Kd.R_drew)); exact HO_5.out⟩, ⟨by (with_reducible repeat (first | apply Kd.R_alloc | apply Kd.R_drewN | apply Kd.R_drew)); exact HO293.out⟩, ⟨by repeat (first | (with_reducible first | exact HB.out | apply below_alloc | apply pw_below_drewN | apply below_drew1) | exact HB.out)⟩⟩
                            · rw [if_neg c49] at H
                              exact absurd H (by simp)
                          · rw [if_neg c48] at H
                            exact absurd H (by simp)
                        · rw [if_neg c47] at H
                          exact absurd H (by simp)
                      · rw [if_neg c45] at H
                        exact absurd H (by simp)
                    · rw [if_neg c44] at H
                      exact absurd H (by simp)
          · rw [if_neg c12] at H
            have c12b0 : decide ((wrap64 (x7_1 + 1)) < (t273.length : Int)) = false := decide_eq_false c12
            clear c12
            obtain rfl := Option.some.inj H
            obtain ⟨Ao54, co54, eo54⟩ := Kd.R_slice HO_5.out
            subst eo54
            go_wp2
            go_ret
            exact ⟨_, by first | rfl | (simp [errW_none, errW_some] <;> rfl) | (simp [*, errW_none, errW_some] <;> rfl), by (with_reducible repeat (first | apply Kd.R_alloc | apply Kd.R_drewN | apply Kd.R_drew)); exact HO_6.out, by repeat (first | (with_reducible first | exact HB.out | apply below_alloc | apply pw_below_drewN | apply below_drew1) | exact HB.out)⟩
    · rw [if_neg c4] at H
      exact absurd H (by simp)
  · rw [if_neg c3] at H
    exact absurd H (by simp)

end Go.Proofs.Ytehhpcijhclkfaa.PRangesChecks
