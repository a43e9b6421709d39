-- Written by a program of this session's; its pattern is the kit's print.
import Derived.Test.YtehhpcijhclkfaaYRangesChecks0
import Derived.Test.YtehhpcijhclkfaaYRangesChecks4
import Derived.Test.YtehhpcijhclkfaaYRangesChecks8
namespace Go.Proofs.Ytehhpcijhclkfaa.PRangesChecks
open Go.RowKit Go.Proofs.YtehhpcijhclkfaaW.PrintWords Go.Proofs.YtehhpcijhclkfaaW.PrintLast Go.Proofs.YtehhpcijhclkfaaW.PrintMore
attribute [local go_sem] max2_int min2_int max_two min_two max_three min_three max_four min_four   -- for this text's walks alone
set_option linter.unusedVariables false
set_option linter.unusedSimpArgs false

/-! ### mailcoachref03_Gap: function 24 -/
mutual
def mailcoachref03_Gap.l0 : Nat → List (S25) → Int → Int → Option (Int)
  | 0, _, _, _ => none
  | k + 1, x0, x1, x5 => if x5 ≤ (x0.length : Int) then (mailcoachref03_Gap.l1 k x0 x1 x5 0) else (some x1)
def mailcoachref03_Gap.l1 : Nat → List (S25) → Int → Int → Int → Option (Int)
  | 0, _, _, _, _ => none
  | k + 1, x0, x1, x5, x6 => if x6 < (x0.length : Int) then (if 0 ≤ x6 then (if ((rd_T25 x0 x6).f0) ≤ x1 then (if x1 < ((rd_T25 x0 x6).f1) then (mailcoachref03_Gap.l1 k x0 ((rd_T25 x0 x6).f1) x5 (wrap64 (x6 + 1))) else (mailcoachref03_Gap.l1 k x0 x1 x5 (wrap64 (x6 + 1)))) else (mailcoachref03_Gap.l1 k x0 x1 x5 (wrap64 (x6 + 1)))) else (none)) else (mailcoachref03_Gap.l0 k x0 x1 (wrap64 (x5 + 1)))
end
def mailcoachref03_Gap.f (k : Nat) (l0 : List (S25)) (a1 : Int) : Option (Int) := mailcoachref03_Gap.l0 k l0 a1 0
theorem mailcoachref03_Gap.mono_l : ∀ k, (∀ y0 y1 y2, LeO (mailcoachref03_Gap.l0 k y0 y1 y2) (mailcoachref03_Gap.l0 (k + 1) y0 y1 y2)) ∧ (∀ y0 y1 y2 y3, LeO (mailcoachref03_Gap.l1 k y0 y1 y2 y3) (mailcoachref03_Gap.l1 (k + 1) y0 y1 y2 y3))
  | 0 => ⟨fun _ _ _ r h => by simp [mailcoachref03_Gap.l0] at h, fun _ _ _ _ r h => by simp [mailcoachref03_Gap.l1] at h⟩
  | k + 1 => by
    obtain ⟨ih0, ih1⟩ := mailcoachref03_Gap.mono_l k
    refine ⟨?_, ?_⟩
    · intro y0 y1 y2
      unfold mailcoachref03_Gap.l0
      repeat' first
      | (with_reducible exact ih0 _ _ _)
      | (with_reducible exact ih1 _ _ _ _)
      | (with_reducible exact LeO.refl _)
      | (with_reducible exact LeO.none _)
      | (with_reducible refine LeO.ite ?_ ?_)
      | (with_reducible refine LeO.bind ?_ (fun _ => ?_))
      | exact ih0 _ _ _
      | exact ih1 _ _ _ _
      | exact LeO.none _
      | refine LeO.ite ?_ ?_
      | refine LeO.bind ?_ (fun _ => ?_)
    · intro y0 y1 y2 y3
      unfold mailcoachref03_Gap.l1
      repeat' first
      | (with_reducible exact ih0 _ _ _)
      | (with_reducible exact ih1 _ _ _ _)
      | (with_reducible exact LeO.refl _)
      | (with_reducible exact LeO.none _)
      | (with_reducible refine LeO.ite ?_ ?_)
      | (with_reducible refine LeO.bind ?_ (fun _ => ?_))
      | exact ih0 _ _ _
      | exact ih1 _ _ _ _
      | exact LeO.none _
      | refine LeO.ite ?_ ?_
      | refine LeO.bind ?_ (fun _ => ?_)
theorem mailcoachref03_Gap.mono : ∀ a0 a1 k, LeO (mailcoachref03_Gap.f k a0 a1) (mailcoachref03_Gap.f (k + 1) a0 a1) := by
  intro a0 a1 k
  obtain ⟨ih0, ih1⟩ := mailcoachref03_Gap.mono_l k
  unfold mailcoachref03_Gap.f
  repeat' first
      | (with_reducible exact ih0 _ _ _)
      | (with_reducible exact ih1 _ _ _ _)
      | (with_reducible exact LeO.refl _)
      | (with_reducible exact LeO.none _)
      | (with_reducible refine LeO.ite ?_ ?_)
      | (with_reducible refine LeO.bind ?_ (fun _ => ?_))
      | exact ih0 _ _ _
      | exact ih1 _ _ _ _
      | exact LeO.none _
      | refine LeO.ite ?_ ?_
      | refine LeO.bind ?_ (fun _ => ?_)
set_option maxHeartbeats 8000000 in
set_option maxRecDepth 100000 in
theorem mailcoachref03_Gap.calls (k : Nat) (A0 : Option Addr) (c0 : Nat) (l0 : List (S25)) (a1 : Int) (r : Int) (w : World) (hr0 : Kd.C k25 w A0 l0.length l0) (hc0 : l0.length ≤ c0) (h : mailcoachref03_Gap.f k l0 a1 = some r) :
    Calls Try.prog 24 #[.slice A0 l0.length c0, .int .u64 a1] w fun e w' => e = .returned (.int .u64 r) ∧ Drawn0 w w' := by
  have HR0 := Aside0.mk hr0
  have HC0 := Aside0.mk hc0
  clear hr0 hc0
  have H : (mailcoachref03_Gap.l0 k l0 a1 0) = some r := h
  clear h
  have H' := Aside0.mk H
  clear H
  go_enter Try.func24, Try.ntmps24
  go_wp2
  go_loopg [1, 5] k (fun kq v1 v5 w' => ∃ (x1_1 : Int) (x5_1 : Int), v1 = .int .u64 x1_1 ∧ v5 = .int .i64 x5_1 ∧ Aside0 (mailcoachref03_Gap.l0 kq l0 x1_1 x5_1 = some r) ∧ Aside0 (kq ≤ k) ∧ Drawn0 w w')
  case atStart => exact ⟨(a1), (0), (by first | rfl | (simp; done) | (simp [*]; done)), (by first | rfl | (simp; done) | (simp [*]; done)), H', ⟨Nat.le_refl _⟩, by repeat (first | exact Drawn0.refl _ | apply Drawn0.step)⟩
  case round =>
    clear H'
    try clear c2
    try clear p2
    obtain ⟨x1_1, x5_1, rfl, rfl, HA, HK1, ⟨m1, rfl⟩⟩ := hrel
    cases gk with
    | zero => exact absurd HA.out (by simp [mailcoachref03_Gap.l0])
    | succ k1 =>
      have H := HA.out
      clear HA
      simp only [mailcoachref03_Gap.l0] at H
      by_cases c3 : x5_1 ≤ (l0.length : Int)
      · rw [if_pos c3] at H
        have c3b0 : decide (x5_1 ≤ (l0.length : Int)) = true := decide_eq_true c3
        clear c3
        have H' := Aside0.mk H
        clear H
        go_wp2
        go_loopg [1, 6] k1 (fun kq v1 v6 w' => ∃ (x1_2 : Int) (x6_2 : Int), v1 = .int .u64 x1_2 ∧ v6 = .int .i64 x6_2 ∧ Aside0 (mailcoachref03_Gap.l1 kq l0 x1_2 x5_1 x6_2 = some r) ∧ Aside0 (kq ≤ k1) ∧ Drawn0 w w')
        case atStart => exact ⟨(x1_1), (0), (by first | rfl | (simp; done) | (simp [*]; done)), (by first | rfl | (simp; done) | (simp [*]; done)), H', ⟨Nat.le_refl _⟩, by repeat (first | exact Drawn0.refl _ | apply Drawn0.step)⟩
        case round =>
          clear H'
          try clear c2
          try clear p2
          try clear c3
          try clear c3b0
          try clear p2
          obtain ⟨x1_2, x6_2, rfl, rfl, HA, HK2, ⟨m2, rfl⟩⟩ := hrel
          cases gk with
          | zero => exact absurd HA.out (by simp [mailcoachref03_Gap.l1])
          | succ k2 =>
            have H := HA.out
            clear HA
            simp only [mailcoachref03_Gap.l1] at H
            by_cases c4 : x6_2 < (l0.length : Int)
            · rw [if_pos c4] at H
              have c4b0 : decide (x6_2 < (l0.length : Int)) = true := decide_eq_true c4
              clear c4
              by_cases c5 : 0 ≤ x6_2
              · rw [if_pos c5] at H
                have c5b0 : decide (0 ≤ x6_2) = true := decide_eq_true c5
                clear c5
                by_cases c6 : ((rd_T25 l0 x6_2).f0) ≤ x1_2
                · rw [if_pos c6] at H
                  have c6b0 : decide (((rd_T25 l0 x6_2).f0) ≤ x1_2) = true := decide_eq_true c6
                  clear c6
                  by_cases c7 : x1_2 < ((rd_T25 l0 x6_2).f1)
                  · rw [if_pos c7] at H
                    have c7b0 : decide (x1_2 < ((rd_T25 l0 x6_2).f1)) = true := decide_eq_true c7
                    clear c7
                    have H' := Aside0.mk H
                    clear H
                    have p315 : 0 ≤ (x6_2 : Int) := of_decide_eq_true (by first | (with_reducible assumption) | assumption)
                    have q315 : x6_2 < (l0.length : Int) := of_decide_eq_true (by first | (with_reducible assumption) | assumption)
                    obtain ⟨ad315, e315, hx315_0, hx315_1⟩ := at_T25 HR0.out x6_2 p315 q315
                    cases e315
                    replace p315 := eq_true p315
                    replace q315 := eq_true q315
                    have p316 : 0 ≤ (x6_2 : Int) := of_decide_eq_true (by first | (with_reducible assumption) | assumption)
                    have q316 : x6_2 < (l0.length : Int) := of_decide_eq_true (by first | (with_reducible assumption) | assumption)
                    obtain ⟨ad316, e316, hx316_0, hx316_1⟩ := at_T25 HR0.out x6_2 p316 q316
                    obtain rfl : ad315 = ad316 := (by injection e316)
                    replace p316 := eq_true p316
                    replace q316 := eq_true q316
                    have p317 : 0 ≤ (x6_2 : Int) := of_decide_eq_true (by first | (with_reducible assumption) | assumption)
                    have q317 : x6_2 < (l0.length : Int) := of_decide_eq_true (by first | (with_reducible assumption) | assumption)
                    obtain ⟨ad317, e317, hx317_0, hx317_1⟩ := at_T25 HR0.out x6_2 p317 q317
                    obtain rfl : ad315 = ad317 := (by injection e317)
                    replace p317 := eq_true p317
                    replace q317 := eq_true q317
                    go_wp2
                    go_roundg k2
                    case measure => have := HK1.out; have := HK2.out; omega
                    case rel => exact ⟨((rd_T25 l0 x6_2).f1), (wrap64 (x6_2 + 1)), (by first | rfl | (simp; done) | (simp [*]; done)), (by first | rfl | (simp; done) | (simp [*]; done)), H', ⟨by have := HK1.out; have := HK2.out; omega⟩, by repeat (first | exact Drawn0.refl _ | apply Drawn0.step)⟩
                  · rw [if_neg c7] at H
                    have c7b0 : decide (x1_2 < ((rd_T25 l0 x6_2).f1)) = false := decide_eq_false c7
                    clear c7
                    have H' := Aside0.mk H
                    clear H
                    have p315 : 0 ≤ (x6_2 : Int) := of_decide_eq_true (by first | (with_reducible assumption) | assumption)
                    have q315 : x6_2 < (l0.length : Int) := of_decide_eq_true (by first | (with_reducible assumption) | assumption)
                    obtain ⟨ad315, e315, hx315_0, hx315_1⟩ := at_T25 HR0.out x6_2 p315 q315
                    cases e315
                    replace p315 := eq_true p315
                    replace q315 := eq_true q315
                    have p316 : 0 ≤ (x6_2 : Int) := of_decide_eq_true (by first | (with_reducible assumption) | assumption)
                    have q316 : x6_2 < (l0.length : Int) := of_decide_eq_true (by first | (with_reducible assumption) | assumption)
                    obtain ⟨ad316, e316, hx316_0, hx316_1⟩ := at_T25 HR0.out x6_2 p316 q316
                    obtain rfl : ad315 = ad316 := (by injection e316)
                    replace p316 := eq_true p316
                    replace q316 := eq_true q316
                    go_wp2
                    go_roundg k2
                    case measure => have := HK1.out; have := HK2.out; omega
                    case rel => exact ⟨(x1_2), (wrap64 (x6_2 + 1)), (by first | rfl | (simp; done) | (simp [*]; done)), (by first | rfl | (simp; done) | (simp [*]; done)), H', ⟨by have := HK1.out; have := HK2.out; omega⟩, by repeat (first | exact Drawn0.refl _ | apply Drawn0.step)⟩
                · rw [if_neg c6] at H
                  have c6b0 : decide (((rd_T25 l0 x6_2).f0) ≤ x1_2) = false := decide_eq_false c6
                  clear c6
                  have H' := Aside0.mk H
                  clear H
                  have p315 : 0 ≤ (x6_2 : Int) := of_decide_eq_true (by first | (with_reducible assumption) | assumption)
                  have q315 : x6_2 < (l0.length : Int) := of_decide_eq_true (by first | (with_reducible assumption) | assumption)
                  obtain ⟨ad315, e315, hx315_0, hx315_1⟩ := at_T25 HR0.out x6_2 p315 q315
                  cases e315
                  replace p315 := eq_true p315
                  replace q315 := eq_true q315
                  go_wp2
                  go_roundg k2
                  case measure => have := HK1.out; have := HK2.out; omega
                  case rel => exact ⟨(x1_2), (wrap64 (x6_2 + 1)), (by first | rfl | (simp; done) | (simp [*]; done)), (by first | rfl | (simp; done) | (simp [*]; done)), H', ⟨by have := HK1.out; have := HK2.out; omega⟩, by repeat (first | exact Drawn0.refl _ | apply Drawn0.step)⟩
              · rw [if_neg c5] at H
                exact absurd H (by simp)
            · rw [if_neg c4] at H
              have c4b0 : decide (x6_2 < (l0.length : Int)) = false := decide_eq_false c4
              clear c4
              have H' := Aside0.mk H
              clear H
              go_wp2
              go_roundg k2
              case measure => have := HK1.out; have := HK2.out; omega
              case rel => exact ⟨(x1_2), (wrap64 (x5_1 + 1)), (by first | rfl | (simp; done) | (simp [*]; done)), (by first | rfl | (simp; done) | (simp [*]; done)), H', ⟨by have := HK1.out; have := HK2.out; omega⟩, by repeat (first | exact Drawn0.refl _ | apply Drawn0.step)⟩
      · rw [if_neg c3] at H
        have c3b0 : decide (x5_1 ≤ (l0.length : Int)) = false := decide_eq_false c3
        clear c3
        obtain rfl := Option.some.inj H
        go_wp2
        go_ret
        exact ⟨by first | rfl | (simp; done) | (simp [*]; done), by repeat (first | exact Drawn0.refl _ | apply Drawn0.step)⟩

/-! ### mailcoachlaw03_RangesChecks: function 8 -/
def mailcoachlaw03_RangesChecks.f (k : Nat) (l0 : List (S25)) (a1 : Int) : Option (Bool) := (mailcoachlaw03_Awake.f k).bind fun t318 => (if t318 = true then (if (l0.length : Int) > 100 then (some true) else ((mailcoachlaw03_Right.f k l0).bind fun t319 => ((ranges_Check.f k l0).bind fun t322 => ((mailcoachref03_Right.f k l0).bind fun t323 => (if (t322 == t323) = true then ((ranges_Check.f k t319).bind fun t324 => (if t324 = true then ((ranges_Has.f k t319 a1).bind fun t325 => ((mailcoachref03_In.f k t319 a1).bind fun t326 => (if (t325 == t326) = true then ((ranges_Count.f k t319).bind fun t327 => ((mailcoachref03_Count.f k t319).bind fun t328 => (if t327 = t328 then ((ranges_Gap.f k t319 a1).bind fun t329 => ((mailcoachref03_Gap.f k t319 a1).bind fun t330 => (some (t329 == t330)))) else (some false)))) else (some false)))) else (some false))) else (some false)))))) else (some false))
theorem mailcoachlaw03_RangesChecks.mono : ∀ a0 a1 k, LeO (mailcoachlaw03_RangesChecks.f k a0 a1) (mailcoachlaw03_RangesChecks.f (k + 1) a0 a1) := by
  intro a0 a1 k
  unfold mailcoachlaw03_RangesChecks.f
  repeat' first
      | (with_reducible exact mailcoachlaw03_Awake.mono _)
      | (with_reducible exact mailcoachlaw03_Right.mono _ _)
      | (with_reducible exact mailcoachref03_Count.mono _ _)
      | (with_reducible exact mailcoachref03_Gap.mono _ _ _)
      | (with_reducible exact mailcoachref03_In.mono _ _ _)
      | (with_reducible exact mailcoachref03_Right.mono _ _)
      | (with_reducible exact ranges_Check.mono _ _)
      | (with_reducible exact ranges_Count.mono _ _)
      | (with_reducible exact ranges_Gap.mono _ _ _)
      | (with_reducible exact ranges_Has.mono _ _ _)
      | (with_reducible exact LeO.refl _)
      | (with_reducible exact LeO.none _)
      | (with_reducible refine LeO.ite ?_ ?_)
      | (with_reducible refine LeO.bind ?_ (fun _ => ?_))
      | exact mailcoachlaw03_Awake.mono _
      | exact mailcoachlaw03_Right.mono _ _
      | exact mailcoachref03_Count.mono _ _
      | exact mailcoachref03_Gap.mono _ _ _
      | exact mailcoachref03_In.mono _ _ _
      | exact mailcoachref03_Right.mono _ _
      | exact ranges_Check.mono _ _
      | exact ranges_Count.mono _ _
      | exact ranges_Gap.mono _ _ _
      | exact ranges_Has.mono _ _ _
      | exact LeO.none _
      | refine LeO.ite ?_ ?_
      | refine LeO.bind ?_ (fun _ => ?_)
set_option maxHeartbeats 8000000 in
set_option maxRecDepth 100000 in
theorem mailcoachlaw03_RangesChecks.calls (k : Nat) (A0 : Option Addr) (c0 : Nat) (l0 : List (S25)) (a1 : Int) (r : Bool) (w : World) (hr0 : Kd.C k25 w A0 l0.length l0) (hc0 : l0.length ≤ c0) (ht_ : r = true) (h : mailcoachlaw03_RangesChecks.f k l0 a1 = some r) :
    Calls Try.prog 8 #[.slice A0 l0.length c0, .int .u64 a1] w fun e w' => e = .returned (.bool r) ∧ Below w.heap.size w w' := by
  have HT0_ := Aside0.mk ht_
  clear ht_
  have HR0 := Aside0.mk hr0
  have HC0 := Aside0.mk hc0
  clear hr0 hc0
  have HB := Aside0.mk (Below.refl w.heap.size w)
  have H : ((mailcoachlaw03_Awake.f k).bind fun t318 => (if t318 = true then (if (l0.length : Int) > 100 then (some true) else ((mailcoachlaw03_Right.f k l0).bind fun t319 => ((ranges_Check.f k l0).bind fun t322 => ((mailcoachref03_Right.f k l0).bind fun t323 => (if (t322 == t323) = true then ((ranges_Check.f k t319).bind fun t324 => (if t324 = true then ((ranges_Has.f k t319 a1).bind fun t325 => ((mailcoachref03_In.f k t319 a1).bind fun t326 => (if (t325 == t326) = true then ((ranges_Count.f k t319).bind fun t327 => ((mailcoachref03_Count.f k t319).bind fun t328 => (if t327 = t328 then ((ranges_Gap.f k t319 a1).bind fun t329 => ((mailcoachref03_Gap.f k t319 a1).bind fun t330 => (some (t329 == t330)))) else (some false)))) else (some false)))) else (some false))) else (some false)))))) else (some false))) = some r := h
  clear h
  replace H := Option.bind_eq_some_iff.mp H
  obtain ⟨t318, A30, H⟩ := H
  replace H : (if t318 = true then (if (l0.length : Int) > 100 then (some true) else ((mailcoachlaw03_Right.f k l0).bind fun t319 => ((ranges_Check.f k l0).bind fun t322 => ((mailcoachref03_Right.f k l0).bind fun t323 => (if (t322 == t323) = true then ((ranges_Check.f k t319).bind fun t324 => (if t324 = true then ((ranges_Has.f k t319 a1).bind fun t325 => ((mailcoachref03_In.f k t319 a1).bind fun t326 => (if (t325 == t326) = true then ((ranges_Count.f k t319).bind fun t327 => ((mailcoachref03_Count.f k t319).bind fun t328 => (if t327 = t328 then ((ranges_Gap.f k t319 a1).bind fun t329 => ((mailcoachref03_Gap.f k t319 a1).bind fun t330 => (some (t329 == t330)))) else (some false)))) else (some false)))) else (some false))) else (some false)))))) else (some false)) = some r := H
  have A3 := Aside0.mk A30
  clear A30
  by_cases c4 : t318 = true
  · subst c4
    have H1 : (if (l0.length : Int) > 100 then (some true) else ((mailcoachlaw03_Right.f k l0).bind fun t319 => ((ranges_Check.f k l0).bind fun t322 => ((mailcoachref03_Right.f k l0).bind fun t323 => (if (t322 == t323) = true then ((ranges_Check.f k t319).bind fun t324 => (if t324 = true then ((ranges_Has.f k t319 a1).bind fun t325 => ((mailcoachref03_In.f k t319 a1).bind fun t326 => (if (t325 == t326) = true then ((ranges_Count.f k t319).bind fun t327 => ((mailcoachref03_Count.f k t319).bind fun t328 => (if t327 = t328 then ((ranges_Gap.f k t319 a1).bind fun t329 => ((mailcoachref03_Gap.f k t319 a1).bind fun t330 => (some (t329 == t330)))) else (some false)))) else (some false)))) else (some false))) else (some false)))))) = some r := by rw [if_pos rfl] at H; exact H
    clear H
    have H := H1
    clear H1
    by_cases c5 : (l0.length : Int) > 100
    · rw [if_pos c5] at H
      have c5b0 : decide (100 < (l0.length : Int)) = true := decide_eq_true c5
      have c5b1 : decide (100 < l0.length) = true := decide_eq_true (by omega)
      clear c5
      obtain rfl := Option.some.inj H
      go_enter Try.func8, Try.ntmps8
      go_wp2_with (first | ((with_reducible refine gate_callee (f := 9) rfl ?_); refine goesL_ (some 6) rfl rfl Try.func9 (by kernel_rfl) rfl #[] rfl (by (try simp only [List.map_toArray, List.map_cons, List.map_nil]); first | done | rfl | (simp only [List.length_drop, List.length_take]; rfl)) ?_; (with_reducible refine (mailcoachlaw03_Awake.calls k  true _ A3.out).mono ?_); rintro e w6 ⟨rfl, hb⟩; refine ⟨_, rfl, ?_⟩; have n0_ := Aside0.mk (below_step (by repeat (first | (with_reducible first | exact HB.out | apply below_alloc | apply pw_below_drewN | apply below_drew1) | exact HB.out)) hb); clear HB; have HB := n0_; clear n0_; (try clear hb); (try clear hb2); (try clear hk); (try clear hi)))
      go_ret
      exact ⟨by first | rfl | (simp [errW_none, errW_some] <;> rfl) | (simp [*, errW_none, errW_some] <;> rfl), by repeat (first | (with_reducible first | exact HB.out | apply below_alloc | apply pw_below_drewN | apply below_drew1) | exact HB.out)⟩
    · rw [if_neg c5] at H
      have c5b0 : decide (100 < (l0.length : Int)) = false := decide_eq_false c5
      have c5b1 : decide (100 < l0.length) = false := decide_eq_false (by omega)
      clear c5
      replace H := Option.bind_eq_some_iff.mp H
      obtain ⟨t319, A70, H⟩ := H
      replace H : ((ranges_Check.f k l0).bind fun t322 => ((mailcoachref03_Right.f k l0).bind fun t323 => (if (t322 == t323) = true then ((ranges_Check.f k t319).bind fun t324 => (if t324 = true then ((ranges_Has.f k t319 a1).bind fun t325 => ((mailcoachref03_In.f k t319 a1).bind fun t326 => (if (t325 == t326) = true then ((ranges_Count.f k t319).bind fun t327 => ((mailcoachref03_Count.f k t319).bind fun t328 => (if t327 = t328 then ((ranges_Gap.f k t319 a1).bind fun t329 => ((mailcoachref03_Gap.f k t319 a1).bind fun t330 => (some (t329 == t330)))) else (some false)))) else (some false)))) else (some false))) else (some false)))) = some r := H
      have A7 := Aside0.mk A70
      clear A70
      replace H := Option.bind_eq_some_iff.mp H
      obtain ⟨t322, A80, H⟩ := H
      replace H : ((mailcoachref03_Right.f k l0).bind fun t323 => (if (t322 == t323) = true then ((ranges_Check.f k t319).bind fun t324 => (if t324 = true then ((ranges_Has.f k t319 a1).bind fun t325 => ((mailcoachref03_In.f k t319 a1).bind fun t326 => (if (t325 == t326) = true then ((ranges_Count.f k t319).bind fun t327 => ((mailcoachref03_Count.f k t319).bind fun t328 => (if t327 = t328 then ((ranges_Gap.f k t319 a1).bind fun t329 => ((mailcoachref03_Gap.f k t319 a1).bind fun t330 => (some (t329 == t330)))) else (some false)))) else (some false)))) else (some false))) else (some false))) = some r := H
      have A8 := Aside0.mk A80
      clear A80
      replace H := Option.bind_eq_some_iff.mp H
      obtain ⟨t323, A90, H⟩ := H
      replace H : (if (t322 == t323) = true then ((ranges_Check.f k t319).bind fun t324 => (if t324 = true then ((ranges_Has.f k t319 a1).bind fun t325 => ((mailcoachref03_In.f k t319 a1).bind fun t326 => (if (t325 == t326) = true then ((ranges_Count.f k t319).bind fun t327 => ((mailcoachref03_Count.f k t319).bind fun t328 => (if t327 = t328 then ((ranges_Gap.f k t319 a1).bind fun t329 => ((mailcoachref03_Gap.f k t319 a1).bind fun t330 => (some (t329 == t330)))) else (some false)))) else (some false)))) else (some false))) else (some false)) = some r := H
      have A9 := Aside0.mk A90
      clear A90
      by_cases c10 : (t322 == t323) = true
      · rw [if_pos c10] at H
        have c10b0 : (t322 == t323) = true := c10
        (try (have c10b1 : decide (t322 = t323) = true := by simpa using c10))
        (try (have c10b2 : (t322 == t323) = true := by simpa using c10))
        clear c10
        replace H := Option.bind_eq_some_iff.mp H
        obtain ⟨t324, A110, H⟩ := H
        replace H : (if t324 = true then ((ranges_Has.f k t319 a1).bind fun t325 => ((mailcoachref03_In.f k t319 a1).bind fun t326 => (if (t325 == t326) = true then ((ranges_Count.f k t319).bind fun t327 => ((mailcoachref03_Count.f k t319).bind fun t328 => (if t327 = t328 then ((ranges_Gap.f k t319 a1).bind fun t329 => ((mailcoachref03_Gap.f k t319 a1).bind fun t330 => (some (t329 == t330)))) else (some false)))) else (some false)))) else (some false)) = some r := H
        have A11 := Aside0.mk A110
        clear A110
        by_cases c12 : t324 = true
        · subst c12
          have H1 : ((ranges_Has.f k t319 a1).bind fun t325 => ((mailcoachref03_In.f k t319 a1).bind fun t326 => (if (t325 == t326) = true then ((ranges_Count.f k t319).bind fun t327 => ((mailcoachref03_Count.f k t319).bind fun t328 => (if t327 = t328 then ((ranges_Gap.f k t319 a1).bind fun t329 => ((mailcoachref03_Gap.f k t319 a1).bind fun t330 => (some (t329 == t330)))) else (some false)))) else (some false)))) = some r := by rw [if_pos rfl] at H; exact H
          clear H
          have H := H1
          clear H1
          replace H := Option.bind_eq_some_iff.mp H
          obtain ⟨t325, A130, H⟩ := H
          replace H : ((mailcoachref03_In.f k t319 a1).bind fun t326 => (if (t325 == t326) = true then ((ranges_Count.f k t319).bind fun t327 => ((mailcoachref03_Count.f k t319).bind fun t328 => (if t327 = t328 then ((ranges_Gap.f k t319 a1).bind fun t329 => ((mailcoachref03_Gap.f k t319 a1).bind fun t330 => (some (t329 == t330)))) else (some false)))) else (some false))) = some r := H
          have A13 := Aside0.mk A130
          clear A130
          replace H := Option.bind_eq_some_iff.mp H
          obtain ⟨t326, A140, H⟩ := H
          replace H : (if (t325 == t326) = true then ((ranges_Count.f k t319).bind fun t327 => ((mailcoachref03_Count.f k t319).bind fun t328 => (if t327 = t328 then ((ranges_Gap.f k t319 a1).bind fun t329 => ((mailcoachref03_Gap.f k t319 a1).bind fun t330 => (some (t329 == t330)))) else (some false)))) else (some false)) = some r := H
          have A14 := Aside0.mk A140
          clear A140
          by_cases c15 : (t325 == t326) = true
          · rw [if_pos c15] at H
            have c15b0 : (t325 == t326) = true := c15
            (try (have c15b1 : decide (t325 = t326) = true := by simpa using c15))
            (try (have c15b2 : (t325 == t326) = true := by simpa using c15))
            clear c15
            replace H := Option.bind_eq_some_iff.mp H
            obtain ⟨t327, A160, H⟩ := H
            replace H : ((mailcoachref03_Count.f k t319).bind fun t328 => (if t327 = t328 then ((ranges_Gap.f k t319 a1).bind fun t329 => ((mailcoachref03_Gap.f k t319 a1).bind fun t330 => (some (t329 == t330)))) else (some false))) = some r := H
            have A16 := Aside0.mk A160
            clear A160
            replace H := Option.bind_eq_some_iff.mp H
            obtain ⟨t328, A170, H⟩ := H
            replace H : (if t327 = t328 then ((ranges_Gap.f k t319 a1).bind fun t329 => ((mailcoachref03_Gap.f k t319 a1).bind fun t330 => (some (t329 == t330)))) else (some false)) = some r := H
            have A17 := Aside0.mk A170
            clear A170
            by_cases c18 : t327 = t328
            · rw [if_pos c18] at H
              have c18b0 : (t327 == t328) = true := beq_iff_eq.mpr c18
              have c18b1 : (t327 != t328) = false := bne_eq_false_iff_eq.mpr c18
              clear c18
              replace H := Option.bind_eq_some_iff.mp H
              obtain ⟨t329, A190, H⟩ := H
              replace H : ((mailcoachref03_Gap.f k t319 a1).bind fun t330 => (some (t329 == t330))) = some r := H
              have A19 := Aside0.mk A190
              clear A190
              replace H := Option.bind_eq_some_iff.mp H
              obtain ⟨t330, A200, H⟩ := H
              replace H : (some (t329 == t330)) = some r := H
              have A20 := Aside0.mk A200
              clear A200
              obtain rfl := Option.some.inj H
              go_enter Try.func8, Try.ntmps8
              go_wp2_with (first | ((with_reducible refine gate_callee (f := 9) rfl ?_); refine goesL_ (some 6) rfl rfl Try.func9 (by kernel_rfl) rfl #[] rfl (by (try simp only [List.map_toArray, List.map_cons, List.map_nil]); first | done | rfl | (simp only [List.length_drop, List.length_take]; rfl)) ?_; (with_reducible refine (mailcoachlaw03_Awake.calls k  true _ A3.out).mono ?_); rintro e w21 ⟨rfl, hb⟩; refine ⟨_, rfl, ?_⟩; have n0_ := Aside0.mk (below_step (by repeat (first | (with_reducible first | exact HB.out | apply below_alloc | apply pw_below_drewN | apply below_drew1) | exact HB.out)) hb); clear HB; have HB := n0_; clear n0_; (try clear hb); (try clear hb2); (try clear hk); (try clear hi)) | ((with_reducible refine gate_callee (f := 10) rfl ?_); refine goesL_ (some 12) rfl rfl Try.func10 (by kernel_rfl) rfl #[.slice A0 l0.length c0] rfl (by (try simp only [List.map_toArray, List.map_cons, List.map_nil]); first | done | rfl | (simp only [List.length_drop, List.length_take]; rfl)) ?_; (with_reducible refine (mailcoachlaw03_Right.calls k _ _ l0 t319 _ ?side1 ?side2 A7.out).mono ?_); (case side1 => repeat (first | exact (Kd.C_below HR0.out HB.out) | (with_reducible refine Kd.C_alloc ?_ _) | (with_reducible refine Kd.C_drewN ?_ _) | (with_reducible refine Kd.C_drew ?_))); (case side2 => exact HC0.out); rintro e w22 ⟨v320, rfl, ho0, hb⟩; refine ⟨_, rfl, ?_⟩; have n0_ := Aside0.mk (Kd.R_lower ho0 (below_size (by repeat (first | (with_reducible first | exact HB.out | apply below_alloc | apply pw_below_drewN | apply below_drew1) | exact HB.out)))); have n1_ := Aside0.mk (below_step (by repeat (first | (with_reducible first | exact HB.out | apply below_alloc | apply pw_below_drewN | apply below_drew1) | exact HB.out)) hb); clear HB; have HO321 := n0_; have HB := n1_; clear n0_ n1_; (try clear hb); (try clear hb2); (try clear hk); (try clear hi); (try clear ho0)) | ((with_reducible refine gate_callee (f := 20) rfl ?_); refine goesL_ (some 14) rfl rfl Try.func20 (by kernel_rfl) rfl #[.slice A0 l0.length c0] rfl (by (try simp only [List.map_toArray, List.map_cons, List.map_nil]); first | done | rfl | (simp only [List.length_drop, List.length_take]; rfl)) ?_; (with_reducible refine (ranges_Check.calls k _ _ l0 t322 _ ?side1 ?side2 A8.out).mono ?_); (case side1 => repeat (first | exact (Kd.C_below HR0.out HB.out) | (with_reducible refine Kd.C_alloc ?_ _) | (with_reducible refine Kd.C_drewN ?_ _) | (with_reducible refine Kd.C_drew ?_))); (case side2 => exact HC0.out); rintro e w23 ⟨rfl, hb⟩; refine ⟨_, rfl, ?_⟩; have n0_ := Aside0.mk (Kd.R_below (by (with_reducible repeat (first | apply Kd.R_alloc | apply Kd.R_drewN | apply Kd.R_drew)); exact HO321.out) hb); have n1_ := Aside0.mk (below_step (by repeat (first | (with_reducible first | exact HB.out | apply below_alloc | apply pw_below_drewN | apply below_drew1) | exact HB.out)) hb); clear HO321; clear HB; have HO321 := n0_; have HB := n1_; clear n0_ n1_; (try clear hb); (try clear hb2); (try clear hk); (try clear hi)) | ((with_reducible refine gate_callee (f := 21) rfl ?_); refine goesL_ (some 16) rfl rfl Try.func21 (by kernel_rfl) rfl #[.slice A0 l0.length c0] rfl (by (try simp only [List.map_toArray, List.map_cons, List.map_nil]); first | done | rfl | (simp only [List.length_drop, List.length_take]; rfl)) ?_; (with_reducible refine (mailcoachref03_Right.calls k _ _ l0 t323 _ ?side1 ?side2 A9.out).mono ?_); (case side1 => repeat (first | exact (Kd.C_below HR0.out HB.out) | (with_reducible refine Kd.C_alloc ?_ _) | (with_reducible refine Kd.C_drewN ?_ _) | (with_reducible refine Kd.C_drew ?_))); (case side2 => exact HC0.out); rintro e w' ⟨rfl, ⟨nd, rfl⟩⟩; refine ⟨_, rfl, ?_⟩; obtain ⟨Ao24, co24, eo24⟩ := Kd.R_slice HO321.out; subst eo24) | (go_at_call 20; (with_reducible refine (ranges_Check.calls k _ _ t319 true _ ?side1 ?side2 A11.out).mono ?_); (case side1 => repeat (first | exact (Kd.R_reads' HO321.out).2.2 | (with_reducible refine Kd.C_alloc ?_ _) | (with_reducible refine Kd.C_drewN ?_ _) | (with_reducible refine Kd.C_drew ?_))); (case side2 => exact (Kd.R_reads' HO321.out).2.1); rintro e w25 ⟨rfl, hb⟩; have n0_ := Aside0.mk (Kd.R_below (by (with_reducible repeat (first | apply Kd.R_alloc | apply Kd.R_drewN | apply Kd.R_drew)); exact HO321.out) hb); have n1_ := Aside0.mk (below_step (by repeat (first | (with_reducible first | exact HB.out | apply below_alloc | apply pw_below_drewN | apply below_drew1) | exact HB.out)) hb); clear HO321; clear HB; have HO321 := n0_; have HB := n1_; clear n0_ n1_; (try clear hb); (try clear hb2); (try clear hk); (try clear hi)) | (go_at_call 18; (with_reducible refine (ranges_Has.calls k _ _ t319 a1 t325 _ ?side1 ?side2 A13.out).mono ?_); (case side1 => repeat (first | exact (Kd.R_reads' HO321.out).2.2 | (with_reducible refine Kd.C_alloc ?_ _) | (with_reducible refine Kd.C_drewN ?_ _) | (with_reducible refine Kd.C_drew ?_))); (case side2 => exact (Kd.R_reads' HO321.out).2.1); rintro e w26 ⟨rfl, hb⟩; have n0_ := Aside0.mk (Kd.R_below (by (with_reducible repeat (first | apply Kd.R_alloc | apply Kd.R_drewN | apply Kd.R_drew)); exact HO321.out) hb); have n1_ := Aside0.mk (below_step (by repeat (first | (with_reducible first | exact HB.out | apply below_alloc | apply pw_below_drewN | apply below_drew1) | exact HB.out)) hb); clear HO321; clear HB; have HO321 := n0_; have HB := n1_; clear n0_ n1_; (try clear hb); (try clear hb2); (try clear hk); (try clear hi)) | (go_at_call 22; (with_reducible refine (mailcoachref03_In.calls k _ _ t319 a1 t326 _ ?side1 ?side2 A14.out).mono ?_); (case side1 => repeat (first | exact (Kd.R_reads' HO321.out).2.2 | (with_reducible refine Kd.C_alloc ?_ _) | (with_reducible refine Kd.C_drewN ?_ _) | (with_reducible refine Kd.C_drew ?_))); (case side2 => exact (Kd.R_reads' HO321.out).2.1); rintro e w' ⟨rfl, ⟨nd, rfl⟩⟩) | (go_at_call 16; (with_reducible refine (ranges_Count.calls k _ _ t319 t327 _ ?side1 ?side2 A16.out).mono ?_); (case side1 => repeat (first | exact (Kd.R_reads' HO321.out).2.2 | (with_reducible refine Kd.C_alloc ?_ _) | (with_reducible refine Kd.C_drewN ?_ _) | (with_reducible refine Kd.C_drew ?_))); (case side2 => exact (Kd.R_reads' HO321.out).2.1); rintro e w27 ⟨rfl, hb⟩; have n0_ := Aside0.mk (Kd.R_below (by (with_reducible repeat (first | apply Kd.R_alloc | apply Kd.R_drewN | apply Kd.R_drew)); exact HO321.out) hb); have n1_ := Aside0.mk (below_step (by repeat (first | (with_reducible first | exact HB.out | apply below_alloc | apply pw_below_drewN | apply below_drew1) | exact HB.out)) hb); clear HO321; clear HB; have HO321 := n0_; have HB := n1_; clear n0_ n1_; (try clear hb); (try clear hb2); (try clear hk); (try clear hi)) | (go_at_call 23; (with_reducible refine (mailcoachref03_Count.calls k _ _ t319 t328 _ ?side1 ?side2 A17.out).mono ?_); (case side1 => repeat (first | exact (Kd.R_reads' HO321.out).2.2 | (with_reducible refine Kd.C_alloc ?_ _) | (with_reducible refine Kd.C_drewN ?_ _) | (with_reducible refine Kd.C_drew ?_))); (case side2 => exact (Kd.R_reads' HO321.out).2.1); rintro e w' ⟨rfl, ⟨nd, rfl⟩⟩) | (go_at_call 17; (with_reducible refine (ranges_Gap.calls k _ _ t319 a1 t329 _ ?side1 ?side2 A19.out).mono ?_); (case side1 => repeat (first | exact (Kd.R_reads' HO321.out).2.2 | (with_reducible refine Kd.C_alloc ?_ _) | (with_reducible refine Kd.C_drewN ?_ _) | (with_reducible refine Kd.C_drew ?_))); (case side2 => exact (Kd.R_reads' HO321.out).2.1); rintro e w28 ⟨rfl, hb⟩; have n0_ := Aside0.mk (Kd.R_below (by (with_reducible repeat (first | apply Kd.R_alloc | apply Kd.R_drewN | apply Kd.R_drew)); exact HO321.out) hb); have n1_ := Aside0.mk (below_step (by repeat (first | (with_reducible first | exact HB.out | apply below_alloc | apply pw_below_drewN | apply below_drew1) | exact HB.out)) hb); clear HO321; clear HB; have HO321 := n0_; have HB := n1_; clear n0_ n1_; (try clear hb); (try clear hb2); (try clear hk); (try clear hi)) | (go_at_call 24; (with_reducible refine (mailcoachref03_Gap.calls k _ _ t319 a1 t330 _ ?side1 ?side2 A20.out).mono ?_); (case side1 => repeat (first | exact (Kd.R_reads' HO321.out).2.2 | (with_reducible refine Kd.C_alloc ?_ _) | (with_reducible refine Kd.C_drewN ?_ _) | (with_reducible refine Kd.C_drew ?_))); (case side2 => exact (Kd.R_reads' HO321.out).2.1); rintro e w' ⟨rfl, ⟨nd, rfl⟩⟩))
              go_ret
              exact ⟨by first | rfl | (simp [errW_none, errW_some] <;> rfl) | (simp [*, errW_none, errW_some] <;> rfl), by repeat (first | (with_reducible first | exact HB.out | apply below_alloc | apply pw_below_drewN | apply below_drew1) | exact HB.out)⟩
            · rw [if_neg c18] at H
              have c18b0 : (t327 == t328) = false := beq_eq_false_iff_ne.mpr c18
              have c18b1 : (t327 != t328) = true := bne_iff_ne.mpr c18
              exact absurd ((Option.some.inj H).trans HT0_.out) (by decide)
          · rw [if_neg c15] at H
            have c15b0 : (t325 == t326) = false := by simpa using c15
            (try (have c15b1 : decide (t325 = t326) = false := by simpa using c15))
            (try (have c15b2 : (t325 == t326) = false := by simpa using c15))
            (try (have c15b3 : ¬ (t325 = t326) := by simpa using c15))
            clear c15
            exact absurd ((Option.some.inj H).trans HT0_.out) (by decide)
        · replace c12 := Bool.eq_false_iff.mpr c12
          subst c12
          have H1 : (some false) = some r := by rw [if_neg (show ¬ (false = true) by decide)] at H; exact H
          clear H
          have H := H1
          clear H1
          exact absurd ((Option.some.inj H).trans HT0_.out) (by decide)
      · rw [if_neg c10] at H
        have c10b0 : (t322 == t323) = false := by simpa using c10
        (try (have c10b1 : decide (t322 = t323) = false := by simpa using c10))
        (try (have c10b2 : (t322 == t323) = false := by simpa using c10))
        (try (have c10b3 : ¬ (t322 = t323) := by simpa using c10))
        clear c10
        exact absurd ((Option.some.inj H).trans HT0_.out) (by decide)
  · replace c4 := Bool.eq_false_iff.mpr c4
    subst c4
    have H1 : (some false) = some r := by rw [if_neg (show ¬ (false = true) by decide)] at H; exact H
    clear H
    have H := H1
    clear H1
    exact absurd ((Option.some.inj H).trans HT0_.out) (by decide)

end Go.Proofs.Ytehhpcijhclkfaa.PRangesChecks
