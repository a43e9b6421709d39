-- Written by a program of this session's; its pattern is the kit's print.
import Derived.Test.YtmbealldhndeoaaYLedgersChecks0
import Derived.Test.YtmbealldhndeoaaYLedgersChecks3
import Derived.Test.YtmbealldhndeoaaYLedgersChecks5
import Derived.Test.YtmbealldhndeoaaYLedgersChecks6
import Derived.Test.YtmbealldhndeoaaYLedgersChecks7
namespace Go.Proofs.Ytmbealldhndeoaa.PLedgersChecks
open Go.RowKit Go.Proofs.YtmbealldhndeoaaW.PrintWords Go.Proofs.YtmbealldhndeoaaW.PrintWords.Kd Go.Proofs.YtmbealldhndeoaaW.PrintLast Go.Proofs.YtmbealldhndeoaaW.PrintMore
open List (setIfInBounds_toArray set_cons_zero set_cons_succ)
attribute [local go_sem] max2_int min2_int max_two min_two max_three min_three max_four min_four   -- for this text's walks alone
set_option linter.unusedVariables false
set_option linter.unusedSimpArgs false

/-! ### mailcoachlaw13_LedgersChecks: function 3 -/
mutual
def mailcoachlaw13_LedgersChecks.j0 : Nat → List (S32) → List Int → Bool → Int → Int → Bool → Option (Bool)
  | 0, _, _, _, _, _, _ => none
  | k + 1, x0, x1, x2, x3, x4, x30 => if x30 = true then (some (decide ((x0.length : Int) > 200))) else ((mailcoachlaw13_Made.f k x1 x2).bind fun t173 => ((ledgers_Open.f k t173 x3).bind fun bt176 => ((ledgers_Close.f k t173 x4).bind fun bt180 => (if (t173.length : Int) > 0 then (if 0 ≤ (wrap64 ((t173.length : Int) - 1)) then (if (wrap64 ((t173.length : Int) - 1)) < (t173.length : Int) then (mailcoachlaw13_LedgersChecks.j1 k x3 x4 t173 (t173.length : Int) bt176.1 bt176.2 bt180.1 bt180.2 0 0 (!((rd_T32 t173 (wrap64 ((t173.length : Int) - 1))).f1))) else (none)) else (none)) else (mailcoachlaw13_LedgersChecks.j1 k x3 x4 t173 (t173.length : Int) bt176.1 bt176.2 bt180.1 bt180.2 0 0 false)))))
def mailcoachlaw13_LedgersChecks.j2 : Nat → Int → Int → List (S32) → Int → List (S32) → Int → List (S32) → Int → Int → Int → Option (Bool)
  | 0, _, _, _, _, _, _, _, _, _, _ => none
  | k + 1, x3, x4, x11, x12, x13, x14, x15, x16, x17, x18 => if x12 = 0 then (mailcoachlaw13_LedgersChecks.j3 k x3 x4 x11 x12 x13 x14 x15 x16 x17 x18 true) else (if 0 ≤ (wrap64 (x12 - 1)) then (if (wrap64 (x12 - 1)) < (x11.length : Int) then (mailcoachlaw13_LedgersChecks.j3 k x3 x4 x11 x12 x13 x14 x15 x16 x17 x18 ((rd_T32 x11 (wrap64 (x12 - 1))).f1)) else (none)) else (none))
def mailcoachlaw13_LedgersChecks.j4 : Nat → Int → Int → List (S32) → Int → List (S32) → Int → List (S32) → Int → Int → Int → Option (Bool)
  | 0, _, _, _, _, _, _, _, _, _, _ => none
  | k + 1, x3, x4, x11, x12, x13, x14, x15, x16, x17, x18 => if x14 = x17 then (if x16 = x18 then (if x14 = 0 then (if x16 = 0 then (mailcoachlaw13_LedgersChecks.j5 k x3 x4 x11 x12 x13 x14 x15 x16 false) else (mailcoachlaw13_LedgersChecks.j5 k x3 x4 x11 x12 x13 x14 x15 x16 (decide ((x15.length : Int) > 0)))) else (if (x13.length : Int) > 0 then (mailcoachlaw13_LedgersChecks.j5 k x3 x4 x11 x12 x13 x14 x15 x16 true) else (if x16 = 0 then (mailcoachlaw13_LedgersChecks.j5 k x3 x4 x11 x12 x13 x14 x15 x16 false) else (mailcoachlaw13_LedgersChecks.j5 k x3 x4 x11 x12 x13 x14 x15 x16 (decide ((x15.length : Int) > 0)))))) else (mailcoachlaw13_LedgersChecks.j5 k x3 x4 x11 x12 x13 x14 x15 x16 true)) else (mailcoachlaw13_LedgersChecks.j5 k x3 x4 x11 x12 x13 x14 x15 x16 true)
def mailcoachlaw13_LedgersChecks.j5 : Nat → Int → Int → List (S32) → Int → List (S32) → Int → List (S32) → Int → Bool → Option (Bool)
  | 0, _, _, _, _, _, _, _, _, _ => none
  | k + 1, x3, x4, x11, x12, x13, x14, x15, x16, x119 => if x119 = true then (some false) else (if x14 = 0 then ((some (([] : List (S32)) : List (S32))).bind fun y187 => (if y187.length + x11.length < 5864062014805 then ((some (y187 ++ x11 : List (S32))).bind fun y190 => ((some (([(⟨x3, false, 0⟩ : S32)] : List (S32)) : List (S32))).bind fun y193 => (if y190.length + y193.length < 5864062014805 then ((mailcoachref13_SameLedgers.f k x13 (y190 ++ y193)).bind fun t199 => (if t199 = true then (if x16 = 0 then ((some (([] : List (S32)) : List (S32))).bind fun y200 => (if 0 ≤ (wrap64 (x12 - 1)) then (if (wrap64 (x12 - 1)) ≤ (x11.length : Int) then ((some (x11.take ((wrap64 (x12 - 1)) : Int).toNat : List (S32))).bind fun y203 => (if y200.length + y203.length < 5864062014805 then ((some (y200 ++ y203 : List (S32))).bind fun y207 => (if (wrap64 (x12 - 1)) < (x11.length : Int) then ((some (([(⟨(rd_T32 x11 (wrap64 (x12 - 1))).f0, true, x4⟩ : S32)] : List (S32)) : List (S32))).bind fun y211 => (if y207.length + y211.length < 5864062014805 then ((mailcoachref13_SameLedgers.f k x15 (y207 ++ y211)).bind fun t217 => (some t217)) else (none))) else (none))) else (none))) else (none)) else (none))) else (some true)) else (some false))) else (none)))) else (none))) else (if x16 = 0 then ((some (([] : List (S32)) : List (S32))).bind fun y218 => (if 0 ≤ (wrap64 (x12 - 1)) then (if (wrap64 (x12 - 1)) ≤ (x11.length : Int) then ((some (x11.take ((wrap64 (x12 - 1)) : Int).toNat : List (S32))).bind fun y221 => (if y218.length + y221.length < 5864062014805 then ((some (y218 ++ y221 : List (S32))).bind fun y225 => (if (wrap64 (x12 - 1)) < (x11.length : Int) then ((some (([(⟨(rd_T32 x11 (wrap64 (x12 - 1))).f0, true, x4⟩ : S32)] : List (S32)) : List (S32))).bind fun y229 => (if y225.length + y229.length < 5864062014805 then ((mailcoachref13_SameLedgers.f k x15 (y225 ++ y229)).bind fun t235 => (some t235)) else (none))) else (none))) else (none))) else (none)) else (none))) else (some true)))
def mailcoachlaw13_LedgersChecks.j3 : Nat → Int → Int → List (S32) → Int → List (S32) → Int → List (S32) → Int → Int → Int → Bool → Option (Bool)
  | 0, _, _, _, _, _, _, _, _, _, _, _ => none
  | k + 1, x3, x4, x11, x12, x13, x14, x15, x16, x17, x18, x80 => if x80 = true then (mailcoachlaw13_LedgersChecks.j4 k x3 x4 x11 x12 x13 x14 x15 x16 x17 23) else (if x4 > 1048576 then (mailcoachlaw13_LedgersChecks.j4 k x3 x4 x11 x12 x13 x14 x15 x16 x17 14) else (mailcoachlaw13_LedgersChecks.j4 k x3 x4 x11 x12 x13 x14 x15 x16 x17 x18))
def mailcoachlaw13_LedgersChecks.j1 : Nat → Int → Int → List (S32) → Int → List (S32) → Int → List (S32) → Int → Int → Int → Bool → Option (Bool)
  | 0, _, _, _, _, _, _, _, _, _, _, _ => none
  | k + 1, x3, x4, x11, x12, x13, x14, x15, x16, x17, x18, x51 => if x51 = true then (mailcoachlaw13_LedgersChecks.j2 k x3 x4 x11 x12 x13 x14 x15 x16 23 x18) else (if x3 = 0 then (mailcoachlaw13_LedgersChecks.j2 k x3 x4 x11 x12 x13 x14 x15 x16 30 x18) else (if x12 > 0 then (if 0 ≤ (wrap64 (x12 - 1)) then (if (wrap64 (x12 - 1)) < (x11.length : Int) then (if x3 ≤ ((rd_T32 x11 (wrap64 (x12 - 1))).f0) then (mailcoachlaw13_LedgersChecks.j2 k x3 x4 x11 x12 x13 x14 x15 x16 30 x18) else (mailcoachlaw13_LedgersChecks.j2 k x3 x4 x11 x12 x13 x14 x15 x16 x17 x18)) else (none)) else (none)) else (mailcoachlaw13_LedgersChecks.j2 k x3 x4 x11 x12 x13 x14 x15 x16 x17 x18)))
end
def mailcoachlaw13_LedgersChecks.f (k : Nat) (l0 : List (S32)) (l1 : List Int) (a2 : Bool) (a3 : Int) (a4 : Int) : Option (Bool) := (mailcoachlaw13_Awake.f k).bind fun t170 => (if t170 = true then (if (l0.length : Int) > 200 then (mailcoachlaw13_LedgersChecks.j0 k l0 l1 a2 a3 a4 true) else ((ledgers_Check.f k l0).bind fun t171 => ((mailcoachref13_Right.f k l0).bind fun t172 => (mailcoachlaw13_LedgersChecks.j0 k l0 l1 a2 a3 a4 (t171 != t172))))) else (some false))
theorem mailcoachlaw13_LedgersChecks.mono_l : ∀ k, (∀ y0 y1 y2 y3 y4 y5, LeO (mailcoachlaw13_LedgersChecks.j0 k y0 y1 y2 y3 y4 y5) (mailcoachlaw13_LedgersChecks.j0 (k + 1) y0 y1 y2 y3 y4 y5)) ∧ (∀ y0 y1 y2 y3 y4 y5 y6 y7 y8 y9, LeO (mailcoachlaw13_LedgersChecks.j2 k y0 y1 y2 y3 y4 y5 y6 y7 y8 y9) (mailcoachlaw13_LedgersChecks.j2 (k + 1) y0 y1 y2 y3 y4 y5 y6 y7 y8 y9)) ∧ (∀ y0 y1 y2 y3 y4 y5 y6 y7 y8 y9, LeO (mailcoachlaw13_LedgersChecks.j4 k y0 y1 y2 y3 y4 y5 y6 y7 y8 y9) (mailcoachlaw13_LedgersChecks.j4 (k + 1) y0 y1 y2 y3 y4 y5 y6 y7 y8 y9)) ∧ (∀ y0 y1 y2 y3 y4 y5 y6 y7 y8, LeO (mailcoachlaw13_LedgersChecks.j5 k y0 y1 y2 y3 y4 y5 y6 y7 y8) (mailcoachlaw13_LedgersChecks.j5 (k + 1) y0 y1 y2 y3 y4 y5 y6 y7 y8)) ∧ (∀ y0 y1 y2 y3 y4 y5 y6 y7 y8 y9 y10, LeO (mailcoachlaw13_LedgersChecks.j3 k y0 y1 y2 y3 y4 y5 y6 y7 y8 y9 y10) (mailcoachlaw13_LedgersChecks.j3 (k + 1) y0 y1 y2 y3 y4 y5 y6 y7 y8 y9 y10)) ∧ (∀ y0 y1 y2 y3 y4 y5 y6 y7 y8 y9 y10, LeO (mailcoachlaw13_LedgersChecks.j1 k y0 y1 y2 y3 y4 y5 y6 y7 y8 y9 y10) (mailcoachlaw13_LedgersChecks.j1 (k + 1) y0 y1 y2 y3 y4 y5 y6 y7 y8 y9 y10))
  | 0 => ⟨fun _ _ _ _ _ _ r h => by simp [mailcoachlaw13_LedgersChecks.j0] at h, fun _ _ _ _ _ _ _ _ _ _ r h => by simp [mailcoachlaw13_LedgersChecks.j2] at h, fun _ _ _ _ _ _ _ _ _ _ r h => by simp [mailcoachlaw13_LedgersChecks.j4] at h, fun _ _ _ _ _ _ _ _ _ r h => by simp [mailcoachlaw13_LedgersChecks.j5] at h, fun _ _ _ _ _ _ _ _ _ _ _ r h => by simp [mailcoachlaw13_LedgersChecks.j3] at h, fun _ _ _ _ _ _ _ _ _ _ _ r h => by simp [mailcoachlaw13_LedgersChecks.j1] at h⟩
  | k + 1 => by
    obtain ⟨ih0, ih1, ih2, ih3, ih4, ih5⟩ := mailcoachlaw13_LedgersChecks.mono_l k
    refine ⟨?_, ?_, ?_, ?_, ?_, ?_⟩
    · intro y0 y1 y2 y3 y4 y5
      unfold mailcoachlaw13_LedgersChecks.j0
      repeat' first
      | (with_reducible exact ih0 _ _ _ _ _ _)
      | (with_reducible exact ih1 _ _ _ _ _ _ _ _ _ _)
      | (with_reducible exact ih2 _ _ _ _ _ _ _ _ _ _)
      | (with_reducible exact ih3 _ _ _ _ _ _ _ _ _)
      | (with_reducible exact ih4 _ _ _ _ _ _ _ _ _ _ _)
      | (with_reducible exact ih5 _ _ _ _ _ _ _ _ _ _ _)
      | (with_reducible exact ledgers_Check.mono _ _)
      | (with_reducible exact ledgers_Close.mono _ _ _)
      | (with_reducible exact ledgers_Open.mono _ _ _)
      | (with_reducible exact mailcoachlaw13_Awake.mono _)
      | (with_reducible exact mailcoachlaw13_Made.mono _ _ _)
      | (with_reducible exact mailcoachref13_Right.mono _ _)
      | (with_reducible exact mailcoachref13_SameLedgers.mono _ _ _)
      | (with_reducible exact LeO.refl _)
      | (with_reducible exact LeO.none _)
      | (with_reducible refine LeO.ite ?_ ?_)
      | (with_reducible refine LeO.bind ?_ (fun _ => ?_))
      | exact ih0 _ _ _ _ _ _
      | exact ih1 _ _ _ _ _ _ _ _ _ _
      | exact ih2 _ _ _ _ _ _ _ _ _ _
      | exact ih3 _ _ _ _ _ _ _ _ _
      | exact ih4 _ _ _ _ _ _ _ _ _ _ _
      | exact ih5 _ _ _ _ _ _ _ _ _ _ _
      | exact ledgers_Check.mono _ _
      | exact ledgers_Close.mono _ _ _
      | exact ledgers_Open.mono _ _ _
      | exact mailcoachlaw13_Awake.mono _
      | exact mailcoachlaw13_Made.mono _ _ _
      | exact mailcoachref13_Right.mono _ _
      | exact mailcoachref13_SameLedgers.mono _ _ _
      | exact LeO.none _
      | refine LeO.ite ?_ ?_
      | refine LeO.bind ?_ (fun _ => ?_)
    · intro y0 y1 y2 y3 y4 y5 y6 y7 y8 y9
      unfold mailcoachlaw13_LedgersChecks.j2
      repeat' first
      | (with_reducible exact ih0 _ _ _ _ _ _)
      | (with_reducible exact ih1 _ _ _ _ _ _ _ _ _ _)
      | (with_reducible exact ih2 _ _ _ _ _ _ _ _ _ _)
      | (with_reducible exact ih3 _ _ _ _ _ _ _ _ _)
      | (with_reducible exact ih4 _ _ _ _ _ _ _ _ _ _ _)
      | (with_reducible exact ih5 _ _ _ _ _ _ _ _ _ _ _)
      | (with_reducible exact ledgers_Check.mono _ _)
      | (with_reducible exact ledgers_Close.mono _ _ _)
      | (with_reducible exact ledgers_Open.mono _ _ _)
      | (with_reducible exact mailcoachlaw13_Awake.mono _)
      | (with_reducible exact mailcoachlaw13_Made.mono _ _ _)
      | (with_reducible exact mailcoachref13_Right.mono _ _)
      | (with_reducible exact mailcoachref13_SameLedgers.mono _ _ _)
      | (with_reducible exact LeO.refl _)
      | (with_reducible exact LeO.none _)
      | (with_reducible refine LeO.ite ?_ ?_)
      | (with_reducible refine LeO.bind ?_ (fun _ => ?_))
      | exact ih0 _ _ _ _ _ _
      | exact ih1 _ _ _ _ _ _ _ _ _ _
      | exact ih2 _ _ _ _ _ _ _ _ _ _
      | exact ih3 _ _ _ _ _ _ _ _ _
      | exact ih4 _ _ _ _ _ _ _ _ _ _ _
      | exact ih5 _ _ _ _ _ _ _ _ _ _ _
      | exact ledgers_Check.mono _ _
      | exact ledgers_Close.mono _ _ _
      | exact ledgers_Open.mono _ _ _
      | exact mailcoachlaw13_Awake.mono _
      | exact mailcoachlaw13_Made.mono _ _ _
      | exact mailcoachref13_Right.mono _ _
      | exact mailcoachref13_SameLedgers.mono _ _ _
      | exact LeO.none _
      | refine LeO.ite ?_ ?_
      | refine LeO.bind ?_ (fun _ => ?_)
    · intro y0 y1 y2 y3 y4 y5 y6 y7 y8 y9
      unfold mailcoachlaw13_LedgersChecks.j4
      repeat' first
      | (with_reducible exact ih0 _ _ _ _ _ _)
      | (with_reducible exact ih1 _ _ _ _ _ _ _ _ _ _)
      | (with_reducible exact ih2 _ _ _ _ _ _ _ _ _ _)
      | (with_reducible exact ih3 _ _ _ _ _ _ _ _ _)
      | (with_reducible exact ih4 _ _ _ _ _ _ _ _ _ _ _)
      | (with_reducible exact ih5 _ _ _ _ _ _ _ _ _ _ _)
      | (with_reducible exact ledgers_Check.mono _ _)
      | (with_reducible exact ledgers_Close.mono _ _ _)
      | (with_reducible exact ledgers_Open.mono _ _ _)
      | (with_reducible exact mailcoachlaw13_Awake.mono _)
      | (with_reducible exact mailcoachlaw13_Made.mono _ _ _)
      | (with_reducible exact mailcoachref13_Right.mono _ _)
      | (with_reducible exact mailcoachref13_SameLedgers.mono _ _ _)
      | (with_reducible exact LeO.refl _)
      | (with_reducible exact LeO.none _)
      | (with_reducible refine LeO.ite ?_ ?_)
      | (with_reducible refine LeO.bind ?_ (fun _ => ?_))
      | exact ih0 _ _ _ _ _ _
      | exact ih1 _ _ _ _ _ _ _ _ _ _
      | exact ih2 _ _ _ _ _ _ _ _ _ _
      | exact ih3 _ _ _ _ _ _ _ _ _
      | exact ih4 _ _ _ _ _ _ _ _ _ _ _
      | exact ih5 _ _ _ _ _ _ _ _ _ _ _
      | exact ledgers_Check.mono _ _
      | exact ledgers_Close.mono _ _ _
      | exact ledgers_Open.mono _ _ _
      | exact mailcoachlaw13_Awake.mono _
      | exact mailcoachlaw13_Made.mono _ _ _
      | exact mailcoachref13_Right.mono _ _
      | exact mailcoachref13_SameLedgers.mono _ _ _
      | exact LeO.none _
      | refine LeO.ite ?_ ?_
      | refine LeO.bind ?_ (fun _ => ?_)
    · intro y0 y1 y2 y3 y4 y5 y6 y7 y8
      unfold mailcoachlaw13_LedgersChecks.j5
      repeat' first
      | (with_reducible exact ih0 _ _ _ _ _ _)
      | (with_reducible exact ih1 _ _ _ _ _ _ _ _ _ _)
      | (with_reducible exact ih2 _ _ _ _ _ _ _ _ _ _)
      | (with_reducible exact ih3 _ _ _ _ _ _ _ _ _)
      | (with_reducible exact ih4 _ _ _ _ _ _ _ _ _ _ _)
      | (with_reducible exact ih5 _ _ _ _ _ _ _ _ _ _ _)
      | (with_reducible exact ledgers_Check.mono _ _)
      | (with_reducible exact ledgers_Close.mono _ _ _)
      | (with_reducible exact ledgers_Open.mono _ _ _)
      | (with_reducible exact mailcoachlaw13_Awake.mono _)
      | (with_reducible exact mailcoachlaw13_Made.mono _ _ _)
      | (with_reducible exact mailcoachref13_Right.mono _ _)
      | (with_reducible exact mailcoachref13_SameLedgers.mono _ _ _)
      | (with_reducible exact LeO.refl _)
      | (with_reducible exact LeO.none _)
      | (with_reducible refine LeO.ite ?_ ?_)
      | (with_reducible refine LeO.bind ?_ (fun _ => ?_))
      | exact ih0 _ _ _ _ _ _
      | exact ih1 _ _ _ _ _ _ _ _ _ _
      | exact ih2 _ _ _ _ _ _ _ _ _ _
      | exact ih3 _ _ _ _ _ _ _ _ _
      | exact ih4 _ _ _ _ _ _ _ _ _ _ _
      | exact ih5 _ _ _ _ _ _ _ _ _ _ _
      | exact ledgers_Check.mono _ _
      | exact ledgers_Close.mono _ _ _
      | exact ledgers_Open.mono _ _ _
      | exact mailcoachlaw13_Awake.mono _
      | exact mailcoachlaw13_Made.mono _ _ _
      | exact mailcoachref13_Right.mono _ _
      | exact mailcoachref13_SameLedgers.mono _ _ _
      | exact LeO.none _
      | refine LeO.ite ?_ ?_
      | refine LeO.bind ?_ (fun _ => ?_)
    · intro y0 y1 y2 y3 y4 y5 y6 y7 y8 y9 y10
      unfold mailcoachlaw13_LedgersChecks.j3
      repeat' first
      | (with_reducible exact ih0 _ _ _ _ _ _)
      | (with_reducible exact ih1 _ _ _ _ _ _ _ _ _ _)
      | (with_reducible exact ih2 _ _ _ _ _ _ _ _ _ _)
      | (with_reducible exact ih3 _ _ _ _ _ _ _ _ _)
      | (with_reducible exact ih4 _ _ _ _ _ _ _ _ _ _ _)
      | (with_reducible exact ih5 _ _ _ _ _ _ _ _ _ _ _)
      | (with_reducible exact ledgers_Check.mono _ _)
      | (with_reducible exact ledgers_Close.mono _ _ _)
      | (with_reducible exact ledgers_Open.mono _ _ _)
      | (with_reducible exact mailcoachlaw13_Awake.mono _)
      | (with_reducible exact mailcoachlaw13_Made.mono _ _ _)
      | (with_reducible exact mailcoachref13_Right.mono _ _)
      | (with_reducible exact mailcoachref13_SameLedgers.mono _ _ _)
      | (with_reducible exact LeO.refl _)
      | (with_reducible exact LeO.none _)
      | (with_reducible refine LeO.ite ?_ ?_)
      | (with_reducible refine LeO.bind ?_ (fun _ => ?_))
      | exact ih0 _ _ _ _ _ _
      | exact ih1 _ _ _ _ _ _ _ _ _ _
      | exact ih2 _ _ _ _ _ _ _ _ _ _
      | exact ih3 _ _ _ _ _ _ _ _ _
      | exact ih4 _ _ _ _ _ _ _ _ _ _ _
      | exact ih5 _ _ _ _ _ _ _ _ _ _ _
      | exact ledgers_Check.mono _ _
      | exact ledgers_Close.mono _ _ _
      | exact ledgers_Open.mono _ _ _
      | exact mailcoachlaw13_Awake.mono _
      | exact mailcoachlaw13_Made.mono _ _ _
      | exact mailcoachref13_Right.mono _ _
      | exact mailcoachref13_SameLedgers.mono _ _ _
      | exact LeO.none _
      | refine LeO.ite ?_ ?_
      | refine LeO.bind ?_ (fun _ => ?_)
    · intro y0 y1 y2 y3 y4 y5 y6 y7 y8 y9 y10
      unfold mailcoachlaw13_LedgersChecks.j1
      repeat' first
      | (with_reducible exact ih0 _ _ _ _ _ _)
      | (with_reducible exact ih1 _ _ _ _ _ _ _ _ _ _)
      | (with_reducible exact ih2 _ _ _ _ _ _ _ _ _ _)
      | (with_reducible exact ih3 _ _ _ _ _ _ _ _ _)
      | (with_reducible exact ih4 _ _ _ _ _ _ _ _ _ _ _)
      | (with_reducible exact ih5 _ _ _ _ _ _ _ _ _ _ _)
      | (with_reducible exact ledgers_Check.mono _ _)
      | (with_reducible exact ledgers_Close.mono _ _ _)
      | (with_reducible exact ledgers_Open.mono _ _ _)
      | (with_reducible exact mailcoachlaw13_Awake.mono _)
      | (with_reducible exact mailcoachlaw13_Made.mono _ _ _)
      | (with_reducible exact mailcoachref13_Right.mono _ _)
      | (with_reducible exact mailcoachref13_SameLedgers.mono _ _ _)
      | (with_reducible exact LeO.refl _)
      | (with_reducible exact LeO.none _)
      | (with_reducible refine LeO.ite ?_ ?_)
      | (with_reducible refine LeO.bind ?_ (fun _ => ?_))
      | exact ih0 _ _ _ _ _ _
      | exact ih1 _ _ _ _ _ _ _ _ _ _
      | exact ih2 _ _ _ _ _ _ _ _ _ _
      | exact ih3 _ _ _ _ _ _ _ _ _
      | exact ih4 _ _ _ _ _ _ _ _ _ _ _
      | exact ih5 _ _ _ _ _ _ _ _ _ _ _
      | exact ledgers_Check.mono _ _
      | exact ledgers_Close.mono _ _ _
      | exact ledgers_Open.mono _ _ _
      | exact mailcoachlaw13_Awake.mono _
      | exact mailcoachlaw13_Made.mono _ _ _
      | exact mailcoachref13_Right.mono _ _
      | exact mailcoachref13_SameLedgers.mono _ _ _
      | exact LeO.none _
      | refine LeO.ite ?_ ?_
      | refine LeO.bind ?_ (fun _ => ?_)
theorem mailcoachlaw13_LedgersChecks.mono : ∀ a0 a1 a2 a3 a4 k, LeO (mailcoachlaw13_LedgersChecks.f k a0 a1 a2 a3 a4) (mailcoachlaw13_LedgersChecks.f (k + 1) a0 a1 a2 a3 a4) := by
  intro a0 a1 a2 a3 a4 k
  obtain ⟨ih0, ih1, ih2, ih3, ih4, ih5⟩ := mailcoachlaw13_LedgersChecks.mono_l k
  unfold mailcoachlaw13_LedgersChecks.f
  repeat' first
      | (with_reducible exact ih0 _ _ _ _ _ _)
      | (with_reducible exact ih1 _ _ _ _ _ _ _ _ _ _)
      | (with_reducible exact ih2 _ _ _ _ _ _ _ _ _ _)
      | (with_reducible exact ih3 _ _ _ _ _ _ _ _ _)
      | (with_reducible exact ih4 _ _ _ _ _ _ _ _ _ _ _)
      | (with_reducible exact ih5 _ _ _ _ _ _ _ _ _ _ _)
      | (with_reducible exact ledgers_Check.mono _ _)
      | (with_reducible exact ledgers_Close.mono _ _ _)
      | (with_reducible exact ledgers_Open.mono _ _ _)
      | (with_reducible exact mailcoachlaw13_Awake.mono _)
      | (with_reducible exact mailcoachlaw13_Made.mono _ _ _)
      | (with_reducible exact mailcoachref13_Right.mono _ _)
      | (with_reducible exact mailcoachref13_SameLedgers.mono _ _ _)
      | (with_reducible exact LeO.refl _)
      | (with_reducible exact LeO.none _)
      | (with_reducible refine LeO.ite ?_ ?_)
      | (with_reducible refine LeO.bind ?_ (fun _ => ?_))
      | exact ih0 _ _ _ _ _ _
      | exact ih1 _ _ _ _ _ _ _ _ _ _
      | exact ih2 _ _ _ _ _ _ _ _ _ _
      | exact ih3 _ _ _ _ _ _ _ _ _
      | exact ih4 _ _ _ _ _ _ _ _ _ _ _
      | exact ih5 _ _ _ _ _ _ _ _ _ _ _
      | exact ledgers_Check.mono _ _
      | exact ledgers_Close.mono _ _ _
      | exact ledgers_Open.mono _ _ _
      | exact mailcoachlaw13_Awake.mono _
      | exact mailcoachlaw13_Made.mono _ _ _
      | exact mailcoachref13_Right.mono _ _
      | exact mailcoachref13_SameLedgers.mono _ _ _
      | exact LeO.none _
      | refine LeO.ite ?_ ?_
      | refine LeO.bind ?_ (fun _ => ?_)
def mailcoachlaw13_LedgersChecks.T22 : Bool × List (List Nat × List Nat) := (true, [([], []), ([0], [0]), ([1], [1]), ([2], [2]), ([2], [2]), ([2], [2]), ([2], [2]), ([6, 2], [2, 6]), ([5, 7, 2], [2, 5, 7]), ([4, 8, 2, 2], [2, 4, 8]), ([2], [2]), ([2], [2]), ([11, 2], [2, 11]), ([10, 12, 2], [2, 10, 12]), ([13, 2], [2, 13]), ([14, 2], [2, 14]), ([2], [2]), ([15, 16, 2], [2, 15, 16]), ([17, 2], [2, 17]), ([9, 18, 9, 2], [2, 9, 18]), ([3, 19, 19, 2], [2, 3, 19]), ([2, 20], [2, 20]), ([21, 20, 0, 1, 2, 3, 4, 5, 6, 7, 8, 9, 10, 11, 12, 13, 14, 15, 16, 17, 18, 19, 20, 21], [21])])
def mailcoachlaw13_LedgersChecks.B22 : List Nat := [0, 1, 3, 7, 7, 7, 7, 71, 231, 503, 7, 7, 2055, 7175, 15367, 31751, 7, 130055, 261127, 524279, 1048575, 2097151, 4194303]
theorem mailcoachlaw13_LedgersChecks.tab22 : rtab .any (opsOf Try.f3 22) = mailcoachlaw13_LedgersChecks.T22 := by kernel_rfl
theorem mailcoachlaw13_LedgersChecks.bits22 : waitsOk mailcoachlaw13_LedgersChecks.T22.2 mailcoachlaw13_LedgersChecks.B22 = true := by kernel_rfl
end Go.Proofs.Ytmbealldhndeoaa.PLedgersChecks
