-- Written by a program of this session's; its pattern is the kit's print.
import Derived.Test.YtmbealldhndeoaaYLedgersPlaces0
import Derived.Test.YtmbealldhndeoaaYLedgersPlaces2
import Derived.Test.YtmbealldhndeoaaYLedgersPlaces4
import Derived.Test.YtmbealldhndeoaaYLedgersPlaces5
import Derived.Test.YtmbealldhndeoaaYLedgersPlaces6
import Derived.Test.YtmbealldhndeoaaYLedgersPlaces7
import Derived.Test.YtmbealldhndeoaaYLedgersPlaces8
import Derived.Test.YtmbealldhndeoaaYLedgersPlaces9
import Derived.Test.YtmbealldhndeoaaYLedgersPlaces10
import Derived.Test.YtmbealldhndeoaaYLedgersPlaces11
namespace Go.Proofs.Ytmbealldhndeoaa.PLedgersPlaces
open Go.RowKit Go.Proofs.YtmbealldhndeoaaW.PrintWords Go.Proofs.YtmbealldhndeoaaW.PrintWords.Kd Go.Proofs.YtmbealldhndeoaaW.PrintLast Go.Proofs.YtmbealldhndeoaaW.PrintMore
open List (setIfInBounds_toArray set_cons_zero set_cons_succ)
attribute [local go_sem] max2_int min2_int max_two min_two max_three min_three max_four min_four   -- for this text's walks alone
set_option linter.unusedVariables false
set_option linter.unusedSimpArgs false

attribute [local go_sem high] eqA36
/-! ### mailcoachlaw13_LedgersPlaces: function 7 -/
def mailcoachlaw13_LedgersPlaces.f (k : Nat) (l0 : List Int) (a1 : Bool) (a2 : Int) (a3_0 : Int) (a3_1 : Int) (a4_0 : Int) (a4_1 : Int) (a5 : Bool) : Option (Bool) := (mailcoachlaw13_Awake.f k).bind fun t248 => (if t248 = true then ((mailcoachlaw13_Made.f k l0 a1).bind fun t249 => ((mailcoachlaw13_Place.f a3_0 a3_1 a5).bind fun bt252 => ((mailcoachlaw13_Place.f a4_0 a4_1 a5).bind fun bt254 => ((ledgers_Next.f k t249 (IntKind.u64.wrap (Int.tmod a2 6)) bt252.1 bt252.2).bind fun bt256 => ((mailcoachref13_Next.f k t249 (IntKind.u64.wrap (Int.tmod a2 6)) bt252.1 bt252.2).bind fun bt260 => (if (bt256.1 == bt260.1 && (bt256.2.1 == bt260.2.1)) = true then (if (bt256.2.2 == bt260.2.2) = true then ((ledgers_Order.f k bt252.1 bt252.2 bt254.1 bt254.2).bind fun t264 => ((mailcoachref13_Order.f k bt252.1 bt252.2 bt254.1 bt254.2).bind fun t265 => (if t264 = t265 then ((ledgers_Has.f k t249 (IntKind.u64.wrap (Int.tmod a2 6)) bt252.1 bt252.2).bind fun t266 => ((mailcoachref13_Has.f k t249 (IntKind.u64.wrap (Int.tmod a2 6)) bt252.1 bt252.2).bind fun t267 => (if (t266 == t267) = true then ((ledgers_Between.f k t249 (IntKind.u64.wrap (Int.tmod a2 6)) bt252.1 bt252.2 bt254.1 bt254.2).bind fun t268 => ((mailcoachref13_Between.f k t249 (IntKind.u64.wrap (Int.tmod a2 6)) bt252.1 bt252.2 bt254.1 bt254.2).bind fun t269 => (if t268 = t269 then ((ledgers_Behind.f bt252.1 bt252.2).bind fun bt270 => ((mailcoachref13_Behind.f bt252.1 bt252.2).bind fun bt272 => (if (bt270.1 == bt272.1 && (bt270.2 == bt272.2)) = true then ((ledgers_Trim.f k t249 bt252.1 bt252.2).bind fun t274 => ((mailcoachref13_Trim.f k t249 bt252.1 bt252.2).bind fun t277 => ((mailcoachref13_SameLedgers.f k t274 t277).bind fun t280 => (some t280)))) else (some false)))) else (some false)))) else (some false)))) else (some false)))) else (some false)) else (some false))))))) else (some false))
theorem mailcoachlaw13_LedgersPlaces.mono : ∀ a0 a1 a2 a3 a4 a5 a6 a7 k, LeO (mailcoachlaw13_LedgersPlaces.f k a0 a1 a2 a3 a4 a5 a6 a7) (mailcoachlaw13_LedgersPlaces.f (k + 1) a0 a1 a2 a3 a4 a5 a6 a7) := by
  intro a0 a1 a2 a3 a4 a5 a6 a7 k
  unfold mailcoachlaw13_LedgersPlaces.f
  repeat' first
      | (with_reducible exact ledgers_Between.mono _ _ _ _ _ _ _)
      | (with_reducible exact ledgers_Has.mono _ _ _ _ _)
      | (with_reducible exact ledgers_Next.mono _ _ _ _ _)
      | (with_reducible exact ledgers_Order.mono _ _ _ _ _)
      | (with_reducible exact ledgers_Trim.mono _ _ _ _)
      | (with_reducible exact mailcoachlaw13_Awake.mono _)
      | (with_reducible exact mailcoachlaw13_Made.mono _ _ _)
      | (with_reducible exact mailcoachref13_Between.mono _ _ _ _ _ _ _)
      | (with_reducible exact mailcoachref13_Has.mono _ _ _ _ _)
      | (with_reducible exact mailcoachref13_Next.mono _ _ _ _ _)
      | (with_reducible exact mailcoachref13_Order.mono _ _ _ _ _)
      | (with_reducible exact mailcoachref13_SameLedgers.mono _ _ _)
      | (with_reducible exact mailcoachref13_Trim.mono _ _ _ _)
      | (with_reducible exact LeO.refl _)
      | (with_reducible exact LeO.none _)
      | (with_reducible refine LeO.ite ?_ ?_)
      | (with_reducible refine LeO.bind ?_ (fun _ => ?_))
      | exact ledgers_Between.mono _ _ _ _ _ _ _
      | exact ledgers_Has.mono _ _ _ _ _
      | exact ledgers_Next.mono _ _ _ _ _
      | exact ledgers_Order.mono _ _ _ _ _
      | exact ledgers_Trim.mono _ _ _ _
      | exact mailcoachlaw13_Awake.mono _
      | exact mailcoachlaw13_Made.mono _ _ _
      | exact mailcoachref13_Between.mono _ _ _ _ _ _ _
      | exact mailcoachref13_Has.mono _ _ _ _ _
      | exact mailcoachref13_Next.mono _ _ _ _ _
      | exact mailcoachref13_Order.mono _ _ _ _ _
      | exact mailcoachref13_SameLedgers.mono _ _ _
      | exact mailcoachref13_Trim.mono _ _ _ _
      | exact LeO.none _
      | refine LeO.ite ?_ ?_
      | refine LeO.bind ?_ (fun _ => ?_)
def mailcoachlaw13_LedgersPlaces.T4 : Bool × List (List Nat × List Nat) := (true, [([], []), ([], []), ([0, 1], [0, 1]), ([], []), ([], []), ([3, 4, 2], [3, 4]), ([2, 5, 0, 1, 2], [2]), ([5, 6, 0, 1, 2, 3, 4, 5, 6], [5])])
def mailcoachlaw13_LedgersPlaces.B4 : List Nat := [0, 0, 3, 0, 0, 31, 63, 127]
theorem mailcoachlaw13_LedgersPlaces.tab4 : rtab .any (opsOf Try.f7 4) = mailcoachlaw13_LedgersPlaces.T4 := by kernel_rfl
theorem mailcoachlaw13_LedgersPlaces.bits4 : waitsOk mailcoachlaw13_LedgersPlaces.T4.2 mailcoachlaw13_LedgersPlaces.B4 = true := by kernel_rfl
def mailcoachlaw13_LedgersPlaces.T7 : Bool × List (List Nat × List Nat) := (true, [([], []), ([], []), ([0, 1], [0, 1]), ([2], [2]), ([3], [3]), ([3], [3]), ([4, 5, 3], [3, 4, 5]), ([3, 6], [3, 6]), ([7, 3], [7]), ([8], [8]), ([8], [8]), ([9, 10, 8, 8], [8, 9, 10]), ([8], [8]), ([8], [8]), ([12, 13, 11, 8], [8, 12, 13]), ([11, 14, 8], [8, 11, 14]), ([8, 15], [8, 15]), ([16, 14], [16]), ([17], [17]), ([17], [17]), ([17], [17]), ([18, 19, 20, 17, 17], [17, 18, 19, 20]), ([17], [17]), ([17], [17]), ([17], [17]), ([22, 23, 24, 21, 17], [17, 22, 23, 24]), ([21, 25, 17], [17, 21, 25]), ([17, 26], [17, 26]), ([27, 25], [27]), ([28], [28]), ([28], [28]), ([28], [28]), ([28], [28]), ([29, 30, 31, 32, 28, 28], [28, 29, 30, 31, 32]), ([28], [28]), ([28], [28]), ([28], [28]), ([28], [28]), ([34, 35, 36, 37, 33, 28], [28, 34, 35, 36, 37]), ([33, 38, 28], [28, 33, 38]), ([28, 39], [28, 39]), ([40, 38], [40]), ([41], [41]), ([42, 41, 41], [41, 42]), ([41], [41]), ([44, 43, 41], [41, 44]), ([43, 45, 41], [41, 43, 45]), ([41, 46], [41, 46]), ([47, 45], [47]), ([48], [48]), ([48], [48]), ([49, 50, 48, 48], [48, 49, 50]), ([48], [48]), ([48], [48]), ([52, 53, 51, 48], [48, 52, 53]), ([51, 54, 54, 48], [48, 51, 54]), ([48, 55], [48, 55]), ([56, 55, 0, 1, 2, 3, 4, 5, 6, 7, 8, 9, 10, 11, 12, 13, 14, 15, 16, 17, 18, 19, 20, 21, 22, 23, 24, 25, 26, 27, 28, 29, 30, 31, 32, 33, 34, 35, 36, 37, 38, 39, 40, 41, 42, 43, 44, 45, 46, 47, 48, 49, 50, 51, 52, 53, 54, 55, 56], [56])])
def mailcoachlaw13_LedgersPlaces.B7 : List Nat := [0, 0, 3, 7, 15, 15, 63, 127, 255, 511, 511, 2047, 511, 511, 16383, 32767, 65535, 131071, 262143, 262143, 262143, 2097151, 262143, 262143, 262143, 33554431, 67108863, 134217727, 268435455, 536870911, 536870911, 536870911, 536870911, 8589934591, 536870911, 536870911, 536870911, 536870911, 274877906943, 549755813887, 1099511627775, 2199023255551, 4398046511103, 8796093022207, 4398046511103, 35184372088831, 70368744177663, 140737488355327, 281474976710655, 562949953421311, 562949953421311, 2251799813685247, 562949953421311, 562949953421311, 18014398509481983, 36028797018963967, 72057594037927935, 144115188075855871]
theorem mailcoachlaw13_LedgersPlaces.tab7 : rtab .any (opsOf Try.f7 7) = mailcoachlaw13_LedgersPlaces.T7 := by kernel_rfl
theorem mailcoachlaw13_LedgersPlaces.bits7 : waitsOk mailcoachlaw13_LedgersPlaces.T7.2 mailcoachlaw13_LedgersPlaces.B7 = true := by kernel_rfl
set_option maxHeartbeats 8000000 in
set_option maxRecDepth 100000 in
theorem mailcoachlaw13_LedgersPlaces.calls (k : Nat) (A0 : Option Addr) (c0 : Nat) (l0 : List Int) (a1 : Bool) (a2 : Int) (a3_0 : Int) (a3_1 : Int) (a4_0 : Int) (a4_1 : Int) (a5 : Bool) (r : Bool) (w : World) (hr0 : Kd.C (Kd.int .u8) w A0 l0.length l0) (hc0 : l0.length ≤ c0) (ht_ : r = true) (h : mailcoachlaw13_LedgersPlaces.f k l0 a1 a2 a3_0 a3_1 a4_0 a4_1 a5 = some r) :
    Calls Try.prog 7 #[.slice A0 l0.length c0, .bool a1, .int .u8 a2, .agg #[.int .u64 a3_0, .int .u64 a3_1], .agg #[.int .u64 a4_0, .int .u64 a4_1], .bool a5] w fun e w' => e = .returned (.bool r) ∧ Below w.heap.size w w' := by
 have HT0_ := am ht_
 clear ht_
 have hu36 := Try.underlying36
 have HR0 := am hr0
 have HC0 := am hc0
 clear hr0 hc0
 have HB := am (Below.refl w.heap.size w)
 have H : ((mailcoachlaw13_Awake.f k).bind fun t248 => (if t248 = true then ((mailcoachlaw13_Made.f k l0 a1).bind fun t249 => ((mailcoachlaw13_Place.f a3_0 a3_1 a5).bind fun bt252 => ((mailcoachlaw13_Place.f a4_0 a4_1 a5).bind fun bt254 => ((ledgers_Next.f k t249 (IntKind.u64.wrap (Int.tmod a2 6)) bt252.1 bt252.2).bind fun bt256 => ((mailcoachref13_Next.f k t249 (IntKind.u64.wrap (Int.tmod a2 6)) bt252.1 bt252.2).bind fun bt260 => (if (bt256.1 == bt260.1 && (bt256.2.1 == bt260.2.1)) = true then (if (bt256.2.2 == bt260.2.2) = true then ((ledgers_Order.f k bt252.1 bt252.2 bt254.1 bt254.2).bind fun t264 => ((mailcoachref13_Order.f k bt252.1 bt252.2 bt254.1 bt254.2).bind fun t265 => (if t264 = t265 then ((ledgers_Has.f k t249 (IntKind.u64.wrap (Int.tmod a2 6)) bt252.1 bt252.2).bind fun t266 => ((mailcoachref13_Has.f k t249 (IntKind.u64.wrap (Int.tmod a2 6)) bt252.1 bt252.2).bind fun t267 => (if (t266 == t267) = true then ((ledgers_Between.f k t249 (IntKind.u64.wrap (Int.tmod a2 6)) bt252.1 bt252.2 bt254.1 bt254.2).bind fun t268 => ((mailcoachref13_Between.f k t249 (IntKind.u64.wrap (Int.tmod a2 6)) bt252.1 bt252.2 bt254.1 bt254.2).bind fun t269 => (if t268 = t269 then ((ledgers_Behind.f bt252.1 bt252.2).bind fun bt270 => ((mailcoachref13_Behind.f bt252.1 bt252.2).bind fun bt272 => (if (bt270.1 == bt272.1 && (bt270.2 == bt272.2)) = true then ((ledgers_Trim.f k t249 bt252.1 bt252.2).bind fun t274 => ((mailcoachref13_Trim.f k t249 bt252.1 bt252.2).bind fun t277 => ((mailcoachref13_SameLedgers.f k t274 t277).bind fun t280 => (some t280)))) else (some false)))) else (some false)))) else (some false)))) else (some false)))) else (some false)) else (some false))))))) else (some false))) = some r := h
 clear h
 replace H := Option.bind_eq_some_iff.mp H
 obtain ⟨t248, A70, H⟩ := H
 replace H : (if t248 = true then ((mailcoachlaw13_Made.f k l0 a1).bind fun t249 => ((mailcoachlaw13_Place.f a3_0 a3_1 a5).bind fun bt252 => ((mailcoachlaw13_Place.f a4_0 a4_1 a5).bind fun bt254 => ((ledgers_Next.f k t249 (IntKind.u64.wrap (Int.tmod a2 6)) bt252.1 bt252.2).bind fun bt256 => ((mailcoachref13_Next.f k t249 (IntKind.u64.wrap (Int.tmod a2 6)) bt252.1 bt252.2).bind fun bt260 => (if (bt256.1 == bt260.1 && (bt256.2.1 == bt260.2.1)) = true then (if (bt256.2.2 == bt260.2.2) = true then ((ledgers_Order.f k bt252.1 bt252.2 bt254.1 bt254.2).bind fun t264 => ((mailcoachref13_Order.f k bt252.1 bt252.2 bt254.1 bt254.2).bind fun t265 => (if t264 = t265 then ((ledgers_Has.f k t249 (IntKind.u64.wrap (Int.tmod a2 6)) bt252.1 bt252.2).bind fun t266 => ((mailcoachref13_Has.f k t249 (IntKind.u64.wrap (Int.tmod a2 6)) bt252.1 bt252.2).bind fun t267 => (if (t266 == t267) = true then ((ledgers_Between.f k t249 (IntKind.u64.wrap (Int.tmod a2 6)) bt252.1 bt252.2 bt254.1 bt254.2).bind fun t268 => ((mailcoachref13_Between.f k t249 (IntKind.u64.wrap (Int.tmod a2 6)) bt252.1 bt252.2 bt254.1 bt254.2).bind fun t269 => (if t268 = t269 then ((ledgers_Behind.f bt252.1 bt252.2).bind fun bt270 => ((mailcoachref13_Behind.f bt252.1 bt252.2).bind fun bt272 => (if (bt270.1 == bt272.1 && (bt270.2 == bt272.2)) = true then ((ledgers_Trim.f k t249 bt252.1 bt252.2).bind fun t274 => ((mailcoachref13_Trim.f k t249 bt252.1 bt252.2).bind fun t277 => ((mailcoachref13_SameLedgers.f k t274 t277).bind fun t280 => (some t280)))) else (some false)))) else (some false)))) else (some false)))) else (some false)))) else (some false)) else (some false))))))) else (some false)) = some r := H
 have A7 := am A70
 clear A70
 by_cases c8 : t248 = true
 rotate_left
 ·
  replace c8 := Bool.eq_false_iff.mpr c8
  subst c8
  have H1 : (some false) = some r := by rw [if_neg (show ¬ (false = true) by decide)] at H; exact H
  clear H
  have H := H1
  clear H1
  exact absurd ((Option.some.inj H).trans HT0_.out) (by decide)
 subst c8
 have H1 : ((mailcoachlaw13_Made.f k l0 a1).bind fun t249 => ((mailcoachlaw13_Place.f a3_0 a3_1 a5).bind fun bt252 => ((mailcoachlaw13_Place.f a4_0 a4_1 a5).bind fun bt254 => ((ledgers_Next.f k t249 (IntKind.u64.wrap (Int.tmod a2 6)) bt252.1 bt252.2).bind fun bt256 => ((mailcoachref13_Next.f k t249 (IntKind.u64.wrap (Int.tmod a2 6)) bt252.1 bt252.2).bind fun bt260 => (if (bt256.1 == bt260.1 && (bt256.2.1 == bt260.2.1)) = true then (if (bt256.2.2 == bt260.2.2) = true then ((ledgers_Order.f k bt252.1 bt252.2 bt254.1 bt254.2).bind fun t264 => ((mailcoachref13_Order.f k bt252.1 bt252.2 bt254.1 bt254.2).bind fun t265 => (if t264 = t265 then ((ledgers_Has.f k t249 (IntKind.u64.wrap (Int.tmod a2 6)) bt252.1 bt252.2).bind fun t266 => ((mailcoachref13_Has.f k t249 (IntKind.u64.wrap (Int.tmod a2 6)) bt252.1 bt252.2).bind fun t267 => (if (t266 == t267) = true then ((ledgers_Between.f k t249 (IntKind.u64.wrap (Int.tmod a2 6)) bt252.1 bt252.2 bt254.1 bt254.2).bind fun t268 => ((mailcoachref13_Between.f k t249 (IntKind.u64.wrap (Int.tmod a2 6)) bt252.1 bt252.2 bt254.1 bt254.2).bind fun t269 => (if t268 = t269 then ((ledgers_Behind.f bt252.1 bt252.2).bind fun bt270 => ((mailcoachref13_Behind.f bt252.1 bt252.2).bind fun bt272 => (if (bt270.1 == bt272.1 && (bt270.2 == bt272.2)) = true then ((ledgers_Trim.f k t249 bt252.1 bt252.2).bind fun t274 => ((mailcoachref13_Trim.f k t249 bt252.1 bt252.2).bind fun t277 => ((mailcoachref13_SameLedgers.f k t274 t277).bind fun t280 => (some t280)))) else (some false)))) else (some false)))) else (some false)))) else (some false)))) else (some false)) else (some false))))))) = some r := by rw [if_pos rfl] at H; exact H
 clear H
 have H := H1
 clear H1
 replace H := Option.bind_eq_some_iff.mp H
 obtain ⟨t249, A90, H⟩ := H
 replace H : ((mailcoachlaw13_Place.f a3_0 a3_1 a5).bind fun bt252 => ((mailcoachlaw13_Place.f a4_0 a4_1 a5).bind fun bt254 => ((ledgers_Next.f k t249 (IntKind.u64.wrap (Int.tmod a2 6)) bt252.1 bt252.2).bind fun bt256 => ((mailcoachref13_Next.f k t249 (IntKind.u64.wrap (Int.tmod a2 6)) bt252.1 bt252.2).bind fun bt260 => (if (bt256.1 == bt260.1 && (bt256.2.1 == bt260.2.1)) = true then (if (bt256.2.2 == bt260.2.2) = true then ((ledgers_Order.f k bt252.1 bt252.2 bt254.1 bt254.2).bind fun t264 => ((mailcoachref13_Order.f k bt252.1 bt252.2 bt254.1 bt254.2).bind fun t265 => (if t264 = t265 then ((ledgers_Has.f k t249 (IntKind.u64.wrap (Int.tmod a2 6)) bt252.1 bt252.2).bind fun t266 => ((mailcoachref13_Has.f k t249 (IntKind.u64.wrap (Int.tmod a2 6)) bt252.1 bt252.2).bind fun t267 => (if (t266 == t267) = true then ((ledgers_Between.f k t249 (IntKind.u64.wrap (Int.tmod a2 6)) bt252.1 bt252.2 bt254.1 bt254.2).bind fun t268 => ((mailcoachref13_Between.f k t249 (IntKind.u64.wrap (Int.tmod a2 6)) bt252.1 bt252.2 bt254.1 bt254.2).bind fun t269 => (if t268 = t269 then ((ledgers_Behind.f bt252.1 bt252.2).bind fun bt270 => ((mailcoachref13_Behind.f bt252.1 bt252.2).bind fun bt272 => (if (bt270.1 == bt272.1 && (bt270.2 == bt272.2)) = true then ((ledgers_Trim.f k t249 bt252.1 bt252.2).bind fun t274 => ((mailcoachref13_Trim.f k t249 bt252.1 bt252.2).bind fun t277 => ((mailcoachref13_SameLedgers.f k t274 t277).bind fun t280 => (some t280)))) else (some false)))) else (some false)))) else (some false)))) else (some false)))) else (some false)) else (some false)))))) = some r := H
 have A9 := am A90
 clear A90
 replace H := Option.bind_eq_some_iff.mp H
 obtain ⟨⟨t252, t253⟩, A100, H⟩ := H
 replace H : ((mailcoachlaw13_Place.f a4_0 a4_1 a5).bind fun bt254 => ((ledgers_Next.f k t249 (IntKind.u64.wrap (Int.tmod a2 6)) t252 t253).bind fun bt256 => ((mailcoachref13_Next.f k t249 (IntKind.u64.wrap (Int.tmod a2 6)) t252 t253).bind fun bt260 => (if (bt256.1 == bt260.1 && (bt256.2.1 == bt260.2.1)) = true then (if (bt256.2.2 == bt260.2.2) = true then ((ledgers_Order.f k t252 t253 bt254.1 bt254.2).bind fun t264 => ((mailcoachref13_Order.f k t252 t253 bt254.1 bt254.2).bind fun t265 => (if t264 = t265 then ((ledgers_Has.f k t249 (IntKind.u64.wrap (Int.tmod a2 6)) t252 t253).bind fun t266 => ((mailcoachref13_Has.f k t249 (IntKind.u64.wrap (Int.tmod a2 6)) t252 t253).bind fun t267 => (if (t266 == t267) = true then ((ledgers_Between.f k t249 (IntKind.u64.wrap (Int.tmod a2 6)) t252 t253 bt254.1 bt254.2).bind fun t268 => ((mailcoachref13_Between.f k t249 (IntKind.u64.wrap (Int.tmod a2 6)) t252 t253 bt254.1 bt254.2).bind fun t269 => (if t268 = t269 then ((ledgers_Behind.f t252 t253).bind fun bt270 => ((mailcoachref13_Behind.f t252 t253).bind fun bt272 => (if (bt270.1 == bt272.1 && (bt270.2 == bt272.2)) = true then ((ledgers_Trim.f k t249 t252 t253).bind fun t274 => ((mailcoachref13_Trim.f k t249 t252 t253).bind fun t277 => ((mailcoachref13_SameLedgers.f k t274 t277).bind fun t280 => (some t280)))) else (some false)))) else (some false)))) else (some false)))) else (some false)))) else (some false)) else (some false))))) = some r := H
 have A10 := am A100
 clear A100
 replace H := Option.bind_eq_some_iff.mp H
 obtain ⟨⟨t254, t255⟩, A110, H⟩ := H
 replace H : ((ledgers_Next.f k t249 (IntKind.u64.wrap (Int.tmod a2 6)) t252 t253).bind fun bt256 => ((mailcoachref13_Next.f k t249 (IntKind.u64.wrap (Int.tmod a2 6)) t252 t253).bind fun bt260 => (if (bt256.1 == bt260.1 && (bt256.2.1 == bt260.2.1)) = true then (if (bt256.2.2 == bt260.2.2) = true then ((ledgers_Order.f k t252 t253 t254 t255).bind fun t264 => ((mailcoachref13_Order.f k t252 t253 t254 t255).bind fun t265 => (if t264 = t265 then ((ledgers_Has.f k t249 (IntKind.u64.wrap (Int.tmod a2 6)) t252 t253).bind fun t266 => ((mailcoachref13_Has.f k t249 (IntKind.u64.wrap (Int.tmod a2 6)) t252 t253).bind fun t267 => (if (t266 == t267) = true then ((ledgers_Between.f k t249 (IntKind.u64.wrap (Int.tmod a2 6)) t252 t253 t254 t255).bind fun t268 => ((mailcoachref13_Between.f k t249 (IntKind.u64.wrap (Int.tmod a2 6)) t252 t253 t254 t255).bind fun t269 => (if t268 = t269 then ((ledgers_Behind.f t252 t253).bind fun bt270 => ((mailcoachref13_Behind.f t252 t253).bind fun bt272 => (if (bt270.1 == bt272.1 && (bt270.2 == bt272.2)) = true then ((ledgers_Trim.f k t249 t252 t253).bind fun t274 => ((mailcoachref13_Trim.f k t249 t252 t253).bind fun t277 => ((mailcoachref13_SameLedgers.f k t274 t277).bind fun t280 => (some t280)))) else (some false)))) else (some false)))) else (some false)))) else (some false)))) else (some false)) else (some false)))) = some r := H
 have A11 := am A110
 clear A110
 replace H := Option.bind_eq_some_iff.mp H
 obtain ⟨⟨t256, t257, t258⟩, A120, H⟩ := H
 replace H : ((mailcoachref13_Next.f k t249 (IntKind.u64.wrap (Int.tmod a2 6)) t252 t253).bind fun bt260 => (if (t256 == bt260.1 && (t257 == bt260.2.1)) = true then (if (t258 == bt260.2.2) = true then ((ledgers_Order.f k t252 t253 t254 t255).bind fun t264 => ((mailcoachref13_Order.f k t252 t253 t254 t255).bind fun t265 => (if t264 = t265 then ((ledgers_Has.f k t249 (IntKind.u64.wrap (Int.tmod a2 6)) t252 t253).bind fun t266 => ((mailcoachref13_Has.f k t249 (IntKind.u64.wrap (Int.tmod a2 6)) t252 t253).bind fun t267 => (if (t266 == t267) = true then ((ledgers_Between.f k t249 (IntKind.u64.wrap (Int.tmod a2 6)) t252 t253 t254 t255).bind fun t268 => ((mailcoachref13_Between.f k t249 (IntKind.u64.wrap (Int.tmod a2 6)) t252 t253 t254 t255).bind fun t269 => (if t268 = t269 then ((ledgers_Behind.f t252 t253).bind fun bt270 => ((mailcoachref13_Behind.f t252 t253).bind fun bt272 => (if (bt270.1 == bt272.1 && (bt270.2 == bt272.2)) = true then ((ledgers_Trim.f k t249 t252 t253).bind fun t274 => ((mailcoachref13_Trim.f k t249 t252 t253).bind fun t277 => ((mailcoachref13_SameLedgers.f k t274 t277).bind fun t280 => (some t280)))) else (some false)))) else (some false)))) else (some false)))) else (some false)))) else (some false)) else (some false))) = some r := H
 have A12 := am A120
 clear A120
 replace H := Option.bind_eq_some_iff.mp H
 obtain ⟨⟨t260, t261, t262⟩, A130, H⟩ := H
 replace H : (if (t256 == t260 && (t257 == t261)) = true then (if (t258 == t262) = true then ((ledgers_Order.f k t252 t253 t254 t255).bind fun t264 => ((mailcoachref13_Order.f k t252 t253 t254 t255).bind fun t265 => (if t264 = t265 then ((ledgers_Has.f k t249 (IntKind.u64.wrap (Int.tmod a2 6)) t252 t253).bind fun t266 => ((mailcoachref13_Has.f k t249 (IntKind.u64.wrap (Int.tmod a2 6)) t252 t253).bind fun t267 => (if (t266 == t267) = true then ((ledgers_Between.f k t249 (IntKind.u64.wrap (Int.tmod a2 6)) t252 t253 t254 t255).bind fun t268 => ((mailcoachref13_Between.f k t249 (IntKind.u64.wrap (Int.tmod a2 6)) t252 t253 t254 t255).bind fun t269 => (if t268 = t269 then ((ledgers_Behind.f t252 t253).bind fun bt270 => ((mailcoachref13_Behind.f t252 t253).bind fun bt272 => (if (bt270.1 == bt272.1 && (bt270.2 == bt272.2)) = true then ((ledgers_Trim.f k t249 t252 t253).bind fun t274 => ((mailcoachref13_Trim.f k t249 t252 t253).bind fun t277 => ((mailcoachref13_SameLedgers.f k t274 t277).bind fun t280 => (some t280)))) else (some false)))) else (some false)))) else (some false)))) else (some false)))) else (some false)) else (some false)) = some r := H
 have A13 := am A130
 clear A130
 by_cases c14 : (t256 == t260 && (t257 == t261)) = true
 rotate_left
 ·
  rw [if_neg c14] at H
  have c14b0 : (t256 == t260 && (t257 == t261)) = false := by simpa using c14
  (try (have c14b1 : decide (t256 = t260 && (t257 == t261)) = false := by simpa using c14))
  (try (have c14b2 : (t256 == t260 && (t257 == t261)) = false := by simpa using c14))
  (try (have c14b3 : ¬ (t256 = t260 && (t257 == t261)) := by simpa using c14))
  clear c14
  exact absurd ((Option.some.inj H).trans HT0_.out) (by decide)
 rw [if_pos c14] at H
 have c14b0 : (t256 == t260 && (t257 == t261)) = true := c14
 (try (have c14b1 : decide (t256 = t260 && (t257 == t261)) = true := by simpa using c14))
 (try (have c14b2 : (t256 == t260 && (t257 == t261)) = true := by simpa using c14))
 clear c14
 by_cases c15 : (t258 == t262) = true
 rotate_left
 ·
  rw [if_neg c15] at H
  have c15b0 : (t258 == t262) = false := by simpa using c15
  (try (have c15b1 : decide (t258 = t262) = false := by simpa using c15))
  (try (have c15b2 : (t258 == t262) = false := by simpa using c15))
  (try (have c15b3 : ¬ (t258 = t262) := by simpa using c15))
  clear c15
  exact absurd ((Option.some.inj H).trans HT0_.out) (by decide)
 rw [if_pos c15] at H
 have c15b0 : (t258 == t262) = true := c15
 (try (have c15b1 : decide (t258 = t262) = true := by simpa using c15))
 (try (have c15b2 : (t258 == t262) = true := by simpa using c15))
 clear c15
 replace H := Option.bind_eq_some_iff.mp H
 obtain ⟨t264, A160, H⟩ := H
 replace H : ((mailcoachref13_Order.f k t252 t253 t254 t255).bind fun t265 => (if t264 = t265 then ((ledgers_Has.f k t249 (IntKind.u64.wrap (Int.tmod a2 6)) t252 t253).bind fun t266 => ((mailcoachref13_Has.f k t249 (IntKind.u64.wrap (Int.tmod a2 6)) t252 t253).bind fun t267 => (if (t266 == t267) = true then ((ledgers_Between.f k t249 (IntKind.u64.wrap (Int.tmod a2 6)) t252 t253 t254 t255).bind fun t268 => ((mailcoachref13_Between.f k t249 (IntKind.u64.wrap (Int.tmod a2 6)) t252 t253 t254 t255).bind fun t269 => (if t268 = t269 then ((ledgers_Behind.f t252 t253).bind fun bt270 => ((mailcoachref13_Behind.f t252 t253).bind fun bt272 => (if (bt270.1 == bt272.1 && (bt270.2 == bt272.2)) = true then ((ledgers_Trim.f k t249 t252 t253).bind fun t274 => ((mailcoachref13_Trim.f k t249 t252 t253).bind fun t277 => ((mailcoachref13_SameLedgers.f k t274 t277).bind fun t280 => (some t280)))) else (some false)))) else (some false)))) else (some false)))) else (some false))) = some r := H
 have A16 := am A160
 clear A160
 replace H := Option.bind_eq_some_iff.mp H
 obtain ⟨t265, A170, H⟩ := H
 replace H : (if t264 = t265 then ((ledgers_Has.f k t249 (IntKind.u64.wrap (Int.tmod a2 6)) t252 t253).bind fun t266 => ((mailcoachref13_Has.f k t249 (IntKind.u64.wrap (Int.tmod a2 6)) t252 t253).bind fun t267 => (if (t266 == t267) = true then ((ledgers_Between.f k t249 (IntKind.u64.wrap (Int.tmod a2 6)) t252 t253 t254 t255).bind fun t268 => ((mailcoachref13_Between.f k t249 (IntKind.u64.wrap (Int.tmod a2 6)) t252 t253 t254 t255).bind fun t269 => (if t268 = t269 then ((ledgers_Behind.f t252 t253).bind fun bt270 => ((mailcoachref13_Behind.f t252 t253).bind fun bt272 => (if (bt270.1 == bt272.1 && (bt270.2 == bt272.2)) = true then ((ledgers_Trim.f k t249 t252 t253).bind fun t274 => ((mailcoachref13_Trim.f k t249 t252 t253).bind fun t277 => ((mailcoachref13_SameLedgers.f k t274 t277).bind fun t280 => (some t280)))) else (some false)))) else (some false)))) else (some false)))) else (some false)) = some r := H
 have A17 := am A170
 clear A170
 by_cases c18 : t264 = t265
 rotate_left
 ·
  rw [if_neg c18] at H
  have c18b0 : (t264 == t265) = false := beq_eq_false_iff_ne.mpr c18
  have c18b1 : (t264 != t265) = true := bne_iff_ne.mpr c18
  exact absurd ((Option.some.inj H).trans HT0_.out) (by decide)
 rw [if_pos c18] at H
 have c18b0 : (t264 == t265) = true := beq_iff_eq.mpr c18
 have c18b1 : (t264 != t265) = false := bne_eq_false_iff_eq.mpr c18
 clear c18
 replace H := Option.bind_eq_some_iff.mp H
 obtain ⟨t266, A190, H⟩ := H
 replace H : ((mailcoachref13_Has.f k t249 (IntKind.u64.wrap (Int.tmod a2 6)) t252 t253).bind fun t267 => (if (t266 == t267) = true then ((ledgers_Between.f k t249 (IntKind.u64.wrap (Int.tmod a2 6)) t252 t253 t254 t255).bind fun t268 => ((mailcoachref13_Between.f k t249 (IntKind.u64.wrap (Int.tmod a2 6)) t252 t253 t254 t255).bind fun t269 => (if t268 = t269 then ((ledgers_Behind.f t252 t253).bind fun bt270 => ((mailcoachref13_Behind.f t252 t253).bind fun bt272 => (if (bt270.1 == bt272.1 && (bt270.2 == bt272.2)) = true then ((ledgers_Trim.f k t249 t252 t253).bind fun t274 => ((mailcoachref13_Trim.f k t249 t252 t253).bind fun t277 => ((mailcoachref13_SameLedgers.f k t274 t277).bind fun t280 => (some t280)))) else (some false)))) else (some false)))) else (some false))) = some r := H
 have A19 := am A190
 clear A190
 replace H := Option.bind_eq_some_iff.mp H
 obtain ⟨t267, A200, H⟩ := H
 replace H : (if (t266 == t267) = true then ((ledgers_Between.f k t249 (IntKind.u64.wrap (Int.tmod a2 6)) t252 t253 t254 t255).bind fun t268 => ((mailcoachref13_Between.f k t249 (IntKind.u64.wrap (Int.tmod a2 6)) t252 t253 t254 t255).bind fun t269 => (if t268 = t269 then ((ledgers_Behind.f t252 t253).bind fun bt270 => ((mailcoachref13_Behind.f t252 t253).bind fun bt272 => (if (bt270.1 == bt272.1 && (bt270.2 == bt272.2)) = true then ((ledgers_Trim.f k t249 t252 t253).bind fun t274 => ((mailcoachref13_Trim.f k t249 t252 t253).bind fun t277 => ((mailcoachref13_SameLedgers.f k t274 t277).bind fun t280 => (some t280)))) else (some false)))) else (some false)))) else (some false)) = some r := H
 have A20 := am A200
 clear A200
 by_cases c21 : (t266 == t267) = true
 rotate_left
 ·
  rw [if_neg c21] at H
  have c21b0 : (t266 == t267) = false := by simpa using c21
  (try (have c21b1 : decide (t266 = t267) = false := by simpa using c21))
  (try (have c21b2 : (t266 == t267) = false := by simpa using c21))
  (try (have c21b3 : ¬ (t266 = t267) := by simpa using c21))
  clear c21
  exact absurd ((Option.some.inj H).trans HT0_.out) (by decide)
 rw [if_pos c21] at H
 have c21b0 : (t266 == t267) = true := c21
 (try (have c21b1 : decide (t266 = t267) = true := by simpa using c21))
 (try (have c21b2 : (t266 == t267) = true := by simpa using c21))
 clear c21
 replace H := Option.bind_eq_some_iff.mp H
 obtain ⟨t268, A220, H⟩ := H
 replace H : ((mailcoachref13_Between.f k t249 (IntKind.u64.wrap (Int.tmod a2 6)) t252 t253 t254 t255).bind fun t269 => (if t268 = t269 then ((ledgers_Behind.f t252 t253).bind fun bt270 => ((mailcoachref13_Behind.f t252 t253).bind fun bt272 => (if (bt270.1 == bt272.1 && (bt270.2 == bt272.2)) = true then ((ledgers_Trim.f k t249 t252 t253).bind fun t274 => ((mailcoachref13_Trim.f k t249 t252 t253).bind fun t277 => ((mailcoachref13_SameLedgers.f k t274 t277).bind fun t280 => (some t280)))) else (some false)))) else (some false))) = some r := H
 have A22 := am A220
 clear A220
 replace H := Option.bind_eq_some_iff.mp H
 obtain ⟨t269, A230, H⟩ := H
 replace H : (if t268 = t269 then ((ledgers_Behind.f t252 t253).bind fun bt270 => ((mailcoachref13_Behind.f t252 t253).bind fun bt272 => (if (bt270.1 == bt272.1 && (bt270.2 == bt272.2)) = true then ((ledgers_Trim.f k t249 t252 t253).bind fun t274 => ((mailcoachref13_Trim.f k t249 t252 t253).bind fun t277 => ((mailcoachref13_SameLedgers.f k t274 t277).bind fun t280 => (some t280)))) else (some false)))) else (some false)) = some r := H
 have A23 := am A230
 clear A230
 by_cases c24 : t268 = t269
 rotate_left
 ·
  rw [if_neg c24] at H
  have c24b0 : (t268 == t269) = false := beq_eq_false_iff_ne.mpr c24
  have c24b1 : (t268 != t269) = true := bne_iff_ne.mpr c24
  exact absurd ((Option.some.inj H).trans HT0_.out) (by decide)
 rw [if_pos c24] at H
 have c24b0 : (t268 == t269) = true := beq_iff_eq.mpr c24
 have c24b1 : (t268 != t269) = false := bne_eq_false_iff_eq.mpr c24
 clear c24
 replace H := Option.bind_eq_some_iff.mp H
 obtain ⟨⟨t270, t271⟩, A250, H⟩ := H
 replace H : ((mailcoachref13_Behind.f t252 t253).bind fun bt272 => (if (t270 == bt272.1 && (t271 == bt272.2)) = true then ((ledgers_Trim.f k t249 t252 t253).bind fun t274 => ((mailcoachref13_Trim.f k t249 t252 t253).bind fun t277 => ((mailcoachref13_SameLedgers.f k t274 t277).bind fun t280 => (some t280)))) else (some false))) = some r := H
 have A25 := am A250
 clear A250
 replace H := Option.bind_eq_some_iff.mp H
 obtain ⟨⟨t272, t273⟩, A260, H⟩ := H
 replace H : (if (t270 == t272 && (t271 == t273)) = true then ((ledgers_Trim.f k t249 t252 t253).bind fun t274 => ((mailcoachref13_Trim.f k t249 t252 t253).bind fun t277 => ((mailcoachref13_SameLedgers.f k t274 t277).bind fun t280 => (some t280)))) else (some false)) = some r := H
 have A26 := am A260
 clear A260
 by_cases c27 : (t270 == t272 && (t271 == t273)) = true
 rotate_left
 ·
  rw [if_neg c27] at H
  have c27b0 : (t270 == t272 && (t271 == t273)) = false := by simpa using c27
  (try (have c27b1 : decide (t270 = t272 && (t271 == t273)) = false := by simpa using c27))
  (try (have c27b2 : (t270 == t272 && (t271 == t273)) = false := by simpa using c27))
  (try (have c27b3 : ¬ (t270 = t272 && (t271 == t273)) := by simpa using c27))
  clear c27
  exact absurd ((Option.some.inj H).trans HT0_.out) (by decide)
 rw [if_pos c27] at H
 have c27b0 : (t270 == t272 && (t271 == t273)) = true := c27
 (try (have c27b1 : decide (t270 = t272 && (t271 == t273)) = true := by simpa using c27))
 (try (have c27b2 : (t270 == t272 && (t271 == t273)) = true := by simpa using c27))
 clear c27
 replace H := Option.bind_eq_some_iff.mp H
 obtain ⟨t274, A280, H⟩ := H
 replace H : ((mailcoachref13_Trim.f k t249 t252 t253).bind fun t277 => ((mailcoachref13_SameLedgers.f k t274 t277).bind fun t280 => (some t280))) = some r := H
 have A28 := am A280
 clear A280
 replace H := Option.bind_eq_some_iff.mp H
 obtain ⟨t277, A290, H⟩ := H
 replace H : ((mailcoachref13_SameLedgers.f k t274 t277).bind fun t280 => (some t280)) = some r := H
 have A29 := am A290
 clear A290
 replace H := Option.bind_eq_some_iff.mp H
 obtain ⟨t280, A300, H⟩ := H
 replace H : (some t280) = some r := H
 have A30 := am A300
 clear A300
 obtain rfl := Option.some.inj H
 go_enter Try.func7, Try.ntmps7
 try go_wp2_with (first | ((with_reducible refine gate_dst (N := 9) rfl ?_); refine box_event ?hg (N := 9) ?hd (cs := #[.int .u64 a3_0, .int .u64 a3_1]) (t := 36) ?hr ?_; (case hd => rfl); (case hg => rfl); (case hr => first | (go_simp; done) | (go_simp; rfl)); intro gb246 hg w31 hbox hb; have n0_ := am (below_step (by repeat (first | (with_reducible first | exact HB.out | apply below_alloc | apply pw_below_drewN | apply below_drew1) | exact HB.out)) hb); have n1_ := am (hbox); have n2_ := am ((by rw [hg]; exact (below_size (by repeat (first | (with_reducible first | exact HB.out | apply below_alloc | apply pw_below_drewN | apply below_drew1) | exact HB.out))) : w.heap.size ≤ gb246)); have n3_ := am ((by rw [hg]; exact (below_size (by repeat (first | (with_reducible first | exact HB.out | apply below_alloc | apply pw_below_drewN | apply below_drew1) | exact HB.out))) : w.heap.size ≤ gb246)); clear HB; have HB := n0_; have BK246 := n1_; have GW246 := n2_; have GE246 := n3_; clear n0_ n1_ n2_ n3_; clear hb hbox hg) | ((with_reducible refine gate_dst (N := 10) rfl ?_); refine box_event ?hg (N := 10) ?hd (cs := #[.int .u64 a4_0, .int .u64 a4_1]) (t := 36) ?hr ?_; (case hd => rfl); (case hg => rfl); (case hr => first | (go_simp; done) | (go_simp; rfl)); intro gb247 hg w32 hbox hb; have n0_ := am (blk_below (g := gb246) (o := .cells #[.int .u64 a3_0, .int .u64 a3_1] 36 (0, 0)) (by (with_reducible repeat (first | refine blk_drewN ?_ _ | refine blk_drew ?_ | refine blk_alloc ?_ _)); exact BK246.out) hb); have n1_ := am (below_step (by repeat (first | (with_reducible first | exact HB.out | apply below_alloc | apply pw_below_drewN | apply below_drew1 | refine below_set ?_ GE246.out) | exact HB.out)) hb); have n2_ := am (hbox); have n3_ := am ((by rw [hg]; exact (below_size (by repeat (first | (with_reducible first | exact HB.out | apply below_alloc | apply pw_below_drewN | apply below_drew1 | refine below_set ?_ GE246.out) | exact HB.out))) : w.heap.size ≤ gb247)); have n4_ := am ((by rw [hg]; exact (below_size (by repeat (first | (with_reducible first | exact HB.out | apply below_alloc | apply pw_below_drewN | apply below_drew1 | refine below_set ?_ GE246.out) | exact HB.out))) : w.heap.size ≤ gb247)); have n5_ := am ((by rw [hg]; exact Nat.ne_of_lt (blk_lt (g := gb246) (o := .cells #[.int .u64 a3_0, .int .u64 a3_1] 36 (0, 0)) (by (with_reducible repeat (first | refine blk_drewN ?_ _ | refine blk_drew ?_ | refine blk_alloc ?_ _)); exact BK246.out)) : gb246 ≠ gb247)); have n6_ := am ((by rw [hg]; exact Nat.ne_of_gt (blk_lt (g := gb246) (o := .cells #[.int .u64 a3_0, .int .u64 a3_1] 36 (0, 0)) (by (with_reducible repeat (first | refine blk_drewN ?_ _ | refine blk_drew ?_ | refine blk_alloc ?_ _)); exact BK246.out)) : gb247 ≠ gb246)); clear BK246; clear HB; have BK246 := n0_; have HB := n1_; have BK247 := n2_; have GW247 := n3_; have GE247 := n4_; have NB246_247 := n5_; have NB247_246 := n6_; clear n0_ n1_ n2_ n3_ n4_ n5_ n6_; clear hb hbox hg) | ((with_reducible refine gate_callee (f := 9) rfl ?_); refine goesL_ (some 19) rfl rfl Try.func9 (by kernel_rfl) rfl #[] rfl (by (try simp only [List.map_toArray, List.map_cons, List.map_nil]); first | done | rfl | (simp only [List.length_drop, List.length_take]; rfl)) ?_; (with_reducible refine (mailcoachlaw13_Awake.calls k  true _ A7.out).mono ?_); rintro e w33 ⟨rfl, hb⟩; refine ⟨_, rfl, ?_⟩; have n0_ := am (blk_below (g := gb246) (o := .cells #[.int .u64 a3_0, .int .u64 a3_1] 36 (0, 0)) (by (with_reducible repeat (first | refine blk_drewN ?_ _ | refine blk_drew ?_ | refine blk_alloc ?_ _)); exact BK246.out) hb); have n1_ := am (blk_below (g := gb247) (o := .cells #[.int .u64 a4_0, .int .u64 a4_1] 36 (0, 0)) (by (with_reducible repeat (first | refine blk_drewN ?_ _ | refine blk_drew ?_ | refine blk_alloc ?_ _)); exact BK247.out) hb); have n2_ := am (below_step (by repeat (first | (with_reducible first | exact HB.out | apply below_alloc | apply pw_below_drewN | apply below_drew1 | refine below_set ?_ GE246.out | refine below_set ?_ GE247.out) | exact HB.out)) hb); clear BK246; clear BK247; clear HB; have BK246 := n0_; have BK247 := n1_; have HB := n2_; clear n0_ n1_ n2_; (try clear hb); (try clear hb2); (try clear hk); (try clear hi)) | ((with_reducible refine gate_callee (f := 12) rfl ?_); refine goesL_ (some 23) rfl rfl Try.func12 (by kernel_rfl) rfl #[.slice A0 l0.length c0, .bool a1] rfl (by (try simp only [List.map_toArray, List.map_cons, List.map_nil]); first | done | rfl | (simp only [List.length_drop, List.length_take]; rfl)) ?_; (with_reducible refine (mailcoachlaw13_Made.calls k _ _ l0 a1 t249 _ ?side1 ?side2 A9.out).mono ?_); (case side1 => repeat (first | exact (Kd.C_below HR0.out HB.out) | (with_reducible refine Kd.C_alloc ?_ _) | (with_reducible refine Kd.C_drewN ?_ _) | (with_reducible refine Kd.C_drew ?_))); (case side2 => exact HC0.out); rintro e w34 ⟨v250, rfl, ho0, hb⟩; refine ⟨_, rfl, ?_⟩; have n0_ := am (Kd.R_lower ho0 (below_size (by repeat (first | (with_reducible first | exact HB.out | apply below_alloc | apply pw_below_drewN | apply below_drew1 | refine below_set ?_ GE246.out | refine below_set ?_ GE247.out) | exact HB.out)))); have n1_ := am (blk_below (g := gb246) (o := .cells #[.int .u64 a3_0, .int .u64 a3_1] 36 (0, 0)) (by (with_reducible repeat (first | refine blk_drewN ?_ _ | refine blk_drew ?_ | refine blk_alloc ?_ _)); exact BK246.out) hb); have n2_ := am (blk_below (g := gb247) (o := .cells #[.int .u64 a4_0, .int .u64 a4_1] 36 (0, 0)) (by (with_reducible repeat (first | refine blk_drewN ?_ _ | refine blk_drew ?_ | refine blk_alloc ?_ _)); exact BK247.out) hb); have n3_ := am (below_step (by repeat (first | (with_reducible first | exact HB.out | apply below_alloc | apply pw_below_drewN | apply below_drew1 | refine below_set ?_ GE246.out | refine below_set ?_ GE247.out) | exact HB.out)) hb); clear BK246; clear BK247; clear HB; have HO251 := n0_; have BK246 := n1_; have BK247 := n2_; have HB := n3_; clear n0_ n1_ n2_ n3_; (try clear hb); (try clear hb2); (try clear hk); (try clear hi); (try clear ho0)))
 have n0_ := am (Kd.R_drew HO251.out)
 have n1_ := am (blk_drew BK246.out)
 have n2_ := am (blk_drew BK247.out)
 have n3_ := am (below_drew1 HB.out)
 clear HO251
 clear BK246
 clear BK247
 clear HB
 have HO251 := n0_
 have BK246 := n1_
 have BK247 := n2_
 have HB := n3_
 clear n0_ n1_ n2_ n3_
 refine start_ (n := 8) (S := fun w' => w'.cell? ⟨gb246, 0, none⟩ = some (.int .u64 a3_0) ∧ w'.cell? ⟨gb246, 1, none⟩ = some (.int .u64 a3_1) ∧ w'.cell? ⟨gb247, 0, none⟩ = some (.int .u64 a4_0) ∧ w'.cell? ⟨gb247, 1, none⟩ = some (.int .u64 a4_1)) (ds := [6, 7]) #[F, F, F, F, F, F, F, F] (by kernel_rfl) rfl rfl ⟨(blk_cell BK246.out 0).trans rfl, (blk_cell BK246.out 1).trans rfl, (blk_cell BK247.out 0).trans rfl, (blk_cell BK247.out 1).trans rfl⟩ (fun hHeld => ?_); refine with_tabW mailcoachlaw13_LedgersPlaces.tab4 mailcoachlaw13_LedgersPlaces.bits4 (fun HT_ HW_ => ?_)
 generalize w34.drew = w35 at HO251 BK246 BK247 HB hHeld ⊢
 refine pure_ (i := 1) (N := some 28) (v := ?_) (a' := ?_) #[F, T, F, F, F, F, F, F] rfl rfl (any_of HT_.out (by kernel_rfl)) (fun _ _ _ h => h) (Or.inl ⟨by rfl, ?_⟩) ?_ ?_
 rotate_left
 ·
  intro w'
  go_simp
  with_reducible rfl
 rotate_left
 ·
  simp only [Act.put, setIfInBounds_toArray, set_cons_zero, set_cons_succ, i64_w, i32_w]
  rfl
 refine pure_ (i := 4) (N := some 31) (v := ?_) (a' := ?_) #[F, T, F, F, T, F, F, F] rfl rfl (any_of HT_.out (by kernel_rfl)) (fun _ _ _ h => h) (Or.inl ⟨by rfl, ?_⟩) ?_ ?_
 rotate_left
 ·
  intro w'
  go_simp
  with_reducible rfl
 rotate_left
 ·
  simp only [Act.put, setIfInBounds_toArray, set_cons_zero, set_cons_succ, i64_w, i32_w]
  rfl
 refine take_ (i := 0) (N := some 27) (v := ?_) (a' := ?_) #[T, T, F, F, T, F, F, F] rfl rfl (take_ofW HT_.out HW_.out (by kernel_rfl)) (fun _ _ _ h => h) (Or.inl ⟨by rfl, ?_⟩) hHeld ?_ ?_
 rotate_left
 ·
  rintro w' ⟨s0, s1, s2, s3⟩
  go_simp
  with_reducible rfl
 rotate_left
 ·
  simp only [Act.put, setIfInBounds_toArray, set_cons_zero, set_cons_succ, i64_w, i32_w]
  rfl
 refine take_ (i := 3) (N := some 30) (v := ?_) (a' := ?_) #[T, T, F, T, T, F, F, F] rfl rfl (take_ofW HT_.out HW_.out (by kernel_rfl)) (fun _ _ _ h => h) (Or.inl ⟨by rfl, ?_⟩) hHeld ?_ ?_
 rotate_left
 ·
  rintro w' ⟨s0, s1, s2, s3⟩
  go_simp
  with_reducible rfl
 rotate_left
 ·
  simp only [Act.put, setIfInBounds_toArray, set_cons_zero, set_cons_succ, i64_w, i32_w]
  rfl
 refine one_ (i := 2) (N := some 29) #[T, T, T, T, T, F, F, F] rfl rfl (one_of HT_.out (by kernel_rfl)) (by decide) (fun K hK => ?_)
 refine goes_ Try.func23 (by kernel_rfl) rfl #[.agg #[.int .u64 a3_0, .int .u64 a3_1], .bool a5] (by rfl) rfl rfl (by (try simp only [List.map_toArray, List.map_cons, List.map_nil]); first | done | rfl | (simp only [List.length_drop, List.length_take]; rfl)) ?_
 with_reducible refine (mailcoachlaw13_Place.calls a3_0 a3_1 a5 t252 t253 _ A10.out).mono ?_
 rintro e w36 ⟨rfl, hb⟩
 refine ⟨_, rfl, ?_⟩
 have n0_ := am (Kd.R_below (by (with_reducible repeat (first | apply R_alloc | apply R_drewN | apply R_drew)); exact HO251.out) hb)
 have n1_ := am (blk_below (g := gb246) (o := .cells #[.int .u64 a3_0, .int .u64 a3_1] 36 (0, 0)) (by (with_reducible repeat (first | refine blk_drewN ?_ _ | refine blk_drew ?_ | refine blk_alloc ?_ _)); exact BK246.out) hb)
 have n2_ := am (blk_below (g := gb247) (o := .cells #[.int .u64 a4_0, .int .u64 a4_1] 36 (0, 0)) (by (with_reducible repeat (first | refine blk_drewN ?_ _ | refine blk_drew ?_ | refine blk_alloc ?_ _)); exact BK247.out) hb)
 have n3_ := am (below_step (by repeat (first | (with_reducible first | exact HB.out | apply below_alloc | apply pw_below_drewN | apply below_drew1 | refine below_set ?_ GE246.out | refine below_set ?_ GE247.out) | exact HB.out)) hb)
 clear HO251
 clear BK246
 clear BK247
 clear HB
 have HO251 := n0_
 have BK246 := n1_
 have BK247 := n2_
 have HB := n3_
 clear n0_ n1_ n2_ n3_
 (try clear hb)
 (try clear hb2)
 (try clear hk)
 (try clear hi)
 refine hK.out _ _ ⟨(blk_cell BK246.out 0).trans rfl, (blk_cell BK246.out 1).trans rfl, (blk_cell BK247.out 0).trans rfl, (blk_cell BK247.out 1).trans rfl⟩ (fun hHeld => ?_)
 clear hK K
 refine norm_ (a' := ?_) ?_ ?_
 rotate_left
 ·
  show Act.put _ (some 29) _ = _
  simp only [Act.put, setIfInBounds_toArray, set_cons_zero, set_cons_succ, i64_w, i32_w]
  rfl
 refine one_ (i := 5) (N := some 32) #[T, T, T, T, T, T, F, F] rfl rfl (one_of HT_.out (by kernel_rfl)) (by decide) (fun K hK => ?_)
 refine goes_ Try.func23 (by kernel_rfl) rfl #[.agg #[.int .u64 a4_0, .int .u64 a4_1], .bool a5] (by rfl) rfl rfl (by (try simp only [List.map_toArray, List.map_cons, List.map_nil]); first | done | rfl | (simp only [List.length_drop, List.length_take]; rfl)) ?_
 with_reducible refine (mailcoachlaw13_Place.calls a4_0 a4_1 a5 t254 t255 _ A11.out).mono ?_
 rintro e w37 ⟨rfl, hb⟩
 refine ⟨_, rfl, ?_⟩
 have n0_ := am (Kd.R_below (by (with_reducible repeat (first | apply R_alloc | apply R_drewN | apply R_drew)); exact HO251.out) hb)
 have n1_ := am (blk_below (g := gb246) (o := .cells #[.int .u64 a3_0, .int .u64 a3_1] 36 (0, 0)) (by (with_reducible repeat (first | refine blk_drewN ?_ _ | refine blk_drew ?_ | refine blk_alloc ?_ _)); exact BK246.out) hb)
 have n2_ := am (blk_below (g := gb247) (o := .cells #[.int .u64 a4_0, .int .u64 a4_1] 36 (0, 0)) (by (with_reducible repeat (first | refine blk_drewN ?_ _ | refine blk_drew ?_ | refine blk_alloc ?_ _)); exact BK247.out) hb)
 have n3_ := am (below_step (by repeat (first | (with_reducible first | exact HB.out | apply below_alloc | apply pw_below_drewN | apply below_drew1 | refine below_set ?_ GE246.out | refine below_set ?_ GE247.out) | exact HB.out)) hb)
 clear HO251
 clear BK246
 clear BK247
 clear HB
 have HO251 := n0_
 have BK246 := n1_
 have BK247 := n2_
 have HB := n3_
 clear n0_ n1_ n2_ n3_
 (try clear hb)
 (try clear hb2)
 (try clear hk)
 (try clear hi)
 refine hK.out _ _ ⟨(blk_cell BK246.out 0).trans rfl, (blk_cell BK246.out 1).trans rfl, (blk_cell BK247.out 0).trans rfl, (blk_cell BK247.out 1).trans rfl⟩ (fun hHeld => ?_)
 clear hK K
 refine norm_ (a' := ?_) ?_ ?_
 rotate_left
 ·
  show Act.put _ (some 32) _ = _
  simp only [Act.put, setIfInBounds_toArray, set_cons_zero, set_cons_succ, i64_w, i32_w]
  rfl
 refine last_ (i := 6) (N := none) #[T, T, T, T, T, T, T, F] rfl rfl (one_of HT_.out (by kernel_rfl)) (by decide) (fun K hK => ?_)
 have hs38 : w37.cell? ⟨gb246, 0, none⟩ = some (.int .u64 a3_0) := (blk_cell BK246.out 0).trans rfl
 have hfs38 := blk_frozen BK246.out 0
 have hns38_1 := NB247_246.out
 have hms38_1 := NB246_247.out
 have hs39 : w37.cell? ⟨gb246, 1, none⟩ = some (.int .u64 a3_1) := (blk_cell BK246.out 1).trans rfl
 have hfs39 := blk_frozen BK246.out 1
 have hns39_1 := NB247_246.out
 have hms39_1 := NB246_247.out
 refine skip_ (w1 := ?_) (by rfl) rfl ?_ ?_
 rotate_left
 ·
  go_simp
  rfl
 refine hK.out _ _ ?_
 clear hK K
 refine last_ (i := 7) (N := none) #[T, T, T, T, T, T, T, T] rfl rfl (one_of HT_.out (by kernel_rfl)) (by decide) (fun K hK => ?_)
 have hs40 : w37.cell? ⟨gb247, 0, none⟩ = some (.int .u64 a4_0) := (blk_cell BK247.out 0).trans rfl
 have hfs40 := blk_frozen BK247.out 0
 have hns40_0 := NB246_247.out
 have hms40_0 := NB247_246.out
 have hs41 : w37.cell? ⟨gb247, 1, none⟩ = some (.int .u64 a4_1) := (blk_cell BK247.out 1).trans rfl
 have hfs41 := blk_frozen BK247.out 1
 have hns41_0 := NB246_247.out
 have hms41_0 := NB247_246.out
 refine skip_ (w1 := ?_) (by rfl) rfl ?_ ?_
 rotate_left
 ·
  go_simp
  rfl
 refine hK.out _ _ ?_
 clear hK K
 refine done_ (done_of HT_.out (by kernel_rfl)) ?_
 have hnb42 := NB246_247.out
 have hnc42 := NB247_246.out
 have hcz43_0 : w37.cell? ⟨gb246, 0, none⟩ = some (.int .u64 a3_0) := (blk_cell BK246.out 0).trans rfl
 have hcz43_1 : w37.cell? ⟨gb246, 1, none⟩ = some (.int .u64 a3_1) := (blk_cell BK246.out 1).trans rfl
 have hfz43_0 := blk_frozen BK246.out 0
 have hfz43_1 := blk_frozen BK246.out 1
 obtain ⟨Ao44, co44, eo44⟩ := Kd.R_slice HO251.out
 subst eo44
 try go_wp2_with (first | ((with_reducible refine gate_callee (f := 19) rfl ?_); refine goesL_ (some 37) rfl rfl Try.func19 (by kernel_rfl) rfl #[.slice Ao44 t249.length co44, .int .u64 (IntKind.u64.wrap (Int.tmod a2 6)), .agg #[.int .u64 t252, .int .u64 t253]] rfl (by (try simp only [List.map_toArray, List.map_cons, List.map_nil]); first | done | rfl | (simp only [List.length_drop, List.length_take]; rfl)) ?_; (with_reducible refine (ledgers_Next.calls k _ _ t249 (IntKind.u64.wrap (Int.tmod a2 6)) t252 t253 t256 t257 t258 _ ?side1 ?side2 A12.out).mono ?_); (case side1 => refine (Kd.R_reads' (e := 32) (base := w.heap.size) (ok := fun k_ => True) (n := t249.length) (c := co44) ?_).2.2; exact (by (with_reducible repeat (first | apply R_alloc | apply R_drewN | apply R_drew)); exact (Kd.R_mono (Kd.R_mono (Kd.R_far (p := ⟨gb247, 1, none⟩) (Kd.R_far (p := ⟨gb247, 0, none⟩) (Kd.R_far (p := ⟨gb246, 1, none⟩) (Kd.R_far (p := ⟨gb246, 0, none⟩) (Kd.R_types (Kd.R_types HO251.out BK246.out (by decide)) BK247.out (by decide)) (fun _ hk => hk.1.2) (.int .u64 t252)) (fun _ hk => hk.1.2) (.int .u64 t253)) (fun _ hk => hk.2) (.int .u64 t254)) (fun _ hk => hk.2) (.int .u64 t255)) (fun _ h_ => h_.1)) (fun _ h_ => h_.1)))); (case side2 => exact (Kd.R_reads' HO251.out).2.1); rintro e w45 ⟨rfl, hb⟩; refine ⟨_, rfl, ?_⟩; have n0_ := am (Kd.R_below (by (with_reducible repeat (first | apply R_alloc | apply R_drewN | apply R_drew)); exact (Kd.R_mono (Kd.R_mono (Kd.R_far (p := ⟨gb247, 1, none⟩) (Kd.R_far (p := ⟨gb247, 0, none⟩) (Kd.R_far (p := ⟨gb246, 1, none⟩) (Kd.R_far (p := ⟨gb246, 0, none⟩) (Kd.R_types (Kd.R_types HO251.out BK246.out (by decide)) BK247.out (by decide)) (fun _ hk => hk.1.2) (.int .u64 t252)) (fun _ hk => hk.1.2) (.int .u64 t253)) (fun _ hk => hk.2) (.int .u64 t254)) (fun _ hk => hk.2) (.int .u64 t255)) (fun _ h_ => h_.1)) (fun _ h_ => h_.1))) hb); have n1_ := am (blk_below (g := gb246) (o := .cells #[.int .u64 t252, .int .u64 t253] 36 (0, 0)) (by (with_reducible repeat (first | refine blk_drewN ?_ _ | refine blk_drew ?_ | refine blk_alloc ?_ _)); refine blk_far ?_ NB246_247.out _; (with_reducible repeat (first | refine blk_drewN ?_ _ | refine blk_drew ?_ | refine blk_alloc ?_ _)); refine blk_far ?_ NB246_247.out _; (with_reducible repeat (first | refine blk_drewN ?_ _ | refine blk_drew ?_ | refine blk_alloc ?_ _)); refine blk_put (cs := #[.int .u64 t252, .int .u64 a3_1]) ?_ 1 _ rfl; (with_reducible repeat (first | refine blk_drewN ?_ _ | refine blk_drew ?_ | refine blk_alloc ?_ _)); refine blk_put (cs := #[.int .u64 a3_0, .int .u64 a3_1]) ?_ 0 _ rfl; (with_reducible repeat (first | refine blk_drewN ?_ _ | refine blk_drew ?_ | refine blk_alloc ?_ _)); exact BK246.out) hb); have n2_ := am (blk_below (g := gb247) (o := .cells #[.int .u64 t254, .int .u64 t255] 36 (0, 0)) (by (with_reducible repeat (first | refine blk_drewN ?_ _ | refine blk_drew ?_ | refine blk_alloc ?_ _)); refine blk_put (cs := #[.int .u64 t254, .int .u64 a4_1]) ?_ 1 _ rfl; (with_reducible repeat (first | refine blk_drewN ?_ _ | refine blk_drew ?_ | refine blk_alloc ?_ _)); refine blk_put (cs := #[.int .u64 a4_0, .int .u64 a4_1]) ?_ 0 _ rfl; (with_reducible repeat (first | refine blk_drewN ?_ _ | refine blk_drew ?_ | refine blk_alloc ?_ _)); refine blk_far ?_ NB247_246.out _; (with_reducible repeat (first | refine blk_drewN ?_ _ | refine blk_drew ?_ | refine blk_alloc ?_ _)); refine blk_far ?_ NB247_246.out _; (with_reducible repeat (first | refine blk_drewN ?_ _ | refine blk_drew ?_ | refine blk_alloc ?_ _)); exact BK247.out) hb); have n3_ := am (below_step (by repeat (first | (with_reducible first | exact HB.out | apply below_alloc | apply pw_below_drewN | apply below_drew1 | refine below_set ?_ GE246.out | refine below_set ?_ GE247.out) | exact HB.out)) hb); clear HO251; clear BK246; clear BK247; clear HB; have HO251 := n0_; have BK246 := n1_; have BK247 := n2_; have HB := n3_; clear n0_ n1_ n2_ n3_; (try clear hb); (try clear hb2); (try clear hk); (try clear hi)) | ((with_reducible refine gate_dst (N := 15) rfl ?_); refine box_event ?hg (N := 15) ?hd (cs := #[.int .u64 0, .int .u64 0]) (t := 36) ?hr ?_; (case hd => rfl); (case hg => rfl); (case hr => first | (go_simp; done) | (go_simp; rfl)); intro gb259 hg w46 hbox hb; have n0_ := am (Kd.R_below (by (with_reducible repeat (first | apply R_alloc | apply R_drewN | apply R_drew)); exact HO251.out) hb); have n1_ := am (blk_below (g := gb246) (o := .cells #[.int .u64 t252, .int .u64 t253] 36 (0, 0)) (by (with_reducible repeat (first | refine blk_drewN ?_ _ | refine blk_drew ?_ | refine blk_alloc ?_ _)); exact BK246.out) hb); have n2_ := am (blk_below (g := gb247) (o := .cells #[.int .u64 t254, .int .u64 t255] 36 (0, 0)) (by (with_reducible repeat (first | refine blk_drewN ?_ _ | refine blk_drew ?_ | refine blk_alloc ?_ _)); exact BK247.out) hb); have n3_ := am (below_step (by repeat (first | (with_reducible first | exact HB.out | apply below_alloc | apply pw_below_drewN | apply below_drew1 | refine below_set ?_ GE246.out | refine below_set ?_ GE247.out) | exact HB.out)) hb); have n4_ := am (hbox); have n5_ := am ((by rw [hg]; exact (below_size (by repeat (first | (with_reducible first | exact HB.out | apply below_alloc | apply pw_below_drewN | apply below_drew1 | refine below_set ?_ GE246.out | refine below_set ?_ GE247.out) | exact HB.out))) : w.heap.size ≤ gb259)); have n6_ := am ((by rw [hg]; exact (below_size (by repeat (first | (with_reducible first | exact HB.out | apply below_alloc | apply pw_below_drewN | apply below_drew1 | refine below_set ?_ GE246.out | refine below_set ?_ GE247.out) | exact HB.out))) : w.heap.size ≤ gb259)); have n7_ := am ((by rw [hg]; exact Nat.ne_of_lt (blk_lt (g := gb246) (o := .cells #[.int .u64 t252, .int .u64 t253] 36 (0, 0)) (by (with_reducible repeat (first | refine blk_drewN ?_ _ | refine blk_drew ?_ | refine blk_alloc ?_ _)); exact BK246.out)) : gb246 ≠ gb259)); have n8_ := am ((by rw [hg]; exact Nat.ne_of_gt (blk_lt (g := gb246) (o := .cells #[.int .u64 t252, .int .u64 t253] 36 (0, 0)) (by (with_reducible repeat (first | refine blk_drewN ?_ _ | refine blk_drew ?_ | refine blk_alloc ?_ _)); exact BK246.out)) : gb259 ≠ gb246)); have n9_ := am ((by rw [hg]; exact Nat.ne_of_lt (blk_lt (g := gb247) (o := .cells #[.int .u64 t254, .int .u64 t255] 36 (0, 0)) (by (with_reducible repeat (first | refine blk_drewN ?_ _ | refine blk_drew ?_ | refine blk_alloc ?_ _)); exact BK247.out)) : gb247 ≠ gb259)); have n10_ := am ((by rw [hg]; exact Nat.ne_of_gt (blk_lt (g := gb247) (o := .cells #[.int .u64 t254, .int .u64 t255] 36 (0, 0)) (by (with_reducible repeat (first | refine blk_drewN ?_ _ | refine blk_drew ?_ | refine blk_alloc ?_ _)); exact BK247.out)) : gb259 ≠ gb247)); clear HO251; clear BK246; clear BK247; clear HB; have HO251 := n0_; have BK246 := n1_; have BK247 := n2_; have HB := n3_; have BK259 := n4_; have GW259 := n5_; have GE259 := n6_; have NB246_259 := n7_; have NB259_246 := n8_; have NB247_259 := n9_; have NB259_247 := n10_; clear n0_ n1_ n2_ n3_ n4_ n5_ n6_ n7_ n8_ n9_ n10_; clear hb hbox hg; have hnb47 := NB259_246.out; have hnc47 := NB246_259.out; have hnb48 := NB259_247.out; have hnc48 := NB247_259.out; have hcz49_0 : w46.cell? ⟨gb259, 0, none⟩ = some (.int .u64 0) := (blk_cell BK259.out 0).trans rfl; have hcz49_1 : w46.cell? ⟨gb259, 1, none⟩ = some (.int .u64 0) := (blk_cell BK259.out 1).trans rfl; have hfz49_0 := blk_frozen BK259.out 0; have hfz49_1 := blk_frozen BK259.out 1; have hcz50_0 : w46.cell? ⟨gb246, 0, none⟩ = some (.int .u64 t252) := (blk_cell BK246.out 0).trans rfl; have hcz50_1 : w46.cell? ⟨gb246, 1, none⟩ = some (.int .u64 t253) := (blk_cell BK246.out 1).trans rfl; have hfz50_0 := blk_frozen BK246.out 0; have hfz50_1 := blk_frozen BK246.out 1) | ((with_reducible refine gate_callee (f := 24) rfl ?_); refine goesL_ (some 44) rfl rfl Try.func24 (by kernel_rfl) rfl #[.slice Ao44 t249.length co44, .int .u64 (IntKind.u64.wrap (Int.tmod a2 6)), .agg #[.int .u64 t252, .int .u64 t253]] rfl (by (try simp only [List.map_toArray, List.map_cons, List.map_nil]); first | done | rfl | (simp only [List.length_drop, List.length_take]; rfl)) ?_; (with_reducible refine (mailcoachref13_Next.calls k _ _ t249 (IntKind.u64.wrap (Int.tmod a2 6)) t252 t253 t260 t261 t262 _ ?side1 ?side2 A13.out).mono ?_); (case side1 => refine (Kd.R_reads' (e := 32) (base := w.heap.size) (ok := fun k_ => True) (n := t249.length) (c := co44) ?_).2.2; exact (by (with_reducible repeat (first | apply R_alloc | apply R_drewN | apply R_drew)); exact (Kd.R_mono (Kd.R_far (p := ⟨gb259, 1, none⟩) (Kd.R_far (p := ⟨gb259, 0, none⟩) (Kd.R_types HO251.out BK259.out (by decide)) (fun _ hk => hk.2) (.int .u64 t256)) (fun _ hk => hk.2) (.int .u64 t257)) (fun _ h_ => h_.1)))); (case side2 => exact (Kd.R_reads' HO251.out).2.1); rintro e w51 ⟨rfl, hb⟩; refine ⟨_, rfl, ?_⟩; have n0_ := am (Kd.R_below (by (with_reducible repeat (first | apply R_alloc | apply R_drewN | apply R_drew)); exact (Kd.R_mono (Kd.R_far (p := ⟨gb259, 1, none⟩) (Kd.R_far (p := ⟨gb259, 0, none⟩) (Kd.R_types HO251.out BK259.out (by decide)) (fun _ hk => hk.2) (.int .u64 t256)) (fun _ hk => hk.2) (.int .u64 t257)) (fun _ h_ => h_.1))) hb); have n1_ := am (blk_below (g := gb246) (o := .cells #[.int .u64 t252, .int .u64 t253] 36 (0, 0)) (by (with_reducible repeat (first | refine blk_drewN ?_ _ | refine blk_drew ?_ | refine blk_alloc ?_ _)); refine blk_far ?_ NB246_259.out _; (with_reducible repeat (first | refine blk_drewN ?_ _ | refine blk_drew ?_ | refine blk_alloc ?_ _)); refine blk_far ?_ NB246_259.out _; (with_reducible repeat (first | refine blk_drewN ?_ _ | refine blk_drew ?_ | refine blk_alloc ?_ _)); exact BK246.out) hb); have n2_ := am (blk_below (g := gb247) (o := .cells #[.int .u64 t254, .int .u64 t255] 36 (0, 0)) (by (with_reducible repeat (first | refine blk_drewN ?_ _ | refine blk_drew ?_ | refine blk_alloc ?_ _)); refine blk_far ?_ NB247_259.out _; (with_reducible repeat (first | refine blk_drewN ?_ _ | refine blk_drew ?_ | refine blk_alloc ?_ _)); refine blk_far ?_ NB247_259.out _; (with_reducible repeat (first | refine blk_drewN ?_ _ | refine blk_drew ?_ | refine blk_alloc ?_ _)); exact BK247.out) hb); have n3_ := am (blk_below (g := gb259) (o := .cells #[.int .u64 t256, .int .u64 t257] 36 (0, 0)) (by (with_reducible repeat (first | refine blk_drewN ?_ _ | refine blk_drew ?_ | refine blk_alloc ?_ _)); refine blk_put (cs := #[.int .u64 t256, .int .u64 0]) ?_ 1 _ rfl; (with_reducible repeat (first | refine blk_drewN ?_ _ | refine blk_drew ?_ | refine blk_alloc ?_ _)); refine blk_put (cs := #[.int .u64 0, .int .u64 0]) ?_ 0 _ rfl; (with_reducible repeat (first | refine blk_drewN ?_ _ | refine blk_drew ?_ | refine blk_alloc ?_ _)); exact BK259.out) hb); have n4_ := am (below_step (by repeat (first | (with_reducible first | exact HB.out | apply below_alloc | apply pw_below_drewN | apply below_drew1 | refine below_set ?_ GE246.out | refine below_set ?_ GE247.out | refine below_set ?_ GE259.out) | exact HB.out)) hb); clear HO251; clear BK246; clear BK247; clear BK259; clear HB; have HO251 := n0_; have BK246 := n1_; have BK247 := n2_; have BK259 := n3_; have HB := n4_; clear n0_ n1_ n2_ n3_ n4_; (try clear hb); (try clear hb2); (try clear hk); (try clear hi)) | ((with_reducible refine gate_dst (N := 17) rfl ?_); refine box_event ?hg (N := 17) ?hd (cs := #[.int .u64 0, .int .u64 0]) (t := 36) ?hr ?_; (case hd => rfl); (case hg => rfl); (case hr => first | (go_simp; done) | (go_simp; rfl)); intro gb263 hg w52 hbox hb; have n0_ := am (Kd.R_below (by (with_reducible repeat (first | apply R_alloc | apply R_drewN | apply R_drew)); exact HO251.out) hb); have n1_ := am (blk_below (g := gb246) (o := .cells #[.int .u64 t252, .int .u64 t253] 36 (0, 0)) (by (with_reducible repeat (first | refine blk_drewN ?_ _ | refine blk_drew ?_ | refine blk_alloc ?_ _)); exact BK246.out) hb); have n2_ := am (blk_below (g := gb247) (o := .cells #[.int .u64 t254, .int .u64 t255] 36 (0, 0)) (by (with_reducible repeat (first | refine blk_drewN ?_ _ | refine blk_drew ?_ | refine blk_alloc ?_ _)); exact BK247.out) hb); have n3_ := am (blk_below (g := gb259) (o := .cells #[.int .u64 t256, .int .u64 t257] 36 (0, 0)) (by (with_reducible repeat (first | refine blk_drewN ?_ _ | refine blk_drew ?_ | refine blk_alloc ?_ _)); exact BK259.out) hb); have n4_ := am (below_step (by repeat (first | (with_reducible first | exact HB.out | apply below_alloc | apply pw_below_drewN | apply below_drew1 | refine below_set ?_ GE246.out | refine below_set ?_ GE247.out | refine below_set ?_ GE259.out) | exact HB.out)) hb); have n5_ := am (hbox); have n6_ := am ((by rw [hg]; exact (below_size (by repeat (first | (with_reducible first | exact HB.out | apply below_alloc | apply pw_below_drewN | apply below_drew1 | refine below_set ?_ GE246.out | refine below_set ?_ GE247.out | refine below_set ?_ GE259.out) | exact HB.out))) : w.heap.size ≤ gb263)); have n7_ := am ((by rw [hg]; exact (below_size (by repeat (first | (with_reducible first | exact HB.out | apply below_alloc | apply pw_below_drewN | apply below_drew1 | refine below_set ?_ GE246.out | refine below_set ?_ GE247.out | refine below_set ?_ GE259.out) | exact HB.out))) : w.heap.size ≤ gb263)); have n8_ := am ((by rw [hg]; exact Nat.ne_of_lt (blk_lt (g := gb246) (o := .cells #[.int .u64 t252, .int .u64 t253] 36 (0, 0)) (by (with_reducible repeat (first | refine blk_drewN ?_ _ | refine blk_drew ?_ | refine blk_alloc ?_ _)); exact BK246.out)) : gb246 ≠ gb263)); have n9_ := am ((by rw [hg]; exact Nat.ne_of_gt (blk_lt (g := gb246) (o := .cells #[.int .u64 t252, .int .u64 t253] 36 (0, 0)) (by (with_reducible repeat (first | refine blk_drewN ?_ _ | refine blk_drew ?_ | refine blk_alloc ?_ _)); exact BK246.out)) : gb263 ≠ gb246)); have n10_ := am ((by rw [hg]; exact Nat.ne_of_lt (blk_lt (g := gb247) (o := .cells #[.int .u64 t254, .int .u64 t255] 36 (0, 0)) (by (with_reducible repeat (first | refine blk_drewN ?_ _ | refine blk_drew ?_ | refine blk_alloc ?_ _)); exact BK247.out)) : gb247 ≠ gb263)); have n11_ := am ((by rw [hg]; exact Nat.ne_of_gt (blk_lt (g := gb247) (o := .cells #[.int .u64 t254, .int .u64 t255] 36 (0, 0)) (by (with_reducible repeat (first | refine blk_drewN ?_ _ | refine blk_drew ?_ | refine blk_alloc ?_ _)); exact BK247.out)) : gb263 ≠ gb247)); have n12_ := am ((by rw [hg]; exact Nat.ne_of_lt (blk_lt (g := gb259) (o := .cells #[.int .u64 t256, .int .u64 t257] 36 (0, 0)) (by (with_reducible repeat (first | refine blk_drewN ?_ _ | refine blk_drew ?_ | refine blk_alloc ?_ _)); exact BK259.out)) : gb259 ≠ gb263)); have n13_ := am ((by rw [hg]; exact Nat.ne_of_gt (blk_lt (g := gb259) (o := .cells #[.int .u64 t256, .int .u64 t257] 36 (0, 0)) (by (with_reducible repeat (first | refine blk_drewN ?_ _ | refine blk_drew ?_ | refine blk_alloc ?_ _)); exact BK259.out)) : gb263 ≠ gb259)); clear HO251; clear BK246; clear BK247; clear BK259; clear HB; have HO251 := n0_; have BK246 := n1_; have BK247 := n2_; have BK259 := n3_; have HB := n4_; have BK263 := n5_; have GW263 := n6_; have GE263 := n7_; have NB246_263 := n8_; have NB263_246 := n9_; have NB247_263 := n10_; have NB263_247 := n11_; have NB259_263 := n12_; have NB263_259 := n13_; clear n0_ n1_ n2_ n3_ n4_ n5_ n6_ n7_ n8_ n9_ n10_ n11_ n12_ n13_; clear hb hbox hg; have hnb53 := NB263_246.out; have hnc53 := NB246_263.out; have hnb54 := NB263_247.out; have hnc54 := NB247_263.out; have hnb55 := NB263_259.out; have hnc55 := NB259_263.out; have hcz56_0 : w52.cell? ⟨gb263, 0, none⟩ = some (.int .u64 0) := (blk_cell BK263.out 0).trans rfl; have hcz56_1 : w52.cell? ⟨gb263, 1, none⟩ = some (.int .u64 0) := (blk_cell BK263.out 1).trans rfl; have hfz56_0 := blk_frozen BK263.out 0; have hfz56_1 := blk_frozen BK263.out 1))
 have n0_ : Aside0 (Kd.R k32 32 ((w52.setCell ⟨gb263, 0, none⟩ (.int .u64 t260)).setCell ⟨gb263, 1, none⟩ (.int .u64 t261)) w.heap.size (fun _ => True) (.slice Ao44 t249.length co44) t249) := ⟨by (with_reducible repeat (first | apply R_alloc | apply R_drewN | apply R_drew)); exact Kd.R_mono (Kd.R_far (p := ⟨gb263, 1, none⟩) (Kd.R_far (p := ⟨gb263, 0, none⟩) (Kd.R_types HO251.out BK263.out (by decide)) (fun _ hk => hk.2) (.int .u64 t260)) (fun _ hk => hk.2) (.int .u64 t261)) (fun _ hk => trivial)⟩
 have n1_ : Aside0 (((w52.setCell ⟨gb263, 0, none⟩ (.int .u64 t260)).setCell ⟨gb263, 1, none⟩ (.int .u64 t261)).heap[gb246]? = some (.cells #[.int .u64 t252, .int .u64 t253] 36 (0, 0))) := ⟨by (with_reducible repeat (first | refine blk_drewN ?_ _ | refine blk_drew ?_ | refine blk_alloc ?_ _)); refine blk_far ?_ NB246_263.out _; (with_reducible repeat (first | refine blk_drewN ?_ _ | refine blk_drew ?_ | refine blk_alloc ?_ _)); refine blk_far ?_ NB246_263.out _; (with_reducible repeat (first | refine blk_drewN ?_ _ | refine blk_drew ?_ | refine blk_alloc ?_ _)); exact BK246.out⟩
 have n2_ : Aside0 (((w52.setCell ⟨gb263, 0, none⟩ (.int .u64 t260)).setCell ⟨gb263, 1, none⟩ (.int .u64 t261)).heap[gb247]? = some (.cells #[.int .u64 t254, .int .u64 t255] 36 (0, 0))) := ⟨by (with_reducible repeat (first | refine blk_drewN ?_ _ | refine blk_drew ?_ | refine blk_alloc ?_ _)); refine blk_far ?_ NB247_263.out _; (with_reducible repeat (first | refine blk_drewN ?_ _ | refine blk_drew ?_ | refine blk_alloc ?_ _)); refine blk_far ?_ NB247_263.out _; (with_reducible repeat (first | refine blk_drewN ?_ _ | refine blk_drew ?_ | refine blk_alloc ?_ _)); exact BK247.out⟩
 have n3_ : Aside0 (((w52.setCell ⟨gb263, 0, none⟩ (.int .u64 t260)).setCell ⟨gb263, 1, none⟩ (.int .u64 t261)).heap[gb259]? = some (.cells #[.int .u64 t256, .int .u64 t257] 36 (0, 0))) := ⟨by (with_reducible repeat (first | refine blk_drewN ?_ _ | refine blk_drew ?_ | refine blk_alloc ?_ _)); refine blk_far ?_ NB259_263.out _; (with_reducible repeat (first | refine blk_drewN ?_ _ | refine blk_drew ?_ | refine blk_alloc ?_ _)); refine blk_far ?_ NB259_263.out _; (with_reducible repeat (first | refine blk_drewN ?_ _ | refine blk_drew ?_ | refine blk_alloc ?_ _)); exact BK259.out⟩
 have n4_ : Aside0 (((w52.setCell ⟨gb263, 0, none⟩ (.int .u64 t260)).setCell ⟨gb263, 1, none⟩ (.int .u64 t261)).heap[gb263]? = some (.cells #[.int .u64 t260, .int .u64 t261] 36 (0, 0))) := ⟨by (with_reducible repeat (first | refine blk_drewN ?_ _ | refine blk_drew ?_ | refine blk_alloc ?_ _)); refine blk_put (cs := #[.int .u64 t260, .int .u64 0]) ?_ 1 _ rfl; (with_reducible repeat (first | refine blk_drewN ?_ _ | refine blk_drew ?_ | refine blk_alloc ?_ _)); refine blk_put (cs := #[.int .u64 0, .int .u64 0]) ?_ 0 _ rfl; (with_reducible repeat (first | refine blk_drewN ?_ _ | refine blk_drew ?_ | refine blk_alloc ?_ _)); exact BK263.out⟩
 have n5_ : Aside0 (Below w.heap.size w ((w52.setCell ⟨gb263, 0, none⟩ (.int .u64 t260)).setCell ⟨gb263, 1, none⟩ (.int .u64 t261))) := ⟨by repeat (first | (with_reducible first | exact HB.out | apply below_alloc | apply pw_below_drewN | apply below_drew1 | refine below_set ?_ GE246.out | refine below_set ?_ GE247.out | refine below_set ?_ GE259.out | refine below_set ?_ GE263.out) | exact HB.out)⟩
 (try clear HO251)
 (try clear BK246)
 (try clear BK247)
 (try clear BK259)
 (try clear BK263)
 (try clear HB)
 generalize ((w52.setCell ⟨gb263, 0, none⟩ (.int .u64 t260)).setCell ⟨gb263, 1, none⟩ (.int .u64 t261)) = w57 at n0_ n1_ n2_ n3_ n4_ n5_ ⊢
 have HO251 := n0_
 have BK246 := n1_
 have BK247 := n2_
 have BK259 := n3_
 have BK263 := n4_
 have HB := n5_
 clear n0_ n1_ n2_ n3_ n4_ n5_
 have n0_ := am (Kd.R_drew HO251.out)
 have n1_ := am (blk_drew BK246.out)
 have n2_ := am (blk_drew BK247.out)
 have n3_ := am (blk_drew BK259.out)
 have n4_ := am (blk_drew BK263.out)
 have n5_ := am (below_drew1 HB.out)
 clear HO251
 clear BK246
 clear BK247
 clear BK259
 clear BK263
 clear HB
 have HO251 := n0_
 have BK246 := n1_
 have BK247 := n2_
 have BK259 := n3_
 have BK263 := n4_
 have HB := n5_
 clear n0_ n1_ n2_ n3_ n4_ n5_
 refine start_ (n := 58) (S := fun w' => w'.cell? ⟨gb259, 0, none⟩ = some (.int .u64 t256) ∧ w'.cell? ⟨gb259, 1, none⟩ = some (.int .u64 t257) ∧ w'.cell? ⟨gb263, 0, none⟩ = some (.int .u64 t260) ∧ w'.cell? ⟨gb263, 1, none⟩ = some (.int .u64 t261) ∧ w'.cell? ⟨gb246, 0, none⟩ = some (.int .u64 t252) ∧ w'.cell? ⟨gb246, 1, none⟩ = some (.int .u64 t253) ∧ w'.cell? ⟨gb247, 0, none⟩ = some (.int .u64 t254) ∧ w'.cell? ⟨gb247, 1, none⟩ = some (.int .u64 t255)) (ds := []) #[F, F, F, F, F, F, F, F, F, F, F, F, F, F, F, F, F, F, F, F, F, F, F, F, F, F, F, F, F, F, F, F, F, F, F, F, F, F, F, F, F, F, F, F, F, F, F, F, F, F, F, F, F, F, F, F, F, F] (by kernel_rfl) rfl rfl ⟨(blk_cell BK259.out 0).trans rfl, (blk_cell BK259.out 1).trans rfl, (blk_cell BK263.out 0).trans rfl, (blk_cell BK263.out 1).trans rfl, (blk_cell BK246.out 0).trans rfl, (blk_cell BK246.out 1).trans rfl, (blk_cell BK247.out 0).trans rfl, (blk_cell BK247.out 1).trans rfl⟩ (fun hHeld => ?_); refine with_tabW mailcoachlaw13_LedgersPlaces.tab7 mailcoachlaw13_LedgersPlaces.bits7 (fun HT_ HW_ => ?_)
 generalize w57.drew = w58 at HO251 BK246 BK247 BK259 BK263 HB hHeld ⊢
 refine take_ (i := 0) (N := some 47) (v := ?_) (a' := ?_) #[T, F, F, F, F, F, F, F, F, F, F, F, F, F, F, F, F, F, F, F, F, F, F, F, F, F, F, F, F, F, F, F, F, F, F, F, F, F, F, F, F, F, F, F, F, F, F, F, F, F, F, F, F, F, F, F, F, F] rfl rfl (take_ofW HT_.out HW_.out (by kernel_rfl)) (fun _ _ _ h => h) (Or.inl ⟨by rfl, ?_⟩) hHeld ?_ ?_
 rotate_left
 ·
  rintro w' ⟨s0, s1, s2, s3, s4, s5, s6, s7⟩
  go_simp
  with_reducible rfl
 rotate_left
 ·
  simp only [Act.put, setIfInBounds_toArray, set_cons_zero, set_cons_succ, i64_w, i32_w]
  rfl
 refine take_ (i := 1) (N := some 48) (v := ?_) (a' := ?_) #[T, T, F, F, F, F, F, F, F, F, F, F, F, F, F, F, F, F, F, F, F, F, F, F, F, F, F, F, F, F, F, F, F, F, F, F, F, F, F, F, F, F, F, F, F, F, F, F, F, F, F, F, F, F, F, F, F, F] rfl rfl (take_ofW HT_.out HW_.out (by kernel_rfl)) (fun _ _ _ h => h) (Or.inl ⟨by rfl, ?_⟩) hHeld ?_ ?_
 rotate_left
 ·
  rintro w' ⟨s0, s1, s2, s3, s4, s5, s6, s7⟩
  go_simp
  with_reducible rfl
 rotate_left
 ·
  simp only [Act.put, setIfInBounds_toArray, set_cons_zero, set_cons_succ, i64_w, i32_w]
  rfl
 refine pure_ (i := 2) (N := some 49) (v := ?_) (a' := ?_) #[T, T, T, F, F, F, F, F, F, F, F, F, F, F, F, F, F, F, F, F, F, F, F, F, F, F, F, F, F, F, F, F, F, F, F, F, F, F, F, F, F, F, F, F, F, F, F, F, F, F, F, F, F, F, F, F, F, F] rfl rfl (any_of HT_.out (by kernel_rfl)) (fun _ _ _ h => h) (Or.inl ⟨by rfl, ?_⟩) ?_ ?_
 rotate_left
 ·
  intro w'
  go_simp
  with_reducible rfl
 rotate_left
 ·
  simp only [Act.put, setIfInBounds_toArray, set_cons_zero, set_cons_succ, i64_w, i32_w]
  rfl
 refine pure_ (i := 3) (N := some 50) (v := ?_) (a' := ?_) #[T, T, T, T, F, F, F, F, F, F, F, F, F, F, F, F, F, F, F, F, F, F, F, F, F, F, F, F, F, F, F, F, F, F, F, F, F, F, F, F, F, F, F, F, F, F, F, F, F, F, F, F, F, F, F, F, F, F] rfl rfl (any_of HT_.out (by kernel_rfl)) (fun _ _ _ h => h) (Or.inl ⟨by rfl, ?_⟩) ?_ ?_
 rotate_left
 ·
  intro w'
  go_simp
  with_reducible rfl
 rotate_left
 ·
  simp only [Act.put, setIfInBounds_toArray, set_cons_zero, set_cons_succ, i64_w, i32_w]
  rfl
 refine pure_ (i := 4) (N := some 51) (v := ?_) (a' := ?_) #[T, T, T, T, T, F, F, F, F, F, F, F, F, F, F, F, F, F, F, F, F, F, F, F, F, F, F, F, F, F, F, F, F, F, F, F, F, F, F, F, F, F, F, F, F, F, F, F, F, F, F, F, F, F, F, F, F, F] rfl rfl (any_of HT_.out (by kernel_rfl)) (fun _ _ _ h => h) (Or.inl ⟨by rfl, ?_⟩) ?_ ?_
 rotate_left
 ·
  intro w'
  go_simp
  with_reducible rfl
 rotate_left
 ·
  simp only [Act.put, setIfInBounds_toArray, set_cons_zero, set_cons_succ, i64_w, i32_w]
  rfl
 refine pure_ (i := 5) (N := some 52) (v := ?_) (a' := ?_) #[T, T, T, T, T, T, F, F, F, F, F, F, F, F, F, F, F, F, F, F, F, F, F, F, F, F, F, F, F, F, F, F, F, F, F, F, F, F, F, F, F, F, F, F, F, F, F, F, F, F, F, F, F, F, F, F, F, F] rfl rfl (any_of HT_.out (by kernel_rfl)) (fun _ _ _ h => h) (Or.inl ⟨by rfl, ?_⟩) ?_ ?_
 rotate_left
 ·
  intro w'
  go_simp
  with_reducible rfl
 rotate_left
 ·
  simp only [Act.put, setIfInBounds_toArray, set_cons_zero, set_cons_succ, i64_w, i32_w]
  rfl
 refine pure_ (i := 6) (N := some 53) (v := ?_) (a' := ?_) #[T, T, T, T, T, T, T, F, F, F, F, F, F, F, F, F, F, F, F, F, F, F, F, F, F, F, F, F, F, F, F, F, F, F, F, F, F, F, F, F, F, F, F, F, F, F, F, F, F, F, F, F, F, F, F, F, F, F] rfl rfl (any_of HT_.out (by kernel_rfl)) (fun _ _ _ h => h) (Or.inl ⟨by rfl, ?_⟩) ?_ ?_
 rotate_left
 ·
  intro w'
  go_simp
  with_reducible rfl
 rotate_left
 ·
  simp only [Act.put, setIfInBounds_toArray, set_cons_zero, set_cons_succ, i64_w, i32_w]
  rfl
 refine pure_ (i := 7) (N := some 54) (v := ?_) (a' := ?_) #[T, T, T, T, T, T, T, T, F, F, F, F, F, F, F, F, F, F, F, F, F, F, F, F, F, F, F, F, F, F, F, F, F, F, F, F, F, F, F, F, F, F, F, F, F, F, F, F, F, F, F, F, F, F, F, F, F, F] rfl rfl (any_of HT_.out (by kernel_rfl)) (fun _ _ _ h => h) (Or.inl ⟨by rfl, ?_⟩) ?_ ?_
 rotate_left
 ·
  intro w'
  go_simp
  with_reducible rfl
 rotate_left
 ·
  simp only [Act.put, setIfInBounds_toArray, set_cons_zero, set_cons_succ, i64_w, i32_w]
  rfl
 refine pure_ (i := 8) (N := some 55) (v := ?_) (a' := ?_) #[T, T, T, T, T, T, T, T, T, F, F, F, F, F, F, F, F, F, F, F, F, F, F, F, F, F, F, F, F, F, F, F, F, F, F, F, F, F, F, F, F, F, F, F, F, F, F, F, F, F, F, F, F, F, F, F, F, F] rfl rfl (any_of HT_.out (by kernel_rfl)) (fun _ _ _ h => h) (Or.inl ⟨by rfl, ?_⟩) ?_ ?_
 rotate_left
 ·
  intro w'
  go_simp
  with_reducible rfl
 rotate_left
 ·
  simp only [Act.put, setIfInBounds_toArray, set_cons_zero, set_cons_succ, i64_w, i32_w]
  rfl
 refine take_ (i := 9) (N := some 56) (v := ?_) (a' := ?_) #[T, T, T, T, T, T, T, T, T, T, F, F, F, F, F, F, F, F, F, F, F, F, F, F, F, F, F, F, F, F, F, F, F, F, F, F, F, F, F, F, F, F, F, F, F, F, F, F, F, F, F, F, F, F, F, F, F, F] rfl rfl (take_ofW HT_.out HW_.out (by kernel_rfl)) (fun _ _ _ h => h) (Or.inl ⟨by rfl, ?_⟩) hHeld ?_ ?_
 rotate_left
 ·
  rintro w' ⟨s0, s1, s2, s3, s4, s5, s6, s7⟩
  go_simp
  with_reducible rfl
 rotate_left
 ·
  simp only [Act.put, setIfInBounds_toArray, set_cons_zero, set_cons_succ, i64_w, i32_w]
  rfl
 refine take_ (i := 10) (N := some 57) (v := ?_) (a' := ?_) #[T, T, T, T, T, T, T, T, T, T, T, F, F, F, F, F, F, F, F, F, F, F, F, F, F, F, F, F, F, F, F, F, F, F, F, F, F, F, F, F, F, F, F, F, F, F, F, F, F, F, F, F, F, F, F, F, F, F] rfl rfl (take_ofW HT_.out HW_.out (by kernel_rfl)) (fun _ _ _ h => h) (Or.inl ⟨by rfl, ?_⟩) hHeld ?_ ?_
 rotate_left
 ·
  rintro w' ⟨s0, s1, s2, s3, s4, s5, s6, s7⟩
  go_simp
  with_reducible rfl
 rotate_left
 ·
  simp only [Act.put, setIfInBounds_toArray, set_cons_zero, set_cons_succ, i64_w, i32_w]
  rfl
 refine take_ (i := 12) (N := some 59) (v := ?_) (a' := ?_) #[T, T, T, T, T, T, T, T, T, T, T, F, T, F, F, F, F, F, F, F, F, F, F, F, F, F, F, F, F, F, F, F, F, F, F, F, F, F, F, F, F, F, F, F, F, F, F, F, F, F, F, F, F, F, F, F, F, F] rfl rfl (take_ofW HT_.out HW_.out (by kernel_rfl)) (fun _ _ _ h => h) (Or.inl ⟨by rfl, ?_⟩) hHeld ?_ ?_
 rotate_left
 ·
  rintro w' ⟨s0, s1, s2, s3, s4, s5, s6, s7⟩
  go_simp
  with_reducible rfl
 rotate_left
 ·
  simp only [Act.put, setIfInBounds_toArray, set_cons_zero, set_cons_succ, i64_w, i32_w]
  rfl
 refine take_ (i := 13) (N := some 60) (v := ?_) (a' := ?_) #[T, T, T, T, T, T, T, T, T, T, T, F, T, T, F, F, F, F, F, F, F, F, F, F, F, F, F, F, F, F, F, F, F, F, F, F, F, F, F, F, F, F, F, F, F, F, F, F, F, F, F, F, F, F, F, F, F, F] rfl rfl (take_ofW HT_.out HW_.out (by kernel_rfl)) (fun _ _ _ h => h) (Or.inl ⟨by rfl, ?_⟩) hHeld ?_ ?_
 rotate_left
 ·
  rintro w' ⟨s0, s1, s2, s3, s4, s5, s6, s7⟩
  go_simp
  with_reducible rfl
 rotate_left
 ·
  simp only [Act.put, setIfInBounds_toArray, set_cons_zero, set_cons_succ, i64_w, i32_w]
  rfl
 refine one_ (i := 11) (N := some 58) #[T, T, T, T, T, T, T, T, T, T, T, T, T, T, F, F, F, F, F, F, F, F, F, F, F, F, F, F, F, F, F, F, F, F, F, F, F, F, F, F, F, F, F, F, F, F, F, F, F, F, F, F, F, F, F, F, F, F] rfl rfl (one_of HT_.out (by kernel_rfl)) (by decide) (fun K hK => ?_)
 refine goes_ Try.func16 (by kernel_rfl) rfl #[.agg #[.int .u64 t252, .int .u64 t253], .agg #[.int .u64 t254, .int .u64 t255]] (by rfl) rfl rfl (by (try simp only [List.map_toArray, List.map_cons, List.map_nil]); first | done | rfl | (simp only [List.length_drop, List.length_take]; rfl)) ?_
 with_reducible refine (ledgers_Order.calls k t252 t253 t254 t255 t264 _ A16.out).mono ?_
 rintro e w59 ⟨rfl, hb⟩
 refine ⟨_, rfl, ?_⟩
 have n0_ := am (Kd.R_below (by (with_reducible repeat (first | apply R_alloc | apply R_drewN | apply R_drew)); exact HO251.out) hb)
 have n1_ := am (blk_below (g := gb246) (o := .cells #[.int .u64 t252, .int .u64 t253] 36 (0, 0)) (by (with_reducible repeat (first | refine blk_drewN ?_ _ | refine blk_drew ?_ | refine blk_alloc ?_ _)); exact BK246.out) hb)
 have n2_ := am (blk_below (g := gb247) (o := .cells #[.int .u64 t254, .int .u64 t255] 36 (0, 0)) (by (with_reducible repeat (first | refine blk_drewN ?_ _ | refine blk_drew ?_ | refine blk_alloc ?_ _)); exact BK247.out) hb)
 have n3_ := am (blk_below (g := gb259) (o := .cells #[.int .u64 t256, .int .u64 t257] 36 (0, 0)) (by (with_reducible repeat (first | refine blk_drewN ?_ _ | refine blk_drew ?_ | refine blk_alloc ?_ _)); exact BK259.out) hb)
 have n4_ := am (blk_below (g := gb263) (o := .cells #[.int .u64 t260, .int .u64 t261] 36 (0, 0)) (by (with_reducible repeat (first | refine blk_drewN ?_ _ | refine blk_drew ?_ | refine blk_alloc ?_ _)); exact BK263.out) hb)
 have n5_ := am (below_step (by repeat (first | (with_reducible first | exact HB.out | apply below_alloc | apply pw_below_drewN | apply below_drew1 | refine below_set ?_ GE246.out | refine below_set ?_ GE247.out | refine below_set ?_ GE259.out | refine below_set ?_ GE263.out) | exact HB.out)) hb)
 clear HO251
 clear BK246
 clear BK247
 clear BK259
 clear BK263
 clear HB
 have HO251 := n0_
 have BK246 := n1_
 have BK247 := n2_
 have BK259 := n3_
 have BK263 := n4_
 have HB := n5_
 clear n0_ n1_ n2_ n3_ n4_ n5_
 (try clear hb)
 (try clear hb2)
 (try clear hk)
 (try clear hi)
 refine hK.out _ _ ⟨(blk_cell BK259.out 0).trans rfl, (blk_cell BK259.out 1).trans rfl, (blk_cell BK263.out 0).trans rfl, (blk_cell BK263.out 1).trans rfl, (blk_cell BK246.out 0).trans rfl, (blk_cell BK246.out 1).trans rfl, (blk_cell BK247.out 0).trans rfl, (blk_cell BK247.out 1).trans rfl⟩ (fun hHeld => ?_)
 clear hK K
 refine norm_ (a' := ?_) ?_ ?_
 rotate_left
 ·
  show Act.put _ (some 58) _ = _
  simp only [Act.put, setIfInBounds_toArray, set_cons_zero, set_cons_succ, i64_w, i32_w]
  rfl
 refine one_ (i := 14) (N := some 61) #[T, T, T, T, T, T, T, T, T, T, T, T, T, T, T, F, F, F, F, F, F, F, F, F, F, F, F, F, F, F, F, F, F, F, F, F, F, F, F, F, F, F, F, F, F, F, F, F, F, F, F, F, F, F, F, F, F, F] rfl rfl (one_of HT_.out (by kernel_rfl)) (by decide) (fun K hK => ?_)
 refine goes_ Try.func25 (by kernel_rfl) rfl #[.agg #[.int .u64 t252, .int .u64 t253], .agg #[.int .u64 t254, .int .u64 t255]] (by rfl) rfl rfl (by (try simp only [List.map_toArray, List.map_cons, List.map_nil]); first | done | rfl | (simp only [List.length_drop, List.length_take]; rfl)) ?_
 with_reducible refine (mailcoachref13_Order.calls k t252 t253 t254 t255 t265 _ A17.out).mono ?_
 rintro e w60 ⟨rfl, hb⟩
 refine ⟨_, rfl, ?_⟩
 have n0_ := am (Kd.R_below (by (with_reducible repeat (first | apply R_alloc | apply R_drewN | apply R_drew)); exact HO251.out) hb)
 have n1_ := am (blk_below (g := gb246) (o := .cells #[.int .u64 t252, .int .u64 t253] 36 (0, 0)) (by (with_reducible repeat (first | refine blk_drewN ?_ _ | refine blk_drew ?_ | refine blk_alloc ?_ _)); exact BK246.out) hb)
 have n2_ := am (blk_below (g := gb247) (o := .cells #[.int .u64 t254, .int .u64 t255] 36 (0, 0)) (by (with_reducible repeat (first | refine blk_drewN ?_ _ | refine blk_drew ?_ | refine blk_alloc ?_ _)); exact BK247.out) hb)
 have n3_ := am (blk_below (g := gb259) (o := .cells #[.int .u64 t256, .int .u64 t257] 36 (0, 0)) (by (with_reducible repeat (first | refine blk_drewN ?_ _ | refine blk_drew ?_ | refine blk_alloc ?_ _)); exact BK259.out) hb)
 have n4_ := am (blk_below (g := gb263) (o := .cells #[.int .u64 t260, .int .u64 t261] 36 (0, 0)) (by (with_reducible repeat (first | refine blk_drewN ?_ _ | refine blk_drew ?_ | refine blk_alloc ?_ _)); exact BK263.out) hb)
 have n5_ := am (below_step (by repeat (first | (with_reducible first | exact HB.out | apply below_alloc | apply pw_below_drewN | apply below_drew1 | refine below_set ?_ GE246.out | refine below_set ?_ GE247.out | refine below_set ?_ GE259.out | refine below_set ?_ GE263.out) | exact HB.out)) hb)
 clear HO251
 clear BK246
 clear BK247
 clear BK259
 clear BK263
 clear HB
 have HO251 := n0_
 have BK246 := n1_
 have BK247 := n2_
 have BK259 := n3_
 have BK263 := n4_
 have HB := n5_
 clear n0_ n1_ n2_ n3_ n4_ n5_
 (try clear hb)
 (try clear hb2)
 (try clear hk)
 (try clear hi)
 refine hK.out _ _ ⟨(blk_cell BK259.out 0).trans rfl, (blk_cell BK259.out 1).trans rfl, (blk_cell BK263.out 0).trans rfl, (blk_cell BK263.out 1).trans rfl, (blk_cell BK246.out 0).trans rfl, (blk_cell BK246.out 1).trans rfl, (blk_cell BK247.out 0).trans rfl, (blk_cell BK247.out 1).trans rfl⟩ (fun hHeld => ?_)
 clear hK K
 refine norm_ (a' := ?_) ?_ ?_
 rotate_left
 ·
  show Act.put _ (some 61) _ = _
  simp only [Act.put, setIfInBounds_toArray, set_cons_zero, set_cons_succ, i64_w, i32_w]
  rfl
 refine pure_ (i := 15) (N := some 62) (v := ?_) (a' := ?_) #[T, T, T, T, T, T, T, T, T, T, T, T, T, T, T, T, F, F, F, F, F, F, F, F, F, F, F, F, F, F, F, F, F, F, F, F, F, F, F, F, F, F, F, F, F, F, F, F, F, F, F, F, F, F, F, F, F, F] rfl rfl (any_of HT_.out (by kernel_rfl)) (fun _ _ _ h => h) (Or.inl ⟨by rfl, ?_⟩) ?_ ?_
 rotate_left
 ·
  intro w'
  go_simp
  with_reducible rfl
 rotate_left
 ·
  simp only [Act.put, setIfInBounds_toArray, set_cons_zero, set_cons_succ, i64_w, i32_w]
  rfl
 refine pure_ (i := 16) (N := some 63) (v := ?_) (a' := ?_) #[T, T, T, T, T, T, T, T, T, T, T, T, T, T, T, T, T, F, F, F, F, F, F, F, F, F, F, F, F, F, F, F, F, F, F, F, F, F, F, F, F, F, F, F, F, F, F, F, F, F, F, F, F, F, F, F, F, F] rfl rfl (any_of HT_.out (by kernel_rfl)) (fun _ _ _ h => h) (Or.inl ⟨by rfl, ?_⟩) ?_ ?_
 rotate_left
 ·
  intro w'
  go_simp
  with_reducible rfl
 rotate_left
 ·
  simp only [Act.put, setIfInBounds_toArray, set_cons_zero, set_cons_succ, i64_w, i32_w]
  rfl
 refine pure_ (i := 17) (N := some 64) (v := ?_) (a' := ?_) #[T, T, T, T, T, T, T, T, T, T, T, T, T, T, T, T, T, T, F, F, F, F, F, F, F, F, F, F, F, F, F, F, F, F, F, F, F, F, F, F, F, F, F, F, F, F, F, F, F, F, F, F, F, F, F, F, F, F] rfl rfl (any_of HT_.out (by kernel_rfl)) (fun _ _ _ h => h) (Or.inl ⟨by rfl, ?_⟩) ?_ ?_
 rotate_left
 ·
  intro w'
  go_simp
  with_reducible rfl
 rotate_left
 ·
  simp only [Act.put, setIfInBounds_toArray, set_cons_zero, set_cons_succ, i64_w, i32_w]
  rfl
 refine pure_ (i := 18) (N := some 65) (v := ?_) (a' := ?_) #[T, T, T, T, T, T, T, T, T, T, T, T, T, T, T, T, T, T, T, F, F, F, F, F, F, F, F, F, F, F, F, F, F, F, F, F, F, F, F, F, F, F, F, F, F, F, F, F, F, F, F, F, F, F, F, F, F, F] rfl rfl (any_of HT_.out (by kernel_rfl)) (fun _ _ _ h => h) (Or.inl ⟨by rfl, ?_⟩) ?_ ?_
 rotate_left
 ·
  intro w'
  go_simp
  with_reducible rfl
 rotate_left
 ·
  simp only [Act.put, setIfInBounds_toArray, set_cons_zero, set_cons_succ, i64_w, i32_w]
  rfl
 refine pure_ (i := 19) (N := some 66) (v := ?_) (a' := ?_) #[T, T, T, T, T, T, T, T, T, T, T, T, T, T, T, T, T, T, T, T, F, F, F, F, F, F, F, F, F, F, F, F, F, F, F, F, F, F, F, F, F, F, F, F, F, F, F, F, F, F, F, F, F, F, F, F, F, F] rfl rfl (any_of HT_.out (by kernel_rfl)) (fun _ _ _ h => h) (Or.inl ⟨by rfl, ?_⟩) ?_ ?_
 rotate_left
 ·
  intro w'
  go_simp
  with_reducible rfl
 rotate_left
 ·
  simp only [Act.put, setIfInBounds_toArray, set_cons_zero, set_cons_succ, i64_w, i32_w]
  rfl
 refine pure_ (i := 22) (N := some 69) (v := ?_) (a' := ?_) #[T, T, T, T, T, T, T, T, T, T, T, T, T, T, T, T, T, T, T, T, F, F, T, F, F, F, F, F, F, F, F, F, F, F, F, F, F, F, F, F, F, F, F, F, F, F, F, F, F, F, F, F, F, F, F, F, F, F] rfl rfl (any_of HT_.out (by kernel_rfl)) (fun _ _ _ h => h) (Or.inl ⟨by rfl, ?_⟩) ?_ ?_
 rotate_left
 ·
  intro w'
  go_simp
  with_reducible rfl
 rotate_left
 ·
  simp only [Act.put, setIfInBounds_toArray, set_cons_zero, set_cons_succ, i64_w, i32_w]
  rfl
 refine pure_ (i := 23) (N := some 70) (v := ?_) (a' := ?_) #[T, T, T, T, T, T, T, T, T, T, T, T, T, T, T, T, T, T, T, T, F, F, T, T, F, F, F, F, F, F, F, F, F, F, F, F, F, F, F, F, F, F, F, F, F, F, F, F, F, F, F, F, F, F, F, F, F, F] rfl rfl (any_of HT_.out (by kernel_rfl)) (fun _ _ _ h => h) (Or.inl ⟨by rfl, ?_⟩) ?_ ?_
 rotate_left
 ·
  intro w'
  go_simp
  with_reducible rfl
 rotate_left
 ·
  simp only [Act.put, setIfInBounds_toArray, set_cons_zero, set_cons_succ, i64_w, i32_w]
  rfl
 refine take_ (i := 20) (N := some 67) (v := ?_) (a' := ?_) #[T, T, T, T, T, T, T, T, T, T, T, T, T, T, T, T, T, T, T, T, T, F, T, T, F, F, F, F, F, F, F, F, F, F, F, F, F, F, F, F, F, F, F, F, F, F, F, F, F, F, F, F, F, F, F, F, F, F] rfl rfl (take_ofW HT_.out HW_.out (by kernel_rfl)) (fun _ _ _ h => h) (Or.inl ⟨by rfl, ?_⟩) hHeld ?_ ?_
 rotate_left
 ·
  rintro w' ⟨s0, s1, s2, s3, s4, s5, s6, s7⟩
  go_simp
  with_reducible rfl
 rotate_left
 ·
  simp only [Act.put, setIfInBounds_toArray, set_cons_zero, set_cons_succ, i64_w, i32_w]
  rfl
 refine take_ (i := 24) (N := some 71) (v := ?_) (a' := ?_) #[T, T, T, T, T, T, T, T, T, T, T, T, T, T, T, T, T, T, T, T, T, F, T, T, T, F, F, F, F, F, F, F, F, F, F, F, F, F, F, F, F, F, F, F, F, F, F, F, F, F, F, F, F, F, F, F, F, F] rfl rfl (take_ofW HT_.out HW_.out (by kernel_rfl)) (fun _ _ _ h => h) (Or.inl ⟨by rfl, ?_⟩) hHeld ?_ ?_
 rotate_left
 ·
  rintro w' ⟨s0, s1, s2, s3, s4, s5, s6, s7⟩
  go_simp
  with_reducible rfl
 rotate_left
 ·
  simp only [Act.put, setIfInBounds_toArray, set_cons_zero, set_cons_succ, i64_w, i32_w]
  rfl
 refine one_ (i := 21) (N := some 68) #[T, T, T, T, T, T, T, T, T, T, T, T, T, T, T, T, T, T, T, T, T, T, T, T, T, F, F, F, F, F, F, F, F, F, F, F, F, F, F, F, F, F, F, F, F, F, F, F, F, F, F, F, F, F, F, F, F, F] rfl rfl (one_of HT_.out (by kernel_rfl)) (by decide) (fun K hK => ?_)
 refine goes_ Try.func20 (by kernel_rfl) rfl #[.slice Ao44 t249.length co44, .int .u64 (IntKind.u64.wrap (Int.tmod a2 6)), .agg #[.int .u64 t252, .int .u64 t253]] (by rfl) rfl rfl (by (try simp only [List.map_toArray, List.map_cons, List.map_nil]); first | done | rfl | (simp only [List.length_drop, List.length_take]; rfl)) ?_
 with_reducible refine (ledgers_Has.calls k _ _ t249 (IntKind.u64.wrap (Int.tmod a2 6)) t252 t253 t266 _ ?side1 ?side2 A19.out).mono ?_
 (case side1 => repeat (first | exact (Kd.R_reads' HO251.out).2.2 | (with_reducible refine Kd.C_alloc ?_ _) | (with_reducible refine Kd.C_drewN ?_ _) | (with_reducible refine Kd.C_drew ?_)))
 (case side2 => exact (Kd.R_reads' HO251.out).2.1)
 rintro e w61 ⟨rfl, hb⟩
 refine ⟨_, rfl, ?_⟩
 have n0_ := am (Kd.R_below (by (with_reducible repeat (first | apply R_alloc | apply R_drewN | apply R_drew)); exact HO251.out) hb)
 have n1_ := am (blk_below (g := gb246) (o := .cells #[.int .u64 t252, .int .u64 t253] 36 (0, 0)) (by (with_reducible repeat (first | refine blk_drewN ?_ _ | refine blk_drew ?_ | refine blk_alloc ?_ _)); exact BK246.out) hb)
 have n2_ := am (blk_below (g := gb247) (o := .cells #[.int .u64 t254, .int .u64 t255] 36 (0, 0)) (by (with_reducible repeat (first | refine blk_drewN ?_ _ | refine blk_drew ?_ | refine blk_alloc ?_ _)); exact BK247.out) hb)
 have n3_ := am (blk_below (g := gb259) (o := .cells #[.int .u64 t256, .int .u64 t257] 36 (0, 0)) (by (with_reducible repeat (first | refine blk_drewN ?_ _ | refine blk_drew ?_ | refine blk_alloc ?_ _)); exact BK259.out) hb)
 have n4_ := am (blk_below (g := gb263) (o := .cells #[.int .u64 t260, .int .u64 t261] 36 (0, 0)) (by (with_reducible repeat (first | refine blk_drewN ?_ _ | refine blk_drew ?_ | refine blk_alloc ?_ _)); exact BK263.out) hb)
 have n5_ := am (below_step (by repeat (first | (with_reducible first | exact HB.out | apply below_alloc | apply pw_below_drewN | apply below_drew1 | refine below_set ?_ GE246.out | refine below_set ?_ GE247.out | refine below_set ?_ GE259.out | refine below_set ?_ GE263.out) | exact HB.out)) hb)
 clear HO251
 clear BK246
 clear BK247
 clear BK259
 clear BK263
 clear HB
 have HO251 := n0_
 have BK246 := n1_
 have BK247 := n2_
 have BK259 := n3_
 have BK263 := n4_
 have HB := n5_
 clear n0_ n1_ n2_ n3_ n4_ n5_
 (try clear hb)
 (try clear hb2)
 (try clear hk)
 (try clear hi)
 refine hK.out _ _ ⟨(blk_cell BK259.out 0).trans rfl, (blk_cell BK259.out 1).trans rfl, (blk_cell BK263.out 0).trans rfl, (blk_cell BK263.out 1).trans rfl, (blk_cell BK246.out 0).trans rfl, (blk_cell BK246.out 1).trans rfl, (blk_cell BK247.out 0).trans rfl, (blk_cell BK247.out 1).trans rfl⟩ (fun hHeld => ?_)
 clear hK K
 refine norm_ (a' := ?_) ?_ ?_
 rotate_left
 ·
  show Act.put _ (some 68) _ = _
  simp only [Act.put, setIfInBounds_toArray, set_cons_zero, set_cons_succ, i64_w, i32_w]
  rfl
 refine one_ (i := 25) (N := some 72) #[T, T, T, T, T, T, T, T, T, T, T, T, T, T, T, T, T, T, T, T, T, T, T, T, T, T, F, F, F, F, F, F, F, F, F, F, F, F, F, F, F, F, F, F, F, F, F, F, F, F, F, F, F, F, F, F, F, F] rfl rfl (one_of HT_.out (by kernel_rfl)) (by decide) (fun K hK => ?_)
 refine goes_ Try.func26 (by kernel_rfl) rfl #[.slice Ao44 t249.length co44, .int .u64 (IntKind.u64.wrap (Int.tmod a2 6)), .agg #[.int .u64 t252, .int .u64 t253]] (by rfl) rfl rfl (by (try simp only [List.map_toArray, List.map_cons, List.map_nil]); first | done | rfl | (simp only [List.length_drop, List.length_take]; rfl)) ?_
 with_reducible refine (mailcoachref13_Has.calls k _ _ t249 (IntKind.u64.wrap (Int.tmod a2 6)) t252 t253 t267 _ ?side1 ?side2 A20.out).mono ?_
 (case side1 => repeat (first | exact (Kd.R_reads' HO251.out).2.2 | (with_reducible refine Kd.C_alloc ?_ _) | (with_reducible refine Kd.C_drewN ?_ _) | (with_reducible refine Kd.C_drew ?_)))
 (case side2 => exact (Kd.R_reads' HO251.out).2.1)
 rintro e w62 ⟨rfl, hb⟩
 refine ⟨_, rfl, ?_⟩
 have n0_ := am (Kd.R_below (by (with_reducible repeat (first | apply R_alloc | apply R_drewN | apply R_drew)); exact HO251.out) hb)
 have n1_ := am (blk_below (g := gb246) (o := .cells #[.int .u64 t252, .int .u64 t253] 36 (0, 0)) (by (with_reducible repeat (first | refine blk_drewN ?_ _ | refine blk_drew ?_ | refine blk_alloc ?_ _)); exact BK246.out) hb)
 have n2_ := am (blk_below (g := gb247) (o := .cells #[.int .u64 t254, .int .u64 t255] 36 (0, 0)) (by (with_reducible repeat (first | refine blk_drewN ?_ _ | refine blk_drew ?_ | refine blk_alloc ?_ _)); exact BK247.out) hb)
 have n3_ := am (blk_below (g := gb259) (o := .cells #[.int .u64 t256, .int .u64 t257] 36 (0, 0)) (by (with_reducible repeat (first | refine blk_drewN ?_ _ | refine blk_drew ?_ | refine blk_alloc ?_ _)); exact BK259.out) hb)
 have n4_ := am (blk_below (g := gb263) (o := .cells #[.int .u64 t260, .int .u64 t261] 36 (0, 0)) (by (with_reducible repeat (first | refine blk_drewN ?_ _ | refine blk_drew ?_ | refine blk_alloc ?_ _)); exact BK263.out) hb)
 have n5_ := am (below_step (by repeat (first | (with_reducible first | exact HB.out | apply below_alloc | apply pw_below_drewN | apply below_drew1 | refine below_set ?_ GE246.out | refine below_set ?_ GE247.out | refine below_set ?_ GE259.out | refine below_set ?_ GE263.out) | exact HB.out)) hb)
 clear HO251
 clear BK246
 clear BK247
 clear BK259
 clear BK263
 clear HB
 have HO251 := n0_
 have BK246 := n1_
 have BK247 := n2_
 have BK259 := n3_
 have BK263 := n4_
 have HB := n5_
 clear n0_ n1_ n2_ n3_ n4_ n5_
 (try clear hb)
 (try clear hb2)
 (try clear hk)
 (try clear hi)
 refine hK.out _ _ ⟨(blk_cell BK259.out 0).trans rfl, (blk_cell BK259.out 1).trans rfl, (blk_cell BK263.out 0).trans rfl, (blk_cell BK263.out 1).trans rfl, (blk_cell BK246.out 0).trans rfl, (blk_cell BK246.out 1).trans rfl, (blk_cell BK247.out 0).trans rfl, (blk_cell BK247.out 1).trans rfl⟩ (fun hHeld => ?_)
 clear hK K
 refine norm_ (a' := ?_) ?_ ?_
 rotate_left
 ·
  show Act.put _ (some 72) _ = _
  simp only [Act.put, setIfInBounds_toArray, set_cons_zero, set_cons_succ, i64_w, i32_w]
  rfl
 refine pure_ (i := 26) (N := some 73) (v := ?_) (a' := ?_) #[T, T, T, T, T, T, T, T, T, T, T, T, T, T, T, T, T, T, T, T, T, T, T, T, T, T, T, F, F, F, F, F, F, F, F, F, F, F, F, F, F, F, F, F, F, F, F, F, F, F, F, F, F, F, F, F, F, F] rfl rfl (any_of HT_.out (by kernel_rfl)) (fun _ _ _ h => h) (Or.inl ⟨by rfl, ?_⟩) ?_ ?_
 rotate_left
 ·
  intro w'
  go_simp
  with_reducible rfl
 rotate_left
 ·
  simp only [Act.put, setIfInBounds_toArray, set_cons_zero, set_cons_succ, i64_w, i32_w]
  rfl
 refine pure_ (i := 27) (N := some 74) (v := ?_) (a' := ?_) #[T, T, T, T, T, T, T, T, T, T, T, T, T, T, T, T, T, T, T, T, T, T, T, T, T, T, T, T, F, F, F, F, F, F, F, F, F, F, F, F, F, F, F, F, F, F, F, F, F, F, F, F, F, F, F, F, F, F] rfl rfl (any_of HT_.out (by kernel_rfl)) (fun _ _ _ h => h) (Or.inl ⟨by rfl, ?_⟩) ?_ ?_
 rotate_left
 ·
  intro w'
  go_simp
  with_reducible rfl
 rotate_left
 ·
  simp only [Act.put, setIfInBounds_toArray, set_cons_zero, set_cons_succ, i64_w, i32_w]
  rfl
 refine pure_ (i := 28) (N := some 75) (v := ?_) (a' := ?_) #[T, T, T, T, T, T, T, T, T, T, T, T, T, T, T, T, T, T, T, T, T, T, T, T, T, T, T, T, T, F, F, F, F, F, F, F, F, F, F, F, F, F, F, F, F, F, F, F, F, F, F, F, F, F, F, F, F, F] rfl rfl (any_of HT_.out (by kernel_rfl)) (fun _ _ _ h => h) (Or.inl ⟨by rfl, ?_⟩) ?_ ?_
 rotate_left
 ·
  intro w'
  go_simp
  with_reducible rfl
 rotate_left
 ·
  simp only [Act.put, setIfInBounds_toArray, set_cons_zero, set_cons_succ, i64_w, i32_w]
  rfl
 refine pure_ (i := 29) (N := some 76) (v := ?_) (a' := ?_) #[T, T, T, T, T, T, T, T, T, T, T, T, T, T, T, T, T, T, T, T, T, T, T, T, T, T, T, T, T, T, F, F, F, F, F, F, F, F, F, F, F, F, F, F, F, F, F, F, F, F, F, F, F, F, F, F, F, F] rfl rfl (any_of HT_.out (by kernel_rfl)) (fun _ _ _ h => h) (Or.inl ⟨by rfl, ?_⟩) ?_ ?_
 rotate_left
 ·
  intro w'
  go_simp
  with_reducible rfl
 rotate_left
 ·
  simp only [Act.put, setIfInBounds_toArray, set_cons_zero, set_cons_succ, i64_w, i32_w]
  rfl
 refine pure_ (i := 30) (N := some 77) (v := ?_) (a' := ?_) #[T, T, T, T, T, T, T, T, T, T, T, T, T, T, T, T, T, T, T, T, T, T, T, T, T, T, T, T, T, T, T, F, F, F, F, F, F, F, F, F, F, F, F, F, F, F, F, F, F, F, F, F, F, F, F, F, F, F] rfl rfl (any_of HT_.out (by kernel_rfl)) (fun _ _ _ h => h) (Or.inl ⟨by rfl, ?_⟩) ?_ ?_
 rotate_left
 ·
  intro w'
  go_simp
  with_reducible rfl
 rotate_left
 ·
  simp only [Act.put, setIfInBounds_toArray, set_cons_zero, set_cons_succ, i64_w, i32_w]
  rfl
 refine pure_ (i := 34) (N := some 81) (v := ?_) (a' := ?_) #[T, T, T, T, T, T, T, T, T, T, T, T, T, T, T, T, T, T, T, T, T, T, T, T, T, T, T, T, T, T, T, F, F, F, T, F, F, F, F, F, F, F, F, F, F, F, F, F, F, F, F, F, F, F, F, F, F, F] rfl rfl (any_of HT_.out (by kernel_rfl)) (fun _ _ _ h => h) (Or.inl ⟨by rfl, ?_⟩) ?_ ?_
 rotate_left
 ·
  intro w'
  go_simp
  with_reducible rfl
 rotate_left
 ·
  simp only [Act.put, setIfInBounds_toArray, set_cons_zero, set_cons_succ, i64_w, i32_w]
  rfl
 refine pure_ (i := 35) (N := some 82) (v := ?_) (a' := ?_) #[T, T, T, T, T, T, T, T, T, T, T, T, T, T, T, T, T, T, T, T, T, T, T, T, T, T, T, T, T, T, T, F, F, F, T, T, F, F, F, F, F, F, F, F, F, F, F, F, F, F, F, F, F, F, F, F, F, F] rfl rfl (any_of HT_.out (by kernel_rfl)) (fun _ _ _ h => h) (Or.inl ⟨by rfl, ?_⟩) ?_ ?_
 rotate_left
 ·
  intro w'
  go_simp
  with_reducible rfl
 rotate_left
 ·
  simp only [Act.put, setIfInBounds_toArray, set_cons_zero, set_cons_succ, i64_w, i32_w]
  rfl
 refine take_ (i := 31) (N := some 78) (v := ?_) (a' := ?_) #[T, T, T, T, T, T, T, T, T, T, T, T, T, T, T, T, T, T, T, T, T, T, T, T, T, T, T, T, T, T, T, T, F, F, T, T, F, F, F, F, F, F, F, F, F, F, F, F, F, F, F, F, F, F, F, F, F, F] rfl rfl (take_ofW HT_.out HW_.out (by kernel_rfl)) (fun _ _ _ h => h) (Or.inl ⟨by rfl, ?_⟩) hHeld ?_ ?_
 rotate_left
 ·
  rintro w' ⟨s0, s1, s2, s3, s4, s5, s6, s7⟩
  go_simp
  with_reducible rfl
 rotate_left
 ·
  simp only [Act.put, setIfInBounds_toArray, set_cons_zero, set_cons_succ, i64_w, i32_w]
  rfl
 refine take_ (i := 32) (N := some 79) (v := ?_) (a' := ?_) #[T, T, T, T, T, T, T, T, T, T, T, T, T, T, T, T, T, T, T, T, T, T, T, T, T, T, T, T, T, T, T, T, T, F, T, T, F, F, F, F, F, F, F, F, F, F, F, F, F, F, F, F, F, F, F, F, F, F] rfl rfl (take_ofW HT_.out HW_.out (by kernel_rfl)) (fun _ _ _ h => h) (Or.inl ⟨by rfl, ?_⟩) hHeld ?_ ?_
 rotate_left
 ·
  rintro w' ⟨s0, s1, s2, s3, s4, s5, s6, s7⟩
  go_simp
  with_reducible rfl
 rotate_left
 ·
  simp only [Act.put, setIfInBounds_toArray, set_cons_zero, set_cons_succ, i64_w, i32_w]
  rfl
 refine take_ (i := 36) (N := some 83) (v := ?_) (a' := ?_) #[T, T, T, T, T, T, T, T, T, T, T, T, T, T, T, T, T, T, T, T, T, T, T, T, T, T, T, T, T, T, T, T, T, F, T, T, T, F, F, F, F, F, F, F, F, F, F, F, F, F, F, F, F, F, F, F, F, F] rfl rfl (take_ofW HT_.out HW_.out (by kernel_rfl)) (fun _ _ _ h => h) (Or.inl ⟨by rfl, ?_⟩) hHeld ?_ ?_
 rotate_left
 ·
  rintro w' ⟨s0, s1, s2, s3, s4, s5, s6, s7⟩
  go_simp
  with_reducible rfl
 rotate_left
 ·
  simp only [Act.put, setIfInBounds_toArray, set_cons_zero, set_cons_succ, i64_w, i32_w]
  rfl
 refine take_ (i := 37) (N := some 84) (v := ?_) (a' := ?_) #[T, T, T, T, T, T, T, T, T, T, T, T, T, T, T, T, T, T, T, T, T, T, T, T, T, T, T, T, T, T, T, T, T, F, T, T, T, T, F, F, F, F, F, F, F, F, F, F, F, F, F, F, F, F, F, F, F, F] rfl rfl (take_ofW HT_.out HW_.out (by kernel_rfl)) (fun _ _ _ h => h) (Or.inl ⟨by rfl, ?_⟩) hHeld ?_ ?_
 rotate_left
 ·
  rintro w' ⟨s0, s1, s2, s3, s4, s5, s6, s7⟩
  go_simp
  with_reducible rfl
 rotate_left
 ·
  simp only [Act.put, setIfInBounds_toArray, set_cons_zero, set_cons_succ, i64_w, i32_w]
  rfl
 refine one_ (i := 33) (N := some 80) #[T, T, T, T, T, T, T, T, T, T, T, T, T, T, T, T, T, T, T, T, T, T, T, T, T, T, T, T, T, T, T, T, T, T, T, T, T, T, F, F, F, F, F, F, F, F, F, F, F, F, F, F, F, F, F, F, F, F] rfl rfl (one_of HT_.out (by kernel_rfl)) (by decide) (fun K hK => ?_)
 refine goes_ Try.func17 (by kernel_rfl) rfl #[.slice Ao44 t249.length co44, .int .u64 (IntKind.u64.wrap (Int.tmod a2 6)), .agg #[.int .u64 t252, .int .u64 t253], .agg #[.int .u64 t254, .int .u64 t255]] (by rfl) rfl rfl (by (try simp only [List.map_toArray, List.map_cons, List.map_nil]); first | done | rfl | (simp only [List.length_drop, List.length_take]; rfl)) ?_
 with_reducible refine (ledgers_Between.calls k _ _ t249 (IntKind.u64.wrap (Int.tmod a2 6)) t252 t253 t254 t255 t268 _ ?side1 ?side2 A22.out).mono ?_
 (case side1 => repeat (first | exact (Kd.R_reads' HO251.out).2.2 | (with_reducible refine Kd.C_alloc ?_ _) | (with_reducible refine Kd.C_drewN ?_ _) | (with_reducible refine Kd.C_drew ?_)))
 (case side2 => exact (Kd.R_reads' HO251.out).2.1)
 rintro e w63 ⟨rfl, hb⟩
 refine ⟨_, rfl, ?_⟩
 have n0_ := am (Kd.R_below (by (with_reducible repeat (first | apply R_alloc | apply R_drewN | apply R_drew)); exact HO251.out) hb)
 have n1_ := am (blk_below (g := gb246) (o := .cells #[.int .u64 t252, .int .u64 t253] 36 (0, 0)) (by (with_reducible repeat (first | refine blk_drewN ?_ _ | refine blk_drew ?_ | refine blk_alloc ?_ _)); exact BK246.out) hb)
 have n2_ := am (blk_below (g := gb247) (o := .cells #[.int .u64 t254, .int .u64 t255] 36 (0, 0)) (by (with_reducible repeat (first | refine blk_drewN ?_ _ | refine blk_drew ?_ | refine blk_alloc ?_ _)); exact BK247.out) hb)
 have n3_ := am (blk_below (g := gb259) (o := .cells #[.int .u64 t256, .int .u64 t257] 36 (0, 0)) (by (with_reducible repeat (first | refine blk_drewN ?_ _ | refine blk_drew ?_ | refine blk_alloc ?_ _)); exact BK259.out) hb)
 have n4_ := am (blk_below (g := gb263) (o := .cells #[.int .u64 t260, .int .u64 t261] 36 (0, 0)) (by (with_reducible repeat (first | refine blk_drewN ?_ _ | refine blk_drew ?_ | refine blk_alloc ?_ _)); exact BK263.out) hb)
 have n5_ := am (below_step (by repeat (first | (with_reducible first | exact HB.out | apply below_alloc | apply pw_below_drewN | apply below_drew1 | refine below_set ?_ GE246.out | refine below_set ?_ GE247.out | refine below_set ?_ GE259.out | refine below_set ?_ GE263.out) | exact HB.out)) hb)
 clear HO251
 clear BK246
 clear BK247
 clear BK259
 clear BK263
 clear HB
 have HO251 := n0_
 have BK246 := n1_
 have BK247 := n2_
 have BK259 := n3_
 have BK263 := n4_
 have HB := n5_
 clear n0_ n1_ n2_ n3_ n4_ n5_
 (try clear hb)
 (try clear hb2)
 (try clear hk)
 (try clear hi)
 refine hK.out _ _ ⟨(blk_cell BK259.out 0).trans rfl, (blk_cell BK259.out 1).trans rfl, (blk_cell BK263.out 0).trans rfl, (blk_cell BK263.out 1).trans rfl, (blk_cell BK246.out 0).trans rfl, (blk_cell BK246.out 1).trans rfl, (blk_cell BK247.out 0).trans rfl, (blk_cell BK247.out 1).trans rfl⟩ (fun hHeld => ?_)
 clear hK K
 refine norm_ (a' := ?_) ?_ ?_
 rotate_left
 ·
  show Act.put _ (some 80) _ = _
  simp only [Act.put, setIfInBounds_toArray, set_cons_zero, set_cons_succ, i64_w, i32_w]
  rfl
 refine one_ (i := 38) (N := some 85) #[T, T, T, T, T, T, T, T, T, T, T, T, T, T, T, T, T, T, T, T, T, T, T, T, T, T, T, T, T, T, T, T, T, T, T, T, T, T, T, F, F, F, F, F, F, F, F, F, F, F, F, F, F, F, F, F, F, F] rfl rfl (one_of HT_.out (by kernel_rfl)) (by decide) (fun K hK => ?_)
 refine goes_ Try.func27 (by kernel_rfl) rfl #[.slice Ao44 t249.length co44, .int .u64 (IntKind.u64.wrap (Int.tmod a2 6)), .agg #[.int .u64 t252, .int .u64 t253], .agg #[.int .u64 t254, .int .u64 t255]] (by rfl) rfl rfl (by (try simp only [List.map_toArray, List.map_cons, List.map_nil]); first | done | rfl | (simp only [List.length_drop, List.length_take]; rfl)) ?_
 with_reducible refine (mailcoachref13_Between.calls k _ _ t249 (IntKind.u64.wrap (Int.tmod a2 6)) t252 t253 t254 t255 t269 _ ?side1 ?side2 A23.out).mono ?_
 (case side1 => repeat (first | exact (Kd.R_reads' HO251.out).2.2 | (with_reducible refine Kd.C_alloc ?_ _) | (with_reducible refine Kd.C_drewN ?_ _) | (with_reducible refine Kd.C_drew ?_)))
 (case side2 => exact (Kd.R_reads' HO251.out).2.1)
 rintro e w64 ⟨rfl, hb⟩
 refine ⟨_, rfl, ?_⟩
 have n0_ := am (Kd.R_below (by (with_reducible repeat (first | apply R_alloc | apply R_drewN | apply R_drew)); exact HO251.out) hb)
 have n1_ := am (blk_below (g := gb246) (o := .cells #[.int .u64 t252, .int .u64 t253] 36 (0, 0)) (by (with_reducible repeat (first | refine blk_drewN ?_ _ | refine blk_drew ?_ | refine blk_alloc ?_ _)); exact BK246.out) hb)
 have n2_ := am (blk_below (g := gb247) (o := .cells #[.int .u64 t254, .int .u64 t255] 36 (0, 0)) (by (with_reducible repeat (first | refine blk_drewN ?_ _ | refine blk_drew ?_ | refine blk_alloc ?_ _)); exact BK247.out) hb)
 have n3_ := am (blk_below (g := gb259) (o := .cells #[.int .u64 t256, .int .u64 t257] 36 (0, 0)) (by (with_reducible repeat (first | refine blk_drewN ?_ _ | refine blk_drew ?_ | refine blk_alloc ?_ _)); exact BK259.out) hb)
 have n4_ := am (blk_below (g := gb263) (o := .cells #[.int .u64 t260, .int .u64 t261] 36 (0, 0)) (by (with_reducible repeat (first | refine blk_drewN ?_ _ | refine blk_drew ?_ | refine blk_alloc ?_ _)); exact BK263.out) hb)
 have n5_ := am (below_step (by repeat (first | (with_reducible first | exact HB.out | apply below_alloc | apply pw_below_drewN | apply below_drew1 | refine below_set ?_ GE246.out | refine below_set ?_ GE247.out | refine below_set ?_ GE259.out | refine below_set ?_ GE263.out) | exact HB.out)) hb)
 clear HO251
 clear BK246
 clear BK247
 clear BK259
 clear BK263
 clear HB
 have HO251 := n0_
 have BK246 := n1_
 have BK247 := n2_
 have BK259 := n3_
 have BK263 := n4_
 have HB := n5_
 clear n0_ n1_ n2_ n3_ n4_ n5_
 (try clear hb)
 (try clear hb2)
 (try clear hk)
 (try clear hi)
 refine hK.out _ _ ⟨(blk_cell BK259.out 0).trans rfl, (blk_cell BK259.out 1).trans rfl, (blk_cell BK263.out 0).trans rfl, (blk_cell BK263.out 1).trans rfl, (blk_cell BK246.out 0).trans rfl, (blk_cell BK246.out 1).trans rfl, (blk_cell BK247.out 0).trans rfl, (blk_cell BK247.out 1).trans rfl⟩ (fun hHeld => ?_)
 clear hK K
 refine norm_ (a' := ?_) ?_ ?_
 rotate_left
 ·
  show Act.put _ (some 85) _ = _
  simp only [Act.put, setIfInBounds_toArray, set_cons_zero, set_cons_succ, i64_w, i32_w]
  rfl
 refine pure_ (i := 39) (N := some 86) (v := ?_) (a' := ?_) #[T, T, T, T, T, T, T, T, T, T, T, T, T, T, T, T, T, T, T, T, T, T, T, T, T, T, T, T, T, T, T, T, T, T, T, T, T, T, T, T, F, F, F, F, F, F, F, F, F, F, F, F, F, F, F, F, F, F] rfl rfl (any_of HT_.out (by kernel_rfl)) (fun _ _ _ h => h) (Or.inl ⟨by rfl, ?_⟩) ?_ ?_
 rotate_left
 ·
  intro w'
  go_simp
  with_reducible rfl
 rotate_left
 ·
  simp only [Act.put, setIfInBounds_toArray, set_cons_zero, set_cons_succ, i64_w, i32_w]
  rfl
 refine pure_ (i := 40) (N := some 87) (v := ?_) (a' := ?_) #[T, T, T, T, T, T, T, T, T, T, T, T, T, T, T, T, T, T, T, T, T, T, T, T, T, T, T, T, T, T, T, T, T, T, T, T, T, T, T, T, T, F, F, F, F, F, F, F, F, F, F, F, F, F, F, F, F, F] rfl rfl (any_of HT_.out (by kernel_rfl)) (fun _ _ _ h => h) (Or.inl ⟨by rfl, ?_⟩) ?_ ?_
 rotate_left
 ·
  intro w'
  go_simp
  with_reducible rfl
 rotate_left
 ·
  simp only [Act.put, setIfInBounds_toArray, set_cons_zero, set_cons_succ, i64_w, i32_w]
  rfl
 refine pure_ (i := 41) (N := some 88) (v := ?_) (a' := ?_) #[T, T, T, T, T, T, T, T, T, T, T, T, T, T, T, T, T, T, T, T, T, T, T, T, T, T, T, T, T, T, T, T, T, T, T, T, T, T, T, T, T, T, F, F, F, F, F, F, F, F, F, F, F, F, F, F, F, F] rfl rfl (any_of HT_.out (by kernel_rfl)) (fun _ _ _ h => h) (Or.inl ⟨by rfl, ?_⟩) ?_ ?_
 rotate_left
 ·
  intro w'
  go_simp
  with_reducible rfl
 rotate_left
 ·
  simp only [Act.put, setIfInBounds_toArray, set_cons_zero, set_cons_succ, i64_w, i32_w]
  rfl
 refine take_ (i := 42) (N := some 89) (v := ?_) (a' := ?_) #[T, T, T, T, T, T, T, T, T, T, T, T, T, T, T, T, T, T, T, T, T, T, T, T, T, T, T, T, T, T, T, T, T, T, T, T, T, T, T, T, T, T, T, F, F, F, F, F, F, F, F, F, F, F, F, F, F, F] rfl rfl (take_ofW HT_.out HW_.out (by kernel_rfl)) (fun _ _ _ h => h) (Or.inl ⟨by rfl, ?_⟩) hHeld ?_ ?_
 rotate_left
 ·
  rintro w' ⟨s0, s1, s2, s3, s4, s5, s6, s7⟩
  go_simp
  with_reducible rfl
 rotate_left
 ·
  simp only [Act.put, setIfInBounds_toArray, set_cons_zero, set_cons_succ, i64_w, i32_w]
  rfl
 refine take_ (i := 44) (N := some 91) (v := ?_) (a' := ?_) #[T, T, T, T, T, T, T, T, T, T, T, T, T, T, T, T, T, T, T, T, T, T, T, T, T, T, T, T, T, T, T, T, T, T, T, T, T, T, T, T, T, T, T, F, T, F, F, F, F, F, F, F, F, F, F, F, F, F] rfl rfl (take_ofW HT_.out HW_.out (by kernel_rfl)) (fun _ _ _ h => h) (Or.inl ⟨by rfl, ?_⟩) hHeld ?_ ?_
 rotate_left
 ·
  rintro w' ⟨s0, s1, s2, s3, s4, s5, s6, s7⟩
  go_simp
  with_reducible rfl
 rotate_left
 ·
  simp only [Act.put, setIfInBounds_toArray, set_cons_zero, set_cons_succ, i64_w, i32_w]
  rfl
 refine one_ (i := 43) (N := some 90) #[T, T, T, T, T, T, T, T, T, T, T, T, T, T, T, T, T, T, T, T, T, T, T, T, T, T, T, T, T, T, T, T, T, T, T, T, T, T, T, T, T, T, T, T, T, F, F, F, F, F, F, F, F, F, F, F, F, F] rfl rfl (one_of HT_.out (by kernel_rfl)) (by decide) (fun K hK => ?_)
 refine goes_ Try.func21 (by kernel_rfl) rfl #[.agg #[.int .u64 t252, .int .u64 t253]] (by rfl) rfl rfl (by (try simp only [List.map_toArray, List.map_cons, List.map_nil]); first | done | rfl | (simp only [List.length_drop, List.length_take]; rfl)) ?_
 with_reducible refine (ledgers_Behind.calls t252 t253 t270 t271 _ A25.out).mono ?_
 rintro e w65 ⟨rfl, hb⟩
 refine ⟨_, rfl, ?_⟩
 have n0_ := am (Kd.R_below (by (with_reducible repeat (first | apply R_alloc | apply R_drewN | apply R_drew)); exact HO251.out) hb)
 have n1_ := am (blk_below (g := gb246) (o := .cells #[.int .u64 t252, .int .u64 t253] 36 (0, 0)) (by (with_reducible repeat (first | refine blk_drewN ?_ _ | refine blk_drew ?_ | refine blk_alloc ?_ _)); exact BK246.out) hb)
 have n2_ := am (blk_below (g := gb247) (o := .cells #[.int .u64 t254, .int .u64 t255] 36 (0, 0)) (by (with_reducible repeat (first | refine blk_drewN ?_ _ | refine blk_drew ?_ | refine blk_alloc ?_ _)); exact BK247.out) hb)
 have n3_ := am (blk_below (g := gb259) (o := .cells #[.int .u64 t256, .int .u64 t257] 36 (0, 0)) (by (with_reducible repeat (first | refine blk_drewN ?_ _ | refine blk_drew ?_ | refine blk_alloc ?_ _)); exact BK259.out) hb)
 have n4_ := am (blk_below (g := gb263) (o := .cells #[.int .u64 t260, .int .u64 t261] 36 (0, 0)) (by (with_reducible repeat (first | refine blk_drewN ?_ _ | refine blk_drew ?_ | refine blk_alloc ?_ _)); exact BK263.out) hb)
 have n5_ := am (below_step (by repeat (first | (with_reducible first | exact HB.out | apply below_alloc | apply pw_below_drewN | apply below_drew1 | refine below_set ?_ GE246.out | refine below_set ?_ GE247.out | refine below_set ?_ GE259.out | refine below_set ?_ GE263.out) | exact HB.out)) hb)
 clear HO251
 clear BK246
 clear BK247
 clear BK259
 clear BK263
 clear HB
 have HO251 := n0_
 have BK246 := n1_
 have BK247 := n2_
 have BK259 := n3_
 have BK263 := n4_
 have HB := n5_
 clear n0_ n1_ n2_ n3_ n4_ n5_
 (try clear hb)
 (try clear hb2)
 (try clear hk)
 (try clear hi)
 refine hK.out _ _ ⟨(blk_cell BK259.out 0).trans rfl, (blk_cell BK259.out 1).trans rfl, (blk_cell BK263.out 0).trans rfl, (blk_cell BK263.out 1).trans rfl, (blk_cell BK246.out 0).trans rfl, (blk_cell BK246.out 1).trans rfl, (blk_cell BK247.out 0).trans rfl, (blk_cell BK247.out 1).trans rfl⟩ (fun hHeld => ?_)
 clear hK K
 refine norm_ (a' := ?_) ?_ ?_
 rotate_left
 ·
  show Act.put _ (some 90) _ = _
  simp only [Act.put, setIfInBounds_toArray, set_cons_zero, set_cons_succ, i64_w, i32_w]
  rfl
 refine one_ (i := 45) (N := some 92) #[T, T, T, T, T, T, T, T, T, T, T, T, T, T, T, T, T, T, T, T, T, T, T, T, T, T, T, T, T, T, T, T, T, T, T, T, T, T, T, T, T, T, T, T, T, T, F, F, F, F, F, F, F, F, F, F, F, F] rfl rfl (one_of HT_.out (by kernel_rfl)) (by decide) (fun K hK => ?_)
 refine goes_ Try.func28 (by kernel_rfl) rfl #[.agg #[.int .u64 t252, .int .u64 t253]] (by rfl) rfl rfl (by (try simp only [List.map_toArray, List.map_cons, List.map_nil]); first | done | rfl | (simp only [List.length_drop, List.length_take]; rfl)) ?_
 with_reducible refine (mailcoachref13_Behind.calls t252 t253 t272 t273 _ A26.out).mono ?_
 rintro e w66 ⟨rfl, hb⟩
 refine ⟨_, rfl, ?_⟩
 have n0_ := am (Kd.R_below (by (with_reducible repeat (first | apply R_alloc | apply R_drewN | apply R_drew)); exact HO251.out) hb)
 have n1_ := am (blk_below (g := gb246) (o := .cells #[.int .u64 t252, .int .u64 t253] 36 (0, 0)) (by (with_reducible repeat (first | refine blk_drewN ?_ _ | refine blk_drew ?_ | refine blk_alloc ?_ _)); exact BK246.out) hb)
 have n2_ := am (blk_below (g := gb247) (o := .cells #[.int .u64 t254, .int .u64 t255] 36 (0, 0)) (by (with_reducible repeat (first | refine blk_drewN ?_ _ | refine blk_drew ?_ | refine blk_alloc ?_ _)); exact BK247.out) hb)
 have n3_ := am (blk_below (g := gb259) (o := .cells #[.int .u64 t256, .int .u64 t257] 36 (0, 0)) (by (with_reducible repeat (first | refine blk_drewN ?_ _ | refine blk_drew ?_ | refine blk_alloc ?_ _)); exact BK259.out) hb)
 have n4_ := am (blk_below (g := gb263) (o := .cells #[.int .u64 t260, .int .u64 t261] 36 (0, 0)) (by (with_reducible repeat (first | refine blk_drewN ?_ _ | refine blk_drew ?_ | refine blk_alloc ?_ _)); exact BK263.out) hb)
 have n5_ := am (below_step (by repeat (first | (with_reducible first | exact HB.out | apply below_alloc | apply pw_below_drewN | apply below_drew1 | refine below_set ?_ GE246.out | refine below_set ?_ GE247.out | refine below_set ?_ GE259.out | refine below_set ?_ GE263.out) | exact HB.out)) hb)
 clear HO251
 clear BK246
 clear BK247
 clear BK259
 clear BK263
 clear HB
 have HO251 := n0_
 have BK246 := n1_
 have BK247 := n2_
 have BK259 := n3_
 have BK263 := n4_
 have HB := n5_
 clear n0_ n1_ n2_ n3_ n4_ n5_
 (try clear hb)
 (try clear hb2)
 (try clear hk)
 (try clear hi)
 refine hK.out _ _ ⟨(blk_cell BK259.out 0).trans rfl, (blk_cell BK259.out 1).trans rfl, (blk_cell BK263.out 0).trans rfl, (blk_cell BK263.out 1).trans rfl, (blk_cell BK246.out 0).trans rfl, (blk_cell BK246.out 1).trans rfl, (blk_cell BK247.out 0).trans rfl, (blk_cell BK247.out 1).trans rfl⟩ (fun hHeld => ?_)
 clear hK K
 refine norm_ (a' := ?_) ?_ ?_
 rotate_left
 ·
  show Act.put _ (some 92) _ = _
  simp only [Act.put, setIfInBounds_toArray, set_cons_zero, set_cons_succ, i64_w, i32_w]
  rfl
 refine pure_ (i := 46) (N := some 93) (v := ?_) (a' := ?_) #[T, T, T, T, T, T, T, T, T, T, T, T, T, T, T, T, T, T, T, T, T, T, T, T, T, T, T, T, T, T, T, T, T, T, T, T, T, T, T, T, T, T, T, T, T, T, T, F, F, F, F, F, F, F, F, F, F, F] rfl rfl (any_of HT_.out (by kernel_rfl)) (fun _ _ _ h => h) (Or.inl ⟨by rfl, ?_⟩) ?_ ?_
 rotate_left
 ·
  intro w'
  go_simp
  with_reducible rfl
 rotate_left
 ·
  simp only [Act.put, setIfInBounds_toArray, set_cons_zero, set_cons_succ, i64_w, i32_w]
  rfl
 refine pure_ (i := 47) (N := some 94) (v := ?_) (a' := ?_) #[T, T, T, T, T, T, T, T, T, T, T, T, T, T, T, T, T, T, T, T, T, T, T, T, T, T, T, T, T, T, T, T, T, T, T, T, T, T, T, T, T, T, T, T, T, T, T, T, F, F, F, F, F, F, F, F, F, F] rfl rfl (any_of HT_.out (by kernel_rfl)) (fun _ _ _ h => h) (Or.inl ⟨by rfl, ?_⟩) ?_ ?_
 rotate_left
 ·
  intro w'
  go_simp
  with_reducible rfl
 rotate_left
 ·
  simp only [Act.put, setIfInBounds_toArray, set_cons_zero, set_cons_succ, i64_w, i32_w]
  rfl
 refine pure_ (i := 48) (N := some 95) (v := ?_) (a' := ?_) #[T, T, T, T, T, T, T, T, T, T, T, T, T, T, T, T, T, T, T, T, T, T, T, T, T, T, T, T, T, T, T, T, T, T, T, T, T, T, T, T, T, T, T, T, T, T, T, T, T, F, F, F, F, F, F, F, F, F] rfl rfl (any_of HT_.out (by kernel_rfl)) (fun _ _ _ h => h) (Or.inl ⟨by rfl, ?_⟩) ?_ ?_
 rotate_left
 ·
  intro w'
  go_simp
  with_reducible rfl
 rotate_left
 ·
  simp only [Act.put, setIfInBounds_toArray, set_cons_zero, set_cons_succ, i64_w, i32_w]
  rfl
 refine pure_ (i := 49) (N := some 96) (v := ?_) (a' := ?_) #[T, T, T, T, T, T, T, T, T, T, T, T, T, T, T, T, T, T, T, T, T, T, T, T, T, T, T, T, T, T, T, T, T, T, T, T, T, T, T, T, T, T, T, T, T, T, T, T, T, T, F, F, F, F, F, F, F, F] rfl rfl (any_of HT_.out (by kernel_rfl)) (fun _ _ _ h => h) (Or.inl ⟨by rfl, ?_⟩) ?_ ?_
 rotate_left
 ·
  intro w'
  go_simp
  with_reducible rfl
 rotate_left
 ·
  simp only [Act.put, setIfInBounds_toArray, set_cons_zero, set_cons_succ, i64_w, i32_w]
  rfl
 refine pure_ (i := 52) (N := some 99) (v := ?_) (a' := ?_) #[T, T, T, T, T, T, T, T, T, T, T, T, T, T, T, T, T, T, T, T, T, T, T, T, T, T, T, T, T, T, T, T, T, T, T, T, T, T, T, T, T, T, T, T, T, T, T, T, T, T, F, F, T, F, F, F, F, F] rfl rfl (any_of HT_.out (by kernel_rfl)) (fun _ _ _ h => h) (Or.inl ⟨by rfl, ?_⟩) ?_ ?_
 rotate_left
 ·
  intro w'
  go_simp
  with_reducible rfl
 rotate_left
 ·
  simp only [Act.put, setIfInBounds_toArray, set_cons_zero, set_cons_succ, i64_w, i32_w]
  rfl
 refine take_ (i := 50) (N := some 97) (v := ?_) (a' := ?_) #[T, T, T, T, T, T, T, T, T, T, T, T, T, T, T, T, T, T, T, T, T, T, T, T, T, T, T, T, T, T, T, T, T, T, T, T, T, T, T, T, T, T, T, T, T, T, T, T, T, T, T, F, T, F, F, F, F, F] rfl rfl (take_ofW HT_.out HW_.out (by kernel_rfl)) (fun _ _ _ h => h) (Or.inl ⟨by rfl, ?_⟩) hHeld ?_ ?_
 rotate_left
 ·
  rintro w' ⟨s0, s1, s2, s3, s4, s5, s6, s7⟩
  go_simp
  with_reducible rfl
 rotate_left
 ·
  simp only [Act.put, setIfInBounds_toArray, set_cons_zero, set_cons_succ, i64_w, i32_w]
  rfl
 refine take_ (i := 53) (N := some 100) (v := ?_) (a' := ?_) #[T, T, T, T, T, T, T, T, T, T, T, T, T, T, T, T, T, T, T, T, T, T, T, T, T, T, T, T, T, T, T, T, T, T, T, T, T, T, T, T, T, T, T, T, T, T, T, T, T, T, T, F, T, T, F, F, F, F] rfl rfl (take_ofW HT_.out HW_.out (by kernel_rfl)) (fun _ _ _ h => h) (Or.inl ⟨by rfl, ?_⟩) hHeld ?_ ?_
 rotate_left
 ·
  rintro w' ⟨s0, s1, s2, s3, s4, s5, s6, s7⟩
  go_simp
  with_reducible rfl
 rotate_left
 ·
  simp only [Act.put, setIfInBounds_toArray, set_cons_zero, set_cons_succ, i64_w, i32_w]
  rfl
 refine one_ (i := 51) (N := some 98) #[T, T, T, T, T, T, T, T, T, T, T, T, T, T, T, T, T, T, T, T, T, T, T, T, T, T, T, T, T, T, T, T, T, T, T, T, T, T, T, T, T, T, T, T, T, T, T, T, T, T, T, T, T, T, F, F, F, F] rfl rfl (one_of HT_.out (by kernel_rfl)) (by decide) (fun K hK => ?_)
 refine goes_ Try.func22 (by kernel_rfl) rfl #[.slice Ao44 t249.length co44, .agg #[.int .u64 t252, .int .u64 t253]] (by rfl) rfl rfl (by (try simp only [List.map_toArray, List.map_cons, List.map_nil]); first | done | rfl | (simp only [List.length_drop, List.length_take]; rfl)) ?_
 with_reducible refine (ledgers_Trim.calls k _ _ t249 t252 t253 t274 _ ?side1 ?side2 A28.out).mono ?_
 (case side1 => repeat (first | exact (Kd.R_reads' HO251.out).2.2 | (with_reducible refine Kd.C_alloc ?_ _) | (with_reducible refine Kd.C_drewN ?_ _) | (with_reducible refine Kd.C_drew ?_)))
 (case side2 => exact (Kd.R_reads' HO251.out).2.1)
 rintro e w67 ⟨v275, rfl, ho0, hb⟩
 refine ⟨_, rfl, ?_⟩
 have n0_ := am (Kd.R_elder' (by (with_reducible repeat (first | apply R_alloc | apply R_drewN | apply R_drew)); exact HO251.out) (Kd.R_base ho0) hb)
 have n1_ := am (Kd.R_lower (Kd.R_new' ho0 (Kd.R_lt (by (with_reducible repeat (first | apply R_alloc | apply R_drewN | apply R_drew)); exact HO251.out))) (below_size (by repeat (first | (with_reducible first | exact HB.out | apply below_alloc | apply pw_below_drewN | apply below_drew1 | refine below_set ?_ GE246.out | refine below_set ?_ GE247.out | refine below_set ?_ GE259.out | refine below_set ?_ GE263.out) | exact HB.out))))
 have n2_ := am (blk_below (g := gb246) (o := .cells #[.int .u64 t252, .int .u64 t253] 36 (0, 0)) (by (with_reducible repeat (first | refine blk_drewN ?_ _ | refine blk_drew ?_ | refine blk_alloc ?_ _)); exact BK246.out) hb)
 have n3_ := am (blk_below (g := gb247) (o := .cells #[.int .u64 t254, .int .u64 t255] 36 (0, 0)) (by (with_reducible repeat (first | refine blk_drewN ?_ _ | refine blk_drew ?_ | refine blk_alloc ?_ _)); exact BK247.out) hb)
 have n4_ := am (blk_below (g := gb259) (o := .cells #[.int .u64 t256, .int .u64 t257] 36 (0, 0)) (by (with_reducible repeat (first | refine blk_drewN ?_ _ | refine blk_drew ?_ | refine blk_alloc ?_ _)); exact BK259.out) hb)
 have n5_ := am (blk_below (g := gb263) (o := .cells #[.int .u64 t260, .int .u64 t261] 36 (0, 0)) (by (with_reducible repeat (first | refine blk_drewN ?_ _ | refine blk_drew ?_ | refine blk_alloc ?_ _)); exact BK263.out) hb)
 have n6_ := am (below_step (by repeat (first | (with_reducible first | exact HB.out | apply below_alloc | apply pw_below_drewN | apply below_drew1 | refine below_set ?_ GE246.out | refine below_set ?_ GE247.out | refine below_set ?_ GE259.out | refine below_set ?_ GE263.out) | exact HB.out)) hb)
 clear HO251
 clear BK246
 clear BK247
 clear BK259
 clear BK263
 clear HB
 have HO251 := n0_
 have HO276 := n1_
 have BK246 := n2_
 have BK247 := n3_
 have BK259 := n4_
 have BK263 := n5_
 have HB := n6_
 clear n0_ n1_ n2_ n3_ n4_ n5_ n6_
 (try clear hb)
 (try clear hb2)
 (try clear hk)
 (try clear hi)
 (try clear ho0)
 refine hK.out _ _ ⟨(blk_cell BK259.out 0).trans rfl, (blk_cell BK259.out 1).trans rfl, (blk_cell BK263.out 0).trans rfl, (blk_cell BK263.out 1).trans rfl, (blk_cell BK246.out 0).trans rfl, (blk_cell BK246.out 1).trans rfl, (blk_cell BK247.out 0).trans rfl, (blk_cell BK247.out 1).trans rfl⟩ (fun hHeld => ?_)
 clear hK K
 refine norm_ (a' := ?_) ?_ ?_
 rotate_left
 ·
  show Act.put _ (some 98) _ = _
  simp only [Act.put, setIfInBounds_toArray, set_cons_zero, set_cons_succ, i64_w, i32_w]
  rfl
 refine one_ (i := 54) (N := some 101) #[T, T, T, T, T, T, T, T, T, T, T, T, T, T, T, T, T, T, T, T, T, T, T, T, T, T, T, T, T, T, T, T, T, T, T, T, T, T, T, T, T, T, T, T, T, T, T, T, T, T, T, T, T, T, T, F, F, F] rfl rfl (one_of HT_.out (by kernel_rfl)) (by decide) (fun K hK => ?_)
 refine goes_ Try.func29 (by kernel_rfl) rfl #[.slice Ao44 t249.length co44, .agg #[.int .u64 t252, .int .u64 t253]] (by rfl) rfl rfl (by (try simp only [List.map_toArray, List.map_cons, List.map_nil]); first | done | rfl | (simp only [List.length_drop, List.length_take]; rfl)) ?_
 with_reducible refine (mailcoachref13_Trim.calls k (fun k_ => some k_ = (.slice Ao44 t249.length co44 : Value).ownBlock) (.slice Ao44 t249.length co44) t249 t252 t253 t277 w _ ?side1 ?side2 A29.out).mono ?_
 (case side1 => repeat (first | (with_reducible first | exact HB.out | apply below_alloc | apply pw_below_drewN | apply below_drew1 | refine below_set ?_ GE246.out | refine below_set ?_ GE247.out | refine below_set ?_ GE259.out | refine below_set ?_ GE263.out) | exact HB.out))
 (case side2 => exact Kd.R_tight rfl HO251.out)
 rintro e w68 ⟨v278, rfl, ho0, hb, hkp⟩
 refine ⟨_, rfl, ?_⟩
 have n0_ := am (blk_kept (by (with_reducible repeat (first | refine blk_drewN ?_ _ | refine blk_drew ?_ | refine blk_alloc ?_ _)); exact BK246.out) hkp (fun hs_ => (fun e_ => (Kd.R_ne HO251.out BK246.out (by decide)) e_) hs_))
 have n1_ := am (blk_kept (by (with_reducible repeat (first | refine blk_drewN ?_ _ | refine blk_drew ?_ | refine blk_alloc ?_ _)); exact BK247.out) hkp (fun hs_ => (fun e_ => (Kd.R_ne HO251.out BK247.out (by decide)) e_) hs_))
 have n2_ := am (blk_kept (by (with_reducible repeat (first | refine blk_drewN ?_ _ | refine blk_drew ?_ | refine blk_alloc ?_ _)); exact BK259.out) hkp (fun hs_ => (fun e_ => (Kd.R_ne HO251.out BK259.out (by decide)) e_) hs_))
 have n3_ := am (blk_kept (by (with_reducible repeat (first | refine blk_drewN ?_ _ | refine blk_drew ?_ | refine blk_alloc ?_ _)); exact BK263.out) hkp (fun hs_ => (fun e_ => (Kd.R_ne HO251.out BK263.out (by decide)) e_) hs_))
 have n4_ := am (Kd.R_mono (ok' := fun k_ => some k_ ≠ (v278 : Value).ownBlock) (Kd.R_keptB (HO276.out) hkp (fun k_ hk_ hs_ => (hk_.2) hs_)) (fun k_ hk_ => fun e_ => Or.elim (ho0.1 k_ e_.symm) (fun hs_ => hk_.2.1 hs_) (fun hn_ => Nat.not_le.2 hk_.2.2 hn_)))
 have n5_ := am (Kd.Q_mono (ok' := fun k_ => some k_ ≠ (v275 : Value).ownBlock) ho0 (fun k_ hk_ => Or.elim hk_ (fun hs_ => fun e_ => (((HO276.out).1 k_ e_.symm).2) hs_) (fun hn_ => (Kd.fresh' (Kd.R_lt (by (with_reducible repeat (first | apply R_alloc | apply R_drewN | apply R_drew)); exact HO276.out)) k_ hn_))))
 have n6_ := am (hb)
 clear BK246
 clear BK247
 clear BK259
 clear BK263
 clear HO276
 clear HB
 clear HO251
 have BK246 := n0_
 have BK247 := n1_
 have BK259 := n2_
 have BK263 := n3_
 have HO276 := n4_
 have HO279 := n5_
 have HB := n6_
 clear n0_ n1_ n2_ n3_ n4_ n5_ n6_
 (try clear hb)
 (try clear hkp)
 (try clear ho0)
 obtain ⟨Ao69, co69, eo69⟩ := Kd.R_slice HO276.out
 (first | subst eo69 | (injection eo69 with f1_ f2_ f3_; have f4_ := f1_.symm; have f5_ := f3_.symm; clear f1_ f2_ f3_; subst f4_; subst f5_))
 obtain ⟨Ao70, co70, eo70, _⟩ := Kd.Q_slice HO279.out
 (first | subst eo70 | (injection eo70 with f1_ f2_ f3_; have f4_ := f1_.symm; have f5_ := f3_.symm; clear f1_ f2_ f3_; subst f4_; subst f5_))
 refine hK.out _ _ ⟨(blk_cell BK259.out 0).trans rfl, (blk_cell BK259.out 1).trans rfl, (blk_cell BK263.out 0).trans rfl, (blk_cell BK263.out 1).trans rfl, (blk_cell BK246.out 0).trans rfl, (blk_cell BK246.out 1).trans rfl, (blk_cell BK247.out 0).trans rfl, (blk_cell BK247.out 1).trans rfl⟩ (fun hHeld => ?_)
 clear hK K
 refine norm_ (a' := ?_) ?_ ?_
 rotate_left
 ·
  show Act.put _ (some 101) _ = _
  simp only [Act.put, setIfInBounds_toArray, set_cons_zero, set_cons_succ, i64_w, i32_w]
  rfl
 refine one_ (i := 55) (N := some 102) #[T, T, T, T, T, T, T, T, T, T, T, T, T, T, T, T, T, T, T, T, T, T, T, T, T, T, T, T, T, T, T, T, T, T, T, T, T, T, T, T, T, T, T, T, T, T, T, T, T, T, T, T, T, T, T, T, F, F] rfl rfl (one_of HT_.out (by kernel_rfl)) (by decide) (fun K hK => ?_)
 refine goes_ Try.func15 (by kernel_rfl) rfl #[.slice Ao69 t274.length co69, .slice Ao70 t277.length co70] (by rfl) rfl rfl (by (try simp only [List.map_toArray, List.map_cons, List.map_nil]); first | done | rfl | (simp only [List.length_drop, List.length_take]; rfl)) ?_
 with_reducible refine (mailcoachref13_SameLedgers.calls k _ _ t274 _ _ t277 t280 _ ?side1 ?side2 ?side3 ?side4 A30.out).mono ?_
 (case side1 => repeat (first | exact (Kd.R_reads' HO276.out).2.2 | (with_reducible refine Kd.C_alloc ?_ _) | (with_reducible refine Kd.C_drewN ?_ _) | (with_reducible refine Kd.C_drew ?_)))
 (case side2 => exact (Kd.R_reads' HO276.out).2.1)
 (case side3 => repeat (first | exact (Kd.Q_reads' HO279.out).2.2 | (with_reducible refine Kd.C_alloc ?_ _) | (with_reducible refine Kd.C_drewN ?_ _) | (with_reducible refine Kd.C_drew ?_)))
 (case side4 => exact (Kd.Q_reads' HO279.out).2.1)
 rintro e w' ⟨rfl, ⟨nd, rfl⟩⟩
 refine ⟨_, rfl, ?_⟩
 refine hK.out _ _ ⟨(blk_cell BK259.out 0).trans rfl, (blk_cell BK259.out 1).trans rfl, (blk_cell BK263.out 0).trans rfl, (blk_cell BK263.out 1).trans rfl, (blk_cell BK246.out 0).trans rfl, (blk_cell BK246.out 1).trans rfl, (blk_cell BK247.out 0).trans rfl, (blk_cell BK247.out 1).trans rfl⟩ (fun hHeld => ?_)
 clear hK K
 refine norm_ (a' := ?_) ?_ ?_
 rotate_left
 ·
  show Act.put _ (some 102) _ = _
  simp only [Act.put, setIfInBounds_toArray, set_cons_zero, set_cons_succ, i64_w, i32_w]
  rfl
 refine pure_ (i := 56) (N := some 103) (v := ?_) (a' := ?_) #[T, T, T, T, T, T, T, T, T, T, T, T, T, T, T, T, T, T, T, T, T, T, T, T, T, T, T, T, T, T, T, T, T, T, T, T, T, T, T, T, T, T, T, T, T, T, T, T, T, T, T, T, T, T, T, T, T, F] rfl rfl (any_of HT_.out (by kernel_rfl)) (fun _ _ _ h => h) (Or.inl ⟨by rfl, ?_⟩) ?_ ?_
 rotate_left
 ·
  intro w'
  go_simp
  with_reducible rfl
 rotate_left
 ·
  simp only [Act.put, setIfInBounds_toArray, set_cons_zero, set_cons_succ, i64_w, i32_w]
  rfl
 refine pure_ (i := 57) (N := some 12) (v := ?_) (a' := ?_) #[T, T, T, T, T, T, T, T, T, T, T, T, T, T, T, T, T, T, T, T, T, T, T, T, T, T, T, T, T, T, T, T, T, T, T, T, T, T, T, T, T, T, T, T, T, T, T, T, T, T, T, T, T, T, T, T, T, T] rfl rfl (any_of HT_.out (by kernel_rfl)) (fun _ _ _ h => h) (Or.inl ⟨by rfl, ?_⟩) ?_ ?_
 rotate_left
 ·
  intro w'
  go_simp
  with_reducible rfl
 rotate_left
 ·
  simp only [Act.put, setIfInBounds_toArray, set_cons_zero, set_cons_succ, i64_w, i32_w]
  rfl
 refine done_ (done_of HT_.out (by kernel_rfl)) ?_
 try go_wp2
 go_ret
 exact ⟨by first | rfl | (simp [errW_none, errW_some] <;> rfl) | (simp [*, errW_none, errW_some] <;> rfl), by repeat (first | (with_reducible first | exact HB.out | apply below_alloc | apply pw_below_drewN | apply below_drew1 | refine below_set ?_ GE246.out | refine below_set ?_ GE247.out | refine below_set ?_ GE259.out | refine below_set ?_ GE263.out) | exact HB.out)⟩

end Go.Proofs.Ytmbealldhndeoaa.PLedgersPlaces
