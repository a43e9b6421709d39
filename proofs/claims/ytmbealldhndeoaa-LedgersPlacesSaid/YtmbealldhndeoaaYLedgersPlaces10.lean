-- Written by a program of this session's; its pattern is the kit's print.
import Derived.Test.YtmbealldhndeoaaYLedgersPlaces0
import Derived.Test.YtmbealldhndeoaaYLedgersPlaces8
namespace Go.Proofs.Ytmbealldhndeoaa.PLedgersPlaces
open Go.RowKit Go.Proofs.YtmbealldhndeoaaW.PrintWords Go.Proofs.YtmbealldhndeoaaW.PrintWords.Kd Go.Proofs.YtmbealldhndeoaaW.PrintLast Go.Proofs.YtmbealldhndeoaaW.PrintMore
open List (setIfInBounds_toArray set_cons_zero set_cons_succ)
attribute [local go_sem] max2_int min2_int max_two min_two max_three min_three max_four min_four   -- for this text's walks alone
set_option linter.unusedVariables false
set_option linter.unusedSimpArgs false

/-! ### mailcoachref13_Between: function 27 -/
def mailcoachref13_Between.l0 : Nat → List (S36) → Int → Int → Int → Int → Int → Int → Option (Int)
  | 0, _, _, _, _, _, _, _ => none
  | k + 1, x9, x10, x11, x222000, x222001, x223000, x223001 => if x11 < (x9.length : Int) then (if 0 ≤ x11 then ((mailcoachref13_Order.f k ((rd_T36 x9 x11).f0) ((rd_T36 x9 x11).f1) x222000 x222001).bind fun t227 => (if t227 ≥ 0 then ((mailcoachref13_Order.f k ((rd_T36 x9 x11).f0) ((rd_T36 x9 x11).f1) x223000 x223001).bind fun t229 => (if t229 < 0 then (mailcoachref13_Between.l0 k x9 (IntKind.u64.wrap (x10 + 1)) (wrap64 (x11 + 1)) x222000 x222001 x223000 x223001) else (mailcoachref13_Between.l0 k x9 x10 (wrap64 (x11 + 1)) x222000 x222001 x223000 x223001))) else (mailcoachref13_Between.l0 k x9 x10 (wrap64 (x11 + 1)) x222000 x222001 x223000 x223001))) else (none)) else (some x10)
def mailcoachref13_Between.f (k : Nat) (l0 : List (S32)) (a1 : Int) (a2_0 : Int) (a2_1 : Int) (a3_0 : Int) (a3_1 : Int) : Option (Int) := (mailcoachref13_All.f k l0 a1).bind fun t223 => (mailcoachref13_Between.l0 k t223 0 0 a2_0 a2_1 a3_0 a3_1)
theorem mailcoachref13_Between.mono_l : ∀ k, (∀ y0 y1 y2 y3 y4 y5 y6, LeO (mailcoachref13_Between.l0 k y0 y1 y2 y3 y4 y5 y6) (mailcoachref13_Between.l0 (k + 1) y0 y1 y2 y3 y4 y5 y6))
  | 0 => fun _ _ _ _ _ _ _ r h => by simp [mailcoachref13_Between.l0] at h
  | k + 1 => by
    have ih0 := mailcoachref13_Between.mono_l k
    · intro y0 y1 y2 y3 y4 y5 y6
      unfold mailcoachref13_Between.l0
      repeat' first
      | (with_reducible exact ih0 _ _ _ _ _ _ _)
      | (with_reducible exact mailcoachref13_All.mono _ _ _)
      | (with_reducible exact mailcoachref13_Order.mono _ _ _ _ _)
      | (with_reducible exact LeO.refl _)
      | (with_reducible exact LeO.none _)
      | (with_reducible refine LeO.ite ?_ ?_)
      | (with_reducible refine LeO.bind ?_ (fun _ => ?_))
      | exact ih0 _ _ _ _ _ _ _
      | exact mailcoachref13_All.mono _ _ _
      | exact mailcoachref13_Order.mono _ _ _ _ _
      | exact LeO.none _
      | refine LeO.ite ?_ ?_
      | refine LeO.bind ?_ (fun _ => ?_)
theorem mailcoachref13_Between.mono : ∀ a0 a1 a2 a3 a4 a5 k, LeO (mailcoachref13_Between.f k a0 a1 a2 a3 a4 a5) (mailcoachref13_Between.f (k + 1) a0 a1 a2 a3 a4 a5) := by
  intro a0 a1 a2 a3 a4 a5 k
  have ih0 := mailcoachref13_Between.mono_l k
  unfold mailcoachref13_Between.f
  repeat' first
      | (with_reducible exact ih0 _ _ _ _ _ _ _)
      | (with_reducible exact mailcoachref13_All.mono _ _ _)
      | (with_reducible exact mailcoachref13_Order.mono _ _ _ _ _)
      | (with_reducible exact LeO.refl _)
      | (with_reducible exact LeO.none _)
      | (with_reducible refine LeO.ite ?_ ?_)
      | (with_reducible refine LeO.bind ?_ (fun _ => ?_))
      | exact ih0 _ _ _ _ _ _ _
      | exact mailcoachref13_All.mono _ _ _
      | exact mailcoachref13_Order.mono _ _ _ _ _
      | exact LeO.none _
      | refine LeO.ite ?_ ?_
      | refine LeO.bind ?_ (fun _ => ?_)
def mailcoachref13_Between.T6 : Bool × List (List Nat × List Nat) := (true, [([], []), ([], []), ([0, 1], [0, 1]), ([2], [2]), ([], []), ([3, 4], [3, 4]), ([5], [5]), ([6, 5], [6]), ([7], [7]), ([7], [7]), ([8, 9, 7], [7, 8, 9]), ([10, 7], [7, 10]), ([7], [7]), ([11, 12, 7, 7], [7, 11, 12]), ([13, 7], [7, 13]), ([7, 14], [7, 14])])
def mailcoachref13_Between.B6 : List Nat := [0, 0, 3, 7, 0, 31, 63, 127, 255, 255, 1023, 2047, 255, 8191, 16383, 32767]
theorem mailcoachref13_Between.tab6 : rtab .any (opsOf Try.f27 6) = mailcoachref13_Between.T6 := by kernel_rfl
theorem mailcoachref13_Between.bits6 : waitsOk mailcoachref13_Between.T6.2 mailcoachref13_Between.B6 = true := by kernel_rfl
set_option maxHeartbeats 8000000 in
set_option maxRecDepth 100000 in
theorem mailcoachref13_Between.calls (k : Nat) (A0 : Option Addr) (c0 : Nat) (l0 : List (S32)) (a1 : Int) (a2_0 : Int) (a2_1 : Int) (a3_0 : Int) (a3_1 : Int) (r : Int) (w : World) (hr0 : Kd.C k32 w A0 l0.length l0) (hc0 : l0.length ≤ c0) (h : mailcoachref13_Between.f k l0 a1 a2_0 a2_1 a3_0 a3_1 = some r) :
    Calls Try.prog 27 #[.slice A0 l0.length c0, .int .u64 a1, .agg #[.int .u64 a2_0, .int .u64 a2_1], .agg #[.int .u64 a3_0, .int .u64 a3_1]] w fun e w' => e = .returned (.int .u64 r) ∧ Below w.heap.size w w' := by
 have hu36 := Try.underlying36
 have HR0 := am hr0
 have HC0 := am hc0
 clear hr0 hc0
 have HB := am (Below.refl w.heap.size w)
 have H : ((mailcoachref13_All.f k l0 a1).bind fun t223 => (mailcoachref13_Between.l0 k t223 0 0 a2_0 a2_1 a3_0 a3_1)) = some r := h
 clear h
 replace H := Option.bind_eq_some_iff.mp H
 obtain ⟨t223, A50, H⟩ := H
 replace H : (mailcoachref13_Between.l0 k t223 0 0 a2_0 a2_1 a3_0 a3_1) = some r := H
 have A5 := am A50
 clear A50
 have H' := am H
 clear H
 go_enter Try.func27, Try.ntmps27
 go_wp2_with (first | ((with_reducible refine gate_dst (N := 6) rfl ?_); refine box_event ?hg (N := 6) ?hd (cs := #[.int .u64 a2_0, .int .u64 a2_1]) (t := 36) ?hr ?_; (case hd => rfl); (case hg => rfl); (case hr => first | (go_simp; done) | (go_simp; rfl)); intro gb221 hg w6 hbox hb; have n0_ := am (below_step (by repeat (first | (with_reducible first | exact HB.out | apply below_alloc | apply pw_below_drewN | apply below_drew1) | exact HB.out)) hb); have n1_ := am (hbox); have n2_ := am ((by rw [hg]; exact (below_size (by repeat (first | (with_reducible first | exact HB.out | apply below_alloc | apply pw_below_drewN | apply below_drew1) | exact HB.out))) : w.heap.size ≤ gb221)); have n3_ := am ((by rw [hg]; exact (below_size (by repeat (first | (with_reducible first | exact HB.out | apply below_alloc | apply pw_below_drewN | apply below_drew1) | exact HB.out))) : w.heap.size ≤ gb221)); clear HB; have HB := n0_; have BK221 := n1_; have GW221 := n2_; have GE221 := n3_; clear n0_ n1_ n2_ n3_; clear hb hbox hg) | ((with_reducible refine gate_dst (N := 7) rfl ?_); refine box_event ?hg (N := 7) ?hd (cs := #[.int .u64 a3_0, .int .u64 a3_1]) (t := 36) ?hr ?_; (case hd => rfl); (case hg => rfl); (case hr => first | (go_simp; done) | (go_simp; rfl)); intro gb222 hg w7 hbox hb; have n0_ := am (blk_below (g := gb221) (o := .cells #[.int .u64 a2_0, .int .u64 a2_1] 36 (0, 0)) (by (with_reducible repeat (first | refine blk_drewN ?_ _ | refine blk_drew ?_ | refine blk_alloc ?_ _)); exact BK221.out) hb); have n1_ := am (below_step (by repeat (first | (with_reducible first | exact HB.out | apply below_alloc | apply pw_below_drewN | apply below_drew1 | refine below_set ?_ GE221.out) | exact HB.out)) hb); have n2_ := am (hbox); have n3_ := am ((by rw [hg]; exact (below_size (by repeat (first | (with_reducible first | exact HB.out | apply below_alloc | apply pw_below_drewN | apply below_drew1 | refine below_set ?_ GE221.out) | exact HB.out))) : w.heap.size ≤ gb222)); have n4_ := am ((by rw [hg]; exact (below_size (by repeat (first | (with_reducible first | exact HB.out | apply below_alloc | apply pw_below_drewN | apply below_drew1 | refine below_set ?_ GE221.out) | exact HB.out))) : w.heap.size ≤ gb222)); have n5_ := am ((by rw [hg]; exact Nat.ne_of_lt (blk_lt (g := gb221) (o := .cells #[.int .u64 a2_0, .int .u64 a2_1] 36 (0, 0)) (by (with_reducible repeat (first | refine blk_drewN ?_ _ | refine blk_drew ?_ | refine blk_alloc ?_ _)); exact BK221.out)) : gb221 ≠ gb222)); have n6_ := am ((by rw [hg]; exact Nat.ne_of_gt (blk_lt (g := gb221) (o := .cells #[.int .u64 a2_0, .int .u64 a2_1] 36 (0, 0)) (by (with_reducible repeat (first | refine blk_drewN ?_ _ | refine blk_drew ?_ | refine blk_alloc ?_ _)); exact BK221.out)) : gb222 ≠ gb221)); clear BK221; clear HB; have BK221 := n0_; have HB := n1_; have BK222 := n2_; have GW222 := n3_; have GE222 := n4_; have NB221_222 := n5_; have NB222_221 := n6_; clear n0_ n1_ n2_ n3_ n4_ n5_ n6_; clear hb hbox hg) | ((with_reducible refine gate_callee (f := 36) rfl ?_); refine goesL_ (some 14) rfl rfl Try.func36 (by kernel_rfl) rfl #[.slice A0 l0.length c0, .int .u64 a1] rfl (by (try simp only [List.map_toArray, List.map_cons, List.map_nil]); first | done | rfl | (simp only [List.length_drop, List.length_take]; rfl)) ?_; (with_reducible refine (mailcoachref13_All.calls k _ _ l0 a1 t223 _ ?side1 ?side2 A5.out).mono ?_); (case side1 => repeat (first | exact (Kd.C_below HR0.out HB.out) | (with_reducible refine Kd.C_alloc ?_ _) | (with_reducible refine Kd.C_drewN ?_ _) | (with_reducible refine Kd.C_drew ?_))); (case side2 => exact HC0.out); rintro e w8 ⟨v224, rfl, ho0, hb⟩; refine ⟨_, rfl, ?_⟩; have n0_ := am (Kd.R_lower (Kd.R_newB (Kd.R_newB ho0 (g := gb221) (o := .cells #[.int .u64 a2_0, .int .u64 a2_1] 36 (0, 0)) (by (with_reducible repeat (first | refine blk_drewN ?_ _ | refine blk_drew ?_ | refine blk_alloc ?_ _)); exact BK221.out)) (g := gb222) (o := .cells #[.int .u64 a3_0, .int .u64 a3_1] 36 (0, 0)) (by (with_reducible repeat (first | refine blk_drewN ?_ _ | refine blk_drew ?_ | refine blk_alloc ?_ _)); exact BK222.out)) (below_size (by repeat (first | (with_reducible first | exact HB.out | apply below_alloc | apply pw_below_drewN | apply below_drew1 | refine below_set ?_ GE221.out | refine below_set ?_ GE222.out) | exact HB.out)))); have n1_ := am (blk_below (g := gb221) (o := .cells #[.int .u64 a2_0, .int .u64 a2_1] 36 (0, 0)) (by (with_reducible repeat (first | refine blk_drewN ?_ _ | refine blk_drew ?_ | refine blk_alloc ?_ _)); exact BK221.out) hb); have n2_ := am (blk_below (g := gb222) (o := .cells #[.int .u64 a3_0, .int .u64 a3_1] 36 (0, 0)) (by (with_reducible repeat (first | refine blk_drewN ?_ _ | refine blk_drew ?_ | refine blk_alloc ?_ _)); exact BK222.out) hb); have n3_ := am (below_step (by repeat (first | (with_reducible first | exact HB.out | apply below_alloc | apply pw_below_drewN | apply below_drew1 | refine below_set ?_ GE221.out | refine below_set ?_ GE222.out) | exact HB.out)) hb); clear BK221; clear BK222; clear HB; have HO225 := n0_; have BK221 := n1_; have BK222 := n2_; have HB := n3_; clear n0_ n1_ n2_ n3_; (try clear hb); (try clear hb2); (try clear hk); (try clear hi); (try clear ho0)))
 go_loopg [10, 11] k (fun kq v10 v11 w' => ∃ (x10_1 : Int) (x11_1 : Int), v10 = .int .u64 x10_1 ∧ v11 = .int .i64 x11_1 ∧ Aside0 (mailcoachref13_Between.l0 kq t223 x10_1 x11_1 a2_0 a2_1 a3_0 a3_1 = some r) ∧ Aside0 (kq ≤ k) ∧ Aside0 (Kd.R k36 36 w' w.heap.size (fun k_ => k_ ≠ gb221 ∧ k_ ≠ gb222) v224 t223) ∧ Aside0 (w'.heap[gb221]? = some (.cells #[.int .u64 a2_0, .int .u64 a2_1] 36 (0, 0))) ∧ Aside0 (w'.heap[gb222]? = some (.cells #[.int .u64 a3_0, .int .u64 a3_1] 36 (0, 0))) ∧ Aside0 (Below w.heap.size w w'))
 case atStart => exact ⟨(0), (0), (by first | rfl | (simp; done) | (simp [*]; done)), (by first | rfl | (simp; done) | (simp [*]; done)), H', ⟨Nat.le_refl _⟩, ⟨by (with_reducible repeat (first | apply R_alloc | apply R_drewN | apply R_drew)); exact Kd.R_mono HO225.out (fun _ hk => ⟨hk.1.2, hk.2⟩)⟩, ⟨by (with_reducible repeat (first | refine blk_drewN ?_ _ | refine blk_drew ?_ | refine blk_alloc ?_ _)); exact BK221.out⟩, ⟨by (with_reducible repeat (first | refine blk_drewN ?_ _ | refine blk_drew ?_ | refine blk_alloc ?_ _)); exact BK222.out⟩, ⟨by repeat (first | (with_reducible first | exact HB.out | apply below_alloc | apply pw_below_drewN | apply below_drew1 | refine below_set ?_ GE221.out | refine below_set ?_ GE222.out) | exact HB.out)⟩⟩
 case round =>
  clear H'
  try clear c2
  try clear p2
  try clear c3
  obtain ⟨x10_1, x11_1, rfl, rfl, HA, HK1, HO_9, BK221, BK222, HB⟩ := hrel
  cases gk with
  | zero => exact absurd HA.out (by simp [mailcoachref13_Between.l0])
  | succ k1 =>
   have H := HA.out
   clear HA
   simp only [mailcoachref13_Between.l0] at H
   by_cases c9 : x11_1 < (t223.length : Int)
   rotate_left
   ·
    rw [if_neg c9] at H
    have c9b0 : decide (x11_1 < (t223.length : Int)) = false := decide_eq_false c9
    clear c9
    obtain rfl := Option.some.inj H
    obtain ⟨Ao26, co26, eo26⟩ := Kd.R_slice HO_9.out
    subst eo26
    go_wp2
    go_ret
    exact ⟨by first | rfl | (simp [errW_none, errW_some] <;> rfl) | (simp [*, errW_none, errW_some] <;> rfl), by repeat (first | (with_reducible first | exact HB.out | apply below_alloc | apply pw_below_drewN | apply below_drew1 | refine below_set ?_ GE221.out | refine below_set ?_ GE222.out) | exact HB.out)⟩
   rw [if_pos c9] at H
   have c9b0 : decide (x11_1 < (t223.length : Int)) = true := decide_eq_true c9
   clear c9
   by_cases c10 : 0 ≤ x11_1
   rotate_left
   ·
    rw [if_neg c10] at H
    exact absurd H (by simp)
   rw [if_pos c10] at H
   have c10b0 : decide (0 ≤ x11_1) = true := decide_eq_true c10
   clear c10
   replace H := Option.bind_eq_some_iff.mp H
   obtain ⟨t227, A110, H⟩ := H
   replace H : (if t227 ≥ 0 then ((mailcoachref13_Order.f k1 ((rd_T36 t223 x11_1).f0) ((rd_T36 t223 x11_1).f1) a3_0 a3_1).bind fun t229 => (if t229 < 0 then (mailcoachref13_Between.l0 k1 t223 (IntKind.u64.wrap (x10_1 + 1)) (wrap64 (x11_1 + 1)) a2_0 a2_1 a3_0 a3_1) else (mailcoachref13_Between.l0 k1 t223 x10_1 (wrap64 (x11_1 + 1)) a2_0 a2_1 a3_0 a3_1))) else (mailcoachref13_Between.l0 k1 t223 x10_1 (wrap64 (x11_1 + 1)) a2_0 a2_1 a3_0 a3_1)) = some r := H
   have A11 := am A110
   clear A110
   by_cases c12 : t227 ≥ 0
   rotate_left
   ·
    rw [if_neg c12] at H
    have c12b0 : decide (0 ≤ t227) = false := decide_eq_false c12
    clear c12
    have H' := am H
    clear H
    obtain ⟨Ao23, co23, eo23⟩ := Kd.R_slice HO_9.out
    subst eo23
    try go_wp2
    have n0_ := am (Kd.R_drew HO_9.out)
    have n1_ := am (blk_drew BK221.out)
    have n2_ := am (blk_drew BK222.out)
    have n3_ := am (below_drew1 HB.out)
    clear HO_9
    clear BK221
    clear BK222
    clear HB
    have HO_9 := n0_
    have BK221 := n1_
    have BK222 := n2_
    have HB := n3_
    clear n0_ n1_ n2_ n3_
    have p226 : 0 ≤ (x11_1 : Int) := of_decide_eq_true (by first | (with_reducible assumption) | assumption)
    have q226 : x11_1 < (t223.length : Int) := of_decide_eq_true (by first | (with_reducible assumption) | assumption)
    obtain ⟨ad226, e226, hx226_0, hx226_1⟩ := at_T36 (Kd.R_reads' HO_9.out).2.2 x11_1 p226 q226
    cases e226
    replace p226 := eq_true p226
    replace q226 := eq_true q226
    refine start_ (n := 16) (S := fun w' => w'.cell? ⟨gb221, 0, none⟩ = some (.int .u64 a2_0) ∧ w'.cell? ⟨gb221, 1, none⟩ = some (.int .u64 a2_1) ∧ w'.cell? (ad226.add ((x11_1).toNat * 2)) = some (.int .u64 ((rd_T36 t223 x11_1).f0)) ∧ w'.cell? ⟨(ad226.add ((x11_1).toNat * 2)).block, (ad226.add ((x11_1).toNat * 2)).off + 1, none⟩ = some (.int .u64 ((rd_T36 t223 x11_1).f1))) (ds := []) #[F, F, F, F, F, F, F, F, F, F, F, F, F, F, F, F] (by kernel_rfl) rfl rfl ⟨(blk_cell BK221.out 0).trans rfl, (blk_cell BK221.out 1).trans rfl, hx226_0, hx226_1⟩ (fun hHeld => ?_); refine with_tabW mailcoachref13_Between.tab6 mailcoachref13_Between.bits6 (fun HT_ HW_ => ?_)
    generalize wr.drew = w24 at HO_9 BK221 BK222 HB hx226_0 hx226_1 hHeld ⊢
    refine pure_ (i := 0) (N := some 21) (v := ?_) (a' := ?_) #[T, F, F, F, F, F, F, F, F, F, F, F, F, F, F, F] rfl rfl (any_of HT_.out (by kernel_rfl)) (fun _ _ _ h => h) (Or.inl ⟨by rfl, ?_⟩) ?_ ?_
    rotate_left
    ·
     intro w'
     go_simp
     with_reducible rfl
    rotate_left
    ·
     simp only [Act.put, setIfInBounds_toArray, set_cons_zero, set_cons_succ, i64_w, i32_w]
     rfl
    refine pure_ (i := 1) (N := some 22) (v := ?_) (a' := ?_) #[T, T, F, F, F, F, F, F, F, F, F, F, F, F, F, F] rfl rfl (any_of HT_.out (by kernel_rfl)) (fun _ _ _ h => h) (Or.inl ⟨by rfl, ?_⟩) ?_ ?_
    rotate_left
    ·
     intro w'
     go_simp
     with_reducible rfl
    rotate_left
    ·
     simp only [Act.put, setIfInBounds_toArray, set_cons_zero, set_cons_succ, i64_w, i32_w]
     rfl
    refine pure_ (i := 2) (N := some 23) (v := ?_) (a' := ?_) #[T, T, T, F, F, F, F, F, F, F, F, F, F, F, F, F] rfl rfl (any_of HT_.out (by kernel_rfl)) (fun _ _ _ h => h) (Or.inl ⟨by rfl, ?_⟩) ?_ ?_
    rotate_left
    ·
     intro w'
     go_simp
     with_reducible rfl
    rotate_left
    ·
     simp only [Act.put, setIfInBounds_toArray, set_cons_zero, set_cons_succ, i64_w, i32_w]
     rfl
    refine take_ (i := 3) (N := some 24) (v := ?_) (a' := ?_) #[T, T, T, T, F, F, F, F, F, F, F, F, F, F, F, F] rfl rfl (take_ofW HT_.out HW_.out (by kernel_rfl)) (fun _ _ _ h => h) (Or.inl ⟨by rfl, ?_⟩) hHeld ?_ ?_
    rotate_left
    ·
     rintro w' ⟨s0, s1, s2, s3⟩
     go_simp
     with_reducible rfl
    rotate_left
    ·
     simp only [Act.put, setIfInBounds_toArray, set_cons_zero, set_cons_succ, i64_w, i32_w]
     rfl
    refine take_ (i := 4) (N := some 25) (v := ?_) (a' := ?_) #[T, T, T, T, T, F, F, F, F, F, F, F, F, F, F, F] rfl rfl (take_ofW HT_.out HW_.out (by kernel_rfl)) (fun _ _ _ h => h) (Or.inl ⟨by rfl, ?_⟩) hHeld ?_ ?_
    rotate_left
    ·
     rintro w' ⟨s0, s1, s2, s3⟩
     go_simp
     with_reducible rfl
    rotate_left
    ·
     simp only [Act.put, setIfInBounds_toArray, set_cons_zero, set_cons_succ, i64_w, i32_w]
     rfl
    refine one_ (i := 5) (N := some 26) #[T, T, T, T, T, T, F, F, F, F, F, F, F, F, F, F] rfl rfl (one_of HT_.out (by kernel_rfl)) (by decide) (fun K hK => ?_)
    refine goes_ Try.func25 (by kernel_rfl) rfl #[.agg #[.int .u64 ((rd_T36 t223 x11_1).f0), .int .u64 ((rd_T36 t223 x11_1).f1)], .agg #[.int .u64 a2_0, .int .u64 a2_1]] (by rfl) rfl rfl (by (try simp only [List.map_toArray, List.map_cons, List.map_nil]); first | done | rfl | (simp only [List.length_drop, List.length_take]; rfl)) ?_
    with_reducible refine (mailcoachref13_Order.calls k1 ((rd_T36 t223 x11_1).f0) ((rd_T36 t223 x11_1).f1) a2_0 a2_1 t227 _ A11.out).mono ?_
    rintro e w25 ⟨rfl, hb⟩
    have HS2_ := (hb.cell (World.block_lt_of_cell? _ _ (hHeld.2.2.1))).trans (hHeld.2.2.1)
    have HS3_ := (hb.cell (World.block_lt_of_cell? _ _ (hHeld.2.2.2))).trans (hHeld.2.2.2)
    refine ⟨_, rfl, ?_⟩
    have n0_ := am (Kd.R_below (by (with_reducible repeat (first | apply R_alloc | apply R_drewN | apply R_drew)); exact HO_9.out) hb)
    have n1_ := am (blk_below (g := gb221) (o := .cells #[.int .u64 a2_0, .int .u64 a2_1] 36 (0, 0)) (by (with_reducible repeat (first | refine blk_drewN ?_ _ | refine blk_drew ?_ | refine blk_alloc ?_ _)); exact BK221.out) hb)
    have n2_ := am (blk_below (g := gb222) (o := .cells #[.int .u64 a3_0, .int .u64 a3_1] 36 (0, 0)) (by (with_reducible repeat (first | refine blk_drewN ?_ _ | refine blk_drew ?_ | refine blk_alloc ?_ _)); exact BK222.out) hb)
    have n3_ := am (below_step (by repeat (first | (with_reducible first | exact HB.out | apply below_alloc | apply pw_below_drewN | apply below_drew1 | refine below_set ?_ GE221.out | refine below_set ?_ GE222.out) | exact HB.out)) hb)
    clear HO_9
    clear BK221
    clear BK222
    clear HB
    have HO_9 := n0_
    have BK221 := n1_
    have BK222 := n2_
    have HB := n3_
    clear n0_ n1_ n2_ n3_
    (try clear hb)
    (try clear hb2)
    (try clear hk)
    (try clear hi)
    refine hK.out _ _ ⟨(blk_cell BK221.out 0).trans rfl, (blk_cell BK221.out 1).trans rfl, HS2_, HS3_⟩ (fun hHeld => ?_)
    clear hK K
    refine norm_ (a' := ?_) ?_ ?_
    rotate_left
    ·
     show Act.put _ (some 26) _ = _
     simp only [Act.put, setIfInBounds_toArray, set_cons_zero, set_cons_succ, i64_w, i32_w]
     rfl
    refine pure_ (i := 6) (N := some 27) (v := ?_) (a' := ?_) #[T, T, T, T, T, T, T, F, F, F, F, F, F, F, F, F] rfl rfl (any_of HT_.out (by kernel_rfl)) (fun _ _ _ h => h) (Or.inl ⟨by rfl, ?_⟩) ?_ ?_
    rotate_left
    ·
     intro w'
     go_simp
     with_reducible rfl
    rotate_left
    ·
     simp only [Act.put, setIfInBounds_toArray, set_cons_zero, set_cons_succ, i64_w, i32_w]
     rfl
    refine pure_ (i := 7) (N := some 28) (v := ?_) (a' := ?_) #[T, T, T, T, T, T, T, T, F, F, F, F, F, F, F, F] rfl rfl (any_of HT_.out (by kernel_rfl)) (fun _ _ _ h => h) (Or.inl ⟨by rfl, ?_⟩) ?_ ?_
    rotate_left
    ·
     intro w'
     go_simp
     with_reducible rfl
    rotate_left
    ·
     simp only [Act.put, setIfInBounds_toArray, set_cons_zero, set_cons_succ, i64_w, i32_w]
     rfl
    refine pure_ (i := 8) (N := some 29) (v := undef) (a' := ?_) #[T, T, T, T, T, T, T, T, T, F, F, F, F, F, F, F] rfl rfl (any_of HT_.out (by kernel_rfl)) (fun _ _ _ h => h) (Or.inr ⟨by rfl, rfl⟩) ?_ ?_
    rotate_left
    ·
     simp only [Act.put, setIfInBounds_toArray, set_cons_zero, set_cons_succ, i64_w, i32_w]
     rfl
    refine pure_ (i := 9) (N := some 30) (v := undef) (a' := ?_) #[T, T, T, T, T, T, T, T, T, T, F, F, F, F, F, F] rfl rfl (any_of HT_.out (by kernel_rfl)) (fun _ _ _ h => h) (Or.inr ⟨by rfl, rfl⟩) ?_ ?_
    rotate_left
    ·
     simp only [Act.put, setIfInBounds_toArray, set_cons_zero, set_cons_succ, i64_w, i32_w]
     rfl
    refine pure_ (i := 10) (N := some 31) (v := undef) (a' := ?_) #[T, T, T, T, T, T, T, T, T, T, T, F, F, F, F, F] rfl rfl (any_of HT_.out (by kernel_rfl)) (fun _ _ _ h => h) (Or.inr ⟨by rfl, rfl⟩) ?_ ?_
    rotate_left
    ·
     simp only [Act.put, setIfInBounds_toArray, set_cons_zero, set_cons_succ, i64_w, i32_w]
     rfl
    refine pure_ (i := 11) (N := some 32) (v := undef) (a' := ?_) #[T, T, T, T, T, T, T, T, T, T, T, T, F, F, F, F] rfl rfl (any_of HT_.out (by kernel_rfl)) (fun _ _ _ h => h) (Or.inr ⟨by rfl, rfl⟩) ?_ ?_
    rotate_left
    ·
     simp only [Act.put, setIfInBounds_toArray, set_cons_zero, set_cons_succ, i64_w, i32_w]
     rfl
    refine pure_ (i := 12) (N := some 33) (v := undef) (a' := ?_) #[T, T, T, T, T, T, T, T, T, T, T, T, T, F, F, F] rfl rfl (any_of HT_.out (by kernel_rfl)) (fun _ _ _ h => h) (Or.inr ⟨by rfl, rfl⟩) ?_ ?_
    rotate_left
    ·
     simp only [Act.put, setIfInBounds_toArray, set_cons_zero, set_cons_succ, i64_w, i32_w]
     rfl
    refine pure_ (i := 13) (N := some 34) (v := undef) (a' := ?_) #[T, T, T, T, T, T, T, T, T, T, T, T, T, T, F, F] rfl rfl (any_of HT_.out (by kernel_rfl)) (fun _ _ _ h => h) (Or.inr ⟨by rfl, rfl⟩) ?_ ?_
    rotate_left
    ·
     simp only [Act.put, setIfInBounds_toArray, set_cons_zero, set_cons_succ, i64_w, i32_w]
     rfl
    refine pure_ (i := 14) (N := some 35) (v := undef) (a' := ?_) #[T, T, T, T, T, T, T, T, T, T, T, T, T, T, T, F] rfl rfl (any_of HT_.out (by kernel_rfl)) (fun _ _ _ h => h) (Or.inr ⟨by rfl, rfl⟩) ?_ ?_
    rotate_left
    ·
     simp only [Act.put, setIfInBounds_toArray, set_cons_zero, set_cons_succ, i64_w, i32_w]
     rfl
    refine pure_ (i := 15) (N := some 36) (v := ?_) (a' := ?_) #[T, T, T, T, T, T, T, T, T, T, T, T, T, T, T, T] rfl rfl (any_of HT_.out (by kernel_rfl)) (fun _ _ _ h => h) (Or.inl ⟨by rfl, ?_⟩) ?_ ?_
    rotate_left
    ·
     intro w'
     go_simp
     with_reducible rfl
    rotate_left
    ·
     simp only [Act.put, setIfInBounds_toArray, set_cons_zero, set_cons_succ, i64_w, i32_w]
     rfl
    refine done_ (done_of HT_.out (by kernel_rfl)) ?_
    try go_wp2
    go_roundg k1
    case measure => have := HK1.out; omega
    case rel => exact ⟨(x10_1), (wrap64 (x11_1 + 1)), (by first | rfl | (simp; done) | (simp [*]; done)), (by first | rfl | (simp; done) | (simp [*]; done)), H', ⟨by have := HK1.out; omega⟩, ⟨by (with_reducible repeat (first | apply R_alloc | apply R_drewN | apply R_drew)); exact HO_9.out⟩, ⟨by (with_reducible repeat (first | refine blk_drewN ?_ _ | refine blk_drew ?_ | refine blk_alloc ?_ _)); exact BK221.out⟩, ⟨by (with_reducible repeat (first | refine blk_drewN ?_ _ | refine blk_drew ?_ | refine blk_alloc ?_ _)); exact BK222.out⟩, ⟨by repeat (first | (with_reducible first | exact HB.out | apply below_alloc | apply pw_below_drewN | apply below_drew1 | refine below_set ?_ GE221.out | refine below_set ?_ GE222.out) | exact HB.out)⟩⟩
   rw [if_pos c12] at H
   have c12b0 : decide (0 ≤ t227) = true := decide_eq_true c12
   clear c12
   replace H := Option.bind_eq_some_iff.mp H
   obtain ⟨t229, A130, H⟩ := H
   replace H : (if t229 < 0 then (mailcoachref13_Between.l0 k1 t223 (IntKind.u64.wrap (x10_1 + 1)) (wrap64 (x11_1 + 1)) a2_0 a2_1 a3_0 a3_1) else (mailcoachref13_Between.l0 k1 t223 x10_1 (wrap64 (x11_1 + 1)) a2_0 a2_1 a3_0 a3_1)) = some r := H
   have A13 := am A130
   clear A130
   by_cases c14 : t229 < 0
   rotate_left
   ·
    rw [if_neg c14] at H
    have c14b0 : decide (t229 < 0) = false := decide_eq_false c14
    clear c14
    have H' := am H
    clear H
    obtain ⟨Ao19, co19, eo19⟩ := Kd.R_slice HO_9.out
    subst eo19
    try go_wp2
    have n0_ := am (Kd.R_drew HO_9.out)
    have n1_ := am (blk_drew BK221.out)
    have n2_ := am (blk_drew BK222.out)
    have n3_ := am (below_drew1 HB.out)
    clear HO_9
    clear BK221
    clear BK222
    clear HB
    have HO_9 := n0_
    have BK221 := n1_
    have BK222 := n2_
    have HB := n3_
    clear n0_ n1_ n2_ n3_
    have p226 : 0 ≤ (x11_1 : Int) := of_decide_eq_true (by first | (with_reducible assumption) | assumption)
    have q226 : x11_1 < (t223.length : Int) := of_decide_eq_true (by first | (with_reducible assumption) | assumption)
    obtain ⟨ad226, e226, hx226_0, hx226_1⟩ := at_T36 (Kd.R_reads' HO_9.out).2.2 x11_1 p226 q226
    cases e226
    replace p226 := eq_true p226
    replace q226 := eq_true q226
    have p228 : 0 ≤ (x11_1 : Int) := of_decide_eq_true (by first | (with_reducible assumption) | assumption)
    have q228 : x11_1 < (t223.length : Int) := of_decide_eq_true (by first | (with_reducible assumption) | assumption)
    obtain ⟨ad228, e228, hx228_0, hx228_1⟩ := at_T36 (Kd.R_reads' HO_9.out).2.2 x11_1 p228 q228
    obtain rfl : ad226 = ad228 := (by injection e228)
    replace p228 := eq_true p228
    replace q228 := eq_true q228
    refine start_ (n := 16) (S := fun w' => w'.cell? ⟨gb221, 0, none⟩ = some (.int .u64 a2_0) ∧ w'.cell? ⟨gb221, 1, none⟩ = some (.int .u64 a2_1) ∧ w'.cell? ⟨gb222, 0, none⟩ = some (.int .u64 a3_0) ∧ w'.cell? ⟨gb222, 1, none⟩ = some (.int .u64 a3_1) ∧ w'.cell? (ad226.add ((x11_1).toNat * 2)) = some (.int .u64 ((rd_T36 t223 x11_1).f0)) ∧ w'.cell? ⟨(ad226.add ((x11_1).toNat * 2)).block, (ad226.add ((x11_1).toNat * 2)).off + 1, none⟩ = some (.int .u64 ((rd_T36 t223 x11_1).f1)) ∧ w'.cell? (ad226.add ((x11_1).toNat * 2)) = some (.int .u64 ((rd_T36 t223 x11_1).f0)) ∧ w'.cell? ⟨(ad226.add ((x11_1).toNat * 2)).block, (ad226.add ((x11_1).toNat * 2)).off + 1, none⟩ = some (.int .u64 ((rd_T36 t223 x11_1).f1))) (ds := []) #[F, F, F, F, F, F, F, F, F, F, F, F, F, F, F, F] (by kernel_rfl) rfl rfl ⟨(blk_cell BK221.out 0).trans rfl, (blk_cell BK221.out 1).trans rfl, (blk_cell BK222.out 0).trans rfl, (blk_cell BK222.out 1).trans rfl, hx226_0, hx226_1, hx228_0, hx228_1⟩ (fun hHeld => ?_); refine with_tabW mailcoachref13_Between.tab6 mailcoachref13_Between.bits6 (fun HT_ HW_ => ?_)
    generalize wr.drew = w20 at HO_9 BK221 BK222 HB hx226_0 hx226_1 hx228_0 hx228_1 hHeld ⊢
    refine pure_ (i := 0) (N := some 21) (v := ?_) (a' := ?_) #[T, F, F, F, F, F, F, F, F, F, F, F, F, F, F, F] rfl rfl (any_of HT_.out (by kernel_rfl)) (fun _ _ _ h => h) (Or.inl ⟨by rfl, ?_⟩) ?_ ?_
    rotate_left
    ·
     intro w'
     go_simp
     with_reducible rfl
    rotate_left
    ·
     simp only [Act.put, setIfInBounds_toArray, set_cons_zero, set_cons_succ, i64_w, i32_w]
     rfl
    refine pure_ (i := 1) (N := some 22) (v := ?_) (a' := ?_) #[T, T, F, F, F, F, F, F, F, F, F, F, F, F, F, F] rfl rfl (any_of HT_.out (by kernel_rfl)) (fun _ _ _ h => h) (Or.inl ⟨by rfl, ?_⟩) ?_ ?_
    rotate_left
    ·
     intro w'
     go_simp
     with_reducible rfl
    rotate_left
    ·
     simp only [Act.put, setIfInBounds_toArray, set_cons_zero, set_cons_succ, i64_w, i32_w]
     rfl
    refine pure_ (i := 2) (N := some 23) (v := ?_) (a' := ?_) #[T, T, T, F, F, F, F, F, F, F, F, F, F, F, F, F] rfl rfl (any_of HT_.out (by kernel_rfl)) (fun _ _ _ h => h) (Or.inl ⟨by rfl, ?_⟩) ?_ ?_
    rotate_left
    ·
     intro w'
     go_simp
     with_reducible rfl
    rotate_left
    ·
     simp only [Act.put, setIfInBounds_toArray, set_cons_zero, set_cons_succ, i64_w, i32_w]
     rfl
    refine take_ (i := 3) (N := some 24) (v := ?_) (a' := ?_) #[T, T, T, T, F, F, F, F, F, F, F, F, F, F, F, F] rfl rfl (take_ofW HT_.out HW_.out (by kernel_rfl)) (fun _ _ _ h => h) (Or.inl ⟨by rfl, ?_⟩) hHeld ?_ ?_
    rotate_left
    ·
     rintro w' ⟨s0, s1, s2, s3, s4, s5, s6, s7⟩
     go_simp
     with_reducible rfl
    rotate_left
    ·
     simp only [Act.put, setIfInBounds_toArray, set_cons_zero, set_cons_succ, i64_w, i32_w]
     rfl
    refine take_ (i := 4) (N := some 25) (v := ?_) (a' := ?_) #[T, T, T, T, T, F, F, F, F, F, F, F, F, F, F, F] rfl rfl (take_ofW HT_.out HW_.out (by kernel_rfl)) (fun _ _ _ h => h) (Or.inl ⟨by rfl, ?_⟩) hHeld ?_ ?_
    rotate_left
    ·
     rintro w' ⟨s0, s1, s2, s3, s4, s5, s6, s7⟩
     go_simp
     with_reducible rfl
    rotate_left
    ·
     simp only [Act.put, setIfInBounds_toArray, set_cons_zero, set_cons_succ, i64_w, i32_w]
     rfl
    refine one_ (i := 5) (N := some 26) #[T, T, T, T, T, T, F, F, F, F, F, F, F, F, F, F] rfl rfl (one_of HT_.out (by kernel_rfl)) (by decide) (fun K hK => ?_)
    refine goes_ Try.func25 (by kernel_rfl) rfl #[.agg #[.int .u64 ((rd_T36 t223 x11_1).f0), .int .u64 ((rd_T36 t223 x11_1).f1)], .agg #[.int .u64 a2_0, .int .u64 a2_1]] (by rfl) rfl rfl (by (try simp only [List.map_toArray, List.map_cons, List.map_nil]); first | done | rfl | (simp only [List.length_drop, List.length_take]; rfl)) ?_
    with_reducible refine (mailcoachref13_Order.calls k1 ((rd_T36 t223 x11_1).f0) ((rd_T36 t223 x11_1).f1) a2_0 a2_1 t227 _ A11.out).mono ?_
    rintro e w21 ⟨rfl, hb⟩
    have HS4_ := (hb.cell (World.block_lt_of_cell? _ _ (hHeld.2.2.2.2.1))).trans (hHeld.2.2.2.2.1)
    have HS5_ := (hb.cell (World.block_lt_of_cell? _ _ (hHeld.2.2.2.2.2.1))).trans (hHeld.2.2.2.2.2.1)
    have HS6_ := (hb.cell (World.block_lt_of_cell? _ _ (hHeld.2.2.2.2.2.2.1))).trans (hHeld.2.2.2.2.2.2.1)
    have HS7_ := (hb.cell (World.block_lt_of_cell? _ _ (hHeld.2.2.2.2.2.2.2))).trans (hHeld.2.2.2.2.2.2.2)
    refine ⟨_, rfl, ?_⟩
    have n0_ := am (Kd.R_below (by (with_reducible repeat (first | apply R_alloc | apply R_drewN | apply R_drew)); exact HO_9.out) hb)
    have n1_ := am (blk_below (g := gb221) (o := .cells #[.int .u64 a2_0, .int .u64 a2_1] 36 (0, 0)) (by (with_reducible repeat (first | refine blk_drewN ?_ _ | refine blk_drew ?_ | refine blk_alloc ?_ _)); exact BK221.out) hb)
    have n2_ := am (blk_below (g := gb222) (o := .cells #[.int .u64 a3_0, .int .u64 a3_1] 36 (0, 0)) (by (with_reducible repeat (first | refine blk_drewN ?_ _ | refine blk_drew ?_ | refine blk_alloc ?_ _)); exact BK222.out) hb)
    have n3_ := am (below_step (by repeat (first | (with_reducible first | exact HB.out | apply below_alloc | apply pw_below_drewN | apply below_drew1 | refine below_set ?_ GE221.out | refine below_set ?_ GE222.out) | exact HB.out)) hb)
    clear HO_9
    clear BK221
    clear BK222
    clear HB
    have HO_9 := n0_
    have BK221 := n1_
    have BK222 := n2_
    have HB := n3_
    clear n0_ n1_ n2_ n3_
    (try clear hb)
    (try clear hb2)
    (try clear hk)
    (try clear hi)
    refine hK.out _ _ ⟨(blk_cell BK221.out 0).trans rfl, (blk_cell BK221.out 1).trans rfl, (blk_cell BK222.out 0).trans rfl, (blk_cell BK222.out 1).trans rfl, HS4_, HS5_, HS6_, HS7_⟩ (fun hHeld => ?_)
    clear hK K
    refine norm_ (a' := ?_) ?_ ?_
    rotate_left
    ·
     show Act.put _ (some 26) _ = _
     simp only [Act.put, setIfInBounds_toArray, set_cons_zero, set_cons_succ, i64_w, i32_w]
     rfl
    refine pure_ (i := 6) (N := some 27) (v := ?_) (a' := ?_) #[T, T, T, T, T, T, T, F, F, F, F, F, F, F, F, F] rfl rfl (any_of HT_.out (by kernel_rfl)) (fun _ _ _ h => h) (Or.inl ⟨by rfl, ?_⟩) ?_ ?_
    rotate_left
    ·
     intro w'
     go_simp
     with_reducible rfl
    rotate_left
    ·
     simp only [Act.put, setIfInBounds_toArray, set_cons_zero, set_cons_succ, i64_w, i32_w]
     rfl
    refine pure_ (i := 7) (N := some 28) (v := ?_) (a' := ?_) #[T, T, T, T, T, T, T, T, F, F, F, F, F, F, F, F] rfl rfl (any_of HT_.out (by kernel_rfl)) (fun _ _ _ h => h) (Or.inl ⟨by rfl, ?_⟩) ?_ ?_
    rotate_left
    ·
     intro w'
     go_simp
     with_reducible rfl
    rotate_left
    ·
     simp only [Act.put, setIfInBounds_toArray, set_cons_zero, set_cons_succ, i64_w, i32_w]
     rfl
    refine pure_ (i := 8) (N := some 29) (v := ?_) (a' := ?_) #[T, T, T, T, T, T, T, T, T, F, F, F, F, F, F, F] rfl rfl (any_of HT_.out (by kernel_rfl)) (fun _ _ _ h => h) (Or.inl ⟨by rfl, ?_⟩) ?_ ?_
    rotate_left
    ·
     intro w'
     go_simp
     with_reducible rfl
    rotate_left
    ·
     simp only [Act.put, setIfInBounds_toArray, set_cons_zero, set_cons_succ, i64_w, i32_w]
     rfl
    refine pure_ (i := 9) (N := some 30) (v := ?_) (a' := ?_) #[T, T, T, T, T, T, T, T, T, T, F, F, F, F, F, F] rfl rfl (any_of HT_.out (by kernel_rfl)) (fun _ _ _ h => h) (Or.inl ⟨by rfl, ?_⟩) ?_ ?_
    rotate_left
    ·
     intro w'
     go_simp
     with_reducible rfl
    rotate_left
    ·
     simp only [Act.put, setIfInBounds_toArray, set_cons_zero, set_cons_succ, i64_w, i32_w]
     rfl
    refine pure_ (i := 10) (N := some 31) (v := ?_) (a' := ?_) #[T, T, T, T, T, T, T, T, T, T, T, F, F, F, F, F] rfl rfl (any_of HT_.out (by kernel_rfl)) (fun _ _ _ h => h) (Or.inl ⟨by rfl, ?_⟩) ?_ ?_
    rotate_left
    ·
     intro w'
     go_simp
     with_reducible rfl
    rotate_left
    ·
     simp only [Act.put, setIfInBounds_toArray, set_cons_zero, set_cons_succ, i64_w, i32_w]
     rfl
    refine take_ (i := 11) (N := some 32) (v := ?_) (a' := ?_) #[T, T, T, T, T, T, T, T, T, T, T, T, F, F, F, F] rfl rfl (take_ofW HT_.out HW_.out (by kernel_rfl)) (fun _ _ _ h => h) (Or.inl ⟨by rfl, ?_⟩) hHeld ?_ ?_
    rotate_left
    ·
     rintro w' ⟨s0, s1, s2, s3, s4, s5, s6, s7⟩
     go_simp
     with_reducible rfl
    rotate_left
    ·
     simp only [Act.put, setIfInBounds_toArray, set_cons_zero, set_cons_succ, i64_w, i32_w]
     rfl
    refine take_ (i := 12) (N := some 33) (v := ?_) (a' := ?_) #[T, T, T, T, T, T, T, T, T, T, T, T, T, F, F, F] rfl rfl (take_ofW HT_.out HW_.out (by kernel_rfl)) (fun _ _ _ h => h) (Or.inl ⟨by rfl, ?_⟩) hHeld ?_ ?_
    rotate_left
    ·
     rintro w' ⟨s0, s1, s2, s3, s4, s5, s6, s7⟩
     go_simp
     with_reducible rfl
    rotate_left
    ·
     simp only [Act.put, setIfInBounds_toArray, set_cons_zero, set_cons_succ, i64_w, i32_w]
     rfl
    refine one_ (i := 13) (N := some 34) #[T, T, T, T, T, T, T, T, T, T, T, T, T, T, F, F] rfl rfl (one_of HT_.out (by kernel_rfl)) (by decide) (fun K hK => ?_)
    refine goes_ Try.func25 (by kernel_rfl) rfl #[.agg #[.int .u64 ((rd_T36 t223 x11_1).f0), .int .u64 ((rd_T36 t223 x11_1).f1)], .agg #[.int .u64 a3_0, .int .u64 a3_1]] (by rfl) rfl rfl (by (try simp only [List.map_toArray, List.map_cons, List.map_nil]); first | done | rfl | (simp only [List.length_drop, List.length_take]; rfl)) ?_
    with_reducible refine (mailcoachref13_Order.calls k1 ((rd_T36 t223 x11_1).f0) ((rd_T36 t223 x11_1).f1) a3_0 a3_1 t229 _ A13.out).mono ?_
    rintro e w22 ⟨rfl, hb⟩
    have HS4_ := (hb.cell (World.block_lt_of_cell? _ _ (hHeld.2.2.2.2.1))).trans (hHeld.2.2.2.2.1)
    have HS5_ := (hb.cell (World.block_lt_of_cell? _ _ (hHeld.2.2.2.2.2.1))).trans (hHeld.2.2.2.2.2.1)
    have HS6_ := (hb.cell (World.block_lt_of_cell? _ _ (hHeld.2.2.2.2.2.2.1))).trans (hHeld.2.2.2.2.2.2.1)
    have HS7_ := (hb.cell (World.block_lt_of_cell? _ _ (hHeld.2.2.2.2.2.2.2))).trans (hHeld.2.2.2.2.2.2.2)
    refine ⟨_, rfl, ?_⟩
    have n0_ := am (Kd.R_below (by (with_reducible repeat (first | apply R_alloc | apply R_drewN | apply R_drew)); exact HO_9.out) hb)
    have n1_ := am (blk_below (g := gb221) (o := .cells #[.int .u64 a2_0, .int .u64 a2_1] 36 (0, 0)) (by (with_reducible repeat (first | refine blk_drewN ?_ _ | refine blk_drew ?_ | refine blk_alloc ?_ _)); exact BK221.out) hb)
    have n2_ := am (blk_below (g := gb222) (o := .cells #[.int .u64 a3_0, .int .u64 a3_1] 36 (0, 0)) (by (with_reducible repeat (first | refine blk_drewN ?_ _ | refine blk_drew ?_ | refine blk_alloc ?_ _)); exact BK222.out) hb)
    have n3_ := am (below_step (by repeat (first | (with_reducible first | exact HB.out | apply below_alloc | apply pw_below_drewN | apply below_drew1 | refine below_set ?_ GE221.out | refine below_set ?_ GE222.out) | exact HB.out)) hb)
    clear HO_9
    clear BK221
    clear BK222
    clear HB
    have HO_9 := n0_
    have BK221 := n1_
    have BK222 := n2_
    have HB := n3_
    clear n0_ n1_ n2_ n3_
    (try clear hb)
    (try clear hb2)
    (try clear hk)
    (try clear hi)
    refine hK.out _ _ ⟨(blk_cell BK221.out 0).trans rfl, (blk_cell BK221.out 1).trans rfl, (blk_cell BK222.out 0).trans rfl, (blk_cell BK222.out 1).trans rfl, HS4_, HS5_, HS6_, HS7_⟩ (fun hHeld => ?_)
    clear hK K
    refine norm_ (a' := ?_) ?_ ?_
    rotate_left
    ·
     show Act.put _ (some 34) _ = _
     simp only [Act.put, setIfInBounds_toArray, set_cons_zero, set_cons_succ, i64_w, i32_w]
     rfl
    refine pure_ (i := 14) (N := some 35) (v := ?_) (a' := ?_) #[T, T, T, T, T, T, T, T, T, T, T, T, T, T, T, F] rfl rfl (any_of HT_.out (by kernel_rfl)) (fun _ _ _ h => h) (Or.inl ⟨by rfl, ?_⟩) ?_ ?_
    rotate_left
    ·
     intro w'
     go_simp
     with_reducible rfl
    rotate_left
    ·
     simp only [Act.put, setIfInBounds_toArray, set_cons_zero, set_cons_succ, i64_w, i32_w]
     rfl
    refine pure_ (i := 15) (N := some 36) (v := ?_) (a' := ?_) #[T, T, T, T, T, T, T, T, T, T, T, T, T, T, T, T] rfl rfl (any_of HT_.out (by kernel_rfl)) (fun _ _ _ h => h) (Or.inl ⟨by rfl, ?_⟩) ?_ ?_
    rotate_left
    ·
     intro w'
     go_simp
     with_reducible rfl
    rotate_left
    ·
     simp only [Act.put, setIfInBounds_toArray, set_cons_zero, set_cons_succ, i64_w, i32_w]
     rfl
    refine done_ (done_of HT_.out (by kernel_rfl)) ?_
    try go_wp2
    go_roundg k1
    case measure => have := HK1.out; omega
    case rel => exact ⟨(x10_1), (wrap64 (x11_1 + 1)), (by first | rfl | (simp; done) | (simp [*]; done)), (by first | rfl | (simp; done) | (simp [*]; done)), H', ⟨by have := HK1.out; omega⟩, ⟨by (with_reducible repeat (first | apply R_alloc | apply R_drewN | apply R_drew)); exact HO_9.out⟩, ⟨by (with_reducible repeat (first | refine blk_drewN ?_ _ | refine blk_drew ?_ | refine blk_alloc ?_ _)); exact BK221.out⟩, ⟨by (with_reducible repeat (first | refine blk_drewN ?_ _ | refine blk_drew ?_ | refine blk_alloc ?_ _)); exact BK222.out⟩, ⟨by repeat (first | (with_reducible first | exact HB.out | apply below_alloc | apply pw_below_drewN | apply below_drew1 | refine below_set ?_ GE221.out | refine below_set ?_ GE222.out) | exact HB.out)⟩⟩
   rw [if_pos c14] at H
   have c14b0 : decide (t229 < 0) = true := decide_eq_true c14
   clear c14
   have H' := am H
   clear H
   obtain ⟨Ao15, co15, eo15⟩ := Kd.R_slice HO_9.out
   subst eo15
   try go_wp2
   have n0_ := am (Kd.R_drew HO_9.out)
   have n1_ := am (blk_drew BK221.out)
   have n2_ := am (blk_drew BK222.out)
   have n3_ := am (below_drew1 HB.out)
   clear HO_9
   clear BK221
   clear BK222
   clear HB
   have HO_9 := n0_
   have BK221 := n1_
   have BK222 := n2_
   have HB := n3_
   clear n0_ n1_ n2_ n3_
   have p226 : 0 ≤ (x11_1 : Int) := of_decide_eq_true (by first | (with_reducible assumption) | assumption)
   have q226 : x11_1 < (t223.length : Int) := of_decide_eq_true (by first | (with_reducible assumption) | assumption)
   obtain ⟨ad226, e226, hx226_0, hx226_1⟩ := at_T36 (Kd.R_reads' HO_9.out).2.2 x11_1 p226 q226
   cases e226
   replace p226 := eq_true p226
   replace q226 := eq_true q226
   have p228 : 0 ≤ (x11_1 : Int) := of_decide_eq_true (by first | (with_reducible assumption) | assumption)
   have q228 : x11_1 < (t223.length : Int) := of_decide_eq_true (by first | (with_reducible assumption) | assumption)
   obtain ⟨ad228, e228, hx228_0, hx228_1⟩ := at_T36 (Kd.R_reads' HO_9.out).2.2 x11_1 p228 q228
   obtain rfl : ad226 = ad228 := (by injection e228)
   replace p228 := eq_true p228
   replace q228 := eq_true q228
   refine start_ (n := 16) (S := fun w' => w'.cell? ⟨gb221, 0, none⟩ = some (.int .u64 a2_0) ∧ w'.cell? ⟨gb221, 1, none⟩ = some (.int .u64 a2_1) ∧ w'.cell? ⟨gb222, 0, none⟩ = some (.int .u64 a3_0) ∧ w'.cell? ⟨gb222, 1, none⟩ = some (.int .u64 a3_1) ∧ w'.cell? (ad226.add ((x11_1).toNat * 2)) = some (.int .u64 ((rd_T36 t223 x11_1).f0)) ∧ w'.cell? ⟨(ad226.add ((x11_1).toNat * 2)).block, (ad226.add ((x11_1).toNat * 2)).off + 1, none⟩ = some (.int .u64 ((rd_T36 t223 x11_1).f1)) ∧ w'.cell? (ad226.add ((x11_1).toNat * 2)) = some (.int .u64 ((rd_T36 t223 x11_1).f0)) ∧ w'.cell? ⟨(ad226.add ((x11_1).toNat * 2)).block, (ad226.add ((x11_1).toNat * 2)).off + 1, none⟩ = some (.int .u64 ((rd_T36 t223 x11_1).f1))) (ds := []) #[F, F, F, F, F, F, F, F, F, F, F, F, F, F, F, F] (by kernel_rfl) rfl rfl ⟨(blk_cell BK221.out 0).trans rfl, (blk_cell BK221.out 1).trans rfl, (blk_cell BK222.out 0).trans rfl, (blk_cell BK222.out 1).trans rfl, hx226_0, hx226_1, hx228_0, hx228_1⟩ (fun hHeld => ?_); refine with_tabW mailcoachref13_Between.tab6 mailcoachref13_Between.bits6 (fun HT_ HW_ => ?_)
   generalize wr.drew = w16 at HO_9 BK221 BK222 HB hx226_0 hx226_1 hx228_0 hx228_1 hHeld ⊢
   refine pure_ (i := 0) (N := some 21) (v := ?_) (a' := ?_) #[T, F, F, F, F, F, F, F, F, F, F, F, F, F, F, F] rfl rfl (any_of HT_.out (by kernel_rfl)) (fun _ _ _ h => h) (Or.inl ⟨by rfl, ?_⟩) ?_ ?_
   rotate_left
   ·
    intro w'
    go_simp
    with_reducible rfl
   rotate_left
   ·
    simp only [Act.put, setIfInBounds_toArray, set_cons_zero, set_cons_succ, i64_w, i32_w]
    rfl
   refine pure_ (i := 1) (N := some 22) (v := ?_) (a' := ?_) #[T, T, F, F, F, F, F, F, F, F, F, F, F, F, F, F] rfl rfl (any_of HT_.out (by kernel_rfl)) (fun _ _ _ h => h) (Or.inl ⟨by rfl, ?_⟩) ?_ ?_
   rotate_left
   ·
    intro w'
    go_simp
    with_reducible rfl
   rotate_left
   ·
    simp only [Act.put, setIfInBounds_toArray, set_cons_zero, set_cons_succ, i64_w, i32_w]
    rfl
   refine pure_ (i := 2) (N := some 23) (v := ?_) (a' := ?_) #[T, T, T, F, F, F, F, F, F, F, F, F, F, F, F, F] rfl rfl (any_of HT_.out (by kernel_rfl)) (fun _ _ _ h => h) (Or.inl ⟨by rfl, ?_⟩) ?_ ?_
   rotate_left
   ·
    intro w'
    go_simp
    with_reducible rfl
   rotate_left
   ·
    simp only [Act.put, setIfInBounds_toArray, set_cons_zero, set_cons_succ, i64_w, i32_w]
    rfl
   refine take_ (i := 3) (N := some 24) (v := ?_) (a' := ?_) #[T, T, T, T, F, F, F, F, F, F, F, F, F, F, F, F] rfl rfl (take_ofW HT_.out HW_.out (by kernel_rfl)) (fun _ _ _ h => h) (Or.inl ⟨by rfl, ?_⟩) hHeld ?_ ?_
   rotate_left
   ·
    rintro w' ⟨s0, s1, s2, s3, s4, s5, s6, s7⟩
    go_simp
    with_reducible rfl
   rotate_left
   ·
    simp only [Act.put, setIfInBounds_toArray, set_cons_zero, set_cons_succ, i64_w, i32_w]
    rfl
   refine take_ (i := 4) (N := some 25) (v := ?_) (a' := ?_) #[T, T, T, T, T, F, F, F, F, F, F, F, F, F, F, F] rfl rfl (take_ofW HT_.out HW_.out (by kernel_rfl)) (fun _ _ _ h => h) (Or.inl ⟨by rfl, ?_⟩) hHeld ?_ ?_
   rotate_left
   ·
    rintro w' ⟨s0, s1, s2, s3, s4, s5, s6, s7⟩
    go_simp
    with_reducible rfl
   rotate_left
   ·
    simp only [Act.put, setIfInBounds_toArray, set_cons_zero, set_cons_succ, i64_w, i32_w]
    rfl
   refine one_ (i := 5) (N := some 26) #[T, T, T, T, T, T, F, F, F, F, F, F, F, F, F, F] rfl rfl (one_of HT_.out (by kernel_rfl)) (by decide) (fun K hK => ?_)
   refine goes_ Try.func25 (by kernel_rfl) rfl #[.agg #[.int .u64 ((rd_T36 t223 x11_1).f0), .int .u64 ((rd_T36 t223 x11_1).f1)], .agg #[.int .u64 a2_0, .int .u64 a2_1]] (by rfl) rfl rfl (by (try simp only [List.map_toArray, List.map_cons, List.map_nil]); first | done | rfl | (simp only [List.length_drop, List.length_take]; rfl)) ?_
   with_reducible refine (mailcoachref13_Order.calls k1 ((rd_T36 t223 x11_1).f0) ((rd_T36 t223 x11_1).f1) a2_0 a2_1 t227 _ A11.out).mono ?_
   rintro e w17 ⟨rfl, hb⟩
   have HS4_ := (hb.cell (World.block_lt_of_cell? _ _ (hHeld.2.2.2.2.1))).trans (hHeld.2.2.2.2.1)
   have HS5_ := (hb.cell (World.block_lt_of_cell? _ _ (hHeld.2.2.2.2.2.1))).trans (hHeld.2.2.2.2.2.1)
   have HS6_ := (hb.cell (World.block_lt_of_cell? _ _ (hHeld.2.2.2.2.2.2.1))).trans (hHeld.2.2.2.2.2.2.1)
   have HS7_ := (hb.cell (World.block_lt_of_cell? _ _ (hHeld.2.2.2.2.2.2.2))).trans (hHeld.2.2.2.2.2.2.2)
   refine ⟨_, rfl, ?_⟩
   have n0_ := am (Kd.R_below (by (with_reducible repeat (first | apply R_alloc | apply R_drewN | apply R_drew)); exact HO_9.out) hb)
   have n1_ := am (blk_below (g := gb221) (o := .cells #[.int .u64 a2_0, .int .u64 a2_1] 36 (0, 0)) (by (with_reducible repeat (first | refine blk_drewN ?_ _ | refine blk_drew ?_ | refine blk_alloc ?_ _)); exact BK221.out) hb)
   have n2_ := am (blk_below (g := gb222) (o := .cells #[.int .u64 a3_0, .int .u64 a3_1] 36 (0, 0)) (by (with_reducible repeat (first | refine blk_drewN ?_ _ | refine blk_drew ?_ | refine blk_alloc ?_ _)); exact BK222.out) hb)
   have n3_ := am (below_step (by repeat (first | (with_reducible first | exact HB.out | apply below_alloc | apply pw_below_drewN | apply below_drew1 | refine below_set ?_ GE221.out | refine below_set ?_ GE222.out) | exact HB.out)) hb)
   clear HO_9
   clear BK221
   clear BK222
   clear HB
   have HO_9 := n0_
   have BK221 := n1_
   have BK222 := n2_
   have HB := n3_
   clear n0_ n1_ n2_ n3_
   (try clear hb)
   (try clear hb2)
   (try clear hk)
   (try clear hi)
   refine hK.out _ _ ⟨(blk_cell BK221.out 0).trans rfl, (blk_cell BK221.out 1).trans rfl, (blk_cell BK222.out 0).trans rfl, (blk_cell BK222.out 1).trans rfl, HS4_, HS5_, HS6_, HS7_⟩ (fun hHeld => ?_)
   clear hK K
   refine norm_ (a' := ?_) ?_ ?_
   rotate_left
   ·
    show Act.put _ (some 26) _ = _
    simp only [Act.put, setIfInBounds_toArray, set_cons_zero, set_cons_succ, i64_w, i32_w]
    rfl
   refine pure_ (i := 6) (N := some 27) (v := ?_) (a' := ?_) #[T, T, T, T, T, T, T, F, F, F, F, F, F, F, F, F] rfl rfl (any_of HT_.out (by kernel_rfl)) (fun _ _ _ h => h) (Or.inl ⟨by rfl, ?_⟩) ?_ ?_
   rotate_left
   ·
    intro w'
    go_simp
    with_reducible rfl
   rotate_left
   ·
    simp only [Act.put, setIfInBounds_toArray, set_cons_zero, set_cons_succ, i64_w, i32_w]
    rfl
   refine pure_ (i := 7) (N := some 28) (v := ?_) (a' := ?_) #[T, T, T, T, T, T, T, T, F, F, F, F, F, F, F, F] rfl rfl (any_of HT_.out (by kernel_rfl)) (fun _ _ _ h => h) (Or.inl ⟨by rfl, ?_⟩) ?_ ?_
   rotate_left
   ·
    intro w'
    go_simp
    with_reducible rfl
   rotate_left
   ·
    simp only [Act.put, setIfInBounds_toArray, set_cons_zero, set_cons_succ, i64_w, i32_w]
    rfl
   refine pure_ (i := 8) (N := some 29) (v := ?_) (a' := ?_) #[T, T, T, T, T, T, T, T, T, F, F, F, F, F, F, F] rfl rfl (any_of HT_.out (by kernel_rfl)) (fun _ _ _ h => h) (Or.inl ⟨by rfl, ?_⟩) ?_ ?_
   rotate_left
   ·
    intro w'
    go_simp
    with_reducible rfl
   rotate_left
   ·
    simp only [Act.put, setIfInBounds_toArray, set_cons_zero, set_cons_succ, i64_w, i32_w]
    rfl
   refine pure_ (i := 9) (N := some 30) (v := ?_) (a' := ?_) #[T, T, T, T, T, T, T, T, T, T, F, F, F, F, F, F] rfl rfl (any_of HT_.out (by kernel_rfl)) (fun _ _ _ h => h) (Or.inl ⟨by rfl, ?_⟩) ?_ ?_
   rotate_left
   ·
    intro w'
    go_simp
    with_reducible rfl
   rotate_left
   ·
    simp only [Act.put, setIfInBounds_toArray, set_cons_zero, set_cons_succ, i64_w, i32_w]
    rfl
   refine pure_ (i := 10) (N := some 31) (v := ?_) (a' := ?_) #[T, T, T, T, T, T, T, T, T, T, T, F, F, F, F, F] rfl rfl (any_of HT_.out (by kernel_rfl)) (fun _ _ _ h => h) (Or.inl ⟨by rfl, ?_⟩) ?_ ?_
   rotate_left
   ·
    intro w'
    go_simp
    with_reducible rfl
   rotate_left
   ·
    simp only [Act.put, setIfInBounds_toArray, set_cons_zero, set_cons_succ, i64_w, i32_w]
    rfl
   refine take_ (i := 11) (N := some 32) (v := ?_) (a' := ?_) #[T, T, T, T, T, T, T, T, T, T, T, T, F, F, F, F] rfl rfl (take_ofW HT_.out HW_.out (by kernel_rfl)) (fun _ _ _ h => h) (Or.inl ⟨by rfl, ?_⟩) hHeld ?_ ?_
   rotate_left
   ·
    rintro w' ⟨s0, s1, s2, s3, s4, s5, s6, s7⟩
    go_simp
    with_reducible rfl
   rotate_left
   ·
    simp only [Act.put, setIfInBounds_toArray, set_cons_zero, set_cons_succ, i64_w, i32_w]
    rfl
   refine take_ (i := 12) (N := some 33) (v := ?_) (a' := ?_) #[T, T, T, T, T, T, T, T, T, T, T, T, T, F, F, F] rfl rfl (take_ofW HT_.out HW_.out (by kernel_rfl)) (fun _ _ _ h => h) (Or.inl ⟨by rfl, ?_⟩) hHeld ?_ ?_
   rotate_left
   ·
    rintro w' ⟨s0, s1, s2, s3, s4, s5, s6, s7⟩
    go_simp
    with_reducible rfl
   rotate_left
   ·
    simp only [Act.put, setIfInBounds_toArray, set_cons_zero, set_cons_succ, i64_w, i32_w]
    rfl
   refine one_ (i := 13) (N := some 34) #[T, T, T, T, T, T, T, T, T, T, T, T, T, T, F, F] rfl rfl (one_of HT_.out (by kernel_rfl)) (by decide) (fun K hK => ?_)
   refine goes_ Try.func25 (by kernel_rfl) rfl #[.agg #[.int .u64 ((rd_T36 t223 x11_1).f0), .int .u64 ((rd_T36 t223 x11_1).f1)], .agg #[.int .u64 a3_0, .int .u64 a3_1]] (by rfl) rfl rfl (by (try simp only [List.map_toArray, List.map_cons, List.map_nil]); first | done | rfl | (simp only [List.length_drop, List.length_take]; rfl)) ?_
   with_reducible refine (mailcoachref13_Order.calls k1 ((rd_T36 t223 x11_1).f0) ((rd_T36 t223 x11_1).f1) a3_0 a3_1 t229 _ A13.out).mono ?_
   rintro e w18 ⟨rfl, hb⟩
   have HS4_ := (hb.cell (World.block_lt_of_cell? _ _ (hHeld.2.2.2.2.1))).trans (hHeld.2.2.2.2.1)
   have HS5_ := (hb.cell (World.block_lt_of_cell? _ _ (hHeld.2.2.2.2.2.1))).trans (hHeld.2.2.2.2.2.1)
   have HS6_ := (hb.cell (World.block_lt_of_cell? _ _ (hHeld.2.2.2.2.2.2.1))).trans (hHeld.2.2.2.2.2.2.1)
   have HS7_ := (hb.cell (World.block_lt_of_cell? _ _ (hHeld.2.2.2.2.2.2.2))).trans (hHeld.2.2.2.2.2.2.2)
   refine ⟨_, rfl, ?_⟩
   have n0_ := am (Kd.R_below (by (with_reducible repeat (first | apply R_alloc | apply R_drewN | apply R_drew)); exact HO_9.out) hb)
   have n1_ := am (blk_below (g := gb221) (o := .cells #[.int .u64 a2_0, .int .u64 a2_1] 36 (0, 0)) (by (with_reducible repeat (first | refine blk_drewN ?_ _ | refine blk_drew ?_ | refine blk_alloc ?_ _)); exact BK221.out) hb)
   have n2_ := am (blk_below (g := gb222) (o := .cells #[.int .u64 a3_0, .int .u64 a3_1] 36 (0, 0)) (by (with_reducible repeat (first | refine blk_drewN ?_ _ | refine blk_drew ?_ | refine blk_alloc ?_ _)); exact BK222.out) hb)
   have n3_ := am (below_step (by repeat (first | (with_reducible first | exact HB.out | apply below_alloc | apply pw_below_drewN | apply below_drew1 | refine below_set ?_ GE221.out | refine below_set ?_ GE222.out) | exact HB.out)) hb)
   clear HO_9
   clear BK221
   clear BK222
   clear HB
   have HO_9 := n0_
   have BK221 := n1_
   have BK222 := n2_
   have HB := n3_
   clear n0_ n1_ n2_ n3_
   (try clear hb)
   (try clear hb2)
   (try clear hk)
   (try clear hi)
   refine hK.out _ _ ⟨(blk_cell BK221.out 0).trans rfl, (blk_cell BK221.out 1).trans rfl, (blk_cell BK222.out 0).trans rfl, (blk_cell BK222.out 1).trans rfl, HS4_, HS5_, HS6_, HS7_⟩ (fun hHeld => ?_)
   clear hK K
   refine norm_ (a' := ?_) ?_ ?_
   rotate_left
   ·
    show Act.put _ (some 34) _ = _
    simp only [Act.put, setIfInBounds_toArray, set_cons_zero, set_cons_succ, i64_w, i32_w]
    rfl
   refine pure_ (i := 14) (N := some 35) (v := ?_) (a' := ?_) #[T, T, T, T, T, T, T, T, T, T, T, T, T, T, T, F] rfl rfl (any_of HT_.out (by kernel_rfl)) (fun _ _ _ h => h) (Or.inl ⟨by rfl, ?_⟩) ?_ ?_
   rotate_left
   ·
    intro w'
    go_simp
    with_reducible rfl
   rotate_left
   ·
    simp only [Act.put, setIfInBounds_toArray, set_cons_zero, set_cons_succ, i64_w, i32_w]
    rfl
   refine pure_ (i := 15) (N := some 36) (v := ?_) (a' := ?_) #[T, T, T, T, T, T, T, T, T, T, T, T, T, T, T, T] rfl rfl (any_of HT_.out (by kernel_rfl)) (fun _ _ _ h => h) (Or.inl ⟨by rfl, ?_⟩) ?_ ?_
   rotate_left
   ·
    intro w'
    go_simp
    with_reducible rfl
   rotate_left
   ·
    simp only [Act.put, setIfInBounds_toArray, set_cons_zero, set_cons_succ, i64_w, i32_w]
    rfl
   refine done_ (done_of HT_.out (by kernel_rfl)) ?_
   try go_wp2
   go_roundg k1
   case measure => have := HK1.out; omega
   case rel => exact ⟨(IntKind.u64.wrap (x10_1 + 1)), (wrap64 (x11_1 + 1)), (by first | rfl | (simp; done) | (simp [*]; done)), (by first | rfl | (simp; done) | (simp [*]; done)), H', ⟨by have := HK1.out; omega⟩, ⟨by (with_reducible repeat (first | apply R_alloc | apply R_drewN | apply R_drew)); exact HO_9.out⟩, ⟨by (with_reducible repeat (first | refine blk_drewN ?_ _ | refine blk_drew ?_ | refine blk_alloc ?_ _)); exact BK221.out⟩, ⟨by (with_reducible repeat (first | refine blk_drewN ?_ _ | refine blk_drew ?_ | refine blk_alloc ?_ _)); exact BK222.out⟩, ⟨by repeat (first | (with_reducible first | exact HB.out | apply below_alloc | apply pw_below_drewN | apply below_drew1 | refine below_set ?_ GE221.out | refine below_set ?_ GE222.out) | exact HB.out)⟩⟩

/-! ### mailcoachref13_Behind: function 28 -/
def mailcoachref13_Behind.f (a0_0 : Int) (a0_1 : Int) : Option (Int × Int) := if a0_1 = 18446744073709551615 then (some (IntKind.u64.wrap (a0_0 + 1), 0)) else (some (a0_0, IntKind.u64.wrap (a0_1 + 1)))
set_option maxHeartbeats 8000000 in
set_option maxRecDepth 100000 in
theorem mailcoachref13_Behind.calls (a0_0 : Int) (a0_1 : Int) (r1 : Int) (r2 : Int) (w : World) (h : mailcoachref13_Behind.f a0_0 a0_1 = some (r1, r2)) :
    Calls Try.prog 28 #[.agg #[.int .u64 a0_0, .int .u64 a0_1]] w fun e w' => e = .returned (.agg #[.int .u64 r1, .int .u64 r2]) ∧ Below w.heap.size w w' := by
 have hu36 := Try.underlying36
 have HB := am (Below.refl w.heap.size w)
 have H : (if a0_1 = 18446744073709551615 then (some (IntKind.u64.wrap (a0_0 + 1), 0)) else (some (a0_0, IntKind.u64.wrap (a0_1 + 1)))) = some (r1, r2) := h
 clear h
 by_cases c2 : a0_1 = 18446744073709551615
 rotate_left
 ·
  rw [if_neg c2] at H
  have c2b0 : (a0_1 == 18446744073709551615) = false := beq_eq_false_iff_ne.mpr c2
  have c2b1 : (a0_1 != 18446744073709551615) = true := bne_iff_ne.mpr c2
  simp only [Option.some.injEq, Prod.mk.injEq] at H
  obtain ⟨rfl, rfl⟩ := H
  go_enter Try.func28, Try.ntmps28
  go_wp2_with (first | ((with_reducible refine gate_dst (N := 1) rfl ?_); refine box_event ?hg (N := 1) ?hd (cs := #[.int .u64 a0_0, .int .u64 a0_1]) (t := 36) ?hr ?_; (case hd => rfl); (case hg => rfl); (case hr => first | (go_simp; done) | (go_simp; rfl)); intro gb230 hg w8 hbox hb; have n0_ := am (below_step (by repeat (first | (with_reducible first | exact HB.out | apply below_alloc | apply pw_below_drewN | apply below_drew1) | exact HB.out)) hb); have n1_ := am (hbox); have n2_ := am ((by rw [hg]; exact (below_size (by repeat (first | (with_reducible first | exact HB.out | apply below_alloc | apply pw_below_drewN | apply below_drew1) | exact HB.out))) : w.heap.size ≤ gb230)); have n3_ := am ((by rw [hg]; exact (below_size (by repeat (first | (with_reducible first | exact HB.out | apply below_alloc | apply pw_below_drewN | apply below_drew1) | exact HB.out))) : w.heap.size ≤ gb230)); clear HB; have HB := n0_; have BK230 := n1_; have GW230 := n2_; have GE230 := n3_; clear n0_ n1_ n2_ n3_; clear hb hbox hg) | ((with_reducible refine gate_dst (N := 2) rfl ?_); refine box_event ?hg (N := 2) ?hd (cs := #[.int .u64 0, .int .u64 0]) (t := 36) ?hr ?_; (case hd => rfl); (case hg => rfl); (case hr => first | (go_simp; done) | (go_simp; rfl)); intro gb231 hg w9 hbox hb; have n0_ := am (blk_below (g := gb230) (o := .cells #[.int .u64 a0_0, .int .u64 a0_1] 36 (0, 0)) (by (with_reducible repeat (first | refine blk_drewN ?_ _ | refine blk_drew ?_ | refine blk_alloc ?_ _)); exact BK230.out) hb); have n1_ := am (below_step (by repeat (first | (with_reducible first | exact HB.out | apply below_alloc | apply pw_below_drewN | apply below_drew1 | refine below_set ?_ GE230.out) | exact HB.out)) hb); have n2_ := am (hbox); have n3_ := am ((by rw [hg]; exact (below_size (by repeat (first | (with_reducible first | exact HB.out | apply below_alloc | apply pw_below_drewN | apply below_drew1 | refine below_set ?_ GE230.out) | exact HB.out))) : w.heap.size ≤ gb231)); have n4_ := am ((by rw [hg]; exact (below_size (by repeat (first | (with_reducible first | exact HB.out | apply below_alloc | apply pw_below_drewN | apply below_drew1 | refine below_set ?_ GE230.out) | exact HB.out))) : w.heap.size ≤ gb231)); have n5_ := am ((by rw [hg]; exact Nat.ne_of_lt (blk_lt (g := gb230) (o := .cells #[.int .u64 a0_0, .int .u64 a0_1] 36 (0, 0)) (by (with_reducible repeat (first | refine blk_drewN ?_ _ | refine blk_drew ?_ | refine blk_alloc ?_ _)); exact BK230.out)) : gb230 ≠ gb231)); have n6_ := am ((by rw [hg]; exact Nat.ne_of_gt (blk_lt (g := gb230) (o := .cells #[.int .u64 a0_0, .int .u64 a0_1] 36 (0, 0)) (by (with_reducible repeat (first | refine blk_drewN ?_ _ | refine blk_drew ?_ | refine blk_alloc ?_ _)); exact BK230.out)) : gb231 ≠ gb230)); clear BK230; clear HB; have BK230 := n0_; have HB := n1_; have BK231 := n2_; have GW231 := n3_; have GE231 := n4_; have NB230_231 := n5_; have NB231_230 := n6_; clear n0_ n1_ n2_ n3_ n4_ n5_ n6_; clear hb hbox hg; have hnb10 := NB230_231.out; have hnc10 := NB231_230.out; have hcz11_0 : w9.cell? ⟨gb230, 0, none⟩ = some (.int .u64 a0_0) := (blk_cell BK230.out 0).trans rfl; have hcz11_1 : w9.cell? ⟨gb230, 1, none⟩ = some (.int .u64 a0_1) := (blk_cell BK230.out 1).trans rfl; have hfz11_0 := blk_frozen BK230.out 0; have hfz11_1 := blk_frozen BK230.out 1; have hcz12_0 : w9.cell? ⟨gb231, 0, none⟩ = some (.int .u64 0) := (blk_cell BK231.out 0).trans rfl; have hcz12_1 : w9.cell? ⟨gb231, 1, none⟩ = some (.int .u64 0) := (blk_cell BK231.out 1).trans rfl; have hfz12_0 := blk_frozen BK231.out 0; have hfz12_1 := blk_frozen BK231.out 1))
  refine bodyPost_ret (results_cell_row rfl _ _ gb231 36 #[.int .u64 a0_0, .int .u64 (IntKind.u64.wrap (a0_1 + 1))] (0, 0) _ rfl (by (with_reducible repeat (first | refine blk_drewN ?_ _ | refine blk_drew ?_ | refine blk_alloc ?_ _)); refine blk_put (cs := #[.int .u64 a0_0, .int .u64 0]) ?_ 1 _ rfl; (with_reducible repeat (first | refine blk_drewN ?_ _ | refine blk_drew ?_ | refine blk_alloc ?_ _)); refine blk_put (cs := #[.int .u64 0, .int .u64 0]) ?_ 0 _ rfl; (with_reducible repeat (first | refine blk_drewN ?_ _ | refine blk_drew ?_ | refine blk_alloc ?_ _)); exact BK231.out) Try.underlying36 rfl (by kernel_rfl)) rfl ?_
  exact ⟨by first | rfl | (simp [errW_none, errW_some] <;> rfl) | (simp [*, errW_none, errW_some] <;> rfl), by repeat (first | (with_reducible first | exact HB.out | apply below_alloc | apply pw_below_drewN | apply below_drew1 | refine below_set ?_ GE230.out | refine below_set ?_ GE231.out) | exact HB.out)⟩
 rw [if_pos c2] at H
 have c2b0 : (a0_1 == 18446744073709551615) = true := beq_iff_eq.mpr c2
 have c2b1 : (a0_1 != 18446744073709551615) = false := bne_eq_false_iff_eq.mpr c2
 clear c2
 simp only [Option.some.injEq, Prod.mk.injEq] at H
 obtain ⟨rfl, rfl⟩ := H
 go_enter Try.func28, Try.ntmps28
 go_wp2_with (first | ((with_reducible refine gate_dst (N := 1) rfl ?_); refine box_event ?hg (N := 1) ?hd (cs := #[.int .u64 a0_0, .int .u64 a0_1]) (t := 36) ?hr ?_; (case hd => rfl); (case hg => rfl); (case hr => first | (go_simp; done) | (go_simp; rfl)); intro gb230 hg w3 hbox hb; have n0_ := am (below_step (by repeat (first | (with_reducible first | exact HB.out | apply below_alloc | apply pw_below_drewN | apply below_drew1) | exact HB.out)) hb); have n1_ := am (hbox); have n2_ := am ((by rw [hg]; exact (below_size (by repeat (first | (with_reducible first | exact HB.out | apply below_alloc | apply pw_below_drewN | apply below_drew1) | exact HB.out))) : w.heap.size ≤ gb230)); have n3_ := am ((by rw [hg]; exact (below_size (by repeat (first | (with_reducible first | exact HB.out | apply below_alloc | apply pw_below_drewN | apply below_drew1) | exact HB.out))) : w.heap.size ≤ gb230)); clear HB; have HB := n0_; have BK230 := n1_; have GW230 := n2_; have GE230 := n3_; clear n0_ n1_ n2_ n3_; clear hb hbox hg) | ((with_reducible refine gate_dst (N := 2) rfl ?_); refine box_event ?hg (N := 2) ?hd (cs := #[.int .u64 0, .int .u64 0]) (t := 36) ?hr ?_; (case hd => rfl); (case hg => rfl); (case hr => first | (go_simp; done) | (go_simp; rfl)); intro gb231 hg w4 hbox hb; have n0_ := am (blk_below (g := gb230) (o := .cells #[.int .u64 a0_0, .int .u64 a0_1] 36 (0, 0)) (by (with_reducible repeat (first | refine blk_drewN ?_ _ | refine blk_drew ?_ | refine blk_alloc ?_ _)); exact BK230.out) hb); have n1_ := am (below_step (by repeat (first | (with_reducible first | exact HB.out | apply below_alloc | apply pw_below_drewN | apply below_drew1 | refine below_set ?_ GE230.out) | exact HB.out)) hb); have n2_ := am (hbox); have n3_ := am ((by rw [hg]; exact (below_size (by repeat (first | (with_reducible first | exact HB.out | apply below_alloc | apply pw_below_drewN | apply below_drew1 | refine below_set ?_ GE230.out) | exact HB.out))) : w.heap.size ≤ gb231)); have n4_ := am ((by rw [hg]; exact (below_size (by repeat (first | (with_reducible first | exact HB.out | apply below_alloc | apply pw_below_drewN | apply below_drew1 | refine below_set ?_ GE230.out) | exact HB.out))) : w.heap.size ≤ gb231)); have n5_ := am ((by rw [hg]; exact Nat.ne_of_lt (blk_lt (g := gb230) (o := .cells #[.int .u64 a0_0, .int .u64 a0_1] 36 (0, 0)) (by (with_reducible repeat (first | refine blk_drewN ?_ _ | refine blk_drew ?_ | refine blk_alloc ?_ _)); exact BK230.out)) : gb230 ≠ gb231)); have n6_ := am ((by rw [hg]; exact Nat.ne_of_gt (blk_lt (g := gb230) (o := .cells #[.int .u64 a0_0, .int .u64 a0_1] 36 (0, 0)) (by (with_reducible repeat (first | refine blk_drewN ?_ _ | refine blk_drew ?_ | refine blk_alloc ?_ _)); exact BK230.out)) : gb231 ≠ gb230)); clear BK230; clear HB; have BK230 := n0_; have HB := n1_; have BK231 := n2_; have GW231 := n3_; have GE231 := n4_; have NB230_231 := n5_; have NB231_230 := n6_; clear n0_ n1_ n2_ n3_ n4_ n5_ n6_; clear hb hbox hg; have hnb5 := NB230_231.out; have hnc5 := NB231_230.out; have hcz6_0 : w4.cell? ⟨gb230, 0, none⟩ = some (.int .u64 a0_0) := (blk_cell BK230.out 0).trans rfl; have hcz6_1 : w4.cell? ⟨gb230, 1, none⟩ = some (.int .u64 a0_1) := (blk_cell BK230.out 1).trans rfl; have hfz6_0 := blk_frozen BK230.out 0; have hfz6_1 := blk_frozen BK230.out 1; have hcz7_0 : w4.cell? ⟨gb231, 0, none⟩ = some (.int .u64 0) := (blk_cell BK231.out 0).trans rfl; have hcz7_1 : w4.cell? ⟨gb231, 1, none⟩ = some (.int .u64 0) := (blk_cell BK231.out 1).trans rfl; have hfz7_0 := blk_frozen BK231.out 0; have hfz7_1 := blk_frozen BK231.out 1))
 refine bodyPost_ret (results_cell_row rfl _ _ gb231 36 #[.int .u64 (IntKind.u64.wrap (a0_0 + 1)), .int .u64 0] (0, 0) _ rfl (by (with_reducible repeat (first | refine blk_drewN ?_ _ | refine blk_drew ?_ | refine blk_alloc ?_ _)); refine blk_put (cs := #[.int .u64 (IntKind.u64.wrap (a0_0 + 1)), .int .u64 0]) ?_ 1 _ rfl; (with_reducible repeat (first | refine blk_drewN ?_ _ | refine blk_drew ?_ | refine blk_alloc ?_ _)); refine blk_put (cs := #[.int .u64 0, .int .u64 0]) ?_ 0 _ rfl; (with_reducible repeat (first | refine blk_drewN ?_ _ | refine blk_drew ?_ | refine blk_alloc ?_ _)); exact BK231.out) Try.underlying36 rfl (by kernel_rfl)) rfl ?_
 exact ⟨by first | rfl | (simp [errW_none, errW_some] <;> rfl) | (simp [*, errW_none, errW_some] <;> rfl), by repeat (first | (with_reducible first | exact HB.out | apply below_alloc | apply pw_below_drewN | apply below_drew1 | refine below_set ?_ GE230.out | refine below_set ?_ GE231.out) | exact HB.out)⟩

end Go.Proofs.Ytmbealldhndeoaa.PLedgersPlaces
