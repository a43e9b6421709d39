-- Written by a program of this session's; its pattern is the kit's print.
import Derived.Test.YtmbealldhndeoaaYLedgersChecks0
import Derived.Test.YtmbealldhndeoaaYLedgersChecks3
import Derived.Test.YtmbealldhndeoaaYLedgersChecks5
import Derived.Test.YtmbealldhndeoaaYLedgersChecks6
import Derived.Test.YtmbealldhndeoaaYLedgersChecks7
import Derived.Test.YtmbealldhndeoaaYLedgersChecks8f
namespace Go.Proofs.Ytmbealldhndeoaa.PLedgersChecks
open Go.RowKit Go.Proofs.YtmbealldhndeoaaW.PrintWords Go.Proofs.YtmbealldhndeoaaW.PrintWords.Kd Go.Proofs.YtmbealldhndeoaaW.PrintLast Go.Proofs.YtmbealldhndeoaaW.PrintMore
open List (setIfInBounds_toArray set_cons_zero set_cons_succ)
attribute [local go_sem] max2_int min2_int max_two min_two max_three min_three max_four min_four   -- for this text's walks alone
set_option linter.unusedVariables false
set_option linter.unusedSimpArgs false

open mailcoachlaw13_LedgersChecks (bits22 j0 j1 j2 j3 j4 j5 tab22)
set_option maxHeartbeats 8000000 in
set_option maxRecDepth 100000 in
theorem mailcoachlaw13_LedgersChecks.calls (k : Nat) (A0 : Option Addr) (c0 : Nat) (l0 : List (S32)) (A1 : Option Addr) (c1 : Nat) (l1 : List Int) (a2 : Bool) (a3 : Int) (a4 : Int) (r : Bool) (w : World) (hr0 : Kd.C k32 w A0 l0.length l0) (hc0 : l0.length ≤ c0) (hr1 : Kd.C (Kd.int .u8) w A1 l1.length l1) (hc1 : l1.length ≤ c1) (ht_ : r = true) (h : mailcoachlaw13_LedgersChecks.f k l0 l1 a2 a3 a4 = some r) :
    Calls Try.prog 3 #[.slice A0 l0.length c0, .slice A1 l1.length c1, .bool a2, .int .u64 a3, .int .u64 a4] w fun e w' => e = .returned (.bool r) ∧ Below w.heap.size w w' := by
 have HT0_ := am ht_
 clear ht_
 have hu32 := Try.underlying32
 have HR0 := am hr0
 have HC0 := am hc0
 clear hr0 hc0
 have HR1 := am hr1
 have HC1 := am hc1
 clear hr1 hc1
 have HB := am (Below.refl w.heap.size w)
 have H : ((mailcoachlaw13_Awake.f k).bind fun t170 => (if t170 = true then (if (l0.length : Int) > 200 then (j0 k l0 l1 a2 a3 a4 true) else ((ledgers_Check.f k l0).bind fun t171 => ((mailcoachref13_Right.f k l0).bind fun t172 => (j0 k l0 l1 a2 a3 a4 (t171 != t172))))) else (some false))) = some r := h
 clear h
 replace H := Option.bind_eq_some_iff.mp H
 obtain ⟨t170, A60, H⟩ := H
 replace H : (if t170 = true then (if (l0.length : Int) > 200 then (j0 k l0 l1 a2 a3 a4 true) else ((ledgers_Check.f k l0).bind fun t171 => ((mailcoachref13_Right.f k l0).bind fun t172 => (j0 k l0 l1 a2 a3 a4 (t171 != t172))))) else (some false)) = some r := H
 have A6 := am A60
 clear A60
 by_cases c7 : t170 = true
 rotate_left
 ·
  replace c7 := Bool.eq_false_iff.mpr c7
  subst c7
  have H1 : (some false) = some r := by rw [if_neg (show ¬ (false = true) by decide)] at H; exact H
  clear H
  have H := H1
  clear H1
  as_aux_lemma =>
   exact absurd ((Option.some.inj H).trans HT0_.out) (by decide)
 subst c7
 have H1 : (if (l0.length : Int) > 200 then (j0 k l0 l1 a2 a3 a4 true) else ((ledgers_Check.f k l0).bind fun t171 => ((mailcoachref13_Right.f k l0).bind fun t172 => (j0 k l0 l1 a2 a3 a4 (t171 != t172))))) = some r := by rw [if_pos rfl] at H; exact H
 clear H
 have H := H1
 clear H1
 have HC8 := am H
 clear H
 go_enter Try.func3, Try.ntmps3
 go_upto_region 3 with (first | ((with_reducible refine gate_callee (f := 9) rfl ?_); refine goesL_ (some 19) rfl rfl Try.func9 (by kernel_rfl) rfl #[] rfl (by (try simp only [List.map_toArray, List.map_cons, List.map_nil]); first | done | rfl | (simp only [List.length_drop, List.length_take]; rfl)) ?_; (with_reducible refine (mailcoachlaw13_Awake.calls k  true _ A6.out).mono ?_); rintro e w9 ⟨rfl, hb⟩; refine ⟨_, rfl, ?_⟩; have n0_ := am (below_step (by repeat (first | (with_reducible first | exact HB.out | apply below_alloc | apply pw_below_drewN | apply below_drew1) | exact HB.out)) hb); clear HB; have HB := n0_; clear n0_; (try clear hb); (try clear hb2); (try clear hk); (try clear hi)))
 (try simp only [Act.put, setIfInBounds_toArray, set_cons_zero, set_cons_succ])
 go_cut [30] (fun v30 wc => ∃ (kq : Nat) (x30_7 : Bool), v30 = .bool x30_7 ∧ Aside0 (j0 kq l0 l1 a2 a3 a4 x30_7 = some r) ∧ Aside0 (kq ≤ k) ∧ Aside0 (Below w.heap.size w wc))
 case first =>
  have H := HC8.out
  clear HC8
  by_cases c10 : (l0.length : Int) > 200
  ·
   rw [if_pos c10] at H
   have c10b0 : decide (200 < (l0.length : Int)) = true := decide_eq_true c10
   have c10b1 : decide (200 < l0.length) = true := decide_eq_true (by omega)
   clear c10
   (first | rw [c10b0] | (simp only [i64_w, i32_w]; rw [c10b0]) | skip)
   as_aux_lemma =>
    have H' := am H
    clear H
    go_wp2
    go_meet
    case rel => exact ⟨_, (true), (by first | rfl | (simp; done) | (simp [*]; done)), H', ⟨by first | omega | exact Nat.le_refl _⟩, ⟨by repeat (first | (with_reducible first | exact HB.out | apply below_alloc | apply pw_below_drewN | apply below_drew1) | exact HB.out)⟩⟩
  rw [if_neg c10] at H
  have c10b0 : decide (200 < (l0.length : Int)) = false := decide_eq_false c10
  have c10b1 : decide (200 < l0.length) = false := decide_eq_false (by omega)
  clear c10
  (first | rw [c10b0] | (simp only [i64_w, i32_w]; rw [c10b0]) | skip)
  replace H := Option.bind_eq_some_iff.mp H
  obtain ⟨t171, A110, H⟩ := H
  replace H : ((mailcoachref13_Right.f k l0).bind fun t172 => (j0 k l0 l1 a2 a3 a4 (t171 != t172))) = some r := H
  have A11 := am A110
  clear A110
  replace H := Option.bind_eq_some_iff.mp H
  obtain ⟨t172, A120, H⟩ := H
  replace H : (j0 k l0 l1 a2 a3 a4 (t171 != t172)) = some r := H
  have A12 := am A120
  clear A120
  as_aux_lemma =>
   have H' := am H
   clear H
   go_wp2_with (first | (go_at_call 10; (with_reducible refine (ledgers_Check.calls k _ _ l0 t171 _ ?side1 ?side2 A11.out).mono ?_); (case side1 => repeat (first | exact (Kd.C_below HR0.out HB.out) | (with_reducible refine Kd.C_alloc ?_ _) | (with_reducible refine Kd.C_drewN ?_ _) | (with_reducible refine Kd.C_drew ?_))); (case side2 => exact HC0.out); rintro e w13 ⟨rfl, hb⟩; have n0_ := am (below_step (by repeat (first | (with_reducible first | exact HB.out | apply below_alloc | apply pw_below_drewN | apply below_drew1) | exact HB.out)) hb); clear HB; have HB := n0_; clear n0_; (try clear hb); (try clear hb2); (try clear hk); (try clear hi)) | (go_at_call 11; (with_reducible refine (mailcoachref13_Right.calls k _ _ l0 t172 _ ?side1 ?side2 A12.out).mono ?_); (case side1 => repeat (first | exact (Kd.C_below HR0.out HB.out) | (with_reducible refine Kd.C_alloc ?_ _) | (with_reducible refine Kd.C_drewN ?_ _) | (with_reducible refine Kd.C_drew ?_))); (case side2 => exact HC0.out); rintro e w' ⟨rfl, ⟨nd, rfl⟩⟩))
   go_meet
   case rel => exact ⟨_, ((t171 != t172)), (by first | rfl | (simp; done) | (simp [*]; done)), H', ⟨by first | omega | exact Nat.le_refl _⟩, ⟨by repeat (first | (with_reducible first | exact HB.out | apply below_alloc | apply pw_below_drewN | apply below_drew1) | exact HB.out)⟩⟩
 case rest =>
  clear HC8
  try clear c1
  try clear p2
  try clear c3
  try clear c7
  try clear c9
  try clear c10
  try clear c10b0
  try clear c10b1
  obtain ⟨kq, x30_7, rfl, HA, HJ7, HB⟩ := hcut
  cases kq with
  | zero => exact absurd HA.out (by simp [j0])
  | succ kj7 =>
   have H := HA.out
   clear HA
   simp only [j0] at H
   by_cases c14 : x30_7 = true
   ·
    subst c14
    have H1 : (some (decide ((l0.length : Int) > 200))) = some r := by rw [if_pos rfl] at H; exact H
    clear H
    have H := H1
    clear H1
    as_aux_lemma =>
     obtain rfl := Option.some.inj H
     go_wp2
     go_ret
     exact ⟨by first | rfl | (simp [errW_none, errW_some] <;> rfl) | (simp [*, errW_none, errW_some] <;> rfl), by repeat (first | (with_reducible first | exact HB.out | apply below_alloc | apply pw_below_drewN | apply below_drew1) | exact HB.out)⟩
   replace c14 := Bool.eq_false_iff.mpr c14
   subst c14
   have H1 : ((mailcoachlaw13_Made.f kj7 l1 a2).bind fun t173 => ((ledgers_Open.f kj7 t173 a3).bind fun bt176 => ((ledgers_Close.f kj7 t173 a4).bind fun bt180 => (if (t173.length : Int) > 0 then (if 0 ≤ (wrap64 ((t173.length : Int) - 1)) then (if (wrap64 ((t173.length : Int) - 1)) < (t173.length : Int) then (j1 kj7 a3 a4 t173 (t173.length : Int) bt176.1 bt176.2 bt180.1 bt180.2 0 0 (!((rd_T32 t173 (wrap64 ((t173.length : Int) - 1))).f1))) else (none)) else (none)) else (j1 kj7 a3 a4 t173 (t173.length : Int) bt176.1 bt176.2 bt180.1 bt180.2 0 0 false))))) = some r := by rw [if_neg (show ¬ (false = true) by decide)] at H; exact H
   clear H
   have H := H1
   clear H1
   replace H := Option.bind_eq_some_iff.mp H
   obtain ⟨t173, A150, H⟩ := H
   replace H : ((ledgers_Open.f kj7 t173 a3).bind fun bt176 => ((ledgers_Close.f kj7 t173 a4).bind fun bt180 => (if (t173.length : Int) > 0 then (if 0 ≤ (wrap64 ((t173.length : Int) - 1)) then (if (wrap64 ((t173.length : Int) - 1)) < (t173.length : Int) then (j1 kj7 a3 a4 t173 (t173.length : Int) bt176.1 bt176.2 bt180.1 bt180.2 0 0 (!((rd_T32 t173 (wrap64 ((t173.length : Int) - 1))).f1))) else (none)) else (none)) else (j1 kj7 a3 a4 t173 (t173.length : Int) bt176.1 bt176.2 bt180.1 bt180.2 0 0 false)))) = some r := H
   have A15 := am A150
   clear A150
   replace H := Option.bind_eq_some_iff.mp H
   obtain ⟨⟨t176, t177⟩, A160, H⟩ := H
   replace H : ((ledgers_Close.f kj7 t173 a4).bind fun bt180 => (if (t173.length : Int) > 0 then (if 0 ≤ (wrap64 ((t173.length : Int) - 1)) then (if (wrap64 ((t173.length : Int) - 1)) < (t173.length : Int) then (j1 kj7 a3 a4 t173 (t173.length : Int) t176 t177 bt180.1 bt180.2 0 0 (!((rd_T32 t173 (wrap64 ((t173.length : Int) - 1))).f1))) else (none)) else (none)) else (j1 kj7 a3 a4 t173 (t173.length : Int) t176 t177 bt180.1 bt180.2 0 0 false))) = some r := H
   have A16 := am A160
   clear A160
   replace H := Option.bind_eq_some_iff.mp H
   obtain ⟨⟨t180, t181⟩, A170, H⟩ := H
   replace H : (if (t173.length : Int) > 0 then (if 0 ≤ (wrap64 ((t173.length : Int) - 1)) then (if (wrap64 ((t173.length : Int) - 1)) < (t173.length : Int) then (j1 kj7 a3 a4 t173 (t173.length : Int) t176 t177 t180 t181 0 0 (!((rd_T32 t173 (wrap64 ((t173.length : Int) - 1))).f1))) else (none)) else (none)) else (j1 kj7 a3 a4 t173 (t173.length : Int) t176 t177 t180 t181 0 0 false)) = some r := H
   have A17 := am A170
   clear A170
   have HC18 := am H
   clear H
   go_upto_block 0 with (first | ((with_reducible refine gate_callee (f := 12) rfl ?_); refine goesL_ (some 36) rfl rfl Try.func12 (by kernel_rfl) rfl #[.slice A1 l1.length c1, .bool a2] rfl (by (try simp only [List.map_toArray, List.map_cons, List.map_nil]); first | done | rfl | (simp only [List.length_drop, List.length_take]; rfl)) ?_; (with_reducible refine (mailcoachlaw13_Made.calls kj7 _ _ l1 a2 t173 _ ?side1 ?side2 A15.out).mono ?_); (case side1 => repeat (first | exact (Kd.C_below HR1.out HB.out) | (with_reducible refine Kd.C_alloc ?_ _) | (with_reducible refine Kd.C_drewN ?_ _) | (with_reducible refine Kd.C_drew ?_))); (case side2 => exact HC1.out); rintro e w19 ⟨v174, rfl, ho0, hb⟩; refine ⟨_, rfl, ?_⟩; have n0_ := am (Kd.R_lower ho0 (below_size (by repeat (first | (with_reducible first | exact HB.out | apply below_alloc | apply pw_below_drewN | apply below_drew1) | exact HB.out)))); have n1_ := am (below_step (by repeat (first | (with_reducible first | exact HB.out | apply below_alloc | apply pw_below_drewN | apply below_drew1) | exact HB.out)) hb); clear HB; have HO175 := n0_; have HB := n1_; clear n0_ n1_; (try clear hb); (try clear hb2); (try clear hk); (try clear hi); (try clear ho0); obtain ⟨Ao20, co20, eo20⟩ := Kd.R_slice HO175.out; subst eo20) | ((with_reducible refine gate_callee (f := 13) rfl ?_); refine goesL_ (some 42) rfl rfl Try.func13 (by kernel_rfl) rfl #[.slice Ao20 t173.length co20, .int .u64 a3] rfl (by (try simp only [List.map_toArray, List.map_cons, List.map_nil]); first | done | rfl | (simp only [List.length_drop, List.length_take]; rfl)) ?_; (with_reducible refine (ledgers_Open.calls kj7 _ _ t173 a3 t176 t177 _ ?side1 ?side2 A16.out).mono ?_); (case side1 => repeat (first | exact (Kd.R_reads' HO175.out).2.2 | (with_reducible refine Kd.C_alloc ?_ _) | (with_reducible refine Kd.C_drewN ?_ _) | (with_reducible refine Kd.C_drew ?_))); (case side2 => exact (Kd.R_reads' HO175.out).2.1); rintro e w21 ⟨v178, rfl, ho0, hb⟩; refine ⟨_, rfl, ?_⟩; have n0_ := am (Kd.R_elder' (by (with_reducible repeat (first | apply R_alloc | apply R_drewN | apply R_drew)); exact HO175.out) (Kd.R_base ho0) hb); have n1_ := am (Kd.R_lower (Kd.R_new' ho0 (Kd.R_lt (by (with_reducible repeat (first | apply R_alloc | apply R_drewN | apply R_drew)); exact HO175.out))) (below_size (by repeat (first | (with_reducible first | exact HB.out | apply below_alloc | apply pw_below_drewN | apply below_drew1) | exact HB.out)))); have n2_ := am (below_step (by repeat (first | (with_reducible first | exact HB.out | apply below_alloc | apply pw_below_drewN | apply below_drew1) | exact HB.out)) hb); clear HO175; clear HB; have HO175 := n0_; have HO179 := n1_; have HB := n2_; clear n0_ n1_ n2_; (try clear hb); (try clear hb2); (try clear hk); (try clear hi); (try clear ho0)) | ((with_reducible refine gate_callee (f := 14) rfl ?_); refine goesL_ (some 48) rfl rfl Try.func14 (by kernel_rfl) rfl #[.slice Ao20 t173.length co20, .int .u64 a4] rfl (by (try simp only [List.map_toArray, List.map_cons, List.map_nil]); first | done | rfl | (simp only [List.length_drop, List.length_take]; rfl)) ?_; (with_reducible refine (ledgers_Close.calls kj7 _ _ t173 a4 t180 t181 _ ?side1 ?side2 A17.out).mono ?_); (case side1 => repeat (first | exact (Kd.R_reads' HO175.out).2.2 | (with_reducible refine Kd.C_alloc ?_ _) | (with_reducible refine Kd.C_drewN ?_ _) | (with_reducible refine Kd.C_drew ?_))); (case side2 => exact (Kd.R_reads' HO175.out).2.1); rintro e w22 ⟨v182, rfl, ho0, hb⟩; refine ⟨_, rfl, ?_⟩; have n0_ := am (Kd.R_elder' (by (with_reducible repeat (first | apply R_alloc | apply R_drewN | apply R_drew)); exact HO175.out) (Kd.R_base ho0) hb); have n1_ := am (Kd.R_elder' (by (with_reducible repeat (first | apply R_alloc | apply R_drewN | apply R_drew)); exact HO179.out) (Kd.R_base ho0) hb); have n2_ := am (Kd.R_lower (Kd.R_new' (Kd.R_new' ho0 (Kd.R_lt (by (with_reducible repeat (first | apply R_alloc | apply R_drewN | apply R_drew)); exact HO175.out))) (Kd.R_lt (by (with_reducible repeat (first | apply R_alloc | apply R_drewN | apply R_drew)); exact HO179.out))) (below_size (by repeat (first | (with_reducible first | exact HB.out | apply below_alloc | apply pw_below_drewN | apply below_drew1) | exact HB.out)))); have n3_ := am (below_step (by repeat (first | (with_reducible first | exact HB.out | apply below_alloc | apply pw_below_drewN | apply below_drew1) | exact HB.out)) hb); clear HO175; clear HO179; clear HB; have HO175 := n0_; have HO179 := n1_; have HO183 := n2_; have HB := n3_; clear n0_ n1_ n2_ n3_; (try clear hb); (try clear hb2); (try clear hk); (try clear hi); (try clear ho0)))
   (try simp only [Act.put, setIfInBounds_toArray, set_cons_zero, set_cons_succ])
   go_cut [17] (fun v17 wc => ∃ (kq : Nat) (x17_17 : Int), v17 = .int .i64 x17_17 ∧ Aside0 (j2 kq a3 a4 t173 (t173.length : Int) t176 t177 t180 t181 x17_17 0 = some r) ∧ Aside0 (kq ≤ kj7) ∧ Aside0 (Kd.R k32 32 wc w.heap.size (fun k_ => some k_ ≠ (v178 : Value).ownBlock ∧ some k_ ≠ (v182 : Value).ownBlock) (.slice Ao20 t173.length co20) t173) ∧ Aside0 (Kd.R k32 32 wc w.heap.size (fun k_ => some k_ ≠ ((.slice Ao20 t173.length co20) : Value).ownBlock ∧ some k_ ≠ (v182 : Value).ownBlock) v178 t176) ∧ Aside0 (Kd.R k32 32 wc w.heap.size (fun k_ => some k_ ≠ ((.slice Ao20 t173.length co20) : Value).ownBlock ∧ some k_ ≠ (v178 : Value).ownBlock) v182 t180) ∧ Aside0 (Below w.heap.size w wc))
   case first =>
    have H := HC18.out
    clear HC18
    have HC23 := am H
    clear H
    go_upto_region 10 with (fail)
    go_cut [51] (fun v51 wc => ∃ (kq : Nat) (x51_22 : Bool), v51 = .bool x51_22 ∧ Aside0 (j1 kq a3 a4 t173 (t173.length : Int) t176 t177 t180 t181 0 0 x51_22 = some r) ∧ Aside0 (kq ≤ kj7) ∧ Aside0 (Kd.R k32 32 wc w.heap.size (fun k_ => some k_ ≠ (v178 : Value).ownBlock ∧ some k_ ≠ (v182 : Value).ownBlock) (.slice Ao20 t173.length co20) t173) ∧ Aside0 (Kd.R k32 32 wc w.heap.size (fun k_ => some k_ ≠ ((.slice Ao20 t173.length co20) : Value).ownBlock ∧ some k_ ≠ (v182 : Value).ownBlock) v178 t176) ∧ Aside0 (Kd.R k32 32 wc w.heap.size (fun k_ => some k_ ≠ ((.slice Ao20 t173.length co20) : Value).ownBlock ∧ some k_ ≠ (v178 : Value).ownBlock) v182 t180) ∧ Aside0 (Below w.heap.size w wc))
    case first =>
     have H := HC23.out
     clear HC23
     by_cases c24 : (t173.length : Int) > 0
     rotate_left
     ·
      rw [if_neg c24] at H
      have c24b0 : decide (0 < (t173.length : Int)) = false := decide_eq_false c24
      have c24b1 : decide (0 < t173.length) = false := decide_eq_false (by omega)
      clear c24
      (first | rw [c24b0] | (simp only [i64_w, i32_w]; rw [c24b0]) | skip)
      as_aux_lemma =>
       have H' := am H
       clear H
       go_wp2
       go_meet
       case rel => exact ⟨_, (false), (by first | rfl | (simp; done) | (simp [*]; done)), H', ⟨by have := HJ7.out; first | omega | exact Nat.le_refl _⟩, ⟨by (with_reducible repeat (first | apply R_alloc | apply R_drewN | apply R_drew)); exact Kd.R_mono HO175.out (fun _ hk => ⟨hk.1.2, hk.2⟩)⟩, ⟨by (with_reducible repeat (first | apply R_alloc | apply R_drewN | apply R_drew)); exact Kd.R_mono HO179.out (fun _ hk => ⟨hk.1.2, hk.2⟩)⟩, ⟨by (with_reducible repeat (first | apply R_alloc | apply R_drewN | apply R_drew)); exact Kd.R_mono HO183.out (fun _ hk => ⟨hk.1.2, hk.2⟩)⟩, ⟨by repeat (first | (with_reducible first | exact HB.out | apply below_alloc | apply pw_below_drewN | apply below_drew1) | exact HB.out)⟩⟩
     rw [if_pos c24] at H
     have c24b0 : decide (0 < (t173.length : Int)) = true := decide_eq_true c24
     have c24b1 : decide (0 < t173.length) = true := decide_eq_true (by omega)
     clear c24
     (first | rw [c24b0] | (simp only [i64_w, i32_w]; rw [c24b0]) | skip)
     obtain ⟨ji25, hji25⟩ : ∃ j_ : Int, (wrap64 ((t173.length : Int) - 1)) = j_ := ⟨_, rfl⟩
     replace H : (if 0 ≤ (ji25) then (if (ji25) < (t173.length : Int) then (j1 kj7 a3 a4 t173 (t173.length : Int) t176 t177 t180 t181 0 0 (!((rd_T32 t173 (ji25)).f1))) else (none)) else (none)) = some r := by first | (rw [hji25] at H; exact H) | (simp only [hji25] at H ⊢; exact H)
     have hji25w : (IntKind.i64.wrap ((t173.length : Int) - 1)) = ji25 := (i64_w _).trans hji25
     by_cases c26 : 0 ≤ (ji25)
     rotate_left
     ·
      rw [if_neg c26] at H
      exact absurd H (by simp)
     rw [if_pos c26] at H
     have c26b0 : decide (0 ≤ (ji25)) = true := decide_eq_true c26
     clear c26
     by_cases c27 : (ji25) < (t173.length : Int)
     rotate_left
     ·
      rw [if_neg c27] at H
      exact absurd H (by simp)
     rw [if_pos c27] at H
     have c27b0 : decide ((ji25) < (t173.length : Int)) = true := decide_eq_true c27
     clear c27
     as_aux_lemma =>
      have H' := am H
      clear H
      have p184 : 0 ≤ ((ji25) : Int) := of_decide_eq_true (by first | (with_reducible assumption) | assumption)
      have q184 : (ji25) < (t173.length : Int) := of_decide_eq_true (by first | (with_reducible assumption) | assumption)
      obtain ⟨ad184, e184, hx184_0, hx184_1, hx184_2⟩ := at_T32 (Kd.R_reads' HO175.out).2.2 (ji25) p184 q184
      cases e184
      replace p184 := eq_true p184
      replace q184 := eq_true q184
      go_wp2
      go_meet
      case rel => exact ⟨_, (!((rd_T32 t173 (ji25)).f1)), (by first | rfl | (simp; done) | (simp only [← hji25] <;> (first | rfl | simp)) | (simp [*]; done)), H', ⟨by have := HJ7.out; first | omega | exact Nat.le_refl _⟩, ⟨by (with_reducible repeat (first | apply R_alloc | apply R_drewN | apply R_drew)); exact Kd.R_mono HO175.out (fun _ hk => ⟨hk.1.2, hk.2⟩)⟩, ⟨by (with_reducible repeat (first | apply R_alloc | apply R_drewN | apply R_drew)); exact Kd.R_mono HO179.out (fun _ hk => ⟨hk.1.2, hk.2⟩)⟩, ⟨by (with_reducible repeat (first | apply R_alloc | apply R_drewN | apply R_drew)); exact Kd.R_mono HO183.out (fun _ hk => ⟨hk.1.2, hk.2⟩)⟩, ⟨by repeat (first | (with_reducible first | exact HB.out | apply below_alloc | apply pw_below_drewN | apply below_drew1) | exact HB.out)⟩⟩
    case rest =>
     clear HC23
     try clear c1
     try clear p1
     try clear q1
     try clear hx1
     try clear c2
     try clear p2
     try clear c3
     try clear p6
     try clear c7
     try clear c9
     try clear c10
     try clear c10b0
     try clear c10b1
     try clear c12
     try clear c13
     try clear c14
     try clear p18
     try clear q18
     try clear hx18
     try clear c24
     try clear c24b0
     try clear c24b1
     try clear c26
     try clear c26b0
     try clear c27
     try clear c27b0
     try clear hx184_0
     try clear hx184_1
     try clear hx184_2
     try clear p184
     try clear p2
     try clear q184
     obtain ⟨kq, x51_22, rfl, HA, HJ22, HO_11, HO_13, HO_15, HB⟩ := hcut
     cases kq with
     | zero => exact absurd HA.out (by simp [j1])
     | succ kj22 =>
      have H := HA.out
      clear HA
      simp only [j1] at H
      by_cases c28 : x51_22 = true
      ·
       subst c28
       have H1 : (j2 kj22 a3 a4 t173 (t173.length : Int) t176 t177 t180 t181 23 0) = some r := by rw [if_pos rfl] at H; exact H
       clear H
       have H := H1
       clear H1
       as_aux_lemma =>
        have H' := am H
        clear H
        go_wp2
        go_meet
        case rel => exact ⟨_, (23), (by first | rfl | (simp; done) | (simp [*]; done)), H', ⟨by have := HJ7.out; have := HJ22.out; first | omega | exact Nat.le_refl _⟩, ⟨by (with_reducible repeat (first | apply R_alloc | apply R_drewN | apply R_drew)); exact HO_11.out⟩, ⟨by (with_reducible repeat (first | apply R_alloc | apply R_drewN | apply R_drew)); exact HO_13.out⟩, ⟨by (with_reducible repeat (first | apply R_alloc | apply R_drewN | apply R_drew)); exact HO_15.out⟩, ⟨by repeat (first | (with_reducible first | exact HB.out | apply below_alloc | apply pw_below_drewN | apply below_drew1) | exact HB.out)⟩⟩
      replace c28 := Bool.eq_false_iff.mpr c28
      subst c28
      have H1 : (if a3 = 0 then (j2 kj22 a3 a4 t173 (t173.length : Int) t176 t177 t180 t181 30 0) else (if (t173.length : Int) > 0 then (if 0 ≤ (wrap64 ((t173.length : Int) - 1)) then (if (wrap64 ((t173.length : Int) - 1)) < (t173.length : Int) then (if a3 ≤ ((rd_T32 t173 (wrap64 ((t173.length : Int) - 1))).f0) then (j2 kj22 a3 a4 t173 (t173.length : Int) t176 t177 t180 t181 30 0) else (j2 kj22 a3 a4 t173 (t173.length : Int) t176 t177 t180 t181 0 0)) else (none)) else (none)) else (j2 kj22 a3 a4 t173 (t173.length : Int) t176 t177 t180 t181 0 0))) = some r := by rw [if_neg (show ¬ (false = true) by decide)] at H; exact H
      clear H
      have H := H1
      clear H1
      by_cases c29 : a3 = 0
      ·
       rw [if_pos c29] at H
       have c29b0 : (a3 == 0) = true := beq_iff_eq.mpr c29
       have c29b1 : (a3 != 0) = false := bne_eq_false_iff_eq.mpr c29
       clear c29
       as_aux_lemma =>
        have H' := am H
        clear H
        go_wp2
        go_meet
        case rel => exact ⟨_, (30), (by first | rfl | (simp; done) | (simp [*]; done)), H', ⟨by have := HJ7.out; have := HJ22.out; first | omega | exact Nat.le_refl _⟩, ⟨by (with_reducible repeat (first | apply R_alloc | apply R_drewN | apply R_drew)); exact HO_11.out⟩, ⟨by (with_reducible repeat (first | apply R_alloc | apply R_drewN | apply R_drew)); exact HO_13.out⟩, ⟨by (with_reducible repeat (first | apply R_alloc | apply R_drewN | apply R_drew)); exact HO_15.out⟩, ⟨by repeat (first | (with_reducible first | exact HB.out | apply below_alloc | apply pw_below_drewN | apply below_drew1) | exact HB.out)⟩⟩
      rw [if_neg c29] at H
      have c29b0 : (a3 == 0) = false := beq_eq_false_iff_ne.mpr c29
      have c29b1 : (a3 != 0) = true := bne_iff_ne.mpr c29
      by_cases c30 : (t173.length : Int) > 0
      rotate_left
      ·
       rw [if_neg c30] at H
       have c30b0 : decide (0 < (t173.length : Int)) = false := decide_eq_false c30
       have c30b1 : decide (0 < t173.length) = false := decide_eq_false (by omega)
       clear c30
       as_aux_lemma =>
        have H' := am H
        clear H
        go_wp2
        go_meet
        case rel => exact ⟨_, (0), (by first | rfl | (simp; done) | (simp [*]; done)), H', ⟨by have := HJ7.out; have := HJ22.out; first | omega | exact Nat.le_refl _⟩, ⟨by (with_reducible repeat (first | apply R_alloc | apply R_drewN | apply R_drew)); exact HO_11.out⟩, ⟨by (with_reducible repeat (first | apply R_alloc | apply R_drewN | apply R_drew)); exact HO_13.out⟩, ⟨by (with_reducible repeat (first | apply R_alloc | apply R_drewN | apply R_drew)); exact HO_15.out⟩, ⟨by repeat (first | (with_reducible first | exact HB.out | apply below_alloc | apply pw_below_drewN | apply below_drew1) | exact HB.out)⟩⟩
      rw [if_pos c30] at H
      have c30b0 : decide (0 < (t173.length : Int)) = true := decide_eq_true c30
      have c30b1 : decide (0 < t173.length) = true := decide_eq_true (by omega)
      clear c30
      obtain ⟨ji31, hji31⟩ : ∃ j_ : Int, (wrap64 ((t173.length : Int) - 1)) = j_ := ⟨_, rfl⟩
      replace H : (if 0 ≤ (ji31) then (if (ji31) < (t173.length : Int) then (if a3 ≤ ((rd_T32 t173 (ji31)).f0) then (j2 kj22 a3 a4 t173 (t173.length : Int) t176 t177 t180 t181 30 0) else (j2 kj22 a3 a4 t173 (t173.length : Int) t176 t177 t180 t181 0 0)) else (none)) else (none)) = some r := by first | (rw [hji31] at H; exact H) | (simp only [hji31] at H ⊢; exact H)
      have hji31w : (IntKind.i64.wrap ((t173.length : Int) - 1)) = ji31 := (i64_w _).trans hji31
      by_cases c32 : 0 ≤ (ji31)
      rotate_left
      ·
       rw [if_neg c32] at H
       exact absurd H (by simp)
      rw [if_pos c32] at H
      have c32b0 : decide (0 ≤ (ji31)) = true := decide_eq_true c32
      clear c32
      by_cases c33 : (ji31) < (t173.length : Int)
      rotate_left
      ·
       rw [if_neg c33] at H
       exact absurd H (by simp)
      rw [if_pos c33] at H
      have c33b0 : decide ((ji31) < (t173.length : Int)) = true := decide_eq_true c33
      clear c33
      by_cases c34 : a3 ≤ ((rd_T32 t173 (ji31)).f0)
      rotate_left
      ·
       rw [if_neg c34] at H
       have c34b0 : decide (a3 ≤ ((rd_T32 t173 (ji31)).f0)) = false := decide_eq_false c34
       clear c34
       as_aux_lemma =>
        have H' := am H
        clear H
        have p185 : 0 ≤ ((ji31) : Int) := of_decide_eq_true (by first | (with_reducible assumption) | assumption)
        have q185 : (ji31) < (t173.length : Int) := of_decide_eq_true (by first | (with_reducible assumption) | assumption)
        obtain ⟨ad185, e185, hx185_0, hx185_1, hx185_2⟩ := at_T32 (Kd.R_reads' HO_11.out).2.2 (ji31) p185 q185
        cases e185
        replace p185 := eq_true p185
        replace q185 := eq_true q185
        go_wp2
        go_meet
        case rel => exact ⟨_, (0), (by first | rfl | (simp; done) | (simp [*]; done)), H', ⟨by have := HJ7.out; have := HJ22.out; first | omega | exact Nat.le_refl _⟩, ⟨by (with_reducible repeat (first | apply R_alloc | apply R_drewN | apply R_drew)); exact HO_11.out⟩, ⟨by (with_reducible repeat (first | apply R_alloc | apply R_drewN | apply R_drew)); exact HO_13.out⟩, ⟨by (with_reducible repeat (first | apply R_alloc | apply R_drewN | apply R_drew)); exact HO_15.out⟩, ⟨by repeat (first | (with_reducible first | exact HB.out | apply below_alloc | apply pw_below_drewN | apply below_drew1) | exact HB.out)⟩⟩
      rw [if_pos c34] at H
      have c34b0 : decide (a3 ≤ ((rd_T32 t173 (ji31)).f0)) = true := decide_eq_true c34
      clear c34
      as_aux_lemma =>
       have H' := am H
       clear H
       have p185 : 0 ≤ ((ji31) : Int) := of_decide_eq_true (by first | (with_reducible assumption) | assumption)
       have q185 : (ji31) < (t173.length : Int) := of_decide_eq_true (by first | (with_reducible assumption) | assumption)
       obtain ⟨ad185, e185, hx185_0, hx185_1, hx185_2⟩ := at_T32 (Kd.R_reads' HO_11.out).2.2 (ji31) p185 q185
       cases e185
       replace p185 := eq_true p185
       replace q185 := eq_true q185
       go_wp2
       go_meet
       case rel => exact ⟨_, (30), (by first | rfl | (simp; done) | (simp [*]; done)), H', ⟨by have := HJ7.out; have := HJ22.out; first | omega | exact Nat.le_refl _⟩, ⟨by (with_reducible repeat (first | apply R_alloc | apply R_drewN | apply R_drew)); exact HO_11.out⟩, ⟨by (with_reducible repeat (first | apply R_alloc | apply R_drewN | apply R_drew)); exact HO_13.out⟩, ⟨by (with_reducible repeat (first | apply R_alloc | apply R_drewN | apply R_drew)); exact HO_15.out⟩, ⟨by repeat (first | (with_reducible first | exact HB.out | apply below_alloc | apply pw_below_drewN | apply below_drew1) | exact HB.out)⟩⟩
   case rest =>
    clear HC18
    try clear c1
    try clear p1
    try clear q1
    try clear hx1
    try clear c2
    try clear p2
    try clear c3
    try clear p6
    try clear c7
    try clear c9
    try clear c10
    try clear c10b0
    try clear c10b1
    try clear c12
    try clear c13
    try clear c14
    try clear p18
    try clear q18
    try clear hx18
    try clear c24
    try clear c24b0
    try clear c24b1
    try clear c26
    try clear c26b0
    try clear c27
    try clear c27b0
    try clear c28
    try clear c29
    try clear c29b0
    try clear c29b1
    try clear c30
    try clear c30b0
    try clear c30b1
    try clear c32
    try clear c32b0
    try clear c33
    try clear c33b0
    try clear c34
    try clear c34b0
    try clear hx184_0
    try clear hx184_1
    try clear hx184_2
    try clear hx185_0
    try clear hx185_1
    try clear hx185_2
    try clear p1
    try clear p18
    try clear p184
    try clear p185
    try clear p2
    try clear p6
    try clear q1
    try clear q18
    try clear q184
    try clear q185
    obtain ⟨kq, x17_17, rfl, HA, HJ17, HO_11, HO_13, HO_15, HB⟩ := hcut
    cases kq with
    | zero => exact absurd HA.out (by simp [j2])
    | succ kj17 =>
     have H := HA.out
     clear HA
     simp only [j2] at H
     have HC35 := am H
     clear H
     go_upto_block 1 with (fail)
     go_cut [18] (fun v18 wc => ∃ (kq : Nat) (x18_34 : Int), v18 = .int .i64 x18_34 ∧ Aside0 (j4 kq a3 a4 t173 (t173.length : Int) t176 t177 t180 t181 x17_17 x18_34 = some r) ∧ Aside0 (kq ≤ kj17) ∧ Aside0 (Kd.R k32 32 wc w.heap.size (fun k_ => some k_ ≠ (v178 : Value).ownBlock ∧ some k_ ≠ (v182 : Value).ownBlock) (.slice Ao20 t173.length co20) t173) ∧ Aside0 (Kd.R k32 32 wc w.heap.size (fun k_ => some k_ ≠ ((.slice Ao20 t173.length co20) : Value).ownBlock ∧ some k_ ≠ (v182 : Value).ownBlock) v178 t176) ∧ Aside0 (Kd.R k32 32 wc w.heap.size (fun k_ => some k_ ≠ ((.slice Ao20 t173.length co20) : Value).ownBlock ∧ some k_ ≠ (v178 : Value).ownBlock) v182 t180) ∧ Aside0 (Below w.heap.size w wc))
     case first =>
      have H := HC35.out
      clear HC35
      have HC36 := am H
      clear H
      go_upto_region 14 with (fail)
      go_cut [80] (fun v80 wc => ∃ (kq : Nat) (x80_35 : Bool), v80 = .bool x80_35 ∧ Aside0 (j3 kq a3 a4 t173 (t173.length : Int) t176 t177 t180 t181 x17_17 0 x80_35 = some r) ∧ Aside0 (kq ≤ kj17) ∧ Aside0 (Kd.R k32 32 wc w.heap.size (fun k_ => some k_ ≠ (v178 : Value).ownBlock ∧ some k_ ≠ (v182 : Value).ownBlock) (.slice Ao20 t173.length co20) t173) ∧ Aside0 (Kd.R k32 32 wc w.heap.size (fun k_ => some k_ ≠ ((.slice Ao20 t173.length co20) : Value).ownBlock ∧ some k_ ≠ (v182 : Value).ownBlock) v178 t176) ∧ Aside0 (Kd.R k32 32 wc w.heap.size (fun k_ => some k_ ≠ ((.slice Ao20 t173.length co20) : Value).ownBlock ∧ some k_ ≠ (v178 : Value).ownBlock) v182 t180) ∧ Aside0 (Below w.heap.size w wc))
      case first =>
       have H := HC36.out
       clear HC36
       by_cases c37 : (t173.length : Int) = 0
       ·
        rw [if_pos c37] at H
        have c37b0 : ((t173.length : Int) == 0) = true := beq_iff_eq.mpr c37
        have c37b1 : ((t173.length : Int) != 0) = false := bne_eq_false_iff_eq.mpr c37
        clear c37
        (first | rw [c37b0] | (simp only [i64_w, i32_w]; rw [c37b0]) | skip)
        as_aux_lemma =>
         have H' := am H
         clear H
         go_wp2
         go_meet
         case rel => exact ⟨_, (true), (by first | rfl | (simp; done) | (simp [*]; done)), H', ⟨by have := HJ7.out; have := HJ17.out; first | omega | exact Nat.le_refl _⟩, ⟨by (with_reducible repeat (first | apply R_alloc | apply R_drewN | apply R_drew)); exact HO_11.out⟩, ⟨by (with_reducible repeat (first | apply R_alloc | apply R_drewN | apply R_drew)); exact HO_13.out⟩, ⟨by (with_reducible repeat (first | apply R_alloc | apply R_drewN | apply R_drew)); exact HO_15.out⟩, ⟨by repeat (first | (with_reducible first | exact HB.out | apply below_alloc | apply pw_below_drewN | apply below_drew1) | exact HB.out)⟩⟩
       rw [if_neg c37] at H
       have c37b0 : ((t173.length : Int) == 0) = false := beq_eq_false_iff_ne.mpr c37
       have c37b1 : ((t173.length : Int) != 0) = true := bne_iff_ne.mpr c37
       have c37b2 : ¬ (t173 = []) := fun h_ => c37 (by rw [h_]; rfl)
       (first | rw [c37b0] | (simp only [i64_w, i32_w]; rw [c37b0]) | skip)
       obtain ⟨ji38, hji38⟩ : ∃ j_ : Int, (wrap64 ((t173.length : Int) - 1)) = j_ := ⟨_, rfl⟩
       replace H : (if 0 ≤ (ji38) then (if (ji38) < (t173.length : Int) then (j3 kj17 a3 a4 t173 (t173.length : Int) t176 t177 t180 t181 x17_17 0 ((rd_T32 t173 (ji38)).f1)) else (none)) else (none)) = some r := by first | (rw [hji38] at H; exact H) | (simp only [hji38] at H ⊢; exact H)
       have hji38w : (IntKind.i64.wrap ((t173.length : Int) - 1)) = ji38 := (i64_w _).trans hji38
       by_cases c39 : 0 ≤ (ji38)
       rotate_left
       ·
        rw [if_neg c39] at H
        exact absurd H (by simp)
       rw [if_pos c39] at H
       have c39b0 : decide (0 ≤ (ji38)) = true := decide_eq_true c39
       clear c39
       by_cases c40 : (ji38) < (t173.length : Int)
       rotate_left
       ·
        rw [if_neg c40] at H
        exact absurd H (by simp)
       rw [if_pos c40] at H
       have c40b0 : decide ((ji38) < (t173.length : Int)) = true := decide_eq_true c40
       clear c40
       as_aux_lemma =>
        have H' := am H
        clear H
        have p186 : 0 ≤ ((ji38) : Int) := of_decide_eq_true (by first | (with_reducible assumption) | assumption)
        have q186 : (ji38) < (t173.length : Int) := of_decide_eq_true (by first | (with_reducible assumption) | assumption)
        obtain ⟨ad186, e186, hx186_0, hx186_1, hx186_2⟩ := at_T32 (Kd.R_reads' HO_11.out).2.2 (ji38) p186 q186
        cases e186
        replace p186 := eq_true p186
        replace q186 := eq_true q186
        go_wp2
        go_meet
        case rel => exact ⟨_, ((rd_T32 t173 (ji38)).f1), (by first | rfl | (simp; done) | (simp only [← hji38] <;> (first | rfl | simp)) | (simp [*]; done)), H', ⟨by have := HJ7.out; have := HJ17.out; first | omega | exact Nat.le_refl _⟩, ⟨by (with_reducible repeat (first | apply R_alloc | apply R_drewN | apply R_drew)); exact HO_11.out⟩, ⟨by (with_reducible repeat (first | apply R_alloc | apply R_drewN | apply R_drew)); exact HO_13.out⟩, ⟨by (with_reducible repeat (first | apply R_alloc | apply R_drewN | apply R_drew)); exact HO_15.out⟩, ⟨by repeat (first | (with_reducible first | exact HB.out | apply below_alloc | apply pw_below_drewN | apply below_drew1) | exact HB.out)⟩⟩
      case rest =>
       clear HC36
       try clear c1
       try clear p1
       try clear q1
       try clear hx1
       try clear c2
       try clear p2
       try clear c3
       try clear c4
       try clear p6
       try clear c7
       try clear c9
       try clear c10
       try clear c10b0
       try clear c10b1
       try clear c12
       try clear c13
       try clear c14
       try clear p18
       try clear q18
       try clear hx18
       try clear c24
       try clear c24b0
       try clear c24b1
       try clear c26
       try clear c26b0
       try clear c27
       try clear c27b0
       try clear c28
       try clear c29
       try clear c29b0
       try clear c29b1
       try clear c30
       try clear c30b0
       try clear c30b1
       try clear c32
       try clear c32b0
       try clear c33
       try clear c33b0
       try clear c34
       try clear c34b0
       try clear c37
       try clear c37b0
       try clear c37b1
       try clear c37b2
       try clear c39
       try clear c39b0
       try clear c40
       try clear c40b0
       try clear hx184_0
       try clear hx184_1
       try clear hx184_2
       try clear hx185_0
       try clear hx185_1
       try clear hx185_2
       try clear hx186_0
       try clear hx186_1
       try clear hx186_2
       try clear p1
       try clear p18
       try clear p184
       try clear p185
       try clear p186
       try clear p2
       try clear p6
       try clear q1
       try clear q18
       try clear q184
       try clear q185
       try clear q186
       obtain ⟨kq, x80_35, rfl, HA, HJ35, HO_11, HO_13, HO_15, HB⟩ := hcut
       cases kq with
       | zero => exact absurd HA.out (by simp [j3])
       | succ kj35 =>
        have H := HA.out
        clear HA
        simp only [j3] at H
        by_cases c41 : x80_35 = true
        ·
         subst c41
         have H1 : (j4 kj35 a3 a4 t173 (t173.length : Int) t176 t177 t180 t181 x17_17 23) = some r := by rw [if_pos rfl] at H; exact H
         clear H
         have H := H1
         clear H1
         as_aux_lemma =>
          have H' := am H
          clear H
          go_wp2
          go_meet
          case rel => exact ⟨_, (23), (by first | rfl | (simp; done) | (simp [*]; done)), H', ⟨by have := HJ7.out; have := HJ17.out; have := HJ35.out; first | omega | exact Nat.le_refl _⟩, ⟨by (with_reducible repeat (first | apply R_alloc | apply R_drewN | apply R_drew)); exact HO_11.out⟩, ⟨by (with_reducible repeat (first | apply R_alloc | apply R_drewN | apply R_drew)); exact HO_13.out⟩, ⟨by (with_reducible repeat (first | apply R_alloc | apply R_drewN | apply R_drew)); exact HO_15.out⟩, ⟨by repeat (first | (with_reducible first | exact HB.out | apply below_alloc | apply pw_below_drewN | apply below_drew1) | exact HB.out)⟩⟩
        replace c41 := Bool.eq_false_iff.mpr c41
        subst c41
        have H1 : (if a4 > 1048576 then (j4 kj35 a3 a4 t173 (t173.length : Int) t176 t177 t180 t181 x17_17 14) else (j4 kj35 a3 a4 t173 (t173.length : Int) t176 t177 t180 t181 x17_17 0)) = some r := by rw [if_neg (show ¬ (false = true) by decide)] at H; exact H
        clear H
        have H := H1
        clear H1
        by_cases c42 : a4 > 1048576
        rotate_left
        ·
         rw [if_neg c42] at H
         have c42b0 : decide (1048576 < a4) = false := decide_eq_false c42
         clear c42
         as_aux_lemma =>
          have H' := am H
          clear H
          go_wp2
          go_meet
          case rel => exact ⟨_, (0), (by first | rfl | (simp; done) | (simp [*]; done)), H', ⟨by have := HJ7.out; have := HJ17.out; have := HJ35.out; first | omega | exact Nat.le_refl _⟩, ⟨by (with_reducible repeat (first | apply R_alloc | apply R_drewN | apply R_drew)); exact HO_11.out⟩, ⟨by (with_reducible repeat (first | apply R_alloc | apply R_drewN | apply R_drew)); exact HO_13.out⟩, ⟨by (with_reducible repeat (first | apply R_alloc | apply R_drewN | apply R_drew)); exact HO_15.out⟩, ⟨by repeat (first | (with_reducible first | exact HB.out | apply below_alloc | apply pw_below_drewN | apply below_drew1) | exact HB.out)⟩⟩
        rw [if_pos c42] at H
        have c42b0 : decide (1048576 < a4) = true := decide_eq_true c42
        clear c42
        as_aux_lemma =>
         have H' := am H
         clear H
         go_wp2
         go_meet
         case rel => exact ⟨_, (14), (by first | rfl | (simp; done) | (simp [*]; done)), H', ⟨by have := HJ7.out; have := HJ17.out; have := HJ35.out; first | omega | exact Nat.le_refl _⟩, ⟨by (with_reducible repeat (first | apply R_alloc | apply R_drewN | apply R_drew)); exact HO_11.out⟩, ⟨by (with_reducible repeat (first | apply R_alloc | apply R_drewN | apply R_drew)); exact HO_13.out⟩, ⟨by (with_reducible repeat (first | apply R_alloc | apply R_drewN | apply R_drew)); exact HO_15.out⟩, ⟨by repeat (first | (with_reducible first | exact HB.out | apply below_alloc | apply pw_below_drewN | apply below_drew1) | exact HB.out)⟩⟩
     case rest =>
      clear HC35
      try clear c1
      try clear p1
      try clear q1
      try clear hx1
      try clear c2
      try clear p2
      try clear c3
      try clear c4
      try clear p6
      try clear c7
      try clear c9
      try clear c10
      try clear c10b0
      try clear c10b1
      try clear c12
      try clear c13
      try clear c14
      try clear p18
      try clear q18
      try clear hx18
      try clear c24
      try clear c24b0
      try clear c24b1
      try clear c26
      try clear c26b0
      try clear c27
      try clear c27b0
      try clear c28
      try clear c29
      try clear c29b0
      try clear c29b1
      try clear c30
      try clear c30b0
      try clear c30b1
      try clear c32
      try clear c32b0
      try clear c33
      try clear c33b0
      try clear c34
      try clear c34b0
      try clear c37
      try clear c37b0
      try clear c37b1
      try clear c37b2
      try clear c39
      try clear c39b0
      try clear c40
      try clear c40b0
      try clear c41
      try clear c42
      try clear c42b0
      try clear hx184_0
      try clear hx184_1
      try clear hx184_2
      try clear hx185_0
      try clear hx185_1
      try clear hx185_2
      try clear hx186_0
      try clear hx186_1
      try clear hx186_2
      try clear p1
      try clear p18
      try clear p184
      try clear p185
      try clear p186
      try clear p2
      try clear p6
      try clear q1
      try clear q18
      try clear q184
      try clear q185
      try clear q186
      obtain ⟨kq, x18_34, rfl, HA, HJ34, HO_11, HO_13, HO_15, HB⟩ := hcut
      cases kq with
      | zero => exact absurd HA.out (by simp [j4])
      | succ kj34 =>
       have H := HA.out
       clear HA
       simp only [j4] at H
       have HC43 := am H
       clear H
       go_upto_region 18 with (fail)
       go_cut [119] (fun v119 wc => ∃ (kq : Nat) (x119_42 : Bool), v119 = .bool x119_42 ∧ Aside0 (j5 kq a3 a4 t173 (t173.length : Int) t176 t177 t180 t181 x119_42 = some r) ∧ Aside0 (kq ≤ kj34) ∧ Aside0 (Kd.R k32 32 wc w.heap.size (fun k_ => some k_ ≠ (v178 : Value).ownBlock ∧ some k_ ≠ (v182 : Value).ownBlock) (.slice Ao20 t173.length co20) t173) ∧ Aside0 (Kd.R k32 32 wc w.heap.size (fun k_ => some k_ ≠ ((.slice Ao20 t173.length co20) : Value).ownBlock ∧ some k_ ≠ (v182 : Value).ownBlock) v178 t176) ∧ Aside0 (Kd.R k32 32 wc w.heap.size (fun k_ => some k_ ≠ ((.slice Ao20 t173.length co20) : Value).ownBlock ∧ some k_ ≠ (v178 : Value).ownBlock) v182 t180) ∧ Aside0 (Below w.heap.size w wc))
       case first =>
        have H := HC43.out
        clear HC43
        by_cases c44 : t177 = x17_17
        rotate_left
        ·
         rw [if_neg c44] at H
         have c44b0 : (t177 == x17_17) = false := beq_eq_false_iff_ne.mpr c44
         have c44b1 : (t177 != x17_17) = true := bne_iff_ne.mpr c44
         (first | rw [c44b0] | (simp only [i64_w, i32_w]; rw [c44b0]) | skip)
         as_aux_lemma =>
          have H' := am H
          clear H
          go_wp2
          go_meet
          case rel => exact ⟨_, (true), (by first | rfl | (simp; done) | (simp [*]; done)), H', ⟨by have := HJ7.out; have := HJ17.out; have := HJ34.out; first | omega | exact Nat.le_refl _⟩, ⟨by (with_reducible repeat (first | apply R_alloc | apply R_drewN | apply R_drew)); exact HO_11.out⟩, ⟨by (with_reducible repeat (first | apply R_alloc | apply R_drewN | apply R_drew)); exact HO_13.out⟩, ⟨by (with_reducible repeat (first | apply R_alloc | apply R_drewN | apply R_drew)); exact HO_15.out⟩, ⟨by repeat (first | (with_reducible first | exact HB.out | apply below_alloc | apply pw_below_drewN | apply below_drew1) | exact HB.out)⟩⟩
        rw [if_pos c44] at H
        have c44b0 : (t177 == x17_17) = true := beq_iff_eq.mpr c44
        have c44b1 : (t177 != x17_17) = false := bne_eq_false_iff_eq.mpr c44
        clear c44
        (first | rw [c44b0] | (simp only [i64_w, i32_w]; rw [c44b0]) | skip)
        by_cases c45 : t181 = x18_34
        rotate_left
        ·
         rw [if_neg c45] at H
         have c45b0 : (t181 == x18_34) = false := beq_eq_false_iff_ne.mpr c45
         have c45b1 : (t181 != x18_34) = true := bne_iff_ne.mpr c45
         as_aux_lemma =>
          have H' := am H
          clear H
          go_wp2
          go_meet
          case rel => exact ⟨_, (true), (by first | rfl | (simp; done) | (simp [*]; done)), H', ⟨by have := HJ7.out; have := HJ17.out; have := HJ34.out; first | omega | exact Nat.le_refl _⟩, ⟨by (with_reducible repeat (first | apply R_alloc | apply R_drewN | apply R_drew)); exact HO_11.out⟩, ⟨by (with_reducible repeat (first | apply R_alloc | apply R_drewN | apply R_drew)); exact HO_13.out⟩, ⟨by (with_reducible repeat (first | apply R_alloc | apply R_drewN | apply R_drew)); exact HO_15.out⟩, ⟨by repeat (first | (with_reducible first | exact HB.out | apply below_alloc | apply pw_below_drewN | apply below_drew1) | exact HB.out)⟩⟩
        rw [if_pos c45] at H
        have c45b0 : (t181 == x18_34) = true := beq_iff_eq.mpr c45
        have c45b1 : (t181 != x18_34) = false := bne_eq_false_iff_eq.mpr c45
        clear c45
        by_cases c46 : t177 = 0
        ·
         rw [if_pos c46] at H
         have c46b0 : (t177 == 0) = true := beq_iff_eq.mpr c46
         have c46b1 : (t177 != 0) = false := bne_eq_false_iff_eq.mpr c46
         clear c46
         by_cases c47 : t181 = 0
         ·
          rw [if_pos c47] at H
          have c47b0 : (t181 == 0) = true := beq_iff_eq.mpr c47
          have c47b1 : (t181 != 0) = false := bne_eq_false_iff_eq.mpr c47
          clear c47
          as_aux_lemma =>
           have H' := am H
           clear H
           go_wp2
           go_meet
           case rel => exact ⟨_, (false), (by first | rfl | (simp; done) | (simp [*]; done)), H', ⟨by have := HJ7.out; have := HJ17.out; have := HJ34.out; first | omega | exact Nat.le_refl _⟩, ⟨by (with_reducible repeat (first | apply R_alloc | apply R_drewN | apply R_drew)); exact HO_11.out⟩, ⟨by (with_reducible repeat (first | apply R_alloc | apply R_drewN | apply R_drew)); exact HO_13.out⟩, ⟨by (with_reducible repeat (first | apply R_alloc | apply R_drewN | apply R_drew)); exact HO_15.out⟩, ⟨by repeat (first | (with_reducible first | exact HB.out | apply below_alloc | apply pw_below_drewN | apply below_drew1) | exact HB.out)⟩⟩
         rw [if_neg c47] at H
         have c47b0 : (t181 == 0) = false := beq_eq_false_iff_ne.mpr c47
         have c47b1 : (t181 != 0) = true := bne_iff_ne.mpr c47
         as_aux_lemma =>
          have H' := am H
          clear H
          obtain ⟨Ao48, co48, eo48⟩ := Kd.R_slice HO_15.out
          subst eo48
          go_wp2
          go_meet
          case rel => exact ⟨_, (decide ((t180.length : Int) > 0)), (by first | rfl | (simp; done) | (simp [*]; done)), H', ⟨by have := HJ7.out; have := HJ17.out; have := HJ34.out; first | omega | exact Nat.le_refl _⟩, ⟨by (with_reducible repeat (first | apply R_alloc | apply R_drewN | apply R_drew)); exact HO_11.out⟩, ⟨by (with_reducible repeat (first | apply R_alloc | apply R_drewN | apply R_drew)); exact HO_13.out⟩, ⟨by (with_reducible repeat (first | apply R_alloc | apply R_drewN | apply R_drew)); exact HO_15.out⟩, ⟨by repeat (first | (with_reducible first | exact HB.out | apply below_alloc | apply pw_below_drewN | apply below_drew1) | exact HB.out)⟩⟩
        rw [if_neg c46] at H
        have c46b0 : (t177 == 0) = false := beq_eq_false_iff_ne.mpr c46
        have c46b1 : (t177 != 0) = true := bne_iff_ne.mpr c46
        by_cases c49 : (t176.length : Int) > 0
        ·
         rw [if_pos c49] at H
         have c49b0 : decide (0 < (t176.length : Int)) = true := decide_eq_true c49
         have c49b1 : decide (0 < t176.length) = true := decide_eq_true (by omega)
         clear c49
         as_aux_lemma =>
          have H' := am H
          clear H
          obtain ⟨Ao50, co50, eo50⟩ := Kd.R_slice HO_13.out
          subst eo50
          go_wp2
          go_meet
          case rel => exact ⟨_, (true), (by first | rfl | (simp; done) | (simp [*]; done)), H', ⟨by have := HJ7.out; have := HJ17.out; have := HJ34.out; first | omega | exact Nat.le_refl _⟩, ⟨by (with_reducible repeat (first | apply R_alloc | apply R_drewN | apply R_drew)); exact HO_11.out⟩, ⟨by (with_reducible repeat (first | apply R_alloc | apply R_drewN | apply R_drew)); exact HO_13.out⟩, ⟨by (with_reducible repeat (first | apply R_alloc | apply R_drewN | apply R_drew)); exact HO_15.out⟩, ⟨by repeat (first | (with_reducible first | exact HB.out | apply below_alloc | apply pw_below_drewN | apply below_drew1) | exact HB.out)⟩⟩
        rw [if_neg c49] at H
        have c49b0 : decide (0 < (t176.length : Int)) = false := decide_eq_false c49
        have c49b1 : decide (0 < t176.length) = false := decide_eq_false (by omega)
        clear c49
        by_cases c51 : t181 = 0
        ·
         rw [if_pos c51] at H
         have c51b0 : (t181 == 0) = true := beq_iff_eq.mpr c51
         have c51b1 : (t181 != 0) = false := bne_eq_false_iff_eq.mpr c51
         clear c51
         as_aux_lemma =>
          have H' := am H
          clear H
          obtain ⟨Ao52, co52, eo52⟩ := Kd.R_slice HO_13.out
          subst eo52
          go_wp2
          go_meet
          case rel => exact ⟨_, (false), (by first | rfl | (simp; done) | (simp [*]; done)), H', ⟨by have := HJ7.out; have := HJ17.out; have := HJ34.out; first | omega | exact Nat.le_refl _⟩, ⟨by (with_reducible repeat (first | apply R_alloc | apply R_drewN | apply R_drew)); exact HO_11.out⟩, ⟨by (with_reducible repeat (first | apply R_alloc | apply R_drewN | apply R_drew)); exact HO_13.out⟩, ⟨by (with_reducible repeat (first | apply R_alloc | apply R_drewN | apply R_drew)); exact HO_15.out⟩, ⟨by repeat (first | (with_reducible first | exact HB.out | apply below_alloc | apply pw_below_drewN | apply below_drew1) | exact HB.out)⟩⟩
        rw [if_neg c51] at H
        have c51b0 : (t181 == 0) = false := beq_eq_false_iff_ne.mpr c51
        have c51b1 : (t181 != 0) = true := bne_iff_ne.mpr c51
        as_aux_lemma =>
         have H' := am H
         clear H
         obtain ⟨Ao53, co53, eo53⟩ := Kd.R_slice HO_13.out
         subst eo53
         obtain ⟨Ao54, co54, eo54⟩ := Kd.R_slice HO_15.out
         subst eo54
         go_wp2
         go_meet
         case rel => exact ⟨_, (decide ((t180.length : Int) > 0)), (by first | rfl | (simp; done) | (simp [*]; done)), H', ⟨by have := HJ7.out; have := HJ17.out; have := HJ34.out; first | omega | exact Nat.le_refl _⟩, ⟨by (with_reducible repeat (first | apply R_alloc | apply R_drewN | apply R_drew)); exact HO_11.out⟩, ⟨by (with_reducible repeat (first | apply R_alloc | apply R_drewN | apply R_drew)); exact HO_13.out⟩, ⟨by (with_reducible repeat (first | apply R_alloc | apply R_drewN | apply R_drew)); exact HO_15.out⟩, ⟨by repeat (first | (with_reducible first | exact HB.out | apply below_alloc | apply pw_below_drewN | apply below_drew1) | exact HB.out)⟩⟩
       case rest =>
        clear HC43
        try clear c1
        try clear p1
        try clear q1
        try clear hx1
        try clear c2
        try clear p2
        try clear c3
        try clear c4
        try clear c5
        try clear p6
        try clear c7
        try clear c9
        try clear c10
        try clear c10b0
        try clear c10b1
        try clear c12
        try clear c13
        try clear c14
        try clear p18
        try clear q18
        try clear hx18
        try clear c24
        try clear c24b0
        try clear c24b1
        try clear c26
        try clear c26b0
        try clear c27
        try clear c27b0
        try clear c28
        try clear c29
        try clear c29b0
        try clear c29b1
        try clear c30
        try clear c30b0
        try clear c30b1
        try clear c32
        try clear c32b0
        try clear c33
        try clear c33b0
        try clear c34
        try clear c34b0
        try clear c37
        try clear c37b0
        try clear c37b1
        try clear c37b2
        try clear c39
        try clear c39b0
        try clear c40
        try clear c40b0
        try clear c41
        try clear c42
        try clear c42b0
        try clear c44
        try clear c44b0
        try clear c44b1
        try clear c45
        try clear c45b0
        try clear c45b1
        try clear c46
        try clear c46b0
        try clear c46b1
        try clear c47
        try clear c47b0
        try clear c47b1
        try clear c49
        try clear c49b0
        try clear c49b1
        try clear c51
        try clear c51b0
        try clear c51b1
        try clear hx184_0
        try clear hx184_1
        try clear hx184_2
        try clear hx185_0
        try clear hx185_1
        try clear hx185_2
        try clear hx186_0
        try clear hx186_1
        try clear hx186_2
        try clear p1
        try clear p18
        try clear p184
        try clear p185
        try clear p186
        try clear p2
        try clear p6
        try clear q1
        try clear q18
        try clear q184
        try clear q185
        try clear q186
        obtain ⟨kq, x119_42, rfl, HA, HJ42, HO_11, HO_13, HO_15, HB⟩ := hcut
        cases kq with
        | zero => exact absurd HA.out (by simp [j5])
        | succ kj42 =>
         have H := HA.out
         clear HA
         simp only [j5] at H
         by_cases c55 : x119_42 = true
         ·
          subst c55
          have H1 : (some false) = some r := by rw [if_pos rfl] at H; exact H
          clear H
          have H := H1
          clear H1
          as_aux_lemma =>
           exact absurd ((Option.some.inj H).trans HT0_.out) (by decide)
         replace c55 := Bool.eq_false_iff.mpr c55
         subst c55
         have H1 : (if t177 = 0 then ((some (([] : List (S32)) : List (S32))).bind fun y187 => (if y187.length + t173.length < 5864062014805 then ((some (y187 ++ t173 : List (S32))).bind fun y190 => ((some (([(⟨a3, false, 0⟩ : S32)] : List (S32)) : List (S32))).bind fun y193 => (if y190.length + y193.length < 5864062014805 then ((mailcoachref13_SameLedgers.f kj42 t176 (y190 ++ y193)).bind fun t199 => (if t199 = true then (if t181 = 0 then ((some (([] : List (S32)) : List (S32))).bind fun y200 => (if 0 ≤ (wrap64 ((t173.length : Int) - 1)) then (if (wrap64 ((t173.length : Int) - 1)) ≤ (t173.length : Int) then ((some (t173.take ((wrap64 ((t173.length : Int) - 1)) : Int).toNat : List (S32))).bind fun y203 => (if y200.length + y203.length < 5864062014805 then ((some (y200 ++ y203 : List (S32))).bind fun y207 => (if (wrap64 ((t173.length : Int) - 1)) < (t173.length : Int) then ((some (([(⟨(rd_T32 t173 (wrap64 ((t173.length : Int) - 1))).f0, true, a4⟩ : S32)] : List (S32)) : List (S32))).bind fun y211 => (if y207.length + y211.length < 5864062014805 then ((mailcoachref13_SameLedgers.f kj42 t180 (y207 ++ y211)).bind fun t217 => (some t217)) else (none))) else (none))) else (none))) else (none)) else (none))) else (some true)) else (some false))) else (none)))) else (none))) else (if t181 = 0 then ((some (([] : List (S32)) : List (S32))).bind fun y218 => (if 0 ≤ (wrap64 ((t173.length : Int) - 1)) then (if (wrap64 ((t173.length : Int) - 1)) ≤ (t173.length : Int) then ((some (t173.take ((wrap64 ((t173.length : Int) - 1)) : Int).toNat : List (S32))).bind fun y221 => (if y218.length + y221.length < 5864062014805 then ((some (y218 ++ y221 : List (S32))).bind fun y225 => (if (wrap64 ((t173.length : Int) - 1)) < (t173.length : Int) then ((some (([(⟨(rd_T32 t173 (wrap64 ((t173.length : Int) - 1))).f0, true, a4⟩ : S32)] : List (S32)) : List (S32))).bind fun y229 => (if y225.length + y229.length < 5864062014805 then ((mailcoachref13_SameLedgers.f kj42 t180 (y225 ++ y229)).bind fun t235 => (some t235)) else (none))) else (none))) else (none))) else (none)) else (none))) else (some true))) = some r := by rw [if_neg (show ¬ (false = true) by decide)] at H; exact H
         clear H
         have H := H1
         clear H1
         by_cases c56 : t177 = 0
         rotate_left
         ·
          rw [if_neg c56] at H
          have c56b0 : (t177 == 0) = false := beq_eq_false_iff_ne.mpr c56
          have c56b1 : (t177 != 0) = true := bne_iff_ne.mpr c56
          by_cases c100 : t181 = 0
          rotate_left
          ·
           rw [if_neg c100] at H
           have c100b0 : (t181 == 0) = false := beq_eq_false_iff_ne.mpr c100
           have c100b1 : (t181 != 0) = true := bne_iff_ne.mpr c100
           as_aux_lemma =>
            obtain rfl := Option.some.inj H
            try go_wp2
            have n0_ := am (Kd.R_drew HO_11.out)
            have n1_ := am (Kd.R_drew HO_13.out)
            have n2_ := am (Kd.R_drew HO_15.out)
            have n3_ := am (below_drew1 HB.out)
            clear HO_11
            clear HO_13
            clear HO_15
            clear HB
            have HO_11 := n0_
            have HO_13 := n1_
            have HO_15 := n2_
            have HB := n3_
            clear n0_ n1_ n2_ n3_
            refine start_ (n := 23) (S := fun w' => True) (ds := []) #[F, F, F, F, F, F, F, F, F, F, F, F, F, F, F, F, F, F, F, F, F, F, F] (by kernel_rfl) rfl rfl trivial (fun hHeld => ?_); refine with_tabW tab22 bits22 (fun HT_ HW_ => ?_)
            generalize wc.drew = w120 at HO_11 HO_13 HO_15 HB hHeld ⊢
            refine pure_ (i := 0) (N := some 134) (v := ?_) (a' := ?_) #[T, F, F, F, F, F, F, F, F, F, F, F, F, F, F, F, F, F, F, F, F, F, F] rfl rfl (any_of HT_.out (by kernel_rfl)) (fun _ _ _ h => h) (Or.inl ⟨by rfl, ?_⟩) ?_ ?_
            rotate_left
            ·
             intro w'
             go_simp
             with_reducible rfl
            rotate_left
            ·
             simp only [Act.put, setIfInBounds_toArray, set_cons_zero, set_cons_succ, i64_w, i32_w]
             rfl
            refine pure_ (i := 1) (N := some 135) (v := ?_) (a' := ?_) #[T, T, F, F, F, F, F, F, F, F, F, F, F, F, F, F, F, F, F, F, F, F, F] rfl rfl (any_of HT_.out (by kernel_rfl)) (fun _ _ _ h => h) (Or.inl ⟨by rfl, ?_⟩) ?_ ?_
            rotate_left
            ·
             intro w'
             go_simp
             with_reducible rfl
            rotate_left
            ·
             simp only [Act.put, setIfInBounds_toArray, set_cons_zero, set_cons_succ, i64_w, i32_w]
             rfl
            refine pure_ (i := 2) (N := some 136) (v := ?_) (a' := ?_) #[T, T, T, F, F, F, F, F, F, F, F, F, F, F, F, F, F, F, F, F, F, F, F] rfl rfl (any_of HT_.out (by kernel_rfl)) (fun _ _ _ h => h) (Or.inl ⟨by rfl, ?_⟩) ?_ ?_
            rotate_left
            ·
             intro w'
             go_simp
             with_reducible rfl
            rotate_left
            ·
             simp only [Act.put, setIfInBounds_toArray, set_cons_zero, set_cons_succ, i64_w, i32_w]
             rfl
            refine pure_ (i := 3) (N := some 137) (v := undef) (a' := ?_) #[T, T, T, T, F, F, F, F, F, F, F, F, F, F, F, F, F, F, F, F, F, F, F] rfl rfl (any_of HT_.out (by kernel_rfl)) (fun _ _ _ h => h) (Or.inr ⟨by rfl, rfl⟩) ?_ ?_
            rotate_left
            ·
             simp only [Act.put, setIfInBounds_toArray, set_cons_zero, set_cons_succ, i64_w, i32_w]
             rfl
            refine pure_ (i := 4) (N := some 138) (v := undef) (a' := ?_) #[T, T, T, T, T, F, F, F, F, F, F, F, F, F, F, F, F, F, F, F, F, F, F] rfl rfl (any_of HT_.out (by kernel_rfl)) (fun _ _ _ h => h) (Or.inr ⟨by rfl, rfl⟩) ?_ ?_
            rotate_left
            ·
             simp only [Act.put, setIfInBounds_toArray, set_cons_zero, set_cons_succ, i64_w, i32_w]
             rfl
            refine pure_ (i := 5) (N := some 139) (v := undef) (a' := ?_) #[T, T, T, T, T, T, F, F, F, F, F, F, F, F, F, F, F, F, F, F, F, F, F] rfl rfl (any_of HT_.out (by kernel_rfl)) (fun _ _ _ h => h) (Or.inr ⟨by rfl, rfl⟩) ?_ ?_
            rotate_left
            ·
             simp only [Act.put, setIfInBounds_toArray, set_cons_zero, set_cons_succ, i64_w, i32_w]
             rfl
            refine pure_ (i := 6) (N := some 140) (v := undef) (a' := ?_) #[T, T, T, T, T, T, T, F, F, F, F, F, F, F, F, F, F, F, F, F, F, F, F] rfl rfl (any_of HT_.out (by kernel_rfl)) (fun _ _ _ h => h) (Or.inr ⟨by rfl, rfl⟩) ?_ ?_
            rotate_left
            ·
             simp only [Act.put, setIfInBounds_toArray, set_cons_zero, set_cons_succ, i64_w, i32_w]
             rfl
            refine pure_ (i := 7) (N := some 141) (v := undef) (a' := ?_) #[T, T, T, T, T, T, T, T, F, F, F, F, F, F, F, F, F, F, F, F, F, F, F] rfl rfl (any_of HT_.out (by kernel_rfl)) (fun _ _ _ h => h) (Or.inr ⟨by rfl, rfl⟩) ?_ ?_
            rotate_left
            ·
             simp only [Act.put, setIfInBounds_toArray, set_cons_zero, set_cons_succ, i64_w, i32_w]
             rfl
            refine pure_ (i := 8) (N := some 142) (v := undef) (a' := ?_) #[T, T, T, T, T, T, T, T, T, F, F, F, F, F, F, F, F, F, F, F, F, F, F] rfl rfl (any_of HT_.out (by kernel_rfl)) (fun _ _ _ h => h) (Or.inr ⟨by rfl, rfl⟩) ?_ ?_
            rotate_left
            ·
             simp only [Act.put, setIfInBounds_toArray, set_cons_zero, set_cons_succ, i64_w, i32_w]
             rfl
            refine pure_ (i := 9) (N := some 143) (v := undef) (a' := ?_) #[T, T, T, T, T, T, T, T, T, T, F, F, F, F, F, F, F, F, F, F, F, F, F] rfl rfl (any_of HT_.out (by kernel_rfl)) (fun _ _ _ h => h) (Or.inr ⟨by rfl, rfl⟩) ?_ ?_
            rotate_left
            ·
             simp only [Act.put, setIfInBounds_toArray, set_cons_zero, set_cons_succ, i64_w, i32_w]
             rfl
            refine pure_ (i := 10) (N := some 144) (v := undef) (a' := ?_) #[T, T, T, T, T, T, T, T, T, T, T, F, F, F, F, F, F, F, F, F, F, F, F] rfl rfl (any_of HT_.out (by kernel_rfl)) (fun _ _ _ h => h) (Or.inr ⟨by rfl, rfl⟩) ?_ ?_
            rotate_left
            ·
             simp only [Act.put, setIfInBounds_toArray, set_cons_zero, set_cons_succ, i64_w, i32_w]
             rfl
            refine pure_ (i := 11) (N := some 145) (v := undef) (a' := ?_) #[T, T, T, T, T, T, T, T, T, T, T, T, F, F, F, F, F, F, F, F, F, F, F] rfl rfl (any_of HT_.out (by kernel_rfl)) (fun _ _ _ h => h) (Or.inr ⟨by rfl, rfl⟩) ?_ ?_
            rotate_left
            ·
             simp only [Act.put, setIfInBounds_toArray, set_cons_zero, set_cons_succ, i64_w, i32_w]
             rfl
            refine pure_ (i := 12) (N := some 146) (v := undef) (a' := ?_) #[T, T, T, T, T, T, T, T, T, T, T, T, T, F, F, F, F, F, F, F, F, F, F] rfl rfl (any_of HT_.out (by kernel_rfl)) (fun _ _ _ h => h) (Or.inr ⟨by rfl, rfl⟩) ?_ ?_
            rotate_left
            ·
             simp only [Act.put, setIfInBounds_toArray, set_cons_zero, set_cons_succ, i64_w, i32_w]
             rfl
            refine pure_ (i := 13) (N := some 147) (v := undef) (a' := ?_) #[T, T, T, T, T, T, T, T, T, T, T, T, T, T, F, F, F, F, F, F, F, F, F] rfl rfl (any_of HT_.out (by kernel_rfl)) (fun _ _ _ h => h) (Or.inr ⟨by rfl, rfl⟩) ?_ ?_
            rotate_left
            ·
             simp only [Act.put, setIfInBounds_toArray, set_cons_zero, set_cons_succ, i64_w, i32_w]
             rfl
            refine pure_ (i := 14) (N := some 148) (v := undef) (a' := ?_) #[T, T, T, T, T, T, T, T, T, T, T, T, T, T, T, F, F, F, F, F, F, F, F] rfl rfl (any_of HT_.out (by kernel_rfl)) (fun _ _ _ h => h) (Or.inr ⟨by rfl, rfl⟩) ?_ ?_
            rotate_left
            ·
             simp only [Act.put, setIfInBounds_toArray, set_cons_zero, set_cons_succ, i64_w, i32_w]
             rfl
            refine pure_ (i := 15) (N := some 149) (v := undef) (a' := ?_) #[T, T, T, T, T, T, T, T, T, T, T, T, T, T, T, T, F, F, F, F, F, F, F] rfl rfl (any_of HT_.out (by kernel_rfl)) (fun _ _ _ h => h) (Or.inr ⟨by rfl, rfl⟩) ?_ ?_
            rotate_left
            ·
             simp only [Act.put, setIfInBounds_toArray, set_cons_zero, set_cons_succ, i64_w, i32_w]
             rfl
            refine pure_ (i := 16) (N := some 150) (v := undef) (a' := ?_) #[T, T, T, T, T, T, T, T, T, T, T, T, T, T, T, T, T, F, F, F, F, F, F] rfl rfl (any_of HT_.out (by kernel_rfl)) (fun _ _ _ h => h) (Or.inr ⟨by rfl, rfl⟩) ?_ ?_
            rotate_left
            ·
             simp only [Act.put, setIfInBounds_toArray, set_cons_zero, set_cons_succ, i64_w, i32_w]
             rfl
            refine pure_ (i := 17) (N := some 151) (v := undef) (a' := ?_) #[T, T, T, T, T, T, T, T, T, T, T, T, T, T, T, T, T, T, F, F, F, F, F] rfl rfl (any_of HT_.out (by kernel_rfl)) (fun _ _ _ h => h) (Or.inr ⟨by rfl, rfl⟩) ?_ ?_
            rotate_left
            ·
             simp only [Act.put, setIfInBounds_toArray, set_cons_zero, set_cons_succ, i64_w, i32_w]
             rfl
            refine pure_ (i := 18) (N := some 152) (v := undef) (a' := ?_) #[T, T, T, T, T, T, T, T, T, T, T, T, T, T, T, T, T, T, T, F, F, F, F] rfl rfl (any_of HT_.out (by kernel_rfl)) (fun _ _ _ h => h) (Or.inr ⟨by rfl, rfl⟩) ?_ ?_
            rotate_left
            ·
             simp only [Act.put, setIfInBounds_toArray, set_cons_zero, set_cons_succ, i64_w, i32_w]
             rfl
            refine pure_ (i := 19) (N := some 153) (v := undef) (a' := ?_) #[T, T, T, T, T, T, T, T, T, T, T, T, T, T, T, T, T, T, T, T, F, F, F] rfl rfl (any_of HT_.out (by kernel_rfl)) (fun _ _ _ h => h) (Or.inr ⟨by rfl, rfl⟩) ?_ ?_
            rotate_left
            ·
             simp only [Act.put, setIfInBounds_toArray, set_cons_zero, set_cons_succ, i64_w, i32_w]
             rfl
            refine pure_ (i := 20) (N := some 154) (v := undef) (a' := ?_) #[T, T, T, T, T, T, T, T, T, T, T, T, T, T, T, T, T, T, T, T, T, F, F] rfl rfl (any_of HT_.out (by kernel_rfl)) (fun _ _ _ h => h) (Or.inr ⟨by rfl, rfl⟩) ?_ ?_
            rotate_left
            ·
             simp only [Act.put, setIfInBounds_toArray, set_cons_zero, set_cons_succ, i64_w, i32_w]
             rfl
            refine pure_ (i := 21) (N := some 155) (v := ?_) (a' := ?_) #[T, T, T, T, T, T, T, T, T, T, T, T, T, T, T, T, T, T, T, T, T, T, F] rfl rfl (any_of HT_.out (by kernel_rfl)) (fun _ _ _ h => h) (Or.inl ⟨by rfl, ?_⟩) ?_ ?_
            rotate_left
            ·
             intro w'
             go_simp
             with_reducible rfl
            rotate_left
            ·
             simp only [Act.put, setIfInBounds_toArray, set_cons_zero, set_cons_succ, i64_w, i32_w]
             rfl
            refine pure_ (i := 22) (N := some 10) (v := ?_) (a' := ?_) #[T, T, T, T, T, T, T, T, T, T, T, T, T, T, T, T, T, T, T, T, T, T, T] rfl rfl (any_of HT_.out (by kernel_rfl)) (fun _ _ _ h => h) (Or.inl ⟨by rfl, ?_⟩) ?_ ?_
            rotate_left
            ·
             intro w'
             go_simp
             with_reducible rfl
            rotate_left
            ·
             simp only [Act.put, setIfInBounds_toArray, set_cons_zero, set_cons_succ, i64_w, i32_w]
             rfl
            refine done_ (done_of HT_.out (by kernel_rfl)) ?_
            try go_wp2
            go_ret
            exact ⟨by first | rfl | (simp [errW_none, errW_some] <;> rfl) | (simp [*, errW_none, errW_some] <;> rfl), by repeat (first | (with_reducible first | exact HB.out | apply below_alloc | apply pw_below_drewN | apply below_drew1) | exact HB.out)⟩
          rw [if_pos c100] at H
          have c100b0 : (t181 == 0) = true := beq_iff_eq.mpr c100
          have c100b1 : (t181 != 0) = false := bne_eq_false_iff_eq.mpr c100
          clear c100
          obtain ⟨y218, hy218⟩ : ∃ y_ : List (S32), y_ = (([] : List (S32))) := ⟨_, rfl⟩
          replace H : (if 0 ≤ (wrap64 ((t173.length : Int) - 1)) then (if (wrap64 ((t173.length : Int) - 1)) ≤ (t173.length : Int) then ((some (t173.take ((wrap64 ((t173.length : Int) - 1)) : Int).toNat : List (S32))).bind fun y221 => (if y218.length + y221.length < 5864062014805 then ((some (y218 ++ y221 : List (S32))).bind fun y225 => (if (wrap64 ((t173.length : Int) - 1)) < (t173.length : Int) then ((some (([(⟨(rd_T32 t173 (wrap64 ((t173.length : Int) - 1))).f0, true, a4⟩ : S32)] : List (S32)) : List (S32))).bind fun y229 => (if y225.length + y229.length < 5864062014805 then ((mailcoachref13_SameLedgers.f kj42 t180 (y225 ++ y229)).bind fun t235 => (some t235)) else (none))) else (none))) else (none))) else (none)) else (none)) = some r := by first | (rw [hy218]; with_reducible exact H) | (have H2_ := (Option.bind_some _ _).symm.trans H; rw [hy218]; with_reducible exact H2_) | (have H2_ := (Option.bind_some _ _).symm.trans H; with_reducible exact H2_) | with_reducible exact H | (rw [hy218]; exact H) | exact H
          have Ny218 := am hy218
          clear hy218
          obtain ⟨ji101, hji101⟩ : ∃ j_ : Int, (wrap64 ((t173.length : Int) - 1)) = j_ := ⟨_, rfl⟩
          replace H : (if 0 ≤ (ji101) then (if (ji101) ≤ (t173.length : Int) then ((some (t173.take ((ji101) : Int).toNat : List (S32))).bind fun y221 => (if y218.length + y221.length < 5864062014805 then ((some (y218 ++ y221 : List (S32))).bind fun y225 => (if (ji101) < (t173.length : Int) then ((some (([(⟨(rd_T32 t173 (ji101)).f0, true, a4⟩ : S32)] : List (S32)) : List (S32))).bind fun y229 => (if y225.length + y229.length < 5864062014805 then ((mailcoachref13_SameLedgers.f kj42 t180 (y225 ++ y229)).bind fun t235 => (some t235)) else (none))) else (none))) else (none))) else (none)) else (none)) = some r := by first | (rw [hji101] at H; exact H) | (simp only [hji101] at H ⊢; exact H)
          have hji101w : (IntKind.i64.wrap ((t173.length : Int) - 1)) = ji101 := (i64_w _).trans hji101
          by_cases c102 : 0 ≤ (ji101)
          rotate_left
          ·
           rw [if_neg c102] at H
           exact absurd H (by simp)
          rw [if_pos c102] at H
          have c102b0 := eq_true c102
          have c102b1 : decide (0 ≤ (ji101)) = true := decide_eq_true c102
          clear c102
          by_cases c103 : (ji101) ≤ (t173.length : Int)
          rotate_left
          ·
           rw [if_neg c103] at H
           exact absurd H (by simp)
          rw [if_pos c103] at H
          have c103b0 := eq_true c103
          have c103b1 : decide ((ji101) ≤ (t173.length : Int)) = true := decide_eq_true c103
          clear c103
          obtain ⟨y221, hy221⟩ : ∃ y_ : List (S32), y_ = (t173.take ((ji101) : Int).toNat) := ⟨_, rfl⟩
          replace H : (if y218.length + y221.length < 5864062014805 then ((some (y218 ++ y221 : List (S32))).bind fun y225 => (if (ji101) < (t173.length : Int) then ((some (([(⟨(rd_T32 t173 (ji101)).f0, true, a4⟩ : S32)] : List (S32)) : List (S32))).bind fun y229 => (if y225.length + y229.length < 5864062014805 then ((mailcoachref13_SameLedgers.f kj42 t180 (y225 ++ y229)).bind fun t235 => (some t235)) else (none))) else (none))) else (none)) = some r := by first | (rw [hy221]; with_reducible exact H) | (have H2_ := (Option.bind_some _ _).symm.trans H; rw [hy221]; with_reducible exact H2_) | (have H2_ := (Option.bind_some _ _).symm.trans H; with_reducible exact H2_) | with_reducible exact H | (rw [hy221]; exact H) | exact H
          have Ny221 := am hy221
          clear hy221
          by_cases c104 : y218.length + y221.length < 5864062014805
          rotate_left
          ·
           rw [if_neg c104] at H
           exact absurd H (by simp)
          rw [if_pos c104] at H
          have LMc104 := am c104
          clear c104
          obtain ⟨y225, hy225⟩ : ∃ y_ : List (S32), y_ = (y218 ++ y221) := ⟨_, rfl⟩
          replace H : (if (ji101) < (t173.length : Int) then ((some (([(⟨(rd_T32 t173 (ji101)).f0, true, a4⟩ : S32)] : List (S32)) : List (S32))).bind fun y229 => (if y225.length + y229.length < 5864062014805 then ((mailcoachref13_SameLedgers.f kj42 t180 (y225 ++ y229)).bind fun t235 => (some t235)) else (none))) else (none)) = some r := by first | (rw [hy225]; with_reducible exact H) | (have H2_ := (Option.bind_some _ _).symm.trans H; rw [hy225]; with_reducible exact H2_) | (have H2_ := (Option.bind_some _ _).symm.trans H; with_reducible exact H2_) | with_reducible exact H | (rw [hy225]; exact H) | exact H
          have Ny225 := am hy225
          clear hy225
          by_cases c105 : (ji101) < (t173.length : Int)
          rotate_left
          ·
           rw [if_neg c105] at H
           exact absurd H (by simp)
          rw [if_pos c105] at H
          have c105b0 : decide ((ji101) < (t173.length : Int)) = true := decide_eq_true c105
          clear c105
          obtain ⟨y229, hy229⟩ : ∃ y_ : List (S32), y_ = (([(⟨(rd_T32 t173 (ji101)).f0, true, a4⟩ : S32)] : List (S32))) := ⟨_, rfl⟩
          replace H : (if y225.length + y229.length < 5864062014805 then ((mailcoachref13_SameLedgers.f kj42 t180 (y225 ++ y229)).bind fun t235 => (some t235)) else (none)) = some r := by first | (rw [hy229]; with_reducible exact H) | (have H2_ := (Option.bind_some _ _).symm.trans H; rw [hy229]; with_reducible exact H2_) | (have H2_ := (Option.bind_some _ _).symm.trans H; with_reducible exact H2_) | with_reducible exact H | (rw [hy229]; exact H) | exact H
          have Ny229 := am hy229
          clear hy229
          by_cases c106 : y225.length + y229.length < 5864062014805
          rotate_left
          ·
           rw [if_neg c106] at H
           exact absurd H (by simp)
          rw [if_pos c106] at H
          have LMc106 := am c106
          clear c106
          obtain ⟨y232, hy232⟩ : ∃ y_ : List (S32), y_ = (y225 ++ y229) := ⟨_, rfl⟩
          replace H : ((mailcoachref13_SameLedgers.f kj42 t180 y232).bind fun t235 => (some t235)) = some r := by first | (rw [hy232]; with_reducible exact H) | (have H2_ := (Option.bind_some _ _).symm.trans H; rw [hy232]; with_reducible exact H2_) | (have H2_ := (Option.bind_some _ _).symm.trans H; with_reducible exact H2_) | with_reducible exact H | (rw [hy232]; exact H) | exact H
          have Ny232 := am hy232
          clear hy232
          replace H := Option.bind_eq_some_iff.mp H
          obtain ⟨t235, A1070, H⟩ := H
          replace H : (some t235) = some r := H
          have A107 := am A1070
          clear A1070
          as_aux_lemma =>
           obtain rfl := Option.some.inj H
           obtain ⟨Ao108, co108, eo108⟩ := Kd.R_slice HO_15.out
           subst eo108
           try go_wp2
           have n0_ := am (Kd.R_drew HO_11.out)
           have n1_ := am (Kd.R_drew HO_13.out)
           have n2_ := am (Kd.R_drew HO_15.out)
           have n3_ := am (below_drew1 HB.out)
           clear HO_11
           clear HO_13
           clear HO_15
           clear HB
           have HO_11 := n0_
           have HO_13 := n1_
           have HO_15 := n2_
           have HB := n3_
           clear n0_ n1_ n2_ n3_
           have q110 : ((ji101) : Int) ≤ ((t173.length : Int) : Int) := of_decide_eq_true (by first | (with_reducible assumption) | assumption)
           obtain ⟨i0110, hi0110, _, hsz110, _⟩ := info_parts info32
           have hroom110 : t173.length ≤ co20 := (Kd.R_reads' HO_11.out).2.1
           have hC110 : Kd.C k32 _ Ao20 t173.length t173 := (Kd.R_reads' HO_11.out).2.2
           have hcut110 := cut_to (P := Try.prog) 22 32 .i64 Try.underlying22 hi0110 Ao20 t173.length co20 (ji101) (of_decide_eq_true (by first | (with_reducible assumption) | assumption)) q110 hroom110
           have hr110 := Kd.C_take (m := ((ji101) : Int).toNat) hC110 (by omega)
           have hy110 : y221.length = ((ji101) : Int).toNat := (by rw [Ny221.out, List.length_take]; omega)
           rw [← Ny221.out] at hr110
           rw [← hy110] at hcut110
           have HR224 := am hr110
           have HC224 := am (show y221.length ≤ co20 from by omega)
           clear hr110 hC110 hroom110 hi0110 hsz110
           have KY110 := am hy110
           clear hy110
           have KL110 := am (show ((ji101) : Int).toNat ≤ t173.length from by omega)
           replace q110 := eq_true q110
           have p228 : 0 ≤ ((ji101) : Int) := of_decide_eq_true (by first | (with_reducible assumption) | assumption)
           have q228 : (ji101) < (t173.length : Int) := of_decide_eq_true (by first | (with_reducible assumption) | assumption)
           obtain ⟨ad228, e228, hx228_0, hx228_1, hx228_2⟩ := at_T32 (Kd.R_reads' HO_11.out).2.2 (ji101) p228 q228
           cases e228
           replace p228 := eq_true p228
           replace q228 := eq_true q228
           refine start_ (n := 23) (S := fun w' => w'.cell? (ad228.add (((ji101)).toNat * 3)) = some (.int .u64 ((rd_T32 t173 (ji101)).f0)) ∧ w'.cell? ⟨(ad228.add (((ji101)).toNat * 3)).block, (ad228.add (((ji101)).toNat * 3)).off + 1, none⟩ = some (.bool ((rd_T32 t173 (ji101)).f1)) ∧ w'.cell? ⟨(ad228.add (((ji101)).toNat * 3)).block, (ad228.add (((ji101)).toNat * 3)).off + 2, none⟩ = some (.int .u64 ((rd_T32 t173 (ji101)).f2))) (ds := []) #[F, F, F, F, F, F, F, F, F, F, F, F, F, F, F, F, F, F, F, F, F, F, F] (by kernel_rfl) rfl rfl ⟨hx228_0, hx228_1, hx228_2⟩ (fun hHeld => ?_); refine with_tabW tab22 bits22 (fun HT_ HW_ => ?_)
           generalize wc.drew = w109 at HO_11 HO_13 HO_15 HB HR224 hx228_0 hx228_1 hx228_2 hHeld ⊢
           refine pure_ (i := 0) (N := some 134) (v := ?_) (a' := ?_) #[T, F, F, F, F, F, F, F, F, F, F, F, F, F, F, F, F, F, F, F, F, F, F] rfl rfl (any_of HT_.out (by kernel_rfl)) (fun _ _ _ h => h) (Or.inl ⟨by rfl, ?_⟩) ?_ ?_
           rotate_left
           ·
            intro w'
            go_simp
            with_reducible rfl
           rotate_left
           ·
            simp only [Act.put, setIfInBounds_toArray, set_cons_zero, set_cons_succ, i64_w, i32_w]
            rfl
           refine pure_ (i := 1) (N := some 135) (v := ?_) (a' := ?_) #[T, T, F, F, F, F, F, F, F, F, F, F, F, F, F, F, F, F, F, F, F, F, F] rfl rfl (any_of HT_.out (by kernel_rfl)) (fun _ _ _ h => h) (Or.inl ⟨by rfl, ?_⟩) ?_ ?_
           rotate_left
           ·
            intro w'
            go_simp
            with_reducible rfl
           rotate_left
           ·
            simp only [Act.put, setIfInBounds_toArray, set_cons_zero, set_cons_succ, i64_w, i32_w]
            rfl
           refine pure_ (i := 2) (N := some 136) (v := ?_) (a' := ?_) #[T, T, T, F, F, F, F, F, F, F, F, F, F, F, F, F, F, F, F, F, F, F, F] rfl rfl (any_of HT_.out (by kernel_rfl)) (fun _ _ _ h => h) (Or.inl ⟨by rfl, ?_⟩) ?_ ?_
           rotate_left
           ·
            intro w'
            go_simp
            with_reducible rfl
           rotate_left
           ·
            simp only [Act.put, setIfInBounds_toArray, set_cons_zero, set_cons_succ, i64_w, i32_w]
            rfl
           refine pure_ (i := 3) (N := some 137) (v := ?_) (a' := ?_) #[T, T, T, T, F, F, F, F, F, F, F, F, F, F, F, F, F, F, F, F, F, F, F] rfl rfl (any_of HT_.out (by kernel_rfl)) (fun _ _ _ h => h) (Or.inl ⟨by rfl, ?_⟩) ?_ ?_
           rotate_left
           ·
            intro w'
            go_simp
            with_reducible rfl
           rotate_left
           ·
            simp only [Act.put, setIfInBounds_toArray, set_cons_zero, set_cons_succ, i64_w, i32_w]
            rfl
           refine pure_ (i := 5) (N := some 139) (v := ?_) (a' := ?_) #[T, T, T, T, F, T, F, F, F, F, F, F, F, F, F, F, F, F, F, F, F, F, F] rfl rfl (any_of HT_.out (by kernel_rfl)) (fun _ _ _ h => h) (Or.inl ⟨by rfl, ?_⟩) ?_ ?_
           rotate_left
           ·
            intro w'
            go_simp
            with_reducible rfl
           rotate_left
           ·
            simp only [Act.put, setIfInBounds_toArray, set_cons_zero, set_cons_succ, i64_w, i32_w]
            rfl
           refine pure_ (i := 6) (N := some 140) (v := ?_) (a' := ?_) #[T, T, T, T, F, T, T, F, F, F, F, F, F, F, F, F, F, F, F, F, F, F, F] rfl rfl (any_of HT_.out (by kernel_rfl)) (fun _ _ _ h => h) (Or.inl ⟨by rfl, ?_⟩) ?_ ?_
           rotate_left
           ·
            intro w'
            go_simp
            with_reducible rfl
           rotate_left
           ·
            simp only [Act.put, setIfInBounds_toArray, set_cons_zero, set_cons_succ, i64_w, i32_w]
            rfl
           refine pure_ (i := 7) (N := some 141) (v := ?_) (a' := ?_) #[T, T, T, T, F, T, T, T, F, F, F, F, F, F, F, F, F, F, F, F, F, F, F] rfl rfl (any_of HT_.out (by kernel_rfl)) (fun _ _ _ h => h) (Or.inl ⟨by rfl, ?_⟩) ?_ ?_
           rotate_left
           ·
            intro w'
            go_simp
            with_reducible rfl
           rotate_left
           ·
            simp only [Act.put, setIfInBounds_toArray, set_cons_zero, set_cons_succ, i64_w, i32_w]
            rfl
           refine pure_ (i := 8) (N := some 142) (v := ?_) (a' := ?_) #[T, T, T, T, F, T, T, T, T, F, F, F, F, F, F, F, F, F, F, F, F, F, F] rfl rfl (any_of HT_.out (by kernel_rfl)) (fun _ _ _ h => h) (Or.inl ⟨by rfl, ?_⟩) ?_ ?_
           rotate_left
           ·
            intro w'
            go_simp
            with_reducible rfl
           rotate_left
           ·
            simp only [Act.put, setIfInBounds_toArray, set_cons_zero, set_cons_succ, i64_w, i32_w]
            rfl
           refine pure_ (i := 10) (N := some 144) (v := ?_) (a' := ?_) #[T, T, T, T, F, T, T, T, T, F, T, F, F, F, F, F, F, F, F, F, F, F, F] rfl rfl (any_of HT_.out (by kernel_rfl)) (fun _ _ _ h => h) (Or.inl ⟨by rfl, ?_⟩) ?_ ?_
           rotate_left
           ·
            intro w'
            go_simp
            with_reducible rfl
           rotate_left
           ·
            simp only [Act.put, setIfInBounds_toArray, set_cons_zero, set_cons_succ, i64_w, i32_w]
            rfl
           refine pure_ (i := 11) (N := some 145) (v := ?_) (a' := ?_) #[T, T, T, T, F, T, T, T, T, F, T, T, F, F, F, F, F, F, F, F, F, F, F] rfl rfl (any_of HT_.out (by kernel_rfl)) (fun _ _ _ h => h) (Or.inl ⟨by rfl, ?_⟩) ?_ ?_
           rotate_left
           ·
            intro w'
            go_simp
            with_reducible rfl
           rotate_left
           ·
            simp only [Act.put, setIfInBounds_toArray, set_cons_zero, set_cons_succ, i64_w, i32_w]
            rfl
           refine pure_ (i := 12) (N := some 146) (v := ?_) (a' := ?_) #[T, T, T, T, F, T, T, T, T, F, T, T, T, F, F, F, F, F, F, F, F, F, F] rfl rfl (any_of HT_.out (by kernel_rfl)) (fun _ _ _ h => h) (Or.inl ⟨by rfl, ?_⟩) ?_ ?_
           rotate_left
           ·
            intro w'
            go_simp
            with_reducible rfl
           rotate_left
           ·
            simp only [Act.put, setIfInBounds_toArray, set_cons_zero, set_cons_succ, i64_w, i32_w]
            rfl
           refine pure_ (i := 13) (N := some 147) (v := ?_) (a' := ?_) #[T, T, T, T, F, T, T, T, T, F, T, T, T, T, F, F, F, F, F, F, F, F, F] rfl rfl (any_of HT_.out (by kernel_rfl)) (fun _ _ _ h => h) (Or.inl ⟨by rfl, ?_⟩) ?_ ?_
           rotate_left
           ·
            intro w'
            go_simp
            with_reducible rfl
           rotate_left
           ·
            simp only [Act.put, setIfInBounds_toArray, set_cons_zero, set_cons_succ, i64_w, i32_w]
            rfl
           refine pure_ (i := 14) (N := some 148) (v := ?_) (a' := ?_) #[T, T, T, T, F, T, T, T, T, F, T, T, T, T, T, F, F, F, F, F, F, F, F] rfl rfl (any_of HT_.out (by kernel_rfl)) (fun _ _ _ h => h) (Or.inl ⟨by rfl, ?_⟩) ?_ ?_
           rotate_left
           ·
            intro w'
            go_simp
            with_reducible rfl
           rotate_left
           ·
            simp only [Act.put, setIfInBounds_toArray, set_cons_zero, set_cons_succ, i64_w, i32_w]
            rfl
           refine pure_ (i := 16) (N := some 150) (v := ?_) (a' := ?_) #[T, T, T, T, F, T, T, T, T, F, T, T, T, T, T, F, T, F, F, F, F, F, F] rfl rfl (any_of HT_.out (by kernel_rfl)) (fun _ _ _ h => h) (Or.inl ⟨by rfl, ?_⟩) ?_ ?_
           rotate_left
           ·
            intro w'
            go_simp
            with_reducible rfl
           rotate_left
           ·
            simp only [Act.put, setIfInBounds_toArray, set_cons_zero, set_cons_succ, i64_w, i32_w]
            rfl
           refine take_ (i := 15) (N := some 149) (v := ?_) (a' := ?_) #[T, T, T, T, F, T, T, T, T, F, T, T, T, T, T, T, T, F, F, F, F, F, F] rfl rfl (take_ofW HT_.out HW_.out (by kernel_rfl)) (fun _ _ _ h => h) (Or.inl ⟨by rfl, ?_⟩) hHeld ?_ ?_
           rotate_left
           ·
            rintro w' ⟨s0, s1, s2⟩
            go_simp
            with_reducible rfl
           rotate_left
           ·
            simp only [Act.put, setIfInBounds_toArray, set_cons_zero, set_cons_succ, i64_w, i32_w]
            rfl
           refine pure_ (i := 17) (N := some 151) (v := ?_) (a' := ?_) #[T, T, T, T, F, T, T, T, T, F, T, T, T, T, T, T, T, T, F, F, F, F, F] rfl rfl (any_of HT_.out (by kernel_rfl)) (fun _ _ _ h => h) (Or.inl ⟨by rfl, ?_⟩) ?_ ?_
           rotate_left
           ·
            intro w'
            go_simp
            with_reducible rfl
           rotate_left
           ·
            simp only [Act.put, setIfInBounds_toArray, set_cons_zero, set_cons_succ, i64_w, i32_w]
            rfl
           refine join_ (σ := Value × Value × Value) 4 #[T, T, T, T, T, T, T, T, T, T, T, T, T, T, T, T, T, T, T, F, F, F, F] (fun s_ => [(138, s_.1), (143, s_.2.1), (152, s_.2.2)]) (fun s_ w' => (w'.cell? (ad228.add (((ji101)).toNat * 3)) = some (.int .u64 ((rd_T32 t173 (ji101)).f0)) ∧ w'.cell? ⟨(ad228.add (((ji101)).toNat * 3)).block, (ad228.add (((ji101)).toNat * 3)).off + 1, none⟩ = some (.bool ((rd_T32 t173 (ji101)).f1)) ∧ w'.cell? ⟨(ad228.add (((ji101)).toNat * 3)).block, (ad228.add (((ji101)).toNat * 3)).off + 2, none⟩ = some (.int .u64 ((rd_T32 t173 (ji101)).f2))) ∧ (Kd.R k32 32 w' w.heap.size (fun k_ => some k_ ≠ (s_.2.2 : Value).ownBlock ∧ some k_ ≠ (.slice (some ad228) t173.length co20 : Value).ownBlock ∧ some k_ ≠ (v178 : Value).ownBlock ∧ some k_ ≠ (.slice Ao108 t180.length co108 : Value).ownBlock) s_.2.1 y225) ∧ (Kd.R k32 32 w' w.heap.size (fun k_ => some k_ ≠ (s_.2.1 : Value).ownBlock ∧ some k_ ≠ (.slice (some ad228) t173.length co20 : Value).ownBlock ∧ some k_ ≠ (v178 : Value).ownBlock ∧ some k_ ≠ (.slice Ao108 t180.length co108 : Value).ownBlock) s_.2.2 y229) ∧ (Kd.R k32 32 w' w.heap.size (fun k_ => some k_ ≠ (s_.2.1 : Value).ownBlock ∧ some k_ ≠ (s_.2.2 : Value).ownBlock ∧ some k_ ≠ (v178 : Value).ownBlock ∧ some k_ ≠ (.slice Ao108 t180.length co108 : Value).ownBlock) (.slice (some ad228) t173.length co20) t173) ∧ (Kd.R k32 32 w' w.heap.size (fun k_ => some k_ ≠ (s_.2.1 : Value).ownBlock ∧ some k_ ≠ (s_.2.2 : Value).ownBlock ∧ some k_ ≠ (.slice (some ad228) t173.length co20 : Value).ownBlock ∧ some k_ ≠ (.slice Ao108 t180.length co108 : Value).ownBlock) v178 t176) ∧ (Kd.R k32 32 w' w.heap.size (fun k_ => some k_ ≠ (s_.2.1 : Value).ownBlock ∧ some k_ ≠ (s_.2.2 : Value).ownBlock ∧ some k_ ≠ (.slice (some ad228) t173.length co20 : Value).ownBlock ∧ some k_ ≠ (v178 : Value).ownBlock) (.slice Ao108 t180.length co108) t180) ∧ (Below w.heap.size w w')) ?_ ?_
           rotate_left
           ·
            intro hCont
            refine two_ (i := 4) (j := 18) (Ni := some 138) (Nj := some 152) #[T, T, T, T, T, T, T, T, T, F, T, T, T, T, T, T, T, T, F, F, F, F, F] #[T, T, T, T, F, T, T, T, T, F, T, T, T, T, T, T, T, T, T, F, F, F, F] rfl rfl rfl rfl (two_of HT_.out (by kernel_rfl)) (by decide) (by decide) (fun K hK => ?_) (fun K hK => ?_)
            rotate_left
            ·
             skip
             refine Kd.R_lit_step k32 _ 32 ?hg (N := 152) ?hd (xs := ([(⟨(rd_T32 t173 (ji101)).f0, true, a4⟩ : S32)] : List (S32))) (inner := [.int .u64 ((rd_T32 t173 (ji101)).f0), .bool true, .int .u64 a4]) (ok := fun _ => True) (okp := fun _ => True) ?hr ?hp (fun _ hk => hk) trivial (Below.refl _ _) (Nat.le_refl _) (by simp) ?_; (case hd => rfl); (case hg => rfl); (case hr => first | (go_simp; done) | (go_simp; rfl)); (case hp => exact (Reps.c3 (show Kd.M k32 _ _ _ (⟨(rd_T32 t173 (ji101)).f0, true, a4⟩ : S32) [.int .u64 ((rd_T32 t173 (ji101)).f0), .bool true, .int .u64 a4] from (k32_mkM _ _ _ (⟨(rd_T32 t173 (ji101)).f0, true, a4⟩ : S32) )) (Reps.none _ _)))
             intro v230 w111 ho112 hb hg_ hnew_
             have HS0_ := (hb.cell (World.block_lt_of_cell? _ _ (hHeld.1))).trans (hHeld.1)
             have HS1_ := (hb.cell (World.block_lt_of_cell? _ _ (hHeld.2.1))).trans (hHeld.2.1)
             have HS2_ := (hb.cell (World.block_lt_of_cell? _ _ (hHeld.2.2))).trans (hHeld.2.2)
             clear hg_ hnew_
             (first | rw [← Ny229.out] at ho112 | (simp only [Int.reduceToNat] at ho112; rw [← Ny229.out] at ho112))
             have n0_ := am (Kd.R_elder' (by (with_reducible repeat (first | apply R_alloc | apply R_drewN | apply R_drew)); exact HO_11.out) (Kd.R_base ho112) hb)
             have n1_ := am (Kd.R_elder' (by (with_reducible repeat (first | apply R_alloc | apply R_drewN | apply R_drew)); exact HO_13.out) (Kd.R_base ho112) hb)
             have n2_ := am (Kd.R_elder' (by (with_reducible repeat (first | apply R_alloc | apply R_drewN | apply R_drew)); exact HO_15.out) (Kd.R_base ho112) hb)
             have n3_ := am (Kd.R_lower (Kd.R_new' (Kd.R_new' (Kd.R_new' ho112 (Kd.R_lt (by (with_reducible repeat (first | apply R_alloc | apply R_drewN | apply R_drew)); exact HO_11.out))) (Kd.R_lt (by (with_reducible repeat (first | apply R_alloc | apply R_drewN | apply R_drew)); exact HO_13.out))) (Kd.R_lt (by (with_reducible repeat (first | apply R_alloc | apply R_drewN | apply R_drew)); exact HO_15.out))) (below_size (by repeat (first | (with_reducible first | exact HB.out | apply below_alloc | apply pw_below_drewN | apply below_drew1) | exact HB.out))))
             have n4_ := am (Kd.C_below (by repeat (first | (with_reducible exact HR224.out) | (with_reducible refine Kd.C_alloc ?_ _) | (with_reducible refine Kd.C_drewN ?_ _) | (with_reducible refine Kd.C_drew ?_) | exact HR224.out)) hb)
             have n5_ := am (below_step (by repeat (first | (with_reducible first | exact HB.out | apply below_alloc | apply pw_below_drewN | apply below_drew1) | exact HB.out)) hb)
             clear HO_11
             clear HO_13
             clear HO_15
             clear HR224
             clear HB
             have HO_11 := n0_
             have HO_13 := n1_
             have HO_15 := n2_
             have HO231 := n3_
             have HR224 := n4_
             have HB := n5_
             clear n0_ n1_ n2_ n3_ n4_ n5_
             clear hb ho112
             refine hK.out _ _ ⟨HS0_, HS1_, HS2_⟩ (fun hHeld => ?_)
             clear hK K
             refine norm_ (a' := ?_) ?_ ?_
             rotate_left
             ·
              show Act.put _ (some 152) _ = _
              simp only [Act.put, setIfInBounds_toArray, set_cons_zero, set_cons_succ, i64_w, i32_w]
              rfl
             refine one_ (i := 4) (N := some 138) #[T, T, T, T, T, T, T, T, T, F, T, T, T, T, T, T, T, T, T, F, F, F, F] rfl rfl (one_of HT_.out (by kernel_rfl)) (by decide) (fun K hK => ?_)
             refine Kd.R_lit_step k32 _ 32 ?hg (N := 138) ?hd (xs := ([] : List (S32))) (inner := []) (ok := fun _ => True) (okp := fun _ => True) ?hr ?hp (fun _ hk => hk) trivial (Below.refl _ _) (Nat.le_refl _) (by simp) ?_; (case hd => rfl); (case hg => rfl); (case hr => first | (go_simp; done) | (go_simp; rfl)); (case hp => exact (Reps.none _ _))
             intro v219 w113 ho114 hb hg_ hnew_
             have HS0_ := (hb.cell (World.block_lt_of_cell? _ _ (hHeld.1))).trans (hHeld.1)
             have HS1_ := (hb.cell (World.block_lt_of_cell? _ _ (hHeld.2.1))).trans (hHeld.2.1)
             have HS2_ := (hb.cell (World.block_lt_of_cell? _ _ (hHeld.2.2))).trans (hHeld.2.2)
             clear hg_ hnew_
             (first | rw [← Ny218.out] at ho114 | (simp only [Int.reduceToNat] at ho114; rw [← Ny218.out] at ho114))
             have n0_ := am (Kd.R_elder' (by (with_reducible repeat (first | apply R_alloc | apply R_drewN | apply R_drew)); exact HO_11.out) (Kd.R_base ho114) hb)
             have n1_ := am (Kd.R_elder' (by (with_reducible repeat (first | apply R_alloc | apply R_drewN | apply R_drew)); exact HO_13.out) (Kd.R_base ho114) hb)
             have n2_ := am (Kd.R_elder' (by (with_reducible repeat (first | apply R_alloc | apply R_drewN | apply R_drew)); exact HO_15.out) (Kd.R_base ho114) hb)
             have n3_ := am (Kd.R_elder' (by (with_reducible repeat (first | apply R_alloc | apply R_drewN | apply R_drew)); exact HO231.out) (Kd.R_base ho114) hb)
             have n4_ := am (Kd.R_lower (Kd.R_new' (Kd.R_new' (Kd.R_new' (Kd.R_new' ho114 (Kd.R_lt (by (with_reducible repeat (first | apply R_alloc | apply R_drewN | apply R_drew)); exact HO_11.out))) (Kd.R_lt (by (with_reducible repeat (first | apply R_alloc | apply R_drewN | apply R_drew)); exact HO_13.out))) (Kd.R_lt (by (with_reducible repeat (first | apply R_alloc | apply R_drewN | apply R_drew)); exact HO_15.out))) (Kd.R_lt (by (with_reducible repeat (first | apply R_alloc | apply R_drewN | apply R_drew)); exact HO231.out))) (below_size (by repeat (first | (with_reducible first | exact HB.out | apply below_alloc | apply pw_below_drewN | apply below_drew1) | exact HB.out))))
             have n5_ := am (Kd.C_below (by repeat (first | (with_reducible exact HR224.out) | (with_reducible refine Kd.C_alloc ?_ _) | (with_reducible refine Kd.C_drewN ?_ _) | (with_reducible refine Kd.C_drew ?_) | exact HR224.out)) hb)
             have n6_ := am (below_step (by repeat (first | (with_reducible first | exact HB.out | apply below_alloc | apply pw_below_drewN | apply below_drew1) | exact HB.out)) hb)
             clear HO_11
             clear HO_13
             clear HO_15
             clear HO231
             clear HR224
             clear HB
             have HO_11 := n0_
             have HO_13 := n1_
             have HO_15 := n2_
             have HO231 := n3_
             have HO220 := n4_
             have HR224 := n5_
             have HB := n6_
             clear n0_ n1_ n2_ n3_ n4_ n5_ n6_
             clear hb ho114
             refine hK.out _ _ ⟨HS0_, HS1_, HS2_⟩ (fun hHeld => ?_)
             clear hK K
             refine norm_ (a' := ?_) ?_ ?_
             rotate_left
             ·
              show Act.put _ (some 138) _ = _
              simp only [Act.put, setIfInBounds_toArray, set_cons_zero, set_cons_succ, i64_w, i32_w]
              rfl
             refine one_ (i := 9) (N := some 143) #[T, T, T, T, T, T, T, T, T, T, T, T, T, T, T, T, T, T, T, F, F, F, F] rfl rfl (one_of HT_.out (by kernel_rfl)) (by decide) (fun K hK => ?_)
             refine Kd.R_append_rows_step k32 (w0 := w) w.heap.size (by rfl) (.tmp 138) (.tmp 142) 22 32 (.agg #[(.int .u64 0), (.bool false), (.int .u64 0)]) 24 rfl Try.underlying22 info32 rfl (by decide) (by omega) v219 y218 y221 _ _ _ (fun k_ => some k_ ≠ (.slice (some ad228) t173.length co20 : Value).ownBlock ∧ some k_ ≠ (v178 : Value).ownBlock ∧ some k_ ≠ (.slice Ao108 t180.length co108 : Value).ownBlock ∧ some k_ ≠ (v230 : Value).ownBlock) (fun _ => False) rfl rfl ?aO ?aR (fun _ _ h => h) (fun _ h => h.elim) ?aF ?aB ?aS ?aL ?_
             (case aR => repeat (first | exact (by repeat (first | (with_reducible exact HR224.out) | (with_reducible refine Kd.C_alloc ?_ _) | (with_reducible refine Kd.C_drewN ?_ _) | (with_reducible refine Kd.C_drew ?_) | exact HR224.out)) | (with_reducible refine Kd.C_alloc ?_ _) | (with_reducible refine Kd.C_drewN ?_ _) | (with_reducible refine Kd.C_drew ?_)))
             (case aB => exact (by repeat (first | (with_reducible first | exact HB.out | apply below_alloc | apply pw_below_drewN | apply below_drew1) | exact HB.out)))
             (case aF => exact (fun k_ hk => ⟨Kd.fresh' (Kd.R_lt (by (with_reducible repeat (first | apply R_alloc | apply R_drewN | apply R_drew)); exact HO_11.out)) k_ hk, Kd.fresh' (Kd.R_lt (by (with_reducible repeat (first | apply R_alloc | apply R_drewN | apply R_drew)); exact HO_13.out)) k_ hk, Kd.fresh' (Kd.R_lt (by (with_reducible repeat (first | apply R_alloc | apply R_drewN | apply R_drew)); exact HO_15.out)) k_ hk, Kd.fresh' (Kd.R_lt (by (with_reducible repeat (first | apply R_alloc | apply R_drewN | apply R_drew)); exact HO231.out)) k_ hk⟩))
             (case aO => exact (by (with_reducible repeat (first | apply R_alloc | apply R_drewN | apply R_drew)); exact Kd.R_mono HO220.out (fun _ hk => by simp only [hk, ne_eq, not_false_eq_true, and_self])))
             (case aS => exact (below_size (by repeat (first | (with_reducible first | exact HB.out | apply below_alloc | apply pw_below_drewN | apply below_drew1) | exact HB.out))))
             (case aL => have := LMc104.out; omega)
             intro v226 w115 ho hb hg hat
             (first | have HS0_ := cell_grown hg (hHeld.1) (by first | (rw [add_block]; exact (HO_11.out.1 _ rfl).2) | (show some (Addr.add _ _).block ≠ _; rw [add_block]; exact (HO_11.out.1 _ rfl).2) | exact (HO_11.out.1 _ rfl).2) | have HS0_ := cell_grown hg (cell_unalloc (hHeld.1) (by first | (rw [add_block]; exact Kd.R_lt HO_11.out _ rfl) | (show (Addr.add _ _).block < _; rw [add_block]; exact Kd.R_lt HO_11.out _ rfl) | exact Kd.R_lt HO_11.out _ rfl)) (by first | (rw [add_block]; exact (HO_11.out.1 _ rfl).2) | (show some (Addr.add _ _).block ≠ _; rw [add_block]; exact (HO_11.out.1 _ rfl).2) | exact (HO_11.out.1 _ rfl).2))
             (first | have HS1_ := cell_grown hg (hHeld.2.1) (by first | (rw [add_block]; exact (HO_11.out.1 _ rfl).2) | (show some (Addr.add _ _).block ≠ _; rw [add_block]; exact (HO_11.out.1 _ rfl).2) | exact (HO_11.out.1 _ rfl).2) | have HS1_ := cell_grown hg (cell_unalloc (hHeld.2.1) (by first | (rw [add_block]; exact Kd.R_lt HO_11.out _ rfl) | (show (Addr.add _ _).block < _; rw [add_block]; exact Kd.R_lt HO_11.out _ rfl) | exact Kd.R_lt HO_11.out _ rfl)) (by first | (rw [add_block]; exact (HO_11.out.1 _ rfl).2) | (show some (Addr.add _ _).block ≠ _; rw [add_block]; exact (HO_11.out.1 _ rfl).2) | exact (HO_11.out.1 _ rfl).2))
             (first | have HS2_ := cell_grown hg (hHeld.2.2) (by first | (rw [add_block]; exact (HO_11.out.1 _ rfl).2) | (show some (Addr.add _ _).block ≠ _; rw [add_block]; exact (HO_11.out.1 _ rfl).2) | exact (HO_11.out.1 _ rfl).2) | have HS2_ := cell_grown hg (cell_unalloc (hHeld.2.2) (by first | (rw [add_block]; exact Kd.R_lt HO_11.out _ rfl) | (show (Addr.add _ _).block < _; rw [add_block]; exact Kd.R_lt HO_11.out _ rfl) | exact Kd.R_lt HO_11.out _ rfl)) (by first | (rw [add_block]; exact (HO_11.out.1 _ rfl).2) | (show some (Addr.add _ _).block ≠ _; rw [add_block]; exact (HO_11.out.1 _ rfl).2) | exact (HO_11.out.1 _ rfl).2))
             rw [← Ny225.out] at ho
             have n0_ := am (Kd.R_after (ok := (fun k_ => some k_ ≠ (v178 : Value).ownBlock ∧ some k_ ≠ (.slice Ao108 t180.length co108 : Value).ownBlock ∧ some k_ ≠ (v230 : Value).ownBlock)) (by (with_reducible repeat (first | apply R_alloc | apply R_drewN | apply R_drew)); exact Kd.R_mono HO_11.out (fun _ hk => by simp only [hk, ne_eq, not_false_eq_true, and_self])) hg hat)
             have n1_ := am (Kd.R_after (ok := (fun k_ => some k_ ≠ (.slice (some ad228) t173.length co20 : Value).ownBlock ∧ some k_ ≠ (.slice Ao108 t180.length co108 : Value).ownBlock ∧ some k_ ≠ (v230 : Value).ownBlock)) (by (with_reducible repeat (first | apply R_alloc | apply R_drewN | apply R_drew)); exact Kd.R_mono HO_13.out (fun _ hk => by simp only [hk, ne_eq, not_false_eq_true, and_self])) hg hat)
             have n2_ := am (Kd.R_after (ok := (fun k_ => some k_ ≠ (.slice (some ad228) t173.length co20 : Value).ownBlock ∧ some k_ ≠ (v178 : Value).ownBlock ∧ some k_ ≠ (v230 : Value).ownBlock)) (by (with_reducible repeat (first | apply R_alloc | apply R_drewN | apply R_drew)); exact Kd.R_mono HO_15.out (fun _ hk => by simp only [hk, ne_eq, not_false_eq_true, and_self])) hg hat)
             have n3_ := am (Kd.R_after (ok := (fun k_ => some k_ ≠ (.slice (some ad228) t173.length co20 : Value).ownBlock ∧ some k_ ≠ (v178 : Value).ownBlock ∧ some k_ ≠ (.slice Ao108 t180.length co108 : Value).ownBlock)) (by (with_reducible repeat (first | apply R_alloc | apply R_drewN | apply R_drew)); exact Kd.R_mono HO231.out (fun _ hk => by simp only [hk, ne_eq, not_false_eq_true, and_self])) hg hat)
             have n4_ := am (hb)
             have n5_ := am ((show Kd.C k32 w115 (some ad228) y221.length y221 from by rw [Ny221.out]; exact Kd.C_take (m := ((ji101) : Int).toNat) ((Kd.R_reads' (Kd.R_after (ok := (fun k_ => some k_ ≠ (v178 : Value).ownBlock ∧ some k_ ≠ (.slice Ao108 t180.length co108 : Value).ownBlock ∧ some k_ ≠ (v230 : Value).ownBlock)) (by (with_reducible repeat (first | apply R_alloc | apply R_drewN | apply R_drew)); exact Kd.R_mono HO_11.out (fun _ hk => by simp only [hk, ne_eq, not_false_eq_true, and_self])) hg hat)).2.2) KL110.out))
             have n6_ := am (ho)
             clear HO_11
             clear HO_13
             clear HO_15
             clear HO231
             clear HB
             clear HR224
             clear HO220
             have HO_11 := n0_
             have HO_13 := n1_
             have HO_15 := n2_
             have HO231 := n3_
             have HB := n4_
             have HR224 := n5_
             have HO227 := n6_
             clear n0_ n1_ n2_ n3_ n4_ n5_ n6_
             clear ho hb hg hat
             refine hK.out _ _ ⟨HS0_, HS1_, HS2_⟩ (fun hHeld => ?_)
             clear hK K
             refine norm_ (a' := ?_) ?_ ?_
             rotate_left
             ·
              show Act.put _ (some 143) _ = _
              simp only [Act.put, setIfInBounds_toArray, set_cons_zero, set_cons_succ, i64_w, i32_w]
              rfl
             exact norm_ (by simp only [putAll, Act.put, setIfInBounds_toArray, set_cons_zero, set_cons_succ]) (hCont (v219, v226, v230) _ ⟨hHeld, (by (with_reducible repeat (first | apply R_alloc | apply R_drewN | apply R_drew)); exact Kd.R_mono HO227.out (fun _ hk => by simp only [hk, ne_eq, not_false_eq_true, and_self])), (by (with_reducible repeat (first | apply R_alloc | apply R_drewN | apply R_drew)); exact Kd.R_mono HO231.out (fun _ hk => by simp only [hk, ne_eq, not_false_eq_true, and_self])), (by (with_reducible repeat (first | apply R_alloc | apply R_drewN | apply R_drew)); exact Kd.R_mono HO_11.out (fun _ hk => by simp only [hk, ne_eq, not_false_eq_true, and_self])), (by (with_reducible repeat (first | apply R_alloc | apply R_drewN | apply R_drew)); exact Kd.R_mono HO_13.out (fun _ hk => by simp only [hk, ne_eq, not_false_eq_true, and_self])), (by (with_reducible repeat (first | apply R_alloc | apply R_drewN | apply R_drew)); exact Kd.R_mono HO_15.out (fun _ hk => by simp only [hk, ne_eq, not_false_eq_true, and_self])), (by repeat (first | (with_reducible first | exact HB.out | apply below_alloc | apply pw_below_drewN | apply below_drew1) | exact HB.out))⟩)
            skip
            refine Kd.R_lit_step k32 _ 32 ?hg (N := 138) ?hd (xs := ([] : List (S32))) (inner := []) (ok := fun _ => True) (okp := fun _ => True) ?hr ?hp (fun _ hk => hk) trivial (Below.refl _ _) (Nat.le_refl _) (by simp) ?_; (case hd => rfl); (case hg => rfl); (case hr => first | (go_simp; done) | (go_simp; rfl)); (case hp => exact (Reps.none _ _))
            intro v219 w111 ho112 hb hg_ hnew_
            have HS0_ := (hb.cell (World.block_lt_of_cell? _ _ (hHeld.1))).trans (hHeld.1)
            have HS1_ := (hb.cell (World.block_lt_of_cell? _ _ (hHeld.2.1))).trans (hHeld.2.1)
            have HS2_ := (hb.cell (World.block_lt_of_cell? _ _ (hHeld.2.2))).trans (hHeld.2.2)
            clear hg_ hnew_
            (first | rw [← Ny218.out] at ho112 | (simp only [Int.reduceToNat] at ho112; rw [← Ny218.out] at ho112))
            have n0_ := am (Kd.R_elder' (by (with_reducible repeat (first | apply R_alloc | apply R_drewN | apply R_drew)); exact HO_11.out) (Kd.R_base ho112) hb)
            have n1_ := am (Kd.R_elder' (by (with_reducible repeat (first | apply R_alloc | apply R_drewN | apply R_drew)); exact HO_13.out) (Kd.R_base ho112) hb)
            have n2_ := am (Kd.R_elder' (by (with_reducible repeat (first | apply R_alloc | apply R_drewN | apply R_drew)); exact HO_15.out) (Kd.R_base ho112) hb)
            have n3_ := am (Kd.R_lower (Kd.R_new' (Kd.R_new' (Kd.R_new' ho112 (Kd.R_lt (by (with_reducible repeat (first | apply R_alloc | apply R_drewN | apply R_drew)); exact HO_11.out))) (Kd.R_lt (by (with_reducible repeat (first | apply R_alloc | apply R_drewN | apply R_drew)); exact HO_13.out))) (Kd.R_lt (by (with_reducible repeat (first | apply R_alloc | apply R_drewN | apply R_drew)); exact HO_15.out))) (below_size (by repeat (first | (with_reducible first | exact HB.out | apply below_alloc | apply pw_below_drewN | apply below_drew1) | exact HB.out))))
            have n4_ := am (Kd.C_below (by repeat (first | (with_reducible exact HR224.out) | (with_reducible refine Kd.C_alloc ?_ _) | (with_reducible refine Kd.C_drewN ?_ _) | (with_reducible refine Kd.C_drew ?_) | exact HR224.out)) hb)
            have n5_ := am (below_step (by repeat (first | (with_reducible first | exact HB.out | apply below_alloc | apply pw_below_drewN | apply below_drew1) | exact HB.out)) hb)
            clear HO_11
            clear HO_13
            clear HO_15
            clear HR224
            clear HB
            have HO_11 := n0_
            have HO_13 := n1_
            have HO_15 := n2_
            have HO220 := n3_
            have HR224 := n4_
            have HB := n5_
            clear n0_ n1_ n2_ n3_ n4_ n5_
            clear hb ho112
            refine hK.out _ _ ⟨HS0_, HS1_, HS2_⟩ (fun hHeld => ?_)
            clear hK K
            refine norm_ (a' := ?_) ?_ ?_
            rotate_left
            ·
             show Act.put _ (some 138) _ = _
             simp only [Act.put, setIfInBounds_toArray, set_cons_zero, set_cons_succ, i64_w, i32_w]
             rfl
            refine two_ (i := 9) (j := 18) (Ni := some 143) (Nj := some 152) #[T, T, T, T, T, T, T, T, T, T, T, T, T, T, T, T, T, T, F, F, F, F, F] #[T, T, T, T, T, T, T, T, T, F, T, T, T, T, T, T, T, T, T, F, F, F, F] rfl rfl rfl rfl (two_of HT_.out (by kernel_rfl)) (by decide) (by decide) (fun K hK => ?_) (fun K hK => ?_)
            ·
             skip
             refine Kd.R_append_rows_step k32 (w0 := w) w.heap.size (by rfl) (.tmp 138) (.tmp 142) 22 32 (.agg #[(.int .u64 0), (.bool false), (.int .u64 0)]) 24 rfl Try.underlying22 info32 rfl (by decide) (by omega) v219 y218 y221 _ _ _ (fun k_ => some k_ ≠ (.slice (some ad228) t173.length co20 : Value).ownBlock ∧ some k_ ≠ (v178 : Value).ownBlock ∧ some k_ ≠ (.slice Ao108 t180.length co108 : Value).ownBlock) (fun _ => False) rfl rfl ?aO ?aR (fun _ _ h => h) (fun _ h => h.elim) ?aF ?aB ?aS ?aL ?_
             (case aR => repeat (first | exact (by repeat (first | (with_reducible exact HR224.out) | (with_reducible refine Kd.C_alloc ?_ _) | (with_reducible refine Kd.C_drewN ?_ _) | (with_reducible refine Kd.C_drew ?_) | exact HR224.out)) | (with_reducible refine Kd.C_alloc ?_ _) | (with_reducible refine Kd.C_drewN ?_ _) | (with_reducible refine Kd.C_drew ?_)))
             (case aB => exact (by repeat (first | (with_reducible first | exact HB.out | apply below_alloc | apply pw_below_drewN | apply below_drew1) | exact HB.out)))
             (case aF => exact (fun k_ hk => ⟨Kd.fresh' (Kd.R_lt (by (with_reducible repeat (first | apply R_alloc | apply R_drewN | apply R_drew)); exact HO_11.out)) k_ hk, Kd.fresh' (Kd.R_lt (by (with_reducible repeat (first | apply R_alloc | apply R_drewN | apply R_drew)); exact HO_13.out)) k_ hk, Kd.fresh' (Kd.R_lt (by (with_reducible repeat (first | apply R_alloc | apply R_drewN | apply R_drew)); exact HO_15.out)) k_ hk⟩))
             (case aO => exact (by (with_reducible repeat (first | apply R_alloc | apply R_drewN | apply R_drew)); exact Kd.R_mono HO220.out (fun _ hk => by simp only [hk, ne_eq, not_false_eq_true, and_self])))
             (case aS => exact (below_size (by repeat (first | (with_reducible first | exact HB.out | apply below_alloc | apply pw_below_drewN | apply below_drew1) | exact HB.out))))
             (case aL => have := LMc104.out; omega)
             intro v226 w113 ho hb hg hat
             (first | have HS0_ := cell_grown hg (hHeld.1) (by first | (rw [add_block]; exact (HO_11.out.1 _ rfl).2) | (show some (Addr.add _ _).block ≠ _; rw [add_block]; exact (HO_11.out.1 _ rfl).2) | exact (HO_11.out.1 _ rfl).2) | have HS0_ := cell_grown hg (cell_unalloc (hHeld.1) (by first | (rw [add_block]; exact Kd.R_lt HO_11.out _ rfl) | (show (Addr.add _ _).block < _; rw [add_block]; exact Kd.R_lt HO_11.out _ rfl) | exact Kd.R_lt HO_11.out _ rfl)) (by first | (rw [add_block]; exact (HO_11.out.1 _ rfl).2) | (show some (Addr.add _ _).block ≠ _; rw [add_block]; exact (HO_11.out.1 _ rfl).2) | exact (HO_11.out.1 _ rfl).2))
             (first | have HS1_ := cell_grown hg (hHeld.2.1) (by first | (rw [add_block]; exact (HO_11.out.1 _ rfl).2) | (show some (Addr.add _ _).block ≠ _; rw [add_block]; exact (HO_11.out.1 _ rfl).2) | exact (HO_11.out.1 _ rfl).2) | have HS1_ := cell_grown hg (cell_unalloc (hHeld.2.1) (by first | (rw [add_block]; exact Kd.R_lt HO_11.out _ rfl) | (show (Addr.add _ _).block < _; rw [add_block]; exact Kd.R_lt HO_11.out _ rfl) | exact Kd.R_lt HO_11.out _ rfl)) (by first | (rw [add_block]; exact (HO_11.out.1 _ rfl).2) | (show some (Addr.add _ _).block ≠ _; rw [add_block]; exact (HO_11.out.1 _ rfl).2) | exact (HO_11.out.1 _ rfl).2))
             (first | have HS2_ := cell_grown hg (hHeld.2.2) (by first | (rw [add_block]; exact (HO_11.out.1 _ rfl).2) | (show some (Addr.add _ _).block ≠ _; rw [add_block]; exact (HO_11.out.1 _ rfl).2) | exact (HO_11.out.1 _ rfl).2) | have HS2_ := cell_grown hg (cell_unalloc (hHeld.2.2) (by first | (rw [add_block]; exact Kd.R_lt HO_11.out _ rfl) | (show (Addr.add _ _).block < _; rw [add_block]; exact Kd.R_lt HO_11.out _ rfl) | exact Kd.R_lt HO_11.out _ rfl)) (by first | (rw [add_block]; exact (HO_11.out.1 _ rfl).2) | (show some (Addr.add _ _).block ≠ _; rw [add_block]; exact (HO_11.out.1 _ rfl).2) | exact (HO_11.out.1 _ rfl).2))
             rw [← Ny225.out] at ho
             have n0_ := am (Kd.R_after (ok := (fun k_ => some k_ ≠ (v178 : Value).ownBlock ∧ some k_ ≠ (.slice Ao108 t180.length co108 : Value).ownBlock)) (by (with_reducible repeat (first | apply R_alloc | apply R_drewN | apply R_drew)); exact Kd.R_mono HO_11.out (fun _ hk => by simp only [hk, ne_eq, not_false_eq_true, and_self])) hg hat)
             have n1_ := am (Kd.R_after (ok := (fun k_ => some k_ ≠ (.slice (some ad228) t173.length co20 : Value).ownBlock ∧ some k_ ≠ (.slice Ao108 t180.length co108 : Value).ownBlock)) (by (with_reducible repeat (first | apply R_alloc | apply R_drewN | apply R_drew)); exact Kd.R_mono HO_13.out (fun _ hk => by simp only [hk, ne_eq, not_false_eq_true, and_self])) hg hat)
             have n2_ := am (Kd.R_after (ok := (fun k_ => some k_ ≠ (.slice (some ad228) t173.length co20 : Value).ownBlock ∧ some k_ ≠ (v178 : Value).ownBlock)) (by (with_reducible repeat (first | apply R_alloc | apply R_drewN | apply R_drew)); exact Kd.R_mono HO_15.out (fun _ hk => by simp only [hk, ne_eq, not_false_eq_true, and_self])) hg hat)
             have n3_ := am (hb)
             have n4_ := am ((show Kd.C k32 w113 (some ad228) y221.length y221 from by rw [Ny221.out]; exact Kd.C_take (m := ((ji101) : Int).toNat) ((Kd.R_reads' (Kd.R_after (ok := (fun k_ => some k_ ≠ (v178 : Value).ownBlock ∧ some k_ ≠ (.slice Ao108 t180.length co108 : Value).ownBlock)) (by (with_reducible repeat (first | apply R_alloc | apply R_drewN | apply R_drew)); exact Kd.R_mono HO_11.out (fun _ hk => by simp only [hk, ne_eq, not_false_eq_true, and_self])) hg hat)).2.2) KL110.out))
             have n5_ := am (ho)
             clear HO_11
             clear HO_13
             clear HO_15
             clear HB
             clear HR224
             clear HO220
             have HO_11 := n0_
             have HO_13 := n1_
             have HO_15 := n2_
             have HB := n3_
             have HR224 := n4_
             have HO227 := n5_
             clear n0_ n1_ n2_ n3_ n4_ n5_
             clear ho hb hg hat
             refine hK.out _ _ ⟨HS0_, HS1_, HS2_⟩ (fun hHeld => ?_)
             clear hK K
             refine norm_ (a' := ?_) ?_ ?_
             rotate_left
             ·
              show Act.put _ (some 143) _ = _
              simp only [Act.put, setIfInBounds_toArray, set_cons_zero, set_cons_succ, i64_w, i32_w]
              rfl
             refine one_ (i := 18) (N := some 152) #[T, T, T, T, T, T, T, T, T, T, T, T, T, T, T, T, T, T, T, F, F, F, F] rfl rfl (one_of HT_.out (by kernel_rfl)) (by decide) (fun K hK => ?_)
             refine Kd.R_lit_step k32 _ 32 ?hg (N := 152) ?hd (xs := ([(⟨(rd_T32 t173 (ji101)).f0, true, a4⟩ : S32)] : List (S32))) (inner := [.int .u64 ((rd_T32 t173 (ji101)).f0), .bool true, .int .u64 a4]) (ok := fun _ => True) (okp := fun _ => True) ?hr ?hp (fun _ hk => hk) trivial (Below.refl _ _) (Nat.le_refl _) (by simp) ?_; (case hd => rfl); (case hg => rfl); (case hr => first | (go_simp; done) | (go_simp; rfl)); (case hp => exact (Reps.c3 (show Kd.M k32 _ _ _ (⟨(rd_T32 t173 (ji101)).f0, true, a4⟩ : S32) [.int .u64 ((rd_T32 t173 (ji101)).f0), .bool true, .int .u64 a4] from (k32_mkM _ _ _ (⟨(rd_T32 t173 (ji101)).f0, true, a4⟩ : S32) )) (Reps.none _ _)))
             intro v230 w114 ho115 hb hg_ hnew_
             have HS0_ := (hb.cell (World.block_lt_of_cell? _ _ (hHeld.1))).trans (hHeld.1)
             have HS1_ := (hb.cell (World.block_lt_of_cell? _ _ (hHeld.2.1))).trans (hHeld.2.1)
             have HS2_ := (hb.cell (World.block_lt_of_cell? _ _ (hHeld.2.2))).trans (hHeld.2.2)
             clear hg_ hnew_
             (first | rw [← Ny229.out] at ho115 | (simp only [Int.reduceToNat] at ho115; rw [← Ny229.out] at ho115))
             have n0_ := am (Kd.R_elder' (by (with_reducible repeat (first | apply R_alloc | apply R_drewN | apply R_drew)); exact HO_11.out) (Kd.R_base ho115) hb)
             have n1_ := am (Kd.R_elder' (by (with_reducible repeat (first | apply R_alloc | apply R_drewN | apply R_drew)); exact HO_13.out) (Kd.R_base ho115) hb)
             have n2_ := am (Kd.R_elder' (by (with_reducible repeat (first | apply R_alloc | apply R_drewN | apply R_drew)); exact HO_15.out) (Kd.R_base ho115) hb)
             have n3_ := am (Kd.R_elder' (by (with_reducible repeat (first | apply R_alloc | apply R_drewN | apply R_drew)); exact HO227.out) (Kd.R_base ho115) hb)
             have n4_ := am (Kd.R_lower (Kd.R_new' (Kd.R_new' (Kd.R_new' (Kd.R_new' ho115 (Kd.R_lt (by (with_reducible repeat (first | apply R_alloc | apply R_drewN | apply R_drew)); exact HO_11.out))) (Kd.R_lt (by (with_reducible repeat (first | apply R_alloc | apply R_drewN | apply R_drew)); exact HO_13.out))) (Kd.R_lt (by (with_reducible repeat (first | apply R_alloc | apply R_drewN | apply R_drew)); exact HO_15.out))) (Kd.R_lt (by (with_reducible repeat (first | apply R_alloc | apply R_drewN | apply R_drew)); exact HO227.out))) (below_size (by repeat (first | (with_reducible first | exact HB.out | apply below_alloc | apply pw_below_drewN | apply below_drew1) | exact HB.out))))
             have n5_ := am (Kd.C_below (by repeat (first | (with_reducible exact HR224.out) | (with_reducible refine Kd.C_alloc ?_ _) | (with_reducible refine Kd.C_drewN ?_ _) | (with_reducible refine Kd.C_drew ?_) | exact HR224.out)) hb)
             have n6_ := am (below_step (by repeat (first | (with_reducible first | exact HB.out | apply below_alloc | apply pw_below_drewN | apply below_drew1) | exact HB.out)) hb)
             clear HO_11
             clear HO_13
             clear HO_15
             clear HO227
             clear HR224
             clear HB
             have HO_11 := n0_
             have HO_13 := n1_
             have HO_15 := n2_
             have HO227 := n3_
             have HO231 := n4_
             have HR224 := n5_
             have HB := n6_
             clear n0_ n1_ n2_ n3_ n4_ n5_ n6_
             clear hb ho115
             refine hK.out _ _ ⟨HS0_, HS1_, HS2_⟩ (fun hHeld => ?_)
             clear hK K
             refine norm_ (a' := ?_) ?_ ?_
             rotate_left
             ·
              show Act.put _ (some 152) _ = _
              simp only [Act.put, setIfInBounds_toArray, set_cons_zero, set_cons_succ, i64_w, i32_w]
              rfl
             exact norm_ (by simp only [putAll, Act.put, setIfInBounds_toArray, set_cons_zero, set_cons_succ]) (hCont (v219, v226, v230) _ ⟨hHeld, (by (with_reducible repeat (first | apply R_alloc | apply R_drewN | apply R_drew)); exact Kd.R_mono HO227.out (fun _ hk => by simp only [hk, ne_eq, not_false_eq_true, and_self])), (by (with_reducible repeat (first | apply R_alloc | apply R_drewN | apply R_drew)); exact Kd.R_mono HO231.out (fun _ hk => by simp only [hk, ne_eq, not_false_eq_true, and_self])), (by (with_reducible repeat (first | apply R_alloc | apply R_drewN | apply R_drew)); exact Kd.R_mono HO_11.out (fun _ hk => by simp only [hk, ne_eq, not_false_eq_true, and_self])), (by (with_reducible repeat (first | apply R_alloc | apply R_drewN | apply R_drew)); exact Kd.R_mono HO_13.out (fun _ hk => by simp only [hk, ne_eq, not_false_eq_true, and_self])), (by (with_reducible repeat (first | apply R_alloc | apply R_drewN | apply R_drew)); exact Kd.R_mono HO_15.out (fun _ hk => by simp only [hk, ne_eq, not_false_eq_true, and_self])), (by repeat (first | (with_reducible first | exact HB.out | apply below_alloc | apply pw_below_drewN | apply below_drew1) | exact HB.out))⟩)
            skip
            refine Kd.R_lit_step k32 _ 32 ?hg (N := 152) ?hd (xs := ([(⟨(rd_T32 t173 (ji101)).f0, true, a4⟩ : S32)] : List (S32))) (inner := [.int .u64 ((rd_T32 t173 (ji101)).f0), .bool true, .int .u64 a4]) (ok := fun _ => True) (okp := fun _ => True) ?hr ?hp (fun _ hk => hk) trivial (Below.refl _ _) (Nat.le_refl _) (by simp) ?_; (case hd => rfl); (case hg => rfl); (case hr => first | (go_simp; done) | (go_simp; rfl)); (case hp => exact (Reps.c3 (show Kd.M k32 _ _ _ (⟨(rd_T32 t173 (ji101)).f0, true, a4⟩ : S32) [.int .u64 ((rd_T32 t173 (ji101)).f0), .bool true, .int .u64 a4] from (k32_mkM _ _ _ (⟨(rd_T32 t173 (ji101)).f0, true, a4⟩ : S32) )) (Reps.none _ _)))
            intro v230 w113 ho114 hb hg_ hnew_
            have HS0_ := (hb.cell (World.block_lt_of_cell? _ _ (hHeld.1))).trans (hHeld.1)
            have HS1_ := (hb.cell (World.block_lt_of_cell? _ _ (hHeld.2.1))).trans (hHeld.2.1)
            have HS2_ := (hb.cell (World.block_lt_of_cell? _ _ (hHeld.2.2))).trans (hHeld.2.2)
            clear hg_ hnew_
            (first | rw [← Ny229.out] at ho114 | (simp only [Int.reduceToNat] at ho114; rw [← Ny229.out] at ho114))
            have n0_ := am (Kd.R_elder' (by (with_reducible repeat (first | apply R_alloc | apply R_drewN | apply R_drew)); exact HO_11.out) (Kd.R_base ho114) hb)
            have n1_ := am (Kd.R_elder' (by (with_reducible repeat (first | apply R_alloc | apply R_drewN | apply R_drew)); exact HO_13.out) (Kd.R_base ho114) hb)
            have n2_ := am (Kd.R_elder' (by (with_reducible repeat (first | apply R_alloc | apply R_drewN | apply R_drew)); exact HO_15.out) (Kd.R_base ho114) hb)
            have n3_ := am (Kd.R_elder' (by (with_reducible repeat (first | apply R_alloc | apply R_drewN | apply R_drew)); exact HO220.out) (Kd.R_base ho114) hb)
            have n4_ := am (Kd.R_lower (Kd.R_new' (Kd.R_new' (Kd.R_new' (Kd.R_new' ho114 (Kd.R_lt (by (with_reducible repeat (first | apply R_alloc | apply R_drewN | apply R_drew)); exact HO_11.out))) (Kd.R_lt (by (with_reducible repeat (first | apply R_alloc | apply R_drewN | apply R_drew)); exact HO_13.out))) (Kd.R_lt (by (with_reducible repeat (first | apply R_alloc | apply R_drewN | apply R_drew)); exact HO_15.out))) (Kd.R_lt (by (with_reducible repeat (first | apply R_alloc | apply R_drewN | apply R_drew)); exact HO220.out))) (below_size (by repeat (first | (with_reducible first | exact HB.out | apply below_alloc | apply pw_below_drewN | apply below_drew1) | exact HB.out))))
            have n5_ := am (Kd.C_below (by repeat (first | (with_reducible exact HR224.out) | (with_reducible refine Kd.C_alloc ?_ _) | (with_reducible refine Kd.C_drewN ?_ _) | (with_reducible refine Kd.C_drew ?_) | exact HR224.out)) hb)
            have n6_ := am (below_step (by repeat (first | (with_reducible first | exact HB.out | apply below_alloc | apply pw_below_drewN | apply below_drew1) | exact HB.out)) hb)
            clear HO_11
            clear HO_13
            clear HO_15
            clear HO220
            clear HR224
            clear HB
            have HO_11 := n0_
            have HO_13 := n1_
            have HO_15 := n2_
            have HO220 := n3_
            have HO231 := n4_
            have HR224 := n5_
            have HB := n6_
            clear n0_ n1_ n2_ n3_ n4_ n5_ n6_
            clear hb ho114
            refine hK.out _ _ ⟨HS0_, HS1_, HS2_⟩ (fun hHeld => ?_)
            clear hK K
            refine norm_ (a' := ?_) ?_ ?_
            rotate_left
            ·
             show Act.put _ (some 152) _ = _
             simp only [Act.put, setIfInBounds_toArray, set_cons_zero, set_cons_succ, i64_w, i32_w]
             rfl
            refine one_ (i := 9) (N := some 143) #[T, T, T, T, T, T, T, T, T, T, T, T, T, T, T, T, T, T, T, F, F, F, F] rfl rfl (one_of HT_.out (by kernel_rfl)) (by decide) (fun K hK => ?_)
            refine Kd.R_append_rows_step k32 (w0 := w) w.heap.size (by rfl) (.tmp 138) (.tmp 142) 22 32 (.agg #[(.int .u64 0), (.bool false), (.int .u64 0)]) 24 rfl Try.underlying22 info32 rfl (by decide) (by omega) v219 y218 y221 _ _ _ (fun k_ => some k_ ≠ (.slice (some ad228) t173.length co20 : Value).ownBlock ∧ some k_ ≠ (v178 : Value).ownBlock ∧ some k_ ≠ (.slice Ao108 t180.length co108 : Value).ownBlock ∧ some k_ ≠ (v230 : Value).ownBlock) (fun _ => False) rfl rfl ?aO ?aR (fun _ _ h => h) (fun _ h => h.elim) ?aF ?aB ?aS ?aL ?_
            (case aR => repeat (first | exact (by repeat (first | (with_reducible exact HR224.out) | (with_reducible refine Kd.C_alloc ?_ _) | (with_reducible refine Kd.C_drewN ?_ _) | (with_reducible refine Kd.C_drew ?_) | exact HR224.out)) | (with_reducible refine Kd.C_alloc ?_ _) | (with_reducible refine Kd.C_drewN ?_ _) | (with_reducible refine Kd.C_drew ?_)))
            (case aB => exact (by repeat (first | (with_reducible first | exact HB.out | apply below_alloc | apply pw_below_drewN | apply below_drew1) | exact HB.out)))
            (case aF => exact (fun k_ hk => ⟨Kd.fresh' (Kd.R_lt (by (with_reducible repeat (first | apply R_alloc | apply R_drewN | apply R_drew)); exact HO_11.out)) k_ hk, Kd.fresh' (Kd.R_lt (by (with_reducible repeat (first | apply R_alloc | apply R_drewN | apply R_drew)); exact HO_13.out)) k_ hk, Kd.fresh' (Kd.R_lt (by (with_reducible repeat (first | apply R_alloc | apply R_drewN | apply R_drew)); exact HO_15.out)) k_ hk, Kd.fresh' (Kd.R_lt (by (with_reducible repeat (first | apply R_alloc | apply R_drewN | apply R_drew)); exact HO231.out)) k_ hk⟩))
            (case aO => exact (by (with_reducible repeat (first | apply R_alloc | apply R_drewN | apply R_drew)); exact Kd.R_mono HO220.out (fun _ hk => by simp only [hk, ne_eq, not_false_eq_true, and_self])))
            (case aS => exact (below_size (by repeat (first | (with_reducible first | exact HB.out | apply below_alloc | apply pw_below_drewN | apply below_drew1) | exact HB.out))))
            (case aL => have := LMc104.out; omega)
            intro v226 w115 ho hb hg hat
            (first | have HS0_ := cell_grown hg (hHeld.1) (by first | (rw [add_block]; exact (HO_11.out.1 _ rfl).1.2) | (show some (Addr.add _ _).block ≠ _; rw [add_block]; exact (HO_11.out.1 _ rfl).1.2) | exact (HO_11.out.1 _ rfl).1.2) | have HS0_ := cell_grown hg (cell_unalloc (hHeld.1) (by first | (rw [add_block]; exact Kd.R_lt HO_11.out _ rfl) | (show (Addr.add _ _).block < _; rw [add_block]; exact Kd.R_lt HO_11.out _ rfl) | exact Kd.R_lt HO_11.out _ rfl)) (by first | (rw [add_block]; exact (HO_11.out.1 _ rfl).1.2) | (show some (Addr.add _ _).block ≠ _; rw [add_block]; exact (HO_11.out.1 _ rfl).1.2) | exact (HO_11.out.1 _ rfl).1.2))
            (first | have HS1_ := cell_grown hg (hHeld.2.1) (by first | (rw [add_block]; exact (HO_11.out.1 _ rfl).1.2) | (show some (Addr.add _ _).block ≠ _; rw [add_block]; exact (HO_11.out.1 _ rfl).1.2) | exact (HO_11.out.1 _ rfl).1.2) | have HS1_ := cell_grown hg (cell_unalloc (hHeld.2.1) (by first | (rw [add_block]; exact Kd.R_lt HO_11.out _ rfl) | (show (Addr.add _ _).block < _; rw [add_block]; exact Kd.R_lt HO_11.out _ rfl) | exact Kd.R_lt HO_11.out _ rfl)) (by first | (rw [add_block]; exact (HO_11.out.1 _ rfl).1.2) | (show some (Addr.add _ _).block ≠ _; rw [add_block]; exact (HO_11.out.1 _ rfl).1.2) | exact (HO_11.out.1 _ rfl).1.2))
            (first | have HS2_ := cell_grown hg (hHeld.2.2) (by first | (rw [add_block]; exact (HO_11.out.1 _ rfl).1.2) | (show some (Addr.add _ _).block ≠ _; rw [add_block]; exact (HO_11.out.1 _ rfl).1.2) | exact (HO_11.out.1 _ rfl).1.2) | have HS2_ := cell_grown hg (cell_unalloc (hHeld.2.2) (by first | (rw [add_block]; exact Kd.R_lt HO_11.out _ rfl) | (show (Addr.add _ _).block < _; rw [add_block]; exact Kd.R_lt HO_11.out _ rfl) | exact Kd.R_lt HO_11.out _ rfl)) (by first | (rw [add_block]; exact (HO_11.out.1 _ rfl).1.2) | (show some (Addr.add _ _).block ≠ _; rw [add_block]; exact (HO_11.out.1 _ rfl).1.2) | exact (HO_11.out.1 _ rfl).1.2))
            rw [← Ny225.out] at ho
            have n0_ := am (Kd.R_after (ok := (fun k_ => some k_ ≠ (v178 : Value).ownBlock ∧ some k_ ≠ (.slice Ao108 t180.length co108 : Value).ownBlock ∧ some k_ ≠ (v230 : Value).ownBlock)) (by (with_reducible repeat (first | apply R_alloc | apply R_drewN | apply R_drew)); exact Kd.R_mono HO_11.out (fun _ hk => by simp only [hk, ne_eq, not_false_eq_true, and_self])) hg hat)
            have n1_ := am (Kd.R_after (ok := (fun k_ => some k_ ≠ (.slice (some ad228) t173.length co20 : Value).ownBlock ∧ some k_ ≠ (.slice Ao108 t180.length co108 : Value).ownBlock ∧ some k_ ≠ (v230 : Value).ownBlock)) (by (with_reducible repeat (first | apply R_alloc | apply R_drewN | apply R_drew)); exact Kd.R_mono HO_13.out (fun _ hk => by simp only [hk, ne_eq, not_false_eq_true, and_self])) hg hat)
            have n2_ := am (Kd.R_after (ok := (fun k_ => some k_ ≠ (.slice (some ad228) t173.length co20 : Value).ownBlock ∧ some k_ ≠ (v178 : Value).ownBlock ∧ some k_ ≠ (v230 : Value).ownBlock)) (by (with_reducible repeat (first | apply R_alloc | apply R_drewN | apply R_drew)); exact Kd.R_mono HO_15.out (fun _ hk => by simp only [hk, ne_eq, not_false_eq_true, and_self])) hg hat)
            have n3_ := am (Kd.R_after (ok := (fun k_ => some k_ ≠ (.slice (some ad228) t173.length co20 : Value).ownBlock ∧ some k_ ≠ (v178 : Value).ownBlock ∧ some k_ ≠ (.slice Ao108 t180.length co108 : Value).ownBlock)) (by (with_reducible repeat (first | apply R_alloc | apply R_drewN | apply R_drew)); exact Kd.R_mono HO231.out (fun _ hk => by simp only [hk, ne_eq, not_false_eq_true, and_self])) hg hat)
            have n4_ := am (hb)
            have n5_ := am ((show Kd.C k32 w115 (some ad228) y221.length y221 from by rw [Ny221.out]; exact Kd.C_take (m := ((ji101) : Int).toNat) ((Kd.R_reads' (Kd.R_after (ok := (fun k_ => some k_ ≠ (v178 : Value).ownBlock ∧ some k_ ≠ (.slice Ao108 t180.length co108 : Value).ownBlock ∧ some k_ ≠ (v230 : Value).ownBlock)) (by (with_reducible repeat (first | apply R_alloc | apply R_drewN | apply R_drew)); exact Kd.R_mono HO_11.out (fun _ hk => by simp only [hk, ne_eq, not_false_eq_true, and_self])) hg hat)).2.2) KL110.out))
            have n6_ := am (ho)
            clear HO_11
            clear HO_13
            clear HO_15
            clear HO231
            clear HB
            clear HR224
            clear HO220
            have HO_11 := n0_
            have HO_13 := n1_
            have HO_15 := n2_
            have HO231 := n3_
            have HB := n4_
            have HR224 := n5_
            have HO227 := n6_
            clear n0_ n1_ n2_ n3_ n4_ n5_ n6_
            clear ho hb hg hat
            refine hK.out _ _ ⟨HS0_, HS1_, HS2_⟩ (fun hHeld => ?_)
            clear hK K
            refine norm_ (a' := ?_) ?_ ?_
            rotate_left
            ·
             show Act.put _ (some 143) _ = _
             simp only [Act.put, setIfInBounds_toArray, set_cons_zero, set_cons_succ, i64_w, i32_w]
             rfl
            exact norm_ (by simp only [putAll, Act.put, setIfInBounds_toArray, set_cons_zero, set_cons_succ]) (hCont (v219, v226, v230) _ ⟨hHeld, (by (with_reducible repeat (first | apply R_alloc | apply R_drewN | apply R_drew)); exact Kd.R_mono HO227.out (fun _ hk => by simp only [hk, ne_eq, not_false_eq_true, and_self])), (by (with_reducible repeat (first | apply R_alloc | apply R_drewN | apply R_drew)); exact Kd.R_mono HO231.out (fun _ hk => by simp only [hk, ne_eq, not_false_eq_true, and_self])), (by (with_reducible repeat (first | apply R_alloc | apply R_drewN | apply R_drew)); exact Kd.R_mono HO_11.out (fun _ hk => by simp only [hk, ne_eq, not_false_eq_true, and_self])), (by (with_reducible repeat (first | apply R_alloc | apply R_drewN | apply R_drew)); exact Kd.R_mono HO_13.out (fun _ hk => by simp only [hk, ne_eq, not_false_eq_true, and_self])), (by (with_reducible repeat (first | apply R_alloc | apply R_drewN | apply R_drew)); exact Kd.R_mono HO_15.out (fun _ hk => by simp only [hk, ne_eq, not_false_eq_true, and_self])), (by repeat (first | (with_reducible first | exact HB.out | apply below_alloc | apply pw_below_drewN | apply below_drew1) | exact HB.out))⟩)
           rintro ⟨v219, v226, v230⟩ w116 ⟨hS_, h0_, h1_, h2_, h3_, h4_, h5_⟩
           have n0_ : Aside0 (Kd.R k32 32 w116 w.heap.size (fun k_ => some k_ ≠ (v230 : Value).ownBlock ∧ some k_ ≠ (.slice (some ad228) t173.length co20 : Value).ownBlock ∧ some k_ ≠ (v178 : Value).ownBlock ∧ some k_ ≠ (.slice Ao108 t180.length co108 : Value).ownBlock) v226 y225) := ⟨h0_⟩
           have n1_ : Aside0 (Kd.R k32 32 w116 w.heap.size (fun k_ => some k_ ≠ (v226 : Value).ownBlock ∧ some k_ ≠ (.slice (some ad228) t173.length co20 : Value).ownBlock ∧ some k_ ≠ (v178 : Value).ownBlock ∧ some k_ ≠ (.slice Ao108 t180.length co108 : Value).ownBlock) v230 y229) := ⟨h1_⟩
           have n2_ : Aside0 (Kd.R k32 32 w116 w.heap.size (fun k_ => some k_ ≠ (v226 : Value).ownBlock ∧ some k_ ≠ (v230 : Value).ownBlock ∧ some k_ ≠ (v178 : Value).ownBlock ∧ some k_ ≠ (.slice Ao108 t180.length co108 : Value).ownBlock) (.slice (some ad228) t173.length co20) t173) := ⟨h2_⟩
           have n3_ : Aside0 (Kd.R k32 32 w116 w.heap.size (fun k_ => some k_ ≠ (v226 : Value).ownBlock ∧ some k_ ≠ (v230 : Value).ownBlock ∧ some k_ ≠ (.slice (some ad228) t173.length co20 : Value).ownBlock ∧ some k_ ≠ (.slice Ao108 t180.length co108 : Value).ownBlock) v178 t176) := ⟨h3_⟩
           have n4_ : Aside0 (Kd.R k32 32 w116 w.heap.size (fun k_ => some k_ ≠ (v226 : Value).ownBlock ∧ some k_ ≠ (v230 : Value).ownBlock ∧ some k_ ≠ (.slice (some ad228) t173.length co20 : Value).ownBlock ∧ some k_ ≠ (v178 : Value).ownBlock) (.slice Ao108 t180.length co108) t180) := ⟨h4_⟩
           have n5_ : Aside0 (Below w.heap.size w w116) := ⟨h5_⟩
           clear HO_11
           clear HO_13
           clear HO_15
           clear HB
           clear h0_ h1_ h2_ h3_ h4_ h5_
           have HO227 := n0_
           have HO231 := n1_
           have HO_11 := n2_
           have HO_13 := n3_
           have HO_15 := n4_
           have HB := n5_
           clear n0_ n1_ n2_ n3_ n4_ n5_
           have hHeld : w116.cell? (ad228.add (((ji101)).toNat * 3)) = some (.int .u64 ((rd_T32 t173 (ji101)).f0)) ∧ w116.cell? ⟨(ad228.add (((ji101)).toNat * 3)).block, (ad228.add (((ji101)).toNat * 3)).off + 1, none⟩ = some (.bool ((rd_T32 t173 (ji101)).f1)) ∧ w116.cell? ⟨(ad228.add (((ji101)).toNat * 3)).block, (ad228.add (((ji101)).toNat * 3)).off + 2, none⟩ = some (.int .u64 ((rd_T32 t173 (ji101)).f2)) := hS_
           obtain ⟨Ao118, co118, eo118⟩ := Kd.R_slice HO231.out
           (first | subst eo118 | (injection eo118 with f1_ f2_ f3_; have f4_ := f1_.symm; have f5_ := f3_.symm; clear f1_ f2_ f3_; subst f4_; subst f5_))
           refine norm_ (a' := ?_) ?_ ?_
           rotate_left
           ·
            simp only [putAll, Act.put, setIfInBounds_toArray, set_cons_zero, set_cons_succ]
            rfl
           refine one_ (i := 19) (N := some 153) #[T, T, T, T, T, T, T, T, T, T, T, T, T, T, T, T, T, T, T, T, F, F, F] rfl rfl (one_of HT_.out (by kernel_rfl)) (by decide) (fun K hK => ?_)
           refine Kd.R_append_rows_step k32 (w0 := w) w.heap.size (by rfl) (.tmp 143) (.tmp 152) 22 32 (.agg #[(.int .u64 0), (.bool false), (.int .u64 0)]) 24 rfl Try.underlying22 info32 rfl (by decide) (by omega) v226 y225 y229 _ _ _ (fun k_ => some k_ ≠ (.slice (some ad228) t173.length co20 : Value).ownBlock ∧ some k_ ≠ (v178 : Value).ownBlock ∧ some k_ ≠ (.slice Ao108 t180.length co108 : Value).ownBlock ∧ some k_ ≠ (.slice Ao118 y229.length co118 : Value).ownBlock) (fun _ => False) rfl rfl ?aO ?aR (fun _ _ h => h) (fun _ h => h.elim) ?aF ?aB ?aS ?aL ?_
           (case aR => repeat (first | exact (Kd.R_reads' HO231.out).2.2 | (with_reducible refine Kd.C_alloc ?_ _) | (with_reducible refine Kd.C_drewN ?_ _) | (with_reducible refine Kd.C_drew ?_)))
           (case aB => exact (by repeat (first | (with_reducible first | exact HB.out | apply below_alloc | apply pw_below_drewN | apply below_drew1) | exact HB.out)))
           (case aF => exact (fun k_ hk => ⟨Kd.fresh' (Kd.R_lt (by (with_reducible repeat (first | apply R_alloc | apply R_drewN | apply R_drew)); exact HO_11.out)) k_ hk, Kd.fresh' (Kd.R_lt (by (with_reducible repeat (first | apply R_alloc | apply R_drewN | apply R_drew)); exact HO_13.out)) k_ hk, Kd.fresh' (Kd.R_lt (by (with_reducible repeat (first | apply R_alloc | apply R_drewN | apply R_drew)); exact HO_15.out)) k_ hk, Kd.fresh' (Kd.R_lt (by (with_reducible repeat (first | apply R_alloc | apply R_drewN | apply R_drew)); exact HO231.out)) k_ hk⟩))
           (case aO => exact (by (with_reducible repeat (first | apply R_alloc | apply R_drewN | apply R_drew)); exact Kd.R_mono HO227.out (fun _ hk => by simp only [hk, ne_eq, not_false_eq_true, and_self])))
           (case aS => exact (below_size (by repeat (first | (with_reducible first | exact HB.out | apply below_alloc | apply pw_below_drewN | apply below_drew1) | exact HB.out))))
           (case aL => have := LMc106.out; omega)
           intro v233 w117 ho hb hg hat
           (first | have HS0_ := cell_grown hg (hHeld.1) (by first | (rw [add_block]; exact (HO_11.out.1 _ rfl).1) | (show some (Addr.add _ _).block ≠ _; rw [add_block]; exact (HO_11.out.1 _ rfl).1) | exact (HO_11.out.1 _ rfl).1) | have HS0_ := cell_grown hg (cell_unalloc (hHeld.1) (by first | (rw [add_block]; exact Kd.R_lt HO_11.out _ rfl) | (show (Addr.add _ _).block < _; rw [add_block]; exact Kd.R_lt HO_11.out _ rfl) | exact Kd.R_lt HO_11.out _ rfl)) (by first | (rw [add_block]; exact (HO_11.out.1 _ rfl).1) | (show some (Addr.add _ _).block ≠ _; rw [add_block]; exact (HO_11.out.1 _ rfl).1) | exact (HO_11.out.1 _ rfl).1))
           (first | have HS1_ := cell_grown hg (hHeld.2.1) (by first | (rw [add_block]; exact (HO_11.out.1 _ rfl).1) | (show some (Addr.add _ _).block ≠ _; rw [add_block]; exact (HO_11.out.1 _ rfl).1) | exact (HO_11.out.1 _ rfl).1) | have HS1_ := cell_grown hg (cell_unalloc (hHeld.2.1) (by first | (rw [add_block]; exact Kd.R_lt HO_11.out _ rfl) | (show (Addr.add _ _).block < _; rw [add_block]; exact Kd.R_lt HO_11.out _ rfl) | exact Kd.R_lt HO_11.out _ rfl)) (by first | (rw [add_block]; exact (HO_11.out.1 _ rfl).1) | (show some (Addr.add _ _).block ≠ _; rw [add_block]; exact (HO_11.out.1 _ rfl).1) | exact (HO_11.out.1 _ rfl).1))
           (first | have HS2_ := cell_grown hg (hHeld.2.2) (by first | (rw [add_block]; exact (HO_11.out.1 _ rfl).1) | (show some (Addr.add _ _).block ≠ _; rw [add_block]; exact (HO_11.out.1 _ rfl).1) | exact (HO_11.out.1 _ rfl).1) | have HS2_ := cell_grown hg (cell_unalloc (hHeld.2.2) (by first | (rw [add_block]; exact Kd.R_lt HO_11.out _ rfl) | (show (Addr.add _ _).block < _; rw [add_block]; exact Kd.R_lt HO_11.out _ rfl) | exact Kd.R_lt HO_11.out _ rfl)) (by first | (rw [add_block]; exact (HO_11.out.1 _ rfl).1) | (show some (Addr.add _ _).block ≠ _; rw [add_block]; exact (HO_11.out.1 _ rfl).1) | exact (HO_11.out.1 _ rfl).1))
           rw [← Ny232.out] at ho
           have n0_ := am (Kd.R_after (ok := (fun k_ => some k_ ≠ (v178 : Value).ownBlock ∧ some k_ ≠ (.slice Ao108 t180.length co108 : Value).ownBlock ∧ some k_ ≠ (.slice Ao118 y229.length co118 : Value).ownBlock)) (by (with_reducible repeat (first | apply R_alloc | apply R_drewN | apply R_drew)); exact Kd.R_mono HO_11.out (fun _ hk => by simp only [hk, ne_eq, not_false_eq_true, and_self])) hg hat)
           have n1_ := am (Kd.R_after (ok := (fun k_ => some k_ ≠ (.slice (some ad228) t173.length co20 : Value).ownBlock ∧ some k_ ≠ (.slice Ao108 t180.length co108 : Value).ownBlock ∧ some k_ ≠ (.slice Ao118 y229.length co118 : Value).ownBlock)) (by (with_reducible repeat (first | apply R_alloc | apply R_drewN | apply R_drew)); exact Kd.R_mono HO_13.out (fun _ hk => by simp only [hk, ne_eq, not_false_eq_true, and_self])) hg hat)
           have n2_ := am (Kd.R_after (ok := (fun k_ => some k_ ≠ (.slice (some ad228) t173.length co20 : Value).ownBlock ∧ some k_ ≠ (v178 : Value).ownBlock ∧ some k_ ≠ (.slice Ao118 y229.length co118 : Value).ownBlock)) (by (with_reducible repeat (first | apply R_alloc | apply R_drewN | apply R_drew)); exact Kd.R_mono HO_15.out (fun _ hk => by simp only [hk, ne_eq, not_false_eq_true, and_self])) hg hat)
           have n3_ := am (Kd.R_after (ok := (fun k_ => some k_ ≠ (.slice (some ad228) t173.length co20 : Value).ownBlock ∧ some k_ ≠ (v178 : Value).ownBlock ∧ some k_ ≠ (.slice Ao108 t180.length co108 : Value).ownBlock)) (by (with_reducible repeat (first | apply R_alloc | apply R_drewN | apply R_drew)); exact Kd.R_mono HO231.out (fun _ hk => by simp only [hk, ne_eq, not_false_eq_true, and_self])) hg hat)
           have n4_ := am (hb)
           have n5_ := am (ho)
           clear HO_11
           clear HO_13
           clear HO_15
           clear HO231
           clear HB
           clear HO227
           have HO_11 := n0_
           have HO_13 := n1_
           have HO_15 := n2_
           have HO231 := n3_
           have HB := n4_
           have HO234 := n5_
           clear n0_ n1_ n2_ n3_ n4_ n5_
           clear ho hb hg hat
           obtain ⟨Ao119, co119, eo119⟩ := Kd.R_slice HO234.out
           (first | subst eo119 | (injection eo119 with f1_ f2_ f3_; have f4_ := f1_.symm; have f5_ := f3_.symm; clear f1_ f2_ f3_; subst f4_; subst f5_))
           refine hK.out _ _ ⟨HS0_, HS1_, HS2_⟩ (fun hHeld => ?_)
           clear hK K
           refine norm_ (a' := ?_) ?_ ?_
           rotate_left
           ·
            show Act.put _ (some 153) _ = _
            simp only [Act.put, setIfInBounds_toArray, set_cons_zero, set_cons_succ, i64_w, i32_w]
            rfl
           refine one_ (i := 20) (N := some 154) #[T, T, T, T, T, T, T, T, T, T, T, T, T, T, T, T, T, T, T, T, T, F, F] rfl rfl (one_of HT_.out (by kernel_rfl)) (by decide) (fun K hK => ?_)
           refine goes_ Try.func15 (by kernel_rfl) rfl #[.slice Ao108 t180.length co108, .slice Ao119 y232.length co119] (by rfl) rfl rfl (by (try simp only [List.map_toArray, List.map_cons, List.map_nil]); first | done | rfl | (simp only [List.length_drop, List.length_take]; rfl)) ?_
           with_reducible refine (mailcoachref13_SameLedgers.calls kj42 _ _ t180 _ _ y232 t235 _ ?side1 ?side2 ?side3 ?side4 A107.out).mono ?_
           (case side1 => repeat (first | exact (Kd.R_reads' HO_15.out).2.2 | (with_reducible refine Kd.C_alloc ?_ _) | (with_reducible refine Kd.C_drewN ?_ _) | (with_reducible refine Kd.C_drew ?_)))
           (case side2 => exact (Kd.R_reads' HO_15.out).2.1)
           (case side3 => repeat (first | exact (Kd.R_reads' HO234.out).2.2 | (with_reducible refine Kd.C_alloc ?_ _) | (with_reducible refine Kd.C_drewN ?_ _) | (with_reducible refine Kd.C_drew ?_)))
           (case side4 => exact (Kd.R_reads' HO234.out).2.1)
           rintro e w' ⟨rfl, ⟨nd, rfl⟩⟩
           refine ⟨_, rfl, ?_⟩
           refine hK.out _ _ ⟨hHeld.1, hHeld.2.1, hHeld.2.2⟩ (fun hHeld => ?_)
           clear hK K
           refine norm_ (a' := ?_) ?_ ?_
           rotate_left
           ·
            show Act.put _ (some 154) _ = _
            simp only [Act.put, setIfInBounds_toArray, set_cons_zero, set_cons_succ, i64_w, i32_w]
            rfl
           refine pure_ (i := 21) (N := some 155) (v := ?_) (a' := ?_) #[T, T, T, T, T, T, T, T, T, T, T, T, T, T, T, T, T, T, T, T, T, T, F] rfl rfl (any_of HT_.out (by kernel_rfl)) (fun _ _ _ h => h) (Or.inl ⟨by rfl, ?_⟩) ?_ ?_
           rotate_left
           ·
            intro w'
            go_simp
            with_reducible rfl
           rotate_left
           ·
            simp only [Act.put, setIfInBounds_toArray, set_cons_zero, set_cons_succ, i64_w, i32_w]
            rfl
           refine pure_ (i := 22) (N := some 10) (v := ?_) (a' := ?_) #[T, T, T, T, T, T, T, T, T, T, T, T, T, T, T, T, T, T, T, T, T, T, T] rfl rfl (any_of HT_.out (by kernel_rfl)) (fun _ _ _ h => h) (Or.inl ⟨by rfl, ?_⟩) ?_ ?_
           rotate_left
           ·
            intro w'
            go_simp
            with_reducible rfl
           rotate_left
           ·
            simp only [Act.put, setIfInBounds_toArray, set_cons_zero, set_cons_succ, i64_w, i32_w]
            rfl
           refine done_ (done_of HT_.out (by kernel_rfl)) ?_
           try go_wp2
           go_ret
           exact ⟨by first | rfl | (simp [errW_none, errW_some] <;> rfl) | (simp only [← hji101]; first | rfl | (simp [errW_none, errW_some] <;> rfl)) | (simp [*, errW_none, errW_some] <;> rfl), by repeat (first | (with_reducible first | exact HB.out | apply below_alloc | apply pw_below_drewN | apply below_drew1) | exact HB.out)⟩
         rw [if_pos c56] at H
         have c56b0 : (t177 == 0) = true := beq_iff_eq.mpr c56
         have c56b1 : (t177 != 0) = false := bne_eq_false_iff_eq.mpr c56
         clear c56
         obtain ⟨y187, hy187⟩ : ∃ y_ : List (S32), y_ = (([] : List (S32))) := ⟨_, rfl⟩
         replace H : (if y187.length + t173.length < 5864062014805 then ((some (y187 ++ t173 : List (S32))).bind fun y190 => ((some (([(⟨a3, false, 0⟩ : S32)] : List (S32)) : List (S32))).bind fun y193 => (if y190.length + y193.length < 5864062014805 then ((mailcoachref13_SameLedgers.f kj42 t176 (y190 ++ y193)).bind fun t199 => (if t199 = true then (if t181 = 0 then ((some (([] : List (S32)) : List (S32))).bind fun y200 => (if 0 ≤ (wrap64 ((t173.length : Int) - 1)) then (if (wrap64 ((t173.length : Int) - 1)) ≤ (t173.length : Int) then ((some (t173.take ((wrap64 ((t173.length : Int) - 1)) : Int).toNat : List (S32))).bind fun y203 => (if y200.length + y203.length < 5864062014805 then ((some (y200 ++ y203 : List (S32))).bind fun y207 => (if (wrap64 ((t173.length : Int) - 1)) < (t173.length : Int) then ((some (([(⟨(rd_T32 t173 (wrap64 ((t173.length : Int) - 1))).f0, true, a4⟩ : S32)] : List (S32)) : List (S32))).bind fun y211 => (if y207.length + y211.length < 5864062014805 then ((mailcoachref13_SameLedgers.f kj42 t180 (y207 ++ y211)).bind fun t217 => (some t217)) else (none))) else (none))) else (none))) else (none)) else (none))) else (some true)) else (some false))) else (none)))) else (none)) = some r := by first | (rw [hy187]; with_reducible exact H) | (have H2_ := (Option.bind_some _ _).symm.trans H; rw [hy187]; with_reducible exact H2_) | (have H2_ := (Option.bind_some _ _).symm.trans H; with_reducible exact H2_) | with_reducible exact H | (rw [hy187]; exact H) | exact H
         have Ny187 := am hy187
         clear hy187
         by_cases c57 : y187.length + t173.length < 5864062014805
         rotate_left
         ·
          rw [if_neg c57] at H
          exact absurd H (by simp)
         rw [if_pos c57] at H
         have LMc57 := am c57
         clear c57
         obtain ⟨y190, hy190⟩ : ∃ y_ : List (S32), y_ = (y187 ++ t173) := ⟨_, rfl⟩
         replace H : ((some (([(⟨a3, false, 0⟩ : S32)] : List (S32)) : List (S32))).bind fun y193 => (if y190.length + y193.length < 5864062014805 then ((mailcoachref13_SameLedgers.f kj42 t176 (y190 ++ y193)).bind fun t199 => (if t199 = true then (if t181 = 0 then ((some (([] : List (S32)) : List (S32))).bind fun y200 => (if 0 ≤ (wrap64 ((t173.length : Int) - 1)) then (if (wrap64 ((t173.length : Int) - 1)) ≤ (t173.length : Int) then ((some (t173.take ((wrap64 ((t173.length : Int) - 1)) : Int).toNat : List (S32))).bind fun y203 => (if y200.length + y203.length < 5864062014805 then ((some (y200 ++ y203 : List (S32))).bind fun y207 => (if (wrap64 ((t173.length : Int) - 1)) < (t173.length : Int) then ((some (([(⟨(rd_T32 t173 (wrap64 ((t173.length : Int) - 1))).f0, true, a4⟩ : S32)] : List (S32)) : List (S32))).bind fun y211 => (if y207.length + y211.length < 5864062014805 then ((mailcoachref13_SameLedgers.f kj42 t180 (y207 ++ y211)).bind fun t217 => (some t217)) else (none))) else (none))) else (none))) else (none)) else (none))) else (some true)) else (some false))) else (none))) = some r := by first | (rw [hy190]; with_reducible exact H) | (have H2_ := (Option.bind_some _ _).symm.trans H; rw [hy190]; with_reducible exact H2_) | (have H2_ := (Option.bind_some _ _).symm.trans H; with_reducible exact H2_) | with_reducible exact H | (rw [hy190]; exact H) | exact H
         have Ny190 := am hy190
         clear hy190
         obtain ⟨y193, hy193⟩ : ∃ y_ : List (S32), y_ = (([(⟨a3, false, 0⟩ : S32)] : List (S32))) := ⟨_, rfl⟩
         replace H : (if y190.length + y193.length < 5864062014805 then ((mailcoachref13_SameLedgers.f kj42 t176 (y190 ++ y193)).bind fun t199 => (if t199 = true then (if t181 = 0 then ((some (([] : List (S32)) : List (S32))).bind fun y200 => (if 0 ≤ (wrap64 ((t173.length : Int) - 1)) then (if (wrap64 ((t173.length : Int) - 1)) ≤ (t173.length : Int) then ((some (t173.take ((wrap64 ((t173.length : Int) - 1)) : Int).toNat : List (S32))).bind fun y203 => (if y200.length + y203.length < 5864062014805 then ((some (y200 ++ y203 : List (S32))).bind fun y207 => (if (wrap64 ((t173.length : Int) - 1)) < (t173.length : Int) then ((some (([(⟨(rd_T32 t173 (wrap64 ((t173.length : Int) - 1))).f0, true, a4⟩ : S32)] : List (S32)) : List (S32))).bind fun y211 => (if y207.length + y211.length < 5864062014805 then ((mailcoachref13_SameLedgers.f kj42 t180 (y207 ++ y211)).bind fun t217 => (some t217)) else (none))) else (none))) else (none))) else (none)) else (none))) else (some true)) else (some false))) else (none)) = some r := by first | (rw [hy193]; with_reducible exact H) | (have H2_ := (Option.bind_some _ _).symm.trans H; rw [hy193]; with_reducible exact H2_) | (have H2_ := (Option.bind_some _ _).symm.trans H; with_reducible exact H2_) | with_reducible exact H | (rw [hy193]; exact H) | exact H
         have Ny193 := am hy193
         clear hy193
         by_cases c58 : y190.length + y193.length < 5864062014805
         rotate_left
         ·
          rw [if_neg c58] at H
          exact absurd H (by simp)
         rw [if_pos c58] at H
         have LMc58 := am c58
         clear c58
         obtain ⟨y196, hy196⟩ : ∃ y_ : List (S32), y_ = (y190 ++ y193) := ⟨_, rfl⟩
         replace H : ((mailcoachref13_SameLedgers.f kj42 t176 y196).bind fun t199 => (if t199 = true then (if t181 = 0 then ((some (([] : List (S32)) : List (S32))).bind fun y200 => (if 0 ≤ (wrap64 ((t173.length : Int) - 1)) then (if (wrap64 ((t173.length : Int) - 1)) ≤ (t173.length : Int) then ((some (t173.take ((wrap64 ((t173.length : Int) - 1)) : Int).toNat : List (S32))).bind fun y203 => (if y200.length + y203.length < 5864062014805 then ((some (y200 ++ y203 : List (S32))).bind fun y207 => (if (wrap64 ((t173.length : Int) - 1)) < (t173.length : Int) then ((some (([(⟨(rd_T32 t173 (wrap64 ((t173.length : Int) - 1))).f0, true, a4⟩ : S32)] : List (S32)) : List (S32))).bind fun y211 => (if y207.length + y211.length < 5864062014805 then ((mailcoachref13_SameLedgers.f kj42 t180 (y207 ++ y211)).bind fun t217 => (some t217)) else (none))) else (none))) else (none))) else (none)) else (none))) else (some true)) else (some false))) = some r := by first | (rw [hy196]; with_reducible exact H) | (have H2_ := (Option.bind_some _ _).symm.trans H; rw [hy196]; with_reducible exact H2_) | (have H2_ := (Option.bind_some _ _).symm.trans H; with_reducible exact H2_) | with_reducible exact H | (rw [hy196]; exact H) | exact H
         have Ny196 := am hy196
         clear hy196
         replace H := Option.bind_eq_some_iff.mp H
         obtain ⟨t199, A590, H⟩ := H
         replace H : (if t199 = true then (if t181 = 0 then ((some (([] : List (S32)) : List (S32))).bind fun y200 => (if 0 ≤ (wrap64 ((t173.length : Int) - 1)) then (if (wrap64 ((t173.length : Int) - 1)) ≤ (t173.length : Int) then ((some (t173.take ((wrap64 ((t173.length : Int) - 1)) : Int).toNat : List (S32))).bind fun y203 => (if y200.length + y203.length < 5864062014805 then ((some (y200 ++ y203 : List (S32))).bind fun y207 => (if (wrap64 ((t173.length : Int) - 1)) < (t173.length : Int) then ((some (([(⟨(rd_T32 t173 (wrap64 ((t173.length : Int) - 1))).f0, true, a4⟩ : S32)] : List (S32)) : List (S32))).bind fun y211 => (if y207.length + y211.length < 5864062014805 then ((mailcoachref13_SameLedgers.f kj42 t180 (y207 ++ y211)).bind fun t217 => (some t217)) else (none))) else (none))) else (none))) else (none)) else (none))) else (some true)) else (some false)) = some r := H
         have A59 := am A590
         clear A590
         by_cases c60 : t199 = true
         rotate_left
         ·
          replace c60 := Bool.eq_false_iff.mpr c60
          subst c60
          have H1 : (some false) = some r := by rw [if_neg (show ¬ (false = true) by decide)] at H; exact H
          clear H
          have H := H1
          clear H1
          as_aux_lemma =>
           exact absurd ((Option.some.inj H).trans HT0_.out) (by decide)
         subst c60
         have H1 : (if t181 = 0 then ((some (([] : List (S32)) : List (S32))).bind fun y200 => (if 0 ≤ (wrap64 ((t173.length : Int) - 1)) then (if (wrap64 ((t173.length : Int) - 1)) ≤ (t173.length : Int) then ((some (t173.take ((wrap64 ((t173.length : Int) - 1)) : Int).toNat : List (S32))).bind fun y203 => (if y200.length + y203.length < 5864062014805 then ((some (y200 ++ y203 : List (S32))).bind fun y207 => (if (wrap64 ((t173.length : Int) - 1)) < (t173.length : Int) then ((some (([(⟨(rd_T32 t173 (wrap64 ((t173.length : Int) - 1))).f0, true, a4⟩ : S32)] : List (S32)) : List (S32))).bind fun y211 => (if y207.length + y211.length < 5864062014805 then ((mailcoachref13_SameLedgers.f kj42 t180 (y207 ++ y211)).bind fun t217 => (some t217)) else (none))) else (none))) else (none))) else (none)) else (none))) else (some true)) = some r := by rw [if_pos rfl] at H; exact H
         clear H
         have H := H1
         clear H1
         by_cases c61 : t181 = 0
         rotate_left
         ·
          rw [if_neg c61] at H
          have c61b0 : (t181 == 0) = false := beq_eq_false_iff_ne.mpr c61
          have c61b1 : (t181 != 0) = true := bne_iff_ne.mpr c61
          as_aux_lemma =>
           obtain rfl := Option.some.inj H
           try go_wp2_with (first | ((with_reducible refine gate_dst (N := 124) rfl ?_); (try (refine gate_guard (by rfl) ?_; dsimp only)); refine Kd.R_lit k32 _ 32 ?hg (N := 124) ?hd (xs := ([] : List (S32))) (inner := []) (ok := fun _ => True) (okp := fun _ => True) ?hr ?hp (fun _ hk => hk) trivial (Below.refl _ _) (Nat.le_refl _) (by simp) ?_; (case hd => rfl); (case hg => rfl); (case hr => first | (go_simp; done) | (go_simp; rfl)); (case hp => exact (Reps.none _ _)); intro v188 w90 ho91 hb hg_ hnew_; clear hg_ hnew_; (first | rw [← Ny187.out] at ho91 | (simp only [Int.reduceToNat] at ho91; rw [← Ny187.out] at ho91)); have n0_ := am (Kd.R_elder' (by (with_reducible repeat (first | apply R_alloc | apply R_drewN | apply R_drew)); exact HO_11.out) (Kd.R_base ho91) hb); have n1_ := am (Kd.R_elder' (by (with_reducible repeat (first | apply R_alloc | apply R_drewN | apply R_drew)); exact HO_13.out) (Kd.R_base ho91) hb); have n2_ := am (Kd.R_elder' (by (with_reducible repeat (first | apply R_alloc | apply R_drewN | apply R_drew)); exact HO_15.out) (Kd.R_base ho91) hb); have n3_ := am (Kd.R_lower (Kd.R_new' (Kd.R_new' (Kd.R_new' ho91 (Kd.R_lt (by (with_reducible repeat (first | apply R_alloc | apply R_drewN | apply R_drew)); exact HO_11.out))) (Kd.R_lt (by (with_reducible repeat (first | apply R_alloc | apply R_drewN | apply R_drew)); exact HO_13.out))) (Kd.R_lt (by (with_reducible repeat (first | apply R_alloc | apply R_drewN | apply R_drew)); exact HO_15.out))) (below_size (by repeat (first | (with_reducible first | exact HB.out | apply below_alloc | apply pw_below_drewN | apply below_drew1) | exact HB.out)))); have n4_ := am (below_step (by repeat (first | (with_reducible first | exact HB.out | apply below_alloc | apply pw_below_drewN | apply below_drew1) | exact HB.out)) hb); clear HO_11; clear HO_13; clear HO_15; clear HB; have HO_11 := n0_; have HO_13 := n1_; have HO_15 := n2_; have HO189 := n3_; have HB := n4_; clear n0_ n1_ n2_ n3_ n4_; clear hb ho91) | ((with_reducible refine gate_builtin (b := .append) (xs := #[.tmp 124, .tmp 125]) rfl ?_); (try (refine gate_guard (by rfl) ?_; dsimp only)); at_builtin; refine Kd.R_append_rows k32 (w0 := w) w.heap.size rfl (.tmp 124) (.tmp 125) 22 32 (.agg #[(.int .u64 0), (.bool false), (.int .u64 0)]) 24 rfl Try.underlying22 info32 rfl (by decide) (by omega) v188 y187 t173 _ _ _ (fun k_ => some k_ ≠ (.slice Ao20 t173.length co20 : Value).ownBlock ∧ some k_ ≠ (v178 : Value).ownBlock ∧ some k_ ≠ (v182 : Value).ownBlock) (fun _ => False) rfl rfl ?aO ?aR (fun _ _ h => h) (fun _ h => h.elim) ?aF ?aB ?aS ?aL ?_; (case aR => repeat (first | exact (Kd.R_reads' HO_11.out).2.2 | (with_reducible refine Kd.C_alloc ?_ _) | (with_reducible refine Kd.C_drewN ?_ _) | (with_reducible refine Kd.C_drew ?_))); (case aB => exact (by repeat (first | (with_reducible first | exact HB.out | apply below_alloc | apply pw_below_drewN | apply below_drew1) | exact HB.out))); (case aF => exact (fun k_ hk => ⟨Kd.fresh' (Kd.R_lt (by (with_reducible repeat (first | apply R_alloc | apply R_drewN | apply R_drew)); exact HO_11.out)) k_ hk, Kd.fresh' (Kd.R_lt (by (with_reducible repeat (first | apply R_alloc | apply R_drewN | apply R_drew)); exact HO_13.out)) k_ hk, Kd.fresh' (Kd.R_lt (by (with_reducible repeat (first | apply R_alloc | apply R_drewN | apply R_drew)); exact HO_15.out)) k_ hk⟩)); (case aO => exact (by (with_reducible repeat (first | apply R_alloc | apply R_drewN | apply R_drew)); exact Kd.R_mono HO189.out (fun _ hk => by simp only [hk, ne_eq, not_false_eq_true, and_self]))); (case aS => exact (below_size (by repeat (first | (with_reducible first | exact HB.out | apply below_alloc | apply pw_below_drewN | apply below_drew1) | exact HB.out)))); (case aL => have := LMc57.out; omega); intro v191 w92 ho hb hg hat; rw [← Ny190.out] at ho; have n0_ := am (Kd.R_after (ok := (fun k_ => some k_ ≠ (v178 : Value).ownBlock ∧ some k_ ≠ (v182 : Value).ownBlock)) (by (with_reducible repeat (first | apply R_alloc | apply R_drewN | apply R_drew)); exact Kd.R_mono HO_11.out (fun _ hk => by simp only [hk, ne_eq, not_false_eq_true, and_self])) hg hat); have n1_ := am (Kd.R_after (ok := (fun k_ => some k_ ≠ (.slice Ao20 t173.length co20 : Value).ownBlock ∧ some k_ ≠ (v182 : Value).ownBlock)) (by (with_reducible repeat (first | apply R_alloc | apply R_drewN | apply R_drew)); exact Kd.R_mono HO_13.out (fun _ hk => by simp only [hk, ne_eq, not_false_eq_true, and_self])) hg hat); have n2_ := am (Kd.R_after (ok := (fun k_ => some k_ ≠ (.slice Ao20 t173.length co20 : Value).ownBlock ∧ some k_ ≠ (v178 : Value).ownBlock)) (by (with_reducible repeat (first | apply R_alloc | apply R_drewN | apply R_drew)); exact Kd.R_mono HO_15.out (fun _ hk => by simp only [hk, ne_eq, not_false_eq_true, and_self])) hg hat); have n3_ := am (hb); have n4_ := am (ho); clear HO_11; clear HO_13; clear HO_15; clear HB; clear HO189; have HO_11 := n0_; have HO_13 := n1_; have HO_15 := n2_; have HB := n3_; have HO192 := n4_; clear n0_ n1_ n2_ n3_ n4_; clear ho hb hg hat) | ((with_reducible refine gate_dst (N := 129) rfl ?_); (try (refine gate_guard (by rfl) ?_; dsimp only)); refine Kd.R_lit k32 _ 32 ?hg (N := 129) ?hd (xs := ([(⟨a3, false, 0⟩ : S32)] : List (S32))) (inner := [.int .u64 a3, .bool false, .int .u64 0]) (ok := fun _ => True) (okp := fun _ => True) ?hr ?hp (fun _ hk => hk) trivial (Below.refl _ _) (Nat.le_refl _) (by simp) ?_; (case hd => rfl); (case hg => rfl); (case hr => first | (go_simp; done) | (go_simp; rfl)); (case hp => exact (Reps.c3 (show Kd.M k32 _ _ _ (⟨a3, false, 0⟩ : S32) [.int .u64 a3, .bool false, .int .u64 0] from (k32_mkM _ _ _ (⟨a3, false, 0⟩ : S32) )) (Reps.none _ _))); intro v194 w93 ho94 hb hg_ hnew_; clear hg_ hnew_; (first | rw [← Ny193.out] at ho94 | (simp only [Int.reduceToNat] at ho94; rw [← Ny193.out] at ho94)); have n0_ := am (Kd.R_elder' (by (with_reducible repeat (first | apply R_alloc | apply R_drewN | apply R_drew)); exact HO_11.out) (Kd.R_base ho94) hb); have n1_ := am (Kd.R_elder' (by (with_reducible repeat (first | apply R_alloc | apply R_drewN | apply R_drew)); exact HO_13.out) (Kd.R_base ho94) hb); have n2_ := am (Kd.R_elder' (by (with_reducible repeat (first | apply R_alloc | apply R_drewN | apply R_drew)); exact HO_15.out) (Kd.R_base ho94) hb); have n3_ := am (Kd.R_elder' (by (with_reducible repeat (first | apply R_alloc | apply R_drewN | apply R_drew)); exact HO192.out) (Kd.R_base ho94) hb); have n4_ := am (Kd.R_lower (Kd.R_new' (Kd.R_new' (Kd.R_new' (Kd.R_new' ho94 (Kd.R_lt (by (with_reducible repeat (first | apply R_alloc | apply R_drewN | apply R_drew)); exact HO_11.out))) (Kd.R_lt (by (with_reducible repeat (first | apply R_alloc | apply R_drewN | apply R_drew)); exact HO_13.out))) (Kd.R_lt (by (with_reducible repeat (first | apply R_alloc | apply R_drewN | apply R_drew)); exact HO_15.out))) (Kd.R_lt (by (with_reducible repeat (first | apply R_alloc | apply R_drewN | apply R_drew)); exact HO192.out))) (below_size (by repeat (first | (with_reducible first | exact HB.out | apply below_alloc | apply pw_below_drewN | apply below_drew1) | exact HB.out)))); have n5_ := am (below_step (by repeat (first | (with_reducible first | exact HB.out | apply below_alloc | apply pw_below_drewN | apply below_drew1) | exact HB.out)) hb); clear HO_11; clear HO_13; clear HO_15; clear HO192; clear HB; have HO_11 := n0_; have HO_13 := n1_; have HO_15 := n2_; have HO192 := n3_; have HO195 := n4_; have HB := n5_; clear n0_ n1_ n2_ n3_ n4_ n5_; clear hb ho94; obtain ⟨Ao96, co96, eo96⟩ := Kd.R_slice HO195.out; subst eo96) | ((with_reducible refine gate_builtin (b := .append) (xs := #[.tmp 126, .tmp 129]) rfl ?_); (try (refine gate_guard (by rfl) ?_; dsimp only)); at_builtin; refine Kd.R_append_rows k32 (w0 := w) w.heap.size rfl (.tmp 126) (.tmp 129) 22 32 (.agg #[(.int .u64 0), (.bool false), (.int .u64 0)]) 24 rfl Try.underlying22 info32 rfl (by decide) (by omega) v191 y190 y193 _ _ _ (fun k_ => some k_ ≠ (.slice Ao20 t173.length co20 : Value).ownBlock ∧ some k_ ≠ (v178 : Value).ownBlock ∧ some k_ ≠ (v182 : Value).ownBlock ∧ some k_ ≠ (.slice Ao96 y193.length co96 : Value).ownBlock) (fun _ => False) rfl rfl ?aO ?aR (fun _ _ h => h) (fun _ h => h.elim) ?aF ?aB ?aS ?aL ?_; (case aR => repeat (first | exact (Kd.R_reads' HO195.out).2.2 | (with_reducible refine Kd.C_alloc ?_ _) | (with_reducible refine Kd.C_drewN ?_ _) | (with_reducible refine Kd.C_drew ?_))); (case aB => exact (by repeat (first | (with_reducible first | exact HB.out | apply below_alloc | apply pw_below_drewN | apply below_drew1) | exact HB.out))); (case aF => exact (fun k_ hk => ⟨Kd.fresh' (Kd.R_lt (by (with_reducible repeat (first | apply R_alloc | apply R_drewN | apply R_drew)); exact HO_11.out)) k_ hk, Kd.fresh' (Kd.R_lt (by (with_reducible repeat (first | apply R_alloc | apply R_drewN | apply R_drew)); exact HO_13.out)) k_ hk, Kd.fresh' (Kd.R_lt (by (with_reducible repeat (first | apply R_alloc | apply R_drewN | apply R_drew)); exact HO_15.out)) k_ hk, Kd.fresh' (Kd.R_lt (by (with_reducible repeat (first | apply R_alloc | apply R_drewN | apply R_drew)); exact HO195.out)) k_ hk⟩)); (case aO => exact (by (with_reducible repeat (first | apply R_alloc | apply R_drewN | apply R_drew)); exact Kd.R_mono HO192.out (fun _ hk => by simp only [hk, ne_eq, not_false_eq_true, and_self]))); (case aS => exact (below_size (by repeat (first | (with_reducible first | exact HB.out | apply below_alloc | apply pw_below_drewN | apply below_drew1) | exact HB.out)))); (case aL => have := LMc58.out; omega); intro v197 w95 ho hb hg hat; rw [← Ny196.out] at ho; have n0_ := am (Kd.R_after (ok := (fun k_ => some k_ ≠ (v178 : Value).ownBlock ∧ some k_ ≠ (v182 : Value).ownBlock ∧ some k_ ≠ (.slice Ao96 y193.length co96 : Value).ownBlock)) (by (with_reducible repeat (first | apply R_alloc | apply R_drewN | apply R_drew)); exact Kd.R_mono HO_11.out (fun _ hk => by simp only [hk, ne_eq, not_false_eq_true, and_self])) hg hat); have n1_ := am (Kd.R_after (ok := (fun k_ => some k_ ≠ (.slice Ao20 t173.length co20 : Value).ownBlock ∧ some k_ ≠ (v182 : Value).ownBlock ∧ some k_ ≠ (.slice Ao96 y193.length co96 : Value).ownBlock)) (by (with_reducible repeat (first | apply R_alloc | apply R_drewN | apply R_drew)); exact Kd.R_mono HO_13.out (fun _ hk => by simp only [hk, ne_eq, not_false_eq_true, and_self])) hg hat); have n2_ := am (Kd.R_after (ok := (fun k_ => some k_ ≠ (.slice Ao20 t173.length co20 : Value).ownBlock ∧ some k_ ≠ (v178 : Value).ownBlock ∧ some k_ ≠ (.slice Ao96 y193.length co96 : Value).ownBlock)) (by (with_reducible repeat (first | apply R_alloc | apply R_drewN | apply R_drew)); exact Kd.R_mono HO_15.out (fun _ hk => by simp only [hk, ne_eq, not_false_eq_true, and_self])) hg hat); have n3_ := am (Kd.R_after (ok := (fun k_ => some k_ ≠ (.slice Ao20 t173.length co20 : Value).ownBlock ∧ some k_ ≠ (v178 : Value).ownBlock ∧ some k_ ≠ (v182 : Value).ownBlock)) (by (with_reducible repeat (first | apply R_alloc | apply R_drewN | apply R_drew)); exact Kd.R_mono HO195.out (fun _ hk => by simp only [hk, ne_eq, not_false_eq_true, and_self])) hg hat); have n4_ := am (hb); have n5_ := am (ho); clear HO_11; clear HO_13; clear HO_15; clear HO195; clear HB; clear HO192; have HO_11 := n0_; have HO_13 := n1_; have HO_15 := n2_; have HO195 := n3_; have HB := n4_; have HO198 := n5_; clear n0_ n1_ n2_ n3_ n4_ n5_; clear ho hb hg hat; obtain ⟨Ao97, co97, eo97⟩ := Kd.R_slice HO_13.out; subst eo97; obtain ⟨Ao98, co98, eo98⟩ := Kd.R_slice HO198.out; subst eo98) | (go_at_call 15; (with_reducible refine (mailcoachref13_SameLedgers.calls kj42 _ _ t176 _ _ y196 true _ ?side1 ?side2 ?side3 ?side4 A59.out).mono ?_); (case side1 => repeat (first | exact (Kd.R_reads' HO_13.out).2.2 | (with_reducible refine Kd.C_alloc ?_ _) | (with_reducible refine Kd.C_drewN ?_ _) | (with_reducible refine Kd.C_drew ?_))); (case side2 => exact (Kd.R_reads' HO_13.out).2.1); (case side3 => repeat (first | exact (Kd.R_reads' HO198.out).2.2 | (with_reducible refine Kd.C_alloc ?_ _) | (with_reducible refine Kd.C_drewN ?_ _) | (with_reducible refine Kd.C_drew ?_))); (case side4 => exact (Kd.R_reads' HO198.out).2.1); rintro e w' ⟨rfl, ⟨nd, rfl⟩⟩))
           (try (rw [drewN_self w95]; generalize hq_ : World.drewN w95 _ = w95; have n0_ : Aside0 (Kd.R k32 32 w95 w.heap.size (fun k_ => some k_ ≠ (.slice Ao98 y196.length co98 : Value).ownBlock ∧ some k_ ≠ (.slice Ao20 t173.length co20 : Value).ownBlock ∧ some k_ ≠ (.slice Ao97 t176.length co97 : Value).ownBlock ∧ some k_ ≠ (v182 : Value).ownBlock) (.slice Ao96 y193.length co96) y193) := ⟨by rw [← hq_]; exact (by (with_reducible repeat (first | apply R_alloc | apply R_drewN | apply R_drew)); exact Kd.R_mono HO195.out (fun _ hk => by simp only [hk, ne_eq, not_false_eq_true, and_self]))⟩; have n1_ : Aside0 (Kd.R k32 32 w95 w.heap.size (fun k_ => some k_ ≠ (.slice Ao96 y193.length co96 : Value).ownBlock ∧ some k_ ≠ (.slice Ao20 t173.length co20 : Value).ownBlock ∧ some k_ ≠ (.slice Ao97 t176.length co97 : Value).ownBlock ∧ some k_ ≠ (v182 : Value).ownBlock) (.slice Ao98 y196.length co98) y196) := ⟨by rw [← hq_]; exact (by (with_reducible repeat (first | apply R_alloc | apply R_drewN | apply R_drew)); exact Kd.R_mono HO198.out (fun _ hk => by simp only [hk, ne_eq, not_false_eq_true, and_self]))⟩; have n2_ : Aside0 (Kd.R k32 32 w95 w.heap.size (fun k_ => some k_ ≠ (.slice Ao96 y193.length co96 : Value).ownBlock ∧ some k_ ≠ (.slice Ao98 y196.length co98 : Value).ownBlock ∧ some k_ ≠ (.slice Ao97 t176.length co97 : Value).ownBlock ∧ some k_ ≠ (v182 : Value).ownBlock) (.slice Ao20 t173.length co20) t173) := ⟨by rw [← hq_]; exact (by (with_reducible repeat (first | apply R_alloc | apply R_drewN | apply R_drew)); exact Kd.R_mono HO_11.out (fun _ hk => by simp only [hk, ne_eq, not_false_eq_true, and_self]))⟩; have n3_ : Aside0 (Kd.R k32 32 w95 w.heap.size (fun k_ => some k_ ≠ (.slice Ao96 y193.length co96 : Value).ownBlock ∧ some k_ ≠ (.slice Ao98 y196.length co98 : Value).ownBlock ∧ some k_ ≠ (.slice Ao20 t173.length co20 : Value).ownBlock ∧ some k_ ≠ (v182 : Value).ownBlock) (.slice Ao97 t176.length co97) t176) := ⟨by rw [← hq_]; exact (by (with_reducible repeat (first | apply R_alloc | apply R_drewN | apply R_drew)); exact Kd.R_mono HO_13.out (fun _ hk => by simp only [hk, ne_eq, not_false_eq_true, and_self]))⟩; have n4_ : Aside0 (Kd.R k32 32 w95 w.heap.size (fun k_ => some k_ ≠ (.slice Ao96 y193.length co96 : Value).ownBlock ∧ some k_ ≠ (.slice Ao98 y196.length co98 : Value).ownBlock ∧ some k_ ≠ (.slice Ao20 t173.length co20 : Value).ownBlock ∧ some k_ ≠ (.slice Ao97 t176.length co97 : Value).ownBlock) v182 t180) := ⟨by rw [← hq_]; exact (by (with_reducible repeat (first | apply R_alloc | apply R_drewN | apply R_drew)); exact Kd.R_mono HO_15.out (fun _ hk => by simp only [hk, ne_eq, not_false_eq_true, and_self]))⟩; have n5_ : Aside0 (Below w.heap.size w w95) := ⟨by rw [← hq_]; exact (by repeat (first | (with_reducible first | exact HB.out | apply below_alloc | apply pw_below_drewN | apply below_drew1) | exact HB.out))⟩; clear HO195 HO198 HO_11 HO_13 HO_15 HB hq_; have HO195 := n0_; have HO198 := n1_; have HO_11 := n2_; have HO_13 := n3_; have HO_15 := n4_; have HB := n5_; clear n0_ n1_ n2_ n3_ n4_ n5_))
           have n0_ := am (Kd.R_drew HO_11.out)
           have n1_ := am (Kd.R_drew HO_13.out)
           have n2_ := am (Kd.R_drew HO_15.out)
           have n3_ := am (Kd.R_drew HO195.out)
           have n4_ := am (Kd.R_drew HO198.out)
           have n5_ := am (below_drew1 HB.out)
           clear HO_11
           clear HO_13
           clear HO_15
           clear HO195
           clear HO198
           clear HB
           have HO_11 := n0_
           have HO_13 := n1_
           have HO_15 := n2_
           have HO195 := n3_
           have HO198 := n4_
           have HB := n5_
           clear n0_ n1_ n2_ n3_ n4_ n5_
           refine start_ (n := 23) (S := fun w' => True) (ds := []) #[F, F, F, F, F, F, F, F, F, F, F, F, F, F, F, F, F, F, F, F, F, F, F] (by kernel_rfl) rfl rfl trivial (fun hHeld => ?_); refine with_tabW tab22 bits22 (fun HT_ HW_ => ?_)
           generalize w95.drew = w99 at HO_11 HO_13 HO_15 HO195 HO198 HB hHeld ⊢
           refine pure_ (i := 0) (N := some 134) (v := ?_) (a' := ?_) #[T, F, F, F, F, F, F, F, F, F, F, F, F, F, F, F, F, F, F, F, F, F, F] rfl rfl (any_of HT_.out (by kernel_rfl)) (fun _ _ _ h => h) (Or.inl ⟨by rfl, ?_⟩) ?_ ?_
           rotate_left
           ·
            intro w'
            go_simp
            with_reducible rfl
           rotate_left
           ·
            simp only [Act.put, setIfInBounds_toArray, set_cons_zero, set_cons_succ, i64_w, i32_w]
            rfl
           refine pure_ (i := 1) (N := some 135) (v := ?_) (a' := ?_) #[T, T, F, F, F, F, F, F, F, F, F, F, F, F, F, F, F, F, F, F, F, F, F] rfl rfl (any_of HT_.out (by kernel_rfl)) (fun _ _ _ h => h) (Or.inl ⟨by rfl, ?_⟩) ?_ ?_
           rotate_left
           ·
            intro w'
            go_simp
            with_reducible rfl
           rotate_left
           ·
            simp only [Act.put, setIfInBounds_toArray, set_cons_zero, set_cons_succ, i64_w, i32_w]
            rfl
           refine pure_ (i := 2) (N := some 136) (v := ?_) (a' := ?_) #[T, T, T, F, F, F, F, F, F, F, F, F, F, F, F, F, F, F, F, F, F, F, F] rfl rfl (any_of HT_.out (by kernel_rfl)) (fun _ _ _ h => h) (Or.inl ⟨by rfl, ?_⟩) ?_ ?_
           rotate_left
           ·
            intro w'
            go_simp
            with_reducible rfl
           rotate_left
           ·
            simp only [Act.put, setIfInBounds_toArray, set_cons_zero, set_cons_succ, i64_w, i32_w]
            rfl
           refine pure_ (i := 3) (N := some 137) (v := undef) (a' := ?_) #[T, T, T, T, F, F, F, F, F, F, F, F, F, F, F, F, F, F, F, F, F, F, F] rfl rfl (any_of HT_.out (by kernel_rfl)) (fun _ _ _ h => h) (Or.inr ⟨by rfl, rfl⟩) ?_ ?_
           rotate_left
           ·
            simp only [Act.put, setIfInBounds_toArray, set_cons_zero, set_cons_succ, i64_w, i32_w]
            rfl
           refine pure_ (i := 4) (N := some 138) (v := undef) (a' := ?_) #[T, T, T, T, T, F, F, F, F, F, F, F, F, F, F, F, F, F, F, F, F, F, F] rfl rfl (any_of HT_.out (by kernel_rfl)) (fun _ _ _ h => h) (Or.inr ⟨by rfl, rfl⟩) ?_ ?_
           rotate_left
           ·
            simp only [Act.put, setIfInBounds_toArray, set_cons_zero, set_cons_succ, i64_w, i32_w]
            rfl
           refine pure_ (i := 5) (N := some 139) (v := undef) (a' := ?_) #[T, T, T, T, T, T, F, F, F, F, F, F, F, F, F, F, F, F, F, F, F, F, F] rfl rfl (any_of HT_.out (by kernel_rfl)) (fun _ _ _ h => h) (Or.inr ⟨by rfl, rfl⟩) ?_ ?_
           rotate_left
           ·
            simp only [Act.put, setIfInBounds_toArray, set_cons_zero, set_cons_succ, i64_w, i32_w]
            rfl
           refine pure_ (i := 6) (N := some 140) (v := undef) (a' := ?_) #[T, T, T, T, T, T, T, F, F, F, F, F, F, F, F, F, F, F, F, F, F, F, F] rfl rfl (any_of HT_.out (by kernel_rfl)) (fun _ _ _ h => h) (Or.inr ⟨by rfl, rfl⟩) ?_ ?_
           rotate_left
           ·
            simp only [Act.put, setIfInBounds_toArray, set_cons_zero, set_cons_succ, i64_w, i32_w]
            rfl
           refine pure_ (i := 7) (N := some 141) (v := undef) (a' := ?_) #[T, T, T, T, T, T, T, T, F, F, F, F, F, F, F, F, F, F, F, F, F, F, F] rfl rfl (any_of HT_.out (by kernel_rfl)) (fun _ _ _ h => h) (Or.inr ⟨by rfl, rfl⟩) ?_ ?_
           rotate_left
           ·
            simp only [Act.put, setIfInBounds_toArray, set_cons_zero, set_cons_succ, i64_w, i32_w]
            rfl
           refine pure_ (i := 8) (N := some 142) (v := undef) (a' := ?_) #[T, T, T, T, T, T, T, T, T, F, F, F, F, F, F, F, F, F, F, F, F, F, F] rfl rfl (any_of HT_.out (by kernel_rfl)) (fun _ _ _ h => h) (Or.inr ⟨by rfl, rfl⟩) ?_ ?_
           rotate_left
           ·
            simp only [Act.put, setIfInBounds_toArray, set_cons_zero, set_cons_succ, i64_w, i32_w]
            rfl
           refine pure_ (i := 9) (N := some 143) (v := undef) (a' := ?_) #[T, T, T, T, T, T, T, T, T, T, F, F, F, F, F, F, F, F, F, F, F, F, F] rfl rfl (any_of HT_.out (by kernel_rfl)) (fun _ _ _ h => h) (Or.inr ⟨by rfl, rfl⟩) ?_ ?_
           rotate_left
           ·
            simp only [Act.put, setIfInBounds_toArray, set_cons_zero, set_cons_succ, i64_w, i32_w]
            rfl
           refine pure_ (i := 10) (N := some 144) (v := undef) (a' := ?_) #[T, T, T, T, T, T, T, T, T, T, T, F, F, F, F, F, F, F, F, F, F, F, F] rfl rfl (any_of HT_.out (by kernel_rfl)) (fun _ _ _ h => h) (Or.inr ⟨by rfl, rfl⟩) ?_ ?_
           rotate_left
           ·
            simp only [Act.put, setIfInBounds_toArray, set_cons_zero, set_cons_succ, i64_w, i32_w]
            rfl
           refine pure_ (i := 11) (N := some 145) (v := undef) (a' := ?_) #[T, T, T, T, T, T, T, T, T, T, T, T, F, F, F, F, F, F, F, F, F, F, F] rfl rfl (any_of HT_.out (by kernel_rfl)) (fun _ _ _ h => h) (Or.inr ⟨by rfl, rfl⟩) ?_ ?_
           rotate_left
           ·
            simp only [Act.put, setIfInBounds_toArray, set_cons_zero, set_cons_succ, i64_w, i32_w]
            rfl
           refine pure_ (i := 12) (N := some 146) (v := undef) (a' := ?_) #[T, T, T, T, T, T, T, T, T, T, T, T, T, F, F, F, F, F, F, F, F, F, F] rfl rfl (any_of HT_.out (by kernel_rfl)) (fun _ _ _ h => h) (Or.inr ⟨by rfl, rfl⟩) ?_ ?_
           rotate_left
           ·
            simp only [Act.put, setIfInBounds_toArray, set_cons_zero, set_cons_succ, i64_w, i32_w]
            rfl
           refine pure_ (i := 13) (N := some 147) (v := undef) (a' := ?_) #[T, T, T, T, T, T, T, T, T, T, T, T, T, T, F, F, F, F, F, F, F, F, F] rfl rfl (any_of HT_.out (by kernel_rfl)) (fun _ _ _ h => h) (Or.inr ⟨by rfl, rfl⟩) ?_ ?_
           rotate_left
           ·
            simp only [Act.put, setIfInBounds_toArray, set_cons_zero, set_cons_succ, i64_w, i32_w]
            rfl
           refine pure_ (i := 14) (N := some 148) (v := undef) (a' := ?_) #[T, T, T, T, T, T, T, T, T, T, T, T, T, T, T, F, F, F, F, F, F, F, F] rfl rfl (any_of HT_.out (by kernel_rfl)) (fun _ _ _ h => h) (Or.inr ⟨by rfl, rfl⟩) ?_ ?_
           rotate_left
           ·
            simp only [Act.put, setIfInBounds_toArray, set_cons_zero, set_cons_succ, i64_w, i32_w]
            rfl
           refine pure_ (i := 15) (N := some 149) (v := undef) (a' := ?_) #[T, T, T, T, T, T, T, T, T, T, T, T, T, T, T, T, F, F, F, F, F, F, F] rfl rfl (any_of HT_.out (by kernel_rfl)) (fun _ _ _ h => h) (Or.inr ⟨by rfl, rfl⟩) ?_ ?_
           rotate_left
           ·
            simp only [Act.put, setIfInBounds_toArray, set_cons_zero, set_cons_succ, i64_w, i32_w]
            rfl
           refine pure_ (i := 16) (N := some 150) (v := undef) (a' := ?_) #[T, T, T, T, T, T, T, T, T, T, T, T, T, T, T, T, T, F, F, F, F, F, F] rfl rfl (any_of HT_.out (by kernel_rfl)) (fun _ _ _ h => h) (Or.inr ⟨by rfl, rfl⟩) ?_ ?_
           rotate_left
           ·
            simp only [Act.put, setIfInBounds_toArray, set_cons_zero, set_cons_succ, i64_w, i32_w]
            rfl
           refine pure_ (i := 17) (N := some 151) (v := undef) (a' := ?_) #[T, T, T, T, T, T, T, T, T, T, T, T, T, T, T, T, T, T, F, F, F, F, F] rfl rfl (any_of HT_.out (by kernel_rfl)) (fun _ _ _ h => h) (Or.inr ⟨by rfl, rfl⟩) ?_ ?_
           rotate_left
           ·
            simp only [Act.put, setIfInBounds_toArray, set_cons_zero, set_cons_succ, i64_w, i32_w]
            rfl
           refine pure_ (i := 18) (N := some 152) (v := undef) (a' := ?_) #[T, T, T, T, T, T, T, T, T, T, T, T, T, T, T, T, T, T, T, F, F, F, F] rfl rfl (any_of HT_.out (by kernel_rfl)) (fun _ _ _ h => h) (Or.inr ⟨by rfl, rfl⟩) ?_ ?_
           rotate_left
           ·
            simp only [Act.put, setIfInBounds_toArray, set_cons_zero, set_cons_succ, i64_w, i32_w]
            rfl
           refine pure_ (i := 19) (N := some 153) (v := undef) (a' := ?_) #[T, T, T, T, T, T, T, T, T, T, T, T, T, T, T, T, T, T, T, T, F, F, F] rfl rfl (any_of HT_.out (by kernel_rfl)) (fun _ _ _ h => h) (Or.inr ⟨by rfl, rfl⟩) ?_ ?_
           rotate_left
           ·
            simp only [Act.put, setIfInBounds_toArray, set_cons_zero, set_cons_succ, i64_w, i32_w]
            rfl
           refine pure_ (i := 20) (N := some 154) (v := undef) (a' := ?_) #[T, T, T, T, T, T, T, T, T, T, T, T, T, T, T, T, T, T, T, T, T, F, F] rfl rfl (any_of HT_.out (by kernel_rfl)) (fun _ _ _ h => h) (Or.inr ⟨by rfl, rfl⟩) ?_ ?_
           rotate_left
           ·
            simp only [Act.put, setIfInBounds_toArray, set_cons_zero, set_cons_succ, i64_w, i32_w]
            rfl
           refine pure_ (i := 21) (N := some 155) (v := ?_) (a' := ?_) #[T, T, T, T, T, T, T, T, T, T, T, T, T, T, T, T, T, T, T, T, T, T, F] rfl rfl (any_of HT_.out (by kernel_rfl)) (fun _ _ _ h => h) (Or.inl ⟨by rfl, ?_⟩) ?_ ?_
           rotate_left
           ·
            intro w'
            go_simp
            with_reducible rfl
           rotate_left
           ·
            simp only [Act.put, setIfInBounds_toArray, set_cons_zero, set_cons_succ, i64_w, i32_w]
            rfl
           refine pure_ (i := 22) (N := some 10) (v := ?_) (a' := ?_) #[T, T, T, T, T, T, T, T, T, T, T, T, T, T, T, T, T, T, T, T, T, T, T] rfl rfl (any_of HT_.out (by kernel_rfl)) (fun _ _ _ h => h) (Or.inl ⟨by rfl, ?_⟩) ?_ ?_
           rotate_left
           ·
            intro w'
            go_simp
            with_reducible rfl
           rotate_left
           ·
            simp only [Act.put, setIfInBounds_toArray, set_cons_zero, set_cons_succ, i64_w, i32_w]
            rfl
           refine done_ (done_of HT_.out (by kernel_rfl)) ?_
           try go_wp2
           go_ret
           exact ⟨by first | rfl | (simp [errW_none, errW_some] <;> rfl) | (simp [*, errW_none, errW_some] <;> rfl), by repeat (first | (with_reducible first | exact HB.out | apply below_alloc | apply pw_below_drewN | apply below_drew1) | exact HB.out)⟩
         rw [if_pos c61] at H
         have c61b0 : (t181 == 0) = true := beq_iff_eq.mpr c61
         have c61b1 : (t181 != 0) = false := bne_eq_false_iff_eq.mpr c61
         clear c61
         obtain ⟨y200, hy200⟩ : ∃ y_ : List (S32), y_ = (([] : List (S32))) := ⟨_, rfl⟩
         replace H : (if 0 ≤ (wrap64 ((t173.length : Int) - 1)) then (if (wrap64 ((t173.length : Int) - 1)) ≤ (t173.length : Int) then ((some (t173.take ((wrap64 ((t173.length : Int) - 1)) : Int).toNat : List (S32))).bind fun y203 => (if y200.length + y203.length < 5864062014805 then ((some (y200 ++ y203 : List (S32))).bind fun y207 => (if (wrap64 ((t173.length : Int) - 1)) < (t173.length : Int) then ((some (([(⟨(rd_T32 t173 (wrap64 ((t173.length : Int) - 1))).f0, true, a4⟩ : S32)] : List (S32)) : List (S32))).bind fun y211 => (if y207.length + y211.length < 5864062014805 then ((mailcoachref13_SameLedgers.f kj42 t180 (y207 ++ y211)).bind fun t217 => (some t217)) else (none))) else (none))) else (none))) else (none)) else (none)) = some r := by first | (rw [hy200]; with_reducible exact H) | (have H2_ := (Option.bind_some _ _).symm.trans H; rw [hy200]; with_reducible exact H2_) | (have H2_ := (Option.bind_some _ _).symm.trans H; with_reducible exact H2_) | with_reducible exact H | (rw [hy200]; exact H) | exact H
         have Ny200 := am hy200
         clear hy200
         obtain ⟨ji62, hji62⟩ : ∃ j_ : Int, (wrap64 ((t173.length : Int) - 1)) = j_ := ⟨_, rfl⟩
         replace H : (if 0 ≤ (ji62) then (if (ji62) ≤ (t173.length : Int) then ((some (t173.take ((ji62) : Int).toNat : List (S32))).bind fun y203 => (if y200.length + y203.length < 5864062014805 then ((some (y200 ++ y203 : List (S32))).bind fun y207 => (if (ji62) < (t173.length : Int) then ((some (([(⟨(rd_T32 t173 (ji62)).f0, true, a4⟩ : S32)] : List (S32)) : List (S32))).bind fun y211 => (if y207.length + y211.length < 5864062014805 then ((mailcoachref13_SameLedgers.f kj42 t180 (y207 ++ y211)).bind fun t217 => (some t217)) else (none))) else (none))) else (none))) else (none)) else (none)) = some r := by first | (rw [hji62] at H; exact H) | (simp only [hji62] at H ⊢; exact H)
         (try rw [hji62] at A59)
         have hji62w : (IntKind.i64.wrap ((t173.length : Int) - 1)) = ji62 := (i64_w _).trans hji62
         by_cases c63 : 0 ≤ (ji62)
         rotate_left
         ·
          rw [if_neg c63] at H
          exact absurd H (by simp)
         rw [if_pos c63] at H
         have c63b0 := eq_true c63
         have c63b1 : decide (0 ≤ (ji62)) = true := decide_eq_true c63
         clear c63
         by_cases c64 : (ji62) ≤ (t173.length : Int)
         rotate_left
         ·
          rw [if_neg c64] at H
          exact absurd H (by simp)
         rw [if_pos c64] at H
         have c64b0 := eq_true c64
         have c64b1 : decide ((ji62) ≤ (t173.length : Int)) = true := decide_eq_true c64
         clear c64
         obtain ⟨y203, hy203⟩ : ∃ y_ : List (S32), y_ = (t173.take ((ji62) : Int).toNat) := ⟨_, rfl⟩
         replace H : (if y200.length + y203.length < 5864062014805 then ((some (y200 ++ y203 : List (S32))).bind fun y207 => (if (ji62) < (t173.length : Int) then ((some (([(⟨(rd_T32 t173 (ji62)).f0, true, a4⟩ : S32)] : List (S32)) : List (S32))).bind fun y211 => (if y207.length + y211.length < 5864062014805 then ((mailcoachref13_SameLedgers.f kj42 t180 (y207 ++ y211)).bind fun t217 => (some t217)) else (none))) else (none))) else (none)) = some r := by first | (rw [hy203]; with_reducible exact H) | (have H2_ := (Option.bind_some _ _).symm.trans H; rw [hy203]; with_reducible exact H2_) | (have H2_ := (Option.bind_some _ _).symm.trans H; with_reducible exact H2_) | with_reducible exact H | (rw [hy203]; exact H) | exact H
         have Ny203 := am hy203
         clear hy203
         by_cases c65 : y200.length + y203.length < 5864062014805
         rotate_left
         ·
          rw [if_neg c65] at H
          exact absurd H (by simp)
         rw [if_pos c65] at H
         have LMc65 := am c65
         clear c65
         obtain ⟨y207, hy207⟩ : ∃ y_ : List (S32), y_ = (y200 ++ y203) := ⟨_, rfl⟩
         replace H : (if (ji62) < (t173.length : Int) then ((some (([(⟨(rd_T32 t173 (ji62)).f0, true, a4⟩ : S32)] : List (S32)) : List (S32))).bind fun y211 => (if y207.length + y211.length < 5864062014805 then ((mailcoachref13_SameLedgers.f kj42 t180 (y207 ++ y211)).bind fun t217 => (some t217)) else (none))) else (none)) = some r := by first | (rw [hy207]; with_reducible exact H) | (have H2_ := (Option.bind_some _ _).symm.trans H; rw [hy207]; with_reducible exact H2_) | (have H2_ := (Option.bind_some _ _).symm.trans H; with_reducible exact H2_) | with_reducible exact H | (rw [hy207]; exact H) | exact H
         have Ny207 := am hy207
         clear hy207
         by_cases c66 : (ji62) < (t173.length : Int)
         rotate_left
         ·
          rw [if_neg c66] at H
          exact absurd H (by simp)
         rw [if_pos c66] at H
         have c66b0 : decide ((ji62) < (t173.length : Int)) = true := decide_eq_true c66
         clear c66
         obtain ⟨y211, hy211⟩ : ∃ y_ : List (S32), y_ = (([(⟨(rd_T32 t173 (ji62)).f0, true, a4⟩ : S32)] : List (S32))) := ⟨_, rfl⟩
         replace H : (if y207.length + y211.length < 5864062014805 then ((mailcoachref13_SameLedgers.f kj42 t180 (y207 ++ y211)).bind fun t217 => (some t217)) else (none)) = some r := by first | (rw [hy211]; with_reducible exact H) | (have H2_ := (Option.bind_some _ _).symm.trans H; rw [hy211]; with_reducible exact H2_) | (have H2_ := (Option.bind_some _ _).symm.trans H; with_reducible exact H2_) | with_reducible exact H | (rw [hy211]; exact H) | exact H
         have Ny211 := am hy211
         clear hy211
         by_cases c67 : y207.length + y211.length < 5864062014805
         rotate_left
         ·
          rw [if_neg c67] at H
          exact absurd H (by simp)
         rw [if_pos c67] at H
         have LMc67 := am c67
         clear c67
         obtain ⟨y214, hy214⟩ : ∃ y_ : List (S32), y_ = (y207 ++ y211) := ⟨_, rfl⟩
         replace H : ((mailcoachref13_SameLedgers.f kj42 t180 y214).bind fun t217 => (some t217)) = some r := by first | (rw [hy214]; with_reducible exact H) | (have H2_ := (Option.bind_some _ _).symm.trans H; rw [hy214]; with_reducible exact H2_) | (have H2_ := (Option.bind_some _ _).symm.trans H; with_reducible exact H2_) | with_reducible exact H | (rw [hy214]; exact H) | exact H
         have Ny214 := am hy214
         clear hy214
         replace H := Option.bind_eq_some_iff.mp H
         obtain ⟨t217, A680, H⟩ := H
         replace H : (some t217) = some r := H
         have A68 := am A680
         clear A680
         as_aux_lemma =>
          obtain rfl := Option.some.inj H
          try go_wp2_with (first | ((with_reducible refine gate_dst (N := 124) rfl ?_); (try (refine gate_guard (by rfl) ?_; dsimp only)); refine Kd.R_lit k32 _ 32 ?hg (N := 124) ?hd (xs := ([] : List (S32))) (inner := []) (ok := fun _ => True) (okp := fun _ => True) ?hr ?hp (fun _ hk => hk) trivial (Below.refl _ _) (Nat.le_refl _) (by simp) ?_; (case hd => rfl); (case hg => rfl); (case hr => first | (go_simp; done) | (go_simp; rfl)); (case hp => exact (Reps.none _ _)); intro v188 w69 ho70 hb hg_ hnew_; clear hg_ hnew_; (first | rw [← Ny187.out] at ho70 | (simp only [Int.reduceToNat] at ho70; rw [← Ny187.out] at ho70)); have n0_ := am (Kd.R_elder' (by (with_reducible repeat (first | apply R_alloc | apply R_drewN | apply R_drew)); exact HO_11.out) (Kd.R_base ho70) hb); have n1_ := am (Kd.R_elder' (by (with_reducible repeat (first | apply R_alloc | apply R_drewN | apply R_drew)); exact HO_13.out) (Kd.R_base ho70) hb); have n2_ := am (Kd.R_elder' (by (with_reducible repeat (first | apply R_alloc | apply R_drewN | apply R_drew)); exact HO_15.out) (Kd.R_base ho70) hb); have n3_ := am (Kd.R_lower (Kd.R_new' (Kd.R_new' (Kd.R_new' ho70 (Kd.R_lt (by (with_reducible repeat (first | apply R_alloc | apply R_drewN | apply R_drew)); exact HO_11.out))) (Kd.R_lt (by (with_reducible repeat (first | apply R_alloc | apply R_drewN | apply R_drew)); exact HO_13.out))) (Kd.R_lt (by (with_reducible repeat (first | apply R_alloc | apply R_drewN | apply R_drew)); exact HO_15.out))) (below_size (by repeat (first | (with_reducible first | exact HB.out | apply below_alloc | apply pw_below_drewN | apply below_drew1) | exact HB.out)))); have n4_ := am (below_step (by repeat (first | (with_reducible first | exact HB.out | apply below_alloc | apply pw_below_drewN | apply below_drew1) | exact HB.out)) hb); clear HO_11; clear HO_13; clear HO_15; clear HB; have HO_11 := n0_; have HO_13 := n1_; have HO_15 := n2_; have HO189 := n3_; have HB := n4_; clear n0_ n1_ n2_ n3_ n4_; clear hb ho70) | ((with_reducible refine gate_builtin (b := .append) (xs := #[.tmp 124, .tmp 125]) rfl ?_); (try (refine gate_guard (by rfl) ?_; dsimp only)); at_builtin; refine Kd.R_append_rows k32 (w0 := w) w.heap.size rfl (.tmp 124) (.tmp 125) 22 32 (.agg #[(.int .u64 0), (.bool false), (.int .u64 0)]) 24 rfl Try.underlying22 info32 rfl (by decide) (by omega) v188 y187 t173 _ _ _ (fun k_ => some k_ ≠ (.slice Ao20 t173.length co20 : Value).ownBlock ∧ some k_ ≠ (v178 : Value).ownBlock ∧ some k_ ≠ (v182 : Value).ownBlock) (fun _ => False) rfl rfl ?aO ?aR (fun _ _ h => h) (fun _ h => h.elim) ?aF ?aB ?aS ?aL ?_; (case aR => repeat (first | exact (Kd.R_reads' HO_11.out).2.2 | (with_reducible refine Kd.C_alloc ?_ _) | (with_reducible refine Kd.C_drewN ?_ _) | (with_reducible refine Kd.C_drew ?_))); (case aB => exact (by repeat (first | (with_reducible first | exact HB.out | apply below_alloc | apply pw_below_drewN | apply below_drew1) | exact HB.out))); (case aF => exact (fun k_ hk => ⟨Kd.fresh' (Kd.R_lt (by (with_reducible repeat (first | apply R_alloc | apply R_drewN | apply R_drew)); exact HO_11.out)) k_ hk, Kd.fresh' (Kd.R_lt (by (with_reducible repeat (first | apply R_alloc | apply R_drewN | apply R_drew)); exact HO_13.out)) k_ hk, Kd.fresh' (Kd.R_lt (by (with_reducible repeat (first | apply R_alloc | apply R_drewN | apply R_drew)); exact HO_15.out)) k_ hk⟩)); (case aO => exact (by (with_reducible repeat (first | apply R_alloc | apply R_drewN | apply R_drew)); exact Kd.R_mono HO189.out (fun _ hk => ⟨hk.1.1.2, ⟨hk.1.2, hk.2⟩⟩))); (case aS => exact (below_size (by repeat (first | (with_reducible first | exact HB.out | apply below_alloc | apply pw_below_drewN | apply below_drew1) | exact HB.out)))); (case aL => have := LMc57.out; omega); intro v191 w71 ho hb hg hat; rw [← Ny190.out] at ho; have n0_ := am (Kd.R_after (ok := (fun k_ => some k_ ≠ (v178 : Value).ownBlock ∧ some k_ ≠ (v182 : Value).ownBlock)) (by (with_reducible repeat (first | apply R_alloc | apply R_drewN | apply R_drew)); exact HO_11.out) hg hat); have n1_ := am (Kd.R_after (ok := (fun k_ => some k_ ≠ (.slice Ao20 t173.length co20 : Value).ownBlock ∧ some k_ ≠ (v182 : Value).ownBlock)) (by (with_reducible repeat (first | apply R_alloc | apply R_drewN | apply R_drew)); exact HO_13.out) hg hat); have n2_ := am (Kd.R_after (ok := (fun k_ => some k_ ≠ (.slice Ao20 t173.length co20 : Value).ownBlock ∧ some k_ ≠ (v178 : Value).ownBlock)) (by (with_reducible repeat (first | apply R_alloc | apply R_drewN | apply R_drew)); exact HO_15.out) hg hat); have n3_ := am (hb); have n4_ := am (ho); clear HO_11; clear HO_13; clear HO_15; clear HB; clear HO189; have HO_11 := n0_; have HO_13 := n1_; have HO_15 := n2_; have HB := n3_; have HO192 := n4_; clear n0_ n1_ n2_ n3_ n4_; clear ho hb hg hat) | ((with_reducible refine gate_dst (N := 129) rfl ?_); (try (refine gate_guard (by rfl) ?_; dsimp only)); refine Kd.R_lit k32 _ 32 ?hg (N := 129) ?hd (xs := ([(⟨a3, false, 0⟩ : S32)] : List (S32))) (inner := [.int .u64 a3, .bool false, .int .u64 0]) (ok := fun _ => True) (okp := fun _ => True) ?hr ?hp (fun _ hk => hk) trivial (Below.refl _ _) (Nat.le_refl _) (by simp) ?_; (case hd => rfl); (case hg => rfl); (case hr => first | (go_simp; done) | (go_simp; rfl)); (case hp => exact (Reps.c3 (show Kd.M k32 _ _ _ (⟨a3, false, 0⟩ : S32) [.int .u64 a3, .bool false, .int .u64 0] from (k32_mkM _ _ _ (⟨a3, false, 0⟩ : S32) )) (Reps.none _ _))); intro v194 w72 ho73 hb hg_ hnew_; clear hg_ hnew_; (first | rw [← Ny193.out] at ho73 | (simp only [Int.reduceToNat] at ho73; rw [← Ny193.out] at ho73)); have n0_ := am (Kd.R_elder' (by (with_reducible repeat (first | apply R_alloc | apply R_drewN | apply R_drew)); exact HO_11.out) (Kd.R_base ho73) hb); have n1_ := am (Kd.R_elder' (by (with_reducible repeat (first | apply R_alloc | apply R_drewN | apply R_drew)); exact HO_13.out) (Kd.R_base ho73) hb); have n2_ := am (Kd.R_elder' (by (with_reducible repeat (first | apply R_alloc | apply R_drewN | apply R_drew)); exact HO_15.out) (Kd.R_base ho73) hb); have n3_ := am (Kd.R_elder' (by (with_reducible repeat (first | apply R_alloc | apply R_drewN | apply R_drew)); exact HO192.out) (Kd.R_base ho73) hb); have n4_ := am (Kd.R_lower (Kd.R_new' (Kd.R_new' (Kd.R_new' (Kd.R_new' ho73 (Kd.R_lt (by (with_reducible repeat (first | apply R_alloc | apply R_drewN | apply R_drew)); exact HO_11.out))) (Kd.R_lt (by (with_reducible repeat (first | apply R_alloc | apply R_drewN | apply R_drew)); exact HO_13.out))) (Kd.R_lt (by (with_reducible repeat (first | apply R_alloc | apply R_drewN | apply R_drew)); exact HO_15.out))) (Kd.R_lt (by (with_reducible repeat (first | apply R_alloc | apply R_drewN | apply R_drew)); exact HO192.out))) (below_size (by repeat (first | (with_reducible first | exact HB.out | apply below_alloc | apply pw_below_drewN | apply below_drew1) | exact HB.out)))); have n5_ := am (below_step (by repeat (first | (with_reducible first | exact HB.out | apply below_alloc | apply pw_below_drewN | apply below_drew1) | exact HB.out)) hb); clear HO_11; clear HO_13; clear HO_15; clear HO192; clear HB; have HO_11 := n0_; have HO_13 := n1_; have HO_15 := n2_; have HO192 := n3_; have HO195 := n4_; have HB := n5_; clear n0_ n1_ n2_ n3_ n4_ n5_; clear hb ho73; obtain ⟨Ao75, co75, eo75⟩ := Kd.R_slice HO195.out; subst eo75) | ((with_reducible refine gate_builtin (b := .append) (xs := #[.tmp 126, .tmp 129]) rfl ?_); (try (refine gate_guard (by rfl) ?_; dsimp only)); at_builtin; refine Kd.R_append_rows k32 (w0 := w) w.heap.size rfl (.tmp 126) (.tmp 129) 22 32 (.agg #[(.int .u64 0), (.bool false), (.int .u64 0)]) 24 rfl Try.underlying22 info32 rfl (by decide) (by omega) v191 y190 y193 _ _ _ (fun k_ => some k_ ≠ (.slice Ao20 t173.length co20 : Value).ownBlock ∧ some k_ ≠ (v178 : Value).ownBlock ∧ some k_ ≠ (v182 : Value).ownBlock ∧ some k_ ≠ (.slice Ao75 y193.length co75 : Value).ownBlock) (fun _ => False) rfl rfl ?aO ?aR (fun _ _ h => h) (fun _ h => h.elim) ?aF ?aB ?aS ?aL ?_; (case aR => repeat (first | exact (Kd.R_reads' HO195.out).2.2 | (with_reducible refine Kd.C_alloc ?_ _) | (with_reducible refine Kd.C_drewN ?_ _) | (with_reducible refine Kd.C_drew ?_))); (case aB => exact (by repeat (first | (with_reducible first | exact HB.out | apply below_alloc | apply pw_below_drewN | apply below_drew1) | exact HB.out))); (case aF => exact (fun k_ hk => ⟨Kd.fresh' (Kd.R_lt (by (with_reducible repeat (first | apply R_alloc | apply R_drewN | apply R_drew)); exact HO_11.out)) k_ hk, Kd.fresh' (Kd.R_lt (by (with_reducible repeat (first | apply R_alloc | apply R_drewN | apply R_drew)); exact HO_13.out)) k_ hk, Kd.fresh' (Kd.R_lt (by (with_reducible repeat (first | apply R_alloc | apply R_drewN | apply R_drew)); exact HO_15.out)) k_ hk, Kd.fresh' (Kd.R_lt (by (with_reducible repeat (first | apply R_alloc | apply R_drewN | apply R_drew)); exact HO195.out)) k_ hk⟩)); (case aO => exact (by (with_reducible repeat (first | apply R_alloc | apply R_drewN | apply R_drew)); exact Kd.R_mono HO192.out (fun _ hk => ⟨hk.1.1, ⟨hk.1.2.1, ⟨hk.1.2.2, hk.2⟩⟩⟩))); (case aS => exact (below_size (by repeat (first | (with_reducible first | exact HB.out | apply below_alloc | apply pw_below_drewN | apply below_drew1) | exact HB.out)))); (case aL => have := LMc58.out; omega); intro v197 w74 ho hb hg hat; rw [← Ny196.out] at ho; have n0_ := am (Kd.R_after (ok := (fun k_ => some k_ ≠ (v178 : Value).ownBlock ∧ some k_ ≠ (v182 : Value).ownBlock ∧ some k_ ≠ (.slice Ao75 y193.length co75 : Value).ownBlock)) (by (with_reducible repeat (first | apply R_alloc | apply R_drewN | apply R_drew)); exact Kd.R_mono HO_11.out (fun _ hk => ⟨⟨hk.1.1.1, ⟨hk.1.1.2, hk.2⟩⟩, hk.1.2⟩)) hg hat); have n1_ := am (Kd.R_after (ok := (fun k_ => some k_ ≠ (.slice Ao20 t173.length co20 : Value).ownBlock ∧ some k_ ≠ (v182 : Value).ownBlock ∧ some k_ ≠ (.slice Ao75 y193.length co75 : Value).ownBlock)) (by (with_reducible repeat (first | apply R_alloc | apply R_drewN | apply R_drew)); exact Kd.R_mono HO_13.out (fun _ hk => ⟨⟨hk.1.1.1, ⟨hk.1.1.2, hk.2⟩⟩, hk.1.2⟩)) hg hat); have n2_ := am (Kd.R_after (ok := (fun k_ => some k_ ≠ (.slice Ao20 t173.length co20 : Value).ownBlock ∧ some k_ ≠ (v178 : Value).ownBlock ∧ some k_ ≠ (.slice Ao75 y193.length co75 : Value).ownBlock)) (by (with_reducible repeat (first | apply R_alloc | apply R_drewN | apply R_drew)); exact Kd.R_mono HO_15.out (fun _ hk => ⟨⟨hk.1.1.1, ⟨hk.1.1.2, hk.2⟩⟩, hk.1.2⟩)) hg hat); have n3_ := am (Kd.R_after (ok := (fun k_ => some k_ ≠ (.slice Ao20 t173.length co20 : Value).ownBlock ∧ some k_ ≠ (v178 : Value).ownBlock ∧ some k_ ≠ (v182 : Value).ownBlock)) (by (with_reducible repeat (first | apply R_alloc | apply R_drewN | apply R_drew)); exact Kd.R_mono HO195.out (fun _ hk => ⟨⟨hk.1.1.1.2, ⟨hk.1.1.2, hk.1.2⟩⟩, hk.2⟩)) hg hat); have n4_ := am (hb); have n5_ := am (ho); clear HO_11; clear HO_13; clear HO_15; clear HO195; clear HB; clear HO192; have HO_11 := n0_; have HO_13 := n1_; have HO_15 := n2_; have HO195 := n3_; have HB := n4_; have HO198 := n5_; clear n0_ n1_ n2_ n3_ n4_ n5_; clear ho hb hg hat; obtain ⟨Ao76, co76, eo76⟩ := Kd.R_slice HO_13.out; subst eo76; obtain ⟨Ao77, co77, eo77⟩ := Kd.R_slice HO198.out; subst eo77) | (go_at_call 15; (with_reducible refine (mailcoachref13_SameLedgers.calls kj42 _ _ t176 _ _ y196 true _ ?side1 ?side2 ?side3 ?side4 A59.out).mono ?_); (case side1 => repeat (first | exact (Kd.R_reads' HO_13.out).2.2 | (with_reducible refine Kd.C_alloc ?_ _) | (with_reducible refine Kd.C_drewN ?_ _) | (with_reducible refine Kd.C_drew ?_))); (case side2 => exact (Kd.R_reads' HO_13.out).2.1); (case side3 => repeat (first | exact (Kd.R_reads' HO198.out).2.2 | (with_reducible refine Kd.C_alloc ?_ _) | (with_reducible refine Kd.C_drewN ?_ _) | (with_reducible refine Kd.C_drew ?_))); (case side4 => exact (Kd.R_reads' HO198.out).2.1); rintro e w' ⟨rfl, ⟨nd, rfl⟩⟩; obtain ⟨Ao78, co78, eo78⟩ := Kd.R_slice HO_15.out; subst eo78))
          (try (rw [drewN_self w74]; generalize hq_ : World.drewN w74 _ = w74; have n0_ : Aside0 (Kd.R k32 32 w74 w.heap.size (fun k_ => some k_ ≠ (.slice Ao77 y196.length co77 : Value).ownBlock ∧ some k_ ≠ (.slice Ao20 t173.length co20 : Value).ownBlock ∧ some k_ ≠ (.slice Ao76 t176.length co76 : Value).ownBlock ∧ some k_ ≠ (.slice Ao78 t180.length co78 : Value).ownBlock) (.slice Ao75 y193.length co75) y193) := ⟨by rw [← hq_]; exact (by (with_reducible repeat (first | apply R_alloc | apply R_drewN | apply R_drew)); exact Kd.R_mono HO195.out (fun _ hk => ⟨hk.2, ⟨hk.1.1, ⟨hk.1.2.1, hk.1.2.2⟩⟩⟩))⟩; have n1_ : Aside0 (Kd.R k32 32 w74 w.heap.size (fun k_ => some k_ ≠ (.slice Ao75 y193.length co75 : Value).ownBlock ∧ some k_ ≠ (.slice Ao20 t173.length co20 : Value).ownBlock ∧ some k_ ≠ (.slice Ao76 t176.length co76 : Value).ownBlock ∧ some k_ ≠ (.slice Ao78 t180.length co78 : Value).ownBlock) (.slice Ao77 y196.length co77) y196) := ⟨by rw [← hq_]; exact (by (with_reducible repeat (first | apply R_alloc | apply R_drewN | apply R_drew)); exact Kd.R_mono HO198.out (fun _ hk => ⟨hk.2.2.2, ⟨hk.1, ⟨hk.2.1, hk.2.2.1⟩⟩⟩))⟩; have n2_ : Aside0 (Kd.R k32 32 w74 w.heap.size (fun k_ => some k_ ≠ (.slice Ao75 y193.length co75 : Value).ownBlock ∧ some k_ ≠ (.slice Ao77 y196.length co77 : Value).ownBlock ∧ some k_ ≠ (.slice Ao76 t176.length co76 : Value).ownBlock ∧ some k_ ≠ (.slice Ao78 t180.length co78 : Value).ownBlock) (.slice Ao20 t173.length co20) t173) := ⟨by rw [← hq_]; exact (by (with_reducible repeat (first | apply R_alloc | apply R_drewN | apply R_drew)); exact Kd.R_mono HO_11.out (fun _ hk => ⟨hk.1.2.2, ⟨hk.2, ⟨hk.1.1, hk.1.2.1⟩⟩⟩))⟩; have n3_ : Aside0 (Kd.R k32 32 w74 w.heap.size (fun k_ => some k_ ≠ (.slice Ao75 y193.length co75 : Value).ownBlock ∧ some k_ ≠ (.slice Ao77 y196.length co77 : Value).ownBlock ∧ some k_ ≠ (.slice Ao20 t173.length co20 : Value).ownBlock ∧ some k_ ≠ (.slice Ao78 t180.length co78 : Value).ownBlock) (.slice Ao76 t176.length co76) t176) := ⟨by rw [← hq_]; exact (by (with_reducible repeat (first | apply R_alloc | apply R_drewN | apply R_drew)); exact Kd.R_mono HO_13.out (fun _ hk => ⟨hk.1.2.2, ⟨hk.2, ⟨hk.1.1, hk.1.2.1⟩⟩⟩))⟩; have n4_ : Aside0 (Kd.R k32 32 w74 w.heap.size (fun k_ => some k_ ≠ (.slice Ao75 y193.length co75 : Value).ownBlock ∧ some k_ ≠ (.slice Ao77 y196.length co77 : Value).ownBlock ∧ some k_ ≠ (.slice Ao20 t173.length co20 : Value).ownBlock ∧ some k_ ≠ (.slice Ao76 t176.length co76 : Value).ownBlock) (.slice Ao78 t180.length co78) t180) := ⟨by rw [← hq_]; exact (by (with_reducible repeat (first | apply R_alloc | apply R_drewN | apply R_drew)); exact Kd.R_mono HO_15.out (fun _ hk => ⟨hk.1.2.2, ⟨hk.2, ⟨hk.1.1, hk.1.2.1⟩⟩⟩))⟩; have n5_ : Aside0 (Below w.heap.size w w74) := ⟨by rw [← hq_]; exact (by repeat (first | (with_reducible first | exact HB.out | apply below_alloc | apply pw_below_drewN | apply below_drew1) | exact HB.out))⟩; clear HO195 HO198 HO_11 HO_13 HO_15 HB hq_; have HO195 := n0_; have HO198 := n1_; have HO_11 := n2_; have HO_13 := n3_; have HO_15 := n4_; have HB := n5_; clear n0_ n1_ n2_ n3_ n4_ n5_))
          have n0_ := am (Kd.R_drew HO_11.out)
          have n1_ := am (Kd.R_drew HO_13.out)
          have n2_ := am (Kd.R_drew HO_15.out)
          have n3_ := am (Kd.R_drew HO195.out)
          have n4_ := am (Kd.R_drew HO198.out)
          have n5_ := am (below_drew1 HB.out)
          clear HO_11
          clear HO_13
          clear HO_15
          clear HO195
          clear HO198
          clear HB
          have HO_11 := n0_
          have HO_13 := n1_
          have HO_15 := n2_
          have HO195 := n3_
          have HO198 := n4_
          have HB := n5_
          clear n0_ n1_ n2_ n3_ n4_ n5_
          have q80 : ((ji62) : Int) ≤ ((t173.length : Int) : Int) := of_decide_eq_true (by first | (with_reducible assumption) | assumption)
          obtain ⟨i080, hi080, _, hsz80, _⟩ := info_parts info32
          have hroom80 : t173.length ≤ co20 := (Kd.R_reads' HO_11.out).2.1
          have hC80 : Kd.C k32 _ Ao20 t173.length t173 := (Kd.R_reads' HO_11.out).2.2
          have hcut80 := cut_to (P := Try.prog) 22 32 .i64 Try.underlying22 hi080 Ao20 t173.length co20 (ji62) (of_decide_eq_true (by first | (with_reducible assumption) | assumption)) q80 hroom80
          have hr80 := Kd.C_take (m := ((ji62) : Int).toNat) hC80 (by omega)
          have hy80 : y203.length = ((ji62) : Int).toNat := (by rw [Ny203.out, List.length_take]; omega)
          rw [← Ny203.out] at hr80
          rw [← hy80] at hcut80
          have HR206 := am hr80
          have HC206 := am (show y203.length ≤ co20 from by omega)
          clear hr80 hC80 hroom80 hi080 hsz80
          have KY80 := am hy80
          clear hy80
          have KL80 := am (show ((ji62) : Int).toNat ≤ t173.length from by omega)
          replace q80 := eq_true q80
          have p210 : 0 ≤ ((ji62) : Int) := of_decide_eq_true (by first | (with_reducible assumption) | assumption)
          have q210 : (ji62) < (t173.length : Int) := of_decide_eq_true (by first | (with_reducible assumption) | assumption)
          obtain ⟨ad210, e210, hx210_0, hx210_1, hx210_2⟩ := at_T32 (Kd.R_reads' HO_11.out).2.2 (ji62) p210 q210
          cases e210
          replace p210 := eq_true p210
          replace q210 := eq_true q210
          refine start_ (n := 23) (S := fun w' => w'.cell? (ad210.add (((ji62)).toNat * 3)) = some (.int .u64 ((rd_T32 t173 (ji62)).f0)) ∧ w'.cell? ⟨(ad210.add (((ji62)).toNat * 3)).block, (ad210.add (((ji62)).toNat * 3)).off + 1, none⟩ = some (.bool ((rd_T32 t173 (ji62)).f1)) ∧ w'.cell? ⟨(ad210.add (((ji62)).toNat * 3)).block, (ad210.add (((ji62)).toNat * 3)).off + 2, none⟩ = some (.int .u64 ((rd_T32 t173 (ji62)).f2))) (ds := []) #[F, F, F, F, F, F, F, F, F, F, F, F, F, F, F, F, F, F, F, F, F, F, F] (by kernel_rfl) rfl rfl ⟨hx210_0, hx210_1, hx210_2⟩ (fun hHeld => ?_); refine with_tabW tab22 bits22 (fun HT_ HW_ => ?_)
          generalize w74.drew = w79 at HO_11 HO_13 HO_15 HO195 HO198 HB HR206 hx210_0 hx210_1 hx210_2 hHeld ⊢
          refine pure_ (i := 0) (N := some 134) (v := ?_) (a' := ?_) #[T, F, F, F, F, F, F, F, F, F, F, F, F, F, F, F, F, F, F, F, F, F, F] rfl rfl (any_of HT_.out (by kernel_rfl)) (fun _ _ _ h => h) (Or.inl ⟨by rfl, ?_⟩) ?_ ?_
          rotate_left
          ·
           intro w'
           go_simp
           with_reducible rfl
          rotate_left
          ·
           simp only [Act.put, setIfInBounds_toArray, set_cons_zero, set_cons_succ, i64_w, i32_w]
           rfl
          refine pure_ (i := 1) (N := some 135) (v := ?_) (a' := ?_) #[T, T, F, F, F, F, F, F, F, F, F, F, F, F, F, F, F, F, F, F, F, F, F] rfl rfl (any_of HT_.out (by kernel_rfl)) (fun _ _ _ h => h) (Or.inl ⟨by rfl, ?_⟩) ?_ ?_
          rotate_left
          ·
           intro w'
           go_simp
           with_reducible rfl
          rotate_left
          ·
           simp only [Act.put, setIfInBounds_toArray, set_cons_zero, set_cons_succ, i64_w, i32_w]
           rfl
          refine pure_ (i := 2) (N := some 136) (v := ?_) (a' := ?_) #[T, T, T, F, F, F, F, F, F, F, F, F, F, F, F, F, F, F, F, F, F, F, F] rfl rfl (any_of HT_.out (by kernel_rfl)) (fun _ _ _ h => h) (Or.inl ⟨by rfl, ?_⟩) ?_ ?_
          rotate_left
          ·
           intro w'
           go_simp
           with_reducible rfl
          rotate_left
          ·
           simp only [Act.put, setIfInBounds_toArray, set_cons_zero, set_cons_succ, i64_w, i32_w]
           rfl
          refine pure_ (i := 3) (N := some 137) (v := ?_) (a' := ?_) #[T, T, T, T, F, F, F, F, F, F, F, F, F, F, F, F, F, F, F, F, F, F, F] rfl rfl (any_of HT_.out (by kernel_rfl)) (fun _ _ _ h => h) (Or.inl ⟨by rfl, ?_⟩) ?_ ?_
          rotate_left
          ·
           intro w'
           go_simp
           with_reducible rfl
          rotate_left
          ·
           simp only [Act.put, setIfInBounds_toArray, set_cons_zero, set_cons_succ, i64_w, i32_w]
           rfl
          refine pure_ (i := 5) (N := some 139) (v := ?_) (a' := ?_) #[T, T, T, T, F, T, F, F, F, F, F, F, F, F, F, F, F, F, F, F, F, F, F] rfl rfl (any_of HT_.out (by kernel_rfl)) (fun _ _ _ h => h) (Or.inl ⟨by rfl, ?_⟩) ?_ ?_
          rotate_left
          ·
           intro w'
           go_simp
           with_reducible rfl
          rotate_left
          ·
           simp only [Act.put, setIfInBounds_toArray, set_cons_zero, set_cons_succ, i64_w, i32_w]
           rfl
          refine pure_ (i := 6) (N := some 140) (v := ?_) (a' := ?_) #[T, T, T, T, F, T, T, F, F, F, F, F, F, F, F, F, F, F, F, F, F, F, F] rfl rfl (any_of HT_.out (by kernel_rfl)) (fun _ _ _ h => h) (Or.inl ⟨by rfl, ?_⟩) ?_ ?_
          rotate_left
          ·
           intro w'
           go_simp
           with_reducible rfl
          rotate_left
          ·
           simp only [Act.put, setIfInBounds_toArray, set_cons_zero, set_cons_succ, i64_w, i32_w]
           rfl
          refine pure_ (i := 7) (N := some 141) (v := ?_) (a' := ?_) #[T, T, T, T, F, T, T, T, F, F, F, F, F, F, F, F, F, F, F, F, F, F, F] rfl rfl (any_of HT_.out (by kernel_rfl)) (fun _ _ _ h => h) (Or.inl ⟨by rfl, ?_⟩) ?_ ?_
          rotate_left
          ·
           intro w'
           go_simp
           with_reducible rfl
          rotate_left
          ·
           simp only [Act.put, setIfInBounds_toArray, set_cons_zero, set_cons_succ, i64_w, i32_w]
           rfl
          refine pure_ (i := 8) (N := some 142) (v := ?_) (a' := ?_) #[T, T, T, T, F, T, T, T, T, F, F, F, F, F, F, F, F, F, F, F, F, F, F] rfl rfl (any_of HT_.out (by kernel_rfl)) (fun _ _ _ h => h) (Or.inl ⟨by rfl, ?_⟩) ?_ ?_
          rotate_left
          ·
           intro w'
           go_simp
           with_reducible rfl
          rotate_left
          ·
           simp only [Act.put, setIfInBounds_toArray, set_cons_zero, set_cons_succ, i64_w, i32_w]
           rfl
          refine pure_ (i := 10) (N := some 144) (v := ?_) (a' := ?_) #[T, T, T, T, F, T, T, T, T, F, T, F, F, F, F, F, F, F, F, F, F, F, F] rfl rfl (any_of HT_.out (by kernel_rfl)) (fun _ _ _ h => h) (Or.inl ⟨by rfl, ?_⟩) ?_ ?_
          rotate_left
          ·
           intro w'
           go_simp
           with_reducible rfl
          rotate_left
          ·
           simp only [Act.put, setIfInBounds_toArray, set_cons_zero, set_cons_succ, i64_w, i32_w]
           rfl
          refine pure_ (i := 11) (N := some 145) (v := ?_) (a' := ?_) #[T, T, T, T, F, T, T, T, T, F, T, T, F, F, F, F, F, F, F, F, F, F, F] rfl rfl (any_of HT_.out (by kernel_rfl)) (fun _ _ _ h => h) (Or.inl ⟨by rfl, ?_⟩) ?_ ?_
          rotate_left
          ·
           intro w'
           go_simp
           with_reducible rfl
          rotate_left
          ·
           simp only [Act.put, setIfInBounds_toArray, set_cons_zero, set_cons_succ, i64_w, i32_w]
           rfl
          refine pure_ (i := 12) (N := some 146) (v := ?_) (a' := ?_) #[T, T, T, T, F, T, T, T, T, F, T, T, T, F, F, F, F, F, F, F, F, F, F] rfl rfl (any_of HT_.out (by kernel_rfl)) (fun _ _ _ h => h) (Or.inl ⟨by rfl, ?_⟩) ?_ ?_
          rotate_left
          ·
           intro w'
           go_simp
           with_reducible rfl
          rotate_left
          ·
           simp only [Act.put, setIfInBounds_toArray, set_cons_zero, set_cons_succ, i64_w, i32_w]
           rfl
          refine pure_ (i := 13) (N := some 147) (v := ?_) (a' := ?_) #[T, T, T, T, F, T, T, T, T, F, T, T, T, T, F, F, F, F, F, F, F, F, F] rfl rfl (any_of HT_.out (by kernel_rfl)) (fun _ _ _ h => h) (Or.inl ⟨by rfl, ?_⟩) ?_ ?_
          rotate_left
          ·
           intro w'
           go_simp
           with_reducible rfl
          rotate_left
          ·
           simp only [Act.put, setIfInBounds_toArray, set_cons_zero, set_cons_succ, i64_w, i32_w]
           rfl
          refine pure_ (i := 14) (N := some 148) (v := ?_) (a' := ?_) #[T, T, T, T, F, T, T, T, T, F, T, T, T, T, T, F, F, F, F, F, F, F, F] rfl rfl (any_of HT_.out (by kernel_rfl)) (fun _ _ _ h => h) (Or.inl ⟨by rfl, ?_⟩) ?_ ?_
          rotate_left
          ·
           intro w'
           go_simp
           with_reducible rfl
          rotate_left
          ·
           simp only [Act.put, setIfInBounds_toArray, set_cons_zero, set_cons_succ, i64_w, i32_w]
           rfl
          refine pure_ (i := 16) (N := some 150) (v := ?_) (a' := ?_) #[T, T, T, T, F, T, T, T, T, F, T, T, T, T, T, F, T, F, F, F, F, F, F] rfl rfl (any_of HT_.out (by kernel_rfl)) (fun _ _ _ h => h) (Or.inl ⟨by rfl, ?_⟩) ?_ ?_
          rotate_left
          ·
           intro w'
           go_simp
           with_reducible rfl
          rotate_left
          ·
           simp only [Act.put, setIfInBounds_toArray, set_cons_zero, set_cons_succ, i64_w, i32_w]
           rfl
          refine take_ (i := 15) (N := some 149) (v := ?_) (a' := ?_) #[T, T, T, T, F, T, T, T, T, F, T, T, T, T, T, T, T, F, F, F, F, F, F] rfl rfl (take_ofW HT_.out HW_.out (by kernel_rfl)) (fun _ _ _ h => h) (Or.inl ⟨by rfl, ?_⟩) hHeld ?_ ?_
          rotate_left
          ·
           rintro w' ⟨s0, s1, s2⟩
           go_simp
           with_reducible rfl
          rotate_left
          ·
           simp only [Act.put, setIfInBounds_toArray, set_cons_zero, set_cons_succ, i64_w, i32_w]
           rfl
          refine pure_ (i := 17) (N := some 151) (v := ?_) (a' := ?_) #[T, T, T, T, F, T, T, T, T, F, T, T, T, T, T, T, T, T, F, F, F, F, F] rfl rfl (any_of HT_.out (by kernel_rfl)) (fun _ _ _ h => h) (Or.inl ⟨by rfl, ?_⟩) ?_ ?_
          rotate_left
          ·
           intro w'
           go_simp
           with_reducible rfl
          rotate_left
          ·
           simp only [Act.put, setIfInBounds_toArray, set_cons_zero, set_cons_succ, i64_w, i32_w]
           rfl
          refine join_ (σ := Value × Value × Value) 4 #[T, T, T, T, T, T, T, T, T, T, T, T, T, T, T, T, T, T, T, F, F, F, F] (fun s_ => [(138, s_.1), (143, s_.2.1), (152, s_.2.2)]) (fun s_ w' => (w'.cell? (ad210.add (((ji62)).toNat * 3)) = some (.int .u64 ((rd_T32 t173 (ji62)).f0)) ∧ w'.cell? ⟨(ad210.add (((ji62)).toNat * 3)).block, (ad210.add (((ji62)).toNat * 3)).off + 1, none⟩ = some (.bool ((rd_T32 t173 (ji62)).f1)) ∧ w'.cell? ⟨(ad210.add (((ji62)).toNat * 3)).block, (ad210.add (((ji62)).toNat * 3)).off + 2, none⟩ = some (.int .u64 ((rd_T32 t173 (ji62)).f2))) ∧ (Kd.R k32 32 w' w.heap.size (fun k_ => some k_ ≠ (.slice Ao77 y196.length co77 : Value).ownBlock ∧ some k_ ≠ (s_.2.1 : Value).ownBlock ∧ some k_ ≠ (s_.2.2 : Value).ownBlock ∧ some k_ ≠ (.slice (some ad210) t173.length co20 : Value).ownBlock ∧ some k_ ≠ (.slice Ao76 t176.length co76 : Value).ownBlock ∧ some k_ ≠ (.slice Ao78 t180.length co78 : Value).ownBlock) (.slice Ao75 y193.length co75) y193) ∧ (Kd.R k32 32 w' w.heap.size (fun k_ => some k_ ≠ (.slice Ao75 y193.length co75 : Value).ownBlock ∧ some k_ ≠ (s_.2.1 : Value).ownBlock ∧ some k_ ≠ (s_.2.2 : Value).ownBlock ∧ some k_ ≠ (.slice (some ad210) t173.length co20 : Value).ownBlock ∧ some k_ ≠ (.slice Ao76 t176.length co76 : Value).ownBlock ∧ some k_ ≠ (.slice Ao78 t180.length co78 : Value).ownBlock) (.slice Ao77 y196.length co77) y196) ∧ (Kd.R k32 32 w' w.heap.size (fun k_ => some k_ ≠ (.slice Ao75 y193.length co75 : Value).ownBlock ∧ some k_ ≠ (.slice Ao77 y196.length co77 : Value).ownBlock ∧ some k_ ≠ (s_.2.2 : Value).ownBlock ∧ some k_ ≠ (.slice (some ad210) t173.length co20 : Value).ownBlock ∧ some k_ ≠ (.slice Ao76 t176.length co76 : Value).ownBlock ∧ some k_ ≠ (.slice Ao78 t180.length co78 : Value).ownBlock) s_.2.1 y207) ∧ (Kd.R k32 32 w' w.heap.size (fun k_ => some k_ ≠ (.slice Ao75 y193.length co75 : Value).ownBlock ∧ some k_ ≠ (.slice Ao77 y196.length co77 : Value).ownBlock ∧ some k_ ≠ (s_.2.1 : Value).ownBlock ∧ some k_ ≠ (.slice (some ad210) t173.length co20 : Value).ownBlock ∧ some k_ ≠ (.slice Ao76 t176.length co76 : Value).ownBlock ∧ some k_ ≠ (.slice Ao78 t180.length co78 : Value).ownBlock) s_.2.2 y211) ∧ (Kd.R k32 32 w' w.heap.size (fun k_ => some k_ ≠ (.slice Ao75 y193.length co75 : Value).ownBlock ∧ some k_ ≠ (.slice Ao77 y196.length co77 : Value).ownBlock ∧ some k_ ≠ (s_.2.1 : Value).ownBlock ∧ some k_ ≠ (s_.2.2 : Value).ownBlock ∧ some k_ ≠ (.slice Ao76 t176.length co76 : Value).ownBlock ∧ some k_ ≠ (.slice Ao78 t180.length co78 : Value).ownBlock) (.slice (some ad210) t173.length co20) t173) ∧ (Kd.R k32 32 w' w.heap.size (fun k_ => some k_ ≠ (.slice Ao75 y193.length co75 : Value).ownBlock ∧ some k_ ≠ (.slice Ao77 y196.length co77 : Value).ownBlock ∧ some k_ ≠ (s_.2.1 : Value).ownBlock ∧ some k_ ≠ (s_.2.2 : Value).ownBlock ∧ some k_ ≠ (.slice (some ad210) t173.length co20 : Value).ownBlock ∧ some k_ ≠ (.slice Ao78 t180.length co78 : Value).ownBlock) (.slice Ao76 t176.length co76) t176) ∧ (Kd.R k32 32 w' w.heap.size (fun k_ => some k_ ≠ (.slice Ao75 y193.length co75 : Value).ownBlock ∧ some k_ ≠ (.slice Ao77 y196.length co77 : Value).ownBlock ∧ some k_ ≠ (s_.2.1 : Value).ownBlock ∧ some k_ ≠ (s_.2.2 : Value).ownBlock ∧ some k_ ≠ (.slice (some ad210) t173.length co20 : Value).ownBlock ∧ some k_ ≠ (.slice Ao76 t176.length co76 : Value).ownBlock) (.slice Ao78 t180.length co78) t180) ∧ (Below w.heap.size w w')) ?_ ?_
          rotate_left
          ·
           intro hCont
           refine two_ (i := 4) (j := 18) (Ni := some 138) (Nj := some 152) #[T, T, T, T, T, T, T, T, T, F, T, T, T, T, T, T, T, T, F, F, F, F, F] #[T, T, T, T, F, T, T, T, T, F, T, T, T, T, T, T, T, T, T, F, F, F, F] rfl rfl rfl rfl (two_of HT_.out (by kernel_rfl)) (by decide) (by decide) (fun K hK => ?_) (fun K hK => ?_)
           rotate_left
           ·
            skip
            refine Kd.R_lit_step k32 _ 32 ?hg (N := 152) ?hd (xs := ([(⟨(rd_T32 t173 (ji62)).f0, true, a4⟩ : S32)] : List (S32))) (inner := [.int .u64 ((rd_T32 t173 (ji62)).f0), .bool true, .int .u64 a4]) (ok := fun _ => True) (okp := fun _ => True) ?hr ?hp (fun _ hk => hk) trivial (Below.refl _ _) (Nat.le_refl _) (by simp) ?_; (case hd => rfl); (case hg => rfl); (case hr => first | (go_simp; done) | (go_simp; rfl)); (case hp => exact (Reps.c3 (show Kd.M k32 _ _ _ (⟨(rd_T32 t173 (ji62)).f0, true, a4⟩ : S32) [.int .u64 ((rd_T32 t173 (ji62)).f0), .bool true, .int .u64 a4] from (k32_mkM _ _ _ (⟨(rd_T32 t173 (ji62)).f0, true, a4⟩ : S32) )) (Reps.none _ _)))
            intro v212 w81 ho82 hb hg_ hnew_
            have HS0_ := (hb.cell (World.block_lt_of_cell? _ _ (hHeld.1))).trans (hHeld.1)
            have HS1_ := (hb.cell (World.block_lt_of_cell? _ _ (hHeld.2.1))).trans (hHeld.2.1)
            have HS2_ := (hb.cell (World.block_lt_of_cell? _ _ (hHeld.2.2))).trans (hHeld.2.2)
            clear hg_ hnew_
            (first | rw [← Ny211.out] at ho82 | (simp only [Int.reduceToNat] at ho82; rw [← Ny211.out] at ho82))
            have n0_ := am (Kd.R_elder' (by (with_reducible repeat (first | apply R_alloc | apply R_drewN | apply R_drew)); exact HO_11.out) (Kd.R_base ho82) hb)
            have n1_ := am (Kd.R_elder' (by (with_reducible repeat (first | apply R_alloc | apply R_drewN | apply R_drew)); exact HO_13.out) (Kd.R_base ho82) hb)
            have n2_ := am (Kd.R_elder' (by (with_reducible repeat (first | apply R_alloc | apply R_drewN | apply R_drew)); exact HO_15.out) (Kd.R_base ho82) hb)
            have n3_ := am (Kd.R_elder' (by (with_reducible repeat (first | apply R_alloc | apply R_drewN | apply R_drew)); exact HO195.out) (Kd.R_base ho82) hb)
            have n4_ := am (Kd.R_elder' (by (with_reducible repeat (first | apply R_alloc | apply R_drewN | apply R_drew)); exact HO198.out) (Kd.R_base ho82) hb)
            have n5_ := am (Kd.R_lower (Kd.R_new' (Kd.R_new' (Kd.R_new' (Kd.R_new' (Kd.R_new' ho82 (Kd.R_lt (by (with_reducible repeat (first | apply R_alloc | apply R_drewN | apply R_drew)); exact HO_11.out))) (Kd.R_lt (by (with_reducible repeat (first | apply R_alloc | apply R_drewN | apply R_drew)); exact HO_13.out))) (Kd.R_lt (by (with_reducible repeat (first | apply R_alloc | apply R_drewN | apply R_drew)); exact HO_15.out))) (Kd.R_lt (by (with_reducible repeat (first | apply R_alloc | apply R_drewN | apply R_drew)); exact HO195.out))) (Kd.R_lt (by (with_reducible repeat (first | apply R_alloc | apply R_drewN | apply R_drew)); exact HO198.out))) (below_size (by repeat (first | (with_reducible first | exact HB.out | apply below_alloc | apply pw_below_drewN | apply below_drew1) | exact HB.out))))
            have n6_ := am (Kd.C_below (by repeat (first | (with_reducible exact HR206.out) | (with_reducible refine Kd.C_alloc ?_ _) | (with_reducible refine Kd.C_drewN ?_ _) | (with_reducible refine Kd.C_drew ?_) | exact HR206.out)) hb)
            have n7_ := am (below_step (by repeat (first | (with_reducible first | exact HB.out | apply below_alloc | apply pw_below_drewN | apply below_drew1) | exact HB.out)) hb)
            clear HO_11
            clear HO_13
            clear HO_15
            clear HO195
            clear HO198
            clear HR206
            clear HB
            have HO_11 := n0_
            have HO_13 := n1_
            have HO_15 := n2_
            have HO195 := n3_
            have HO198 := n4_
            have HO213 := n5_
            have HR206 := n6_
            have HB := n7_
            clear n0_ n1_ n2_ n3_ n4_ n5_ n6_ n7_
            clear hb ho82
            refine hK.out _ _ ⟨HS0_, HS1_, HS2_⟩ (fun hHeld => ?_)
            clear hK K
            refine norm_ (a' := ?_) ?_ ?_
            rotate_left
            ·
             show Act.put _ (some 152) _ = _
             simp only [Act.put, setIfInBounds_toArray, set_cons_zero, set_cons_succ, i64_w, i32_w]
             rfl
            refine one_ (i := 4) (N := some 138) #[T, T, T, T, T, T, T, T, T, F, T, T, T, T, T, T, T, T, T, F, F, F, F] rfl rfl (one_of HT_.out (by kernel_rfl)) (by decide) (fun K hK => ?_)
            refine Kd.R_lit_step k32 _ 32 ?hg (N := 138) ?hd (xs := ([] : List (S32))) (inner := []) (ok := fun _ => True) (okp := fun _ => True) ?hr ?hp (fun _ hk => hk) trivial (Below.refl _ _) (Nat.le_refl _) (by simp) ?_; (case hd => rfl); (case hg => rfl); (case hr => first | (go_simp; done) | (go_simp; rfl)); (case hp => exact (Reps.none _ _))
            intro v201 w83 ho84 hb hg_ hnew_
            have HS0_ := (hb.cell (World.block_lt_of_cell? _ _ (hHeld.1))).trans (hHeld.1)
            have HS1_ := (hb.cell (World.block_lt_of_cell? _ _ (hHeld.2.1))).trans (hHeld.2.1)
            have HS2_ := (hb.cell (World.block_lt_of_cell? _ _ (hHeld.2.2))).trans (hHeld.2.2)
            clear hg_ hnew_
            (first | rw [← Ny200.out] at ho84 | (simp only [Int.reduceToNat] at ho84; rw [← Ny200.out] at ho84))
            have n0_ := am (Kd.R_elder' (by (with_reducible repeat (first | apply R_alloc | apply R_drewN | apply R_drew)); exact HO_11.out) (Kd.R_base ho84) hb)
            have n1_ := am (Kd.R_elder' (by (with_reducible repeat (first | apply R_alloc | apply R_drewN | apply R_drew)); exact HO_13.out) (Kd.R_base ho84) hb)
            have n2_ := am (Kd.R_elder' (by (with_reducible repeat (first | apply R_alloc | apply R_drewN | apply R_drew)); exact HO_15.out) (Kd.R_base ho84) hb)
            have n3_ := am (Kd.R_elder' (by (with_reducible repeat (first | apply R_alloc | apply R_drewN | apply R_drew)); exact HO195.out) (Kd.R_base ho84) hb)
            have n4_ := am (Kd.R_elder' (by (with_reducible repeat (first | apply R_alloc | apply R_drewN | apply R_drew)); exact HO198.out) (Kd.R_base ho84) hb)
            have n5_ := am (Kd.R_elder' (by (with_reducible repeat (first | apply R_alloc | apply R_drewN | apply R_drew)); exact HO213.out) (Kd.R_base ho84) hb)
            have n6_ := am (Kd.R_lower (Kd.R_new' (Kd.R_new' (Kd.R_new' (Kd.R_new' (Kd.R_new' (Kd.R_new' ho84 (Kd.R_lt (by (with_reducible repeat (first | apply R_alloc | apply R_drewN | apply R_drew)); exact HO_11.out))) (Kd.R_lt (by (with_reducible repeat (first | apply R_alloc | apply R_drewN | apply R_drew)); exact HO_13.out))) (Kd.R_lt (by (with_reducible repeat (first | apply R_alloc | apply R_drewN | apply R_drew)); exact HO_15.out))) (Kd.R_lt (by (with_reducible repeat (first | apply R_alloc | apply R_drewN | apply R_drew)); exact HO195.out))) (Kd.R_lt (by (with_reducible repeat (first | apply R_alloc | apply R_drewN | apply R_drew)); exact HO198.out))) (Kd.R_lt (by (with_reducible repeat (first | apply R_alloc | apply R_drewN | apply R_drew)); exact HO213.out))) (below_size (by repeat (first | (with_reducible first | exact HB.out | apply below_alloc | apply pw_below_drewN | apply below_drew1) | exact HB.out))))
            have n7_ := am (Kd.C_below (by repeat (first | (with_reducible exact HR206.out) | (with_reducible refine Kd.C_alloc ?_ _) | (with_reducible refine Kd.C_drewN ?_ _) | (with_reducible refine Kd.C_drew ?_) | exact HR206.out)) hb)
            have n8_ := am (below_step (by repeat (first | (with_reducible first | exact HB.out | apply below_alloc | apply pw_below_drewN | apply below_drew1) | exact HB.out)) hb)
            clear HO_11
            clear HO_13
            clear HO_15
            clear HO195
            clear HO198
            clear HO213
            clear HR206
            clear HB
            have HO_11 := n0_
            have HO_13 := n1_
            have HO_15 := n2_
            have HO195 := n3_
            have HO198 := n4_
            have HO213 := n5_
            have HO202 := n6_
            have HR206 := n7_
            have HB := n8_
            clear n0_ n1_ n2_ n3_ n4_ n5_ n6_ n7_ n8_
            clear hb ho84
            refine hK.out _ _ ⟨HS0_, HS1_, HS2_⟩ (fun hHeld => ?_)
            clear hK K
            refine norm_ (a' := ?_) ?_ ?_
            rotate_left
            ·
             show Act.put _ (some 138) _ = _
             simp only [Act.put, setIfInBounds_toArray, set_cons_zero, set_cons_succ, i64_w, i32_w]
             rfl
            refine one_ (i := 9) (N := some 143) #[T, T, T, T, T, T, T, T, T, T, T, T, T, T, T, T, T, T, T, F, F, F, F] rfl rfl (one_of HT_.out (by kernel_rfl)) (by decide) (fun K hK => ?_)
            refine Kd.R_append_rows_step k32 (w0 := w) w.heap.size (by rfl) (.tmp 138) (.tmp 142) 22 32 (.agg #[(.int .u64 0), (.bool false), (.int .u64 0)]) 24 rfl Try.underlying22 info32 rfl (by decide) (by omega) v201 y200 y203 _ _ _ (fun k_ => some k_ ≠ (.slice (some ad210) t173.length co20 : Value).ownBlock ∧ some k_ ≠ (.slice Ao76 t176.length co76 : Value).ownBlock ∧ some k_ ≠ (.slice Ao78 t180.length co78 : Value).ownBlock ∧ some k_ ≠ (.slice Ao75 y193.length co75 : Value).ownBlock ∧ some k_ ≠ (.slice Ao77 y196.length co77 : Value).ownBlock ∧ some k_ ≠ (v212 : Value).ownBlock) (fun _ => False) rfl rfl ?aO ?aR (fun _ _ h => h) (fun _ h => h.elim) ?aF ?aB ?aS ?aL ?_
            (case aR => repeat (first | exact (by repeat (first | (with_reducible exact HR206.out) | (with_reducible refine Kd.C_alloc ?_ _) | (with_reducible refine Kd.C_drewN ?_ _) | (with_reducible refine Kd.C_drew ?_) | exact HR206.out)) | (with_reducible refine Kd.C_alloc ?_ _) | (with_reducible refine Kd.C_drewN ?_ _) | (with_reducible refine Kd.C_drew ?_)))
            (case aB => exact (by repeat (first | (with_reducible first | exact HB.out | apply below_alloc | apply pw_below_drewN | apply below_drew1) | exact HB.out)))
            (case aF => exact (fun k_ hk => ⟨Kd.fresh' (Kd.R_lt (by (with_reducible repeat (first | apply R_alloc | apply R_drewN | apply R_drew)); exact HO_11.out)) k_ hk, Kd.fresh' (Kd.R_lt (by (with_reducible repeat (first | apply R_alloc | apply R_drewN | apply R_drew)); exact HO_13.out)) k_ hk, Kd.fresh' (Kd.R_lt (by (with_reducible repeat (first | apply R_alloc | apply R_drewN | apply R_drew)); exact HO_15.out)) k_ hk, Kd.fresh' (Kd.R_lt (by (with_reducible repeat (first | apply R_alloc | apply R_drewN | apply R_drew)); exact HO195.out)) k_ hk, Kd.fresh' (Kd.R_lt (by (with_reducible repeat (first | apply R_alloc | apply R_drewN | apply R_drew)); exact HO198.out)) k_ hk, Kd.fresh' (Kd.R_lt (by (with_reducible repeat (first | apply R_alloc | apply R_drewN | apply R_drew)); exact HO213.out)) k_ hk⟩))
            (case aO => exact (by (with_reducible repeat (first | apply R_alloc | apply R_drewN | apply R_drew)); exact Kd.R_mono HO202.out (fun _ hk => by simp only [hk, ne_eq, not_false_eq_true, and_self])))
            (case aS => exact (below_size (by repeat (first | (with_reducible first | exact HB.out | apply below_alloc | apply pw_below_drewN | apply below_drew1) | exact HB.out))))
            (case aL => have := LMc65.out; omega)
            intro v208 w85 ho hb hg hat
            (first | have HS0_ := cell_grown hg (hHeld.1) (by first | (rw [add_block]; exact (HO_11.out.1 _ rfl).2) | (show some (Addr.add _ _).block ≠ _; rw [add_block]; exact (HO_11.out.1 _ rfl).2) | exact (HO_11.out.1 _ rfl).2) | have HS0_ := cell_grown hg (cell_unalloc (hHeld.1) (by first | (rw [add_block]; exact Kd.R_lt HO_11.out _ rfl) | (show (Addr.add _ _).block < _; rw [add_block]; exact Kd.R_lt HO_11.out _ rfl) | exact Kd.R_lt HO_11.out _ rfl)) (by first | (rw [add_block]; exact (HO_11.out.1 _ rfl).2) | (show some (Addr.add _ _).block ≠ _; rw [add_block]; exact (HO_11.out.1 _ rfl).2) | exact (HO_11.out.1 _ rfl).2))
            (first | have HS1_ := cell_grown hg (hHeld.2.1) (by first | (rw [add_block]; exact (HO_11.out.1 _ rfl).2) | (show some (Addr.add _ _).block ≠ _; rw [add_block]; exact (HO_11.out.1 _ rfl).2) | exact (HO_11.out.1 _ rfl).2) | have HS1_ := cell_grown hg (cell_unalloc (hHeld.2.1) (by first | (rw [add_block]; exact Kd.R_lt HO_11.out _ rfl) | (show (Addr.add _ _).block < _; rw [add_block]; exact Kd.R_lt HO_11.out _ rfl) | exact Kd.R_lt HO_11.out _ rfl)) (by first | (rw [add_block]; exact (HO_11.out.1 _ rfl).2) | (show some (Addr.add _ _).block ≠ _; rw [add_block]; exact (HO_11.out.1 _ rfl).2) | exact (HO_11.out.1 _ rfl).2))
            (first | have HS2_ := cell_grown hg (hHeld.2.2) (by first | (rw [add_block]; exact (HO_11.out.1 _ rfl).2) | (show some (Addr.add _ _).block ≠ _; rw [add_block]; exact (HO_11.out.1 _ rfl).2) | exact (HO_11.out.1 _ rfl).2) | have HS2_ := cell_grown hg (cell_unalloc (hHeld.2.2) (by first | (rw [add_block]; exact Kd.R_lt HO_11.out _ rfl) | (show (Addr.add _ _).block < _; rw [add_block]; exact Kd.R_lt HO_11.out _ rfl) | exact Kd.R_lt HO_11.out _ rfl)) (by first | (rw [add_block]; exact (HO_11.out.1 _ rfl).2) | (show some (Addr.add _ _).block ≠ _; rw [add_block]; exact (HO_11.out.1 _ rfl).2) | exact (HO_11.out.1 _ rfl).2))
            rw [← Ny207.out] at ho
            have n0_ := am (Kd.R_after (ok := (fun k_ => some k_ ≠ (.slice Ao76 t176.length co76 : Value).ownBlock ∧ some k_ ≠ (.slice Ao78 t180.length co78 : Value).ownBlock ∧ some k_ ≠ (.slice Ao75 y193.length co75 : Value).ownBlock ∧ some k_ ≠ (.slice Ao77 y196.length co77 : Value).ownBlock ∧ some k_ ≠ (v212 : Value).ownBlock)) (by (with_reducible repeat (first | apply R_alloc | apply R_drewN | apply R_drew)); exact Kd.R_mono HO_11.out (fun _ hk => by simp only [hk, ne_eq, not_false_eq_true, and_self])) hg hat)
            have n1_ := am (Kd.R_after (ok := (fun k_ => some k_ ≠ (.slice (some ad210) t173.length co20 : Value).ownBlock ∧ some k_ ≠ (.slice Ao78 t180.length co78 : Value).ownBlock ∧ some k_ ≠ (.slice Ao75 y193.length co75 : Value).ownBlock ∧ some k_ ≠ (.slice Ao77 y196.length co77 : Value).ownBlock ∧ some k_ ≠ (v212 : Value).ownBlock)) (by (with_reducible repeat (first | apply R_alloc | apply R_drewN | apply R_drew)); exact Kd.R_mono HO_13.out (fun _ hk => by simp only [hk, ne_eq, not_false_eq_true, and_self])) hg hat)
            have n2_ := am (Kd.R_after (ok := (fun k_ => some k_ ≠ (.slice (some ad210) t173.length co20 : Value).ownBlock ∧ some k_ ≠ (.slice Ao76 t176.length co76 : Value).ownBlock ∧ some k_ ≠ (.slice Ao75 y193.length co75 : Value).ownBlock ∧ some k_ ≠ (.slice Ao77 y196.length co77 : Value).ownBlock ∧ some k_ ≠ (v212 : Value).ownBlock)) (by (with_reducible repeat (first | apply R_alloc | apply R_drewN | apply R_drew)); exact Kd.R_mono HO_15.out (fun _ hk => by simp only [hk, ne_eq, not_false_eq_true, and_self])) hg hat)
            have n3_ := am (Kd.R_after (ok := (fun k_ => some k_ ≠ (.slice (some ad210) t173.length co20 : Value).ownBlock ∧ some k_ ≠ (.slice Ao76 t176.length co76 : Value).ownBlock ∧ some k_ ≠ (.slice Ao78 t180.length co78 : Value).ownBlock ∧ some k_ ≠ (.slice Ao77 y196.length co77 : Value).ownBlock ∧ some k_ ≠ (v212 : Value).ownBlock)) (by (with_reducible repeat (first | apply R_alloc | apply R_drewN | apply R_drew)); exact Kd.R_mono HO195.out (fun _ hk => by simp only [hk, ne_eq, not_false_eq_true, and_self])) hg hat)
            have n4_ := am (Kd.R_after (ok := (fun k_ => some k_ ≠ (.slice (some ad210) t173.length co20 : Value).ownBlock ∧ some k_ ≠ (.slice Ao76 t176.length co76 : Value).ownBlock ∧ some k_ ≠ (.slice Ao78 t180.length co78 : Value).ownBlock ∧ some k_ ≠ (.slice Ao75 y193.length co75 : Value).ownBlock ∧ some k_ ≠ (v212 : Value).ownBlock)) (by (with_reducible repeat (first | apply R_alloc | apply R_drewN | apply R_drew)); exact Kd.R_mono HO198.out (fun _ hk => by simp only [hk, ne_eq, not_false_eq_true, and_self])) hg hat)
            have n5_ := am (Kd.R_after (ok := (fun k_ => some k_ ≠ (.slice (some ad210) t173.length co20 : Value).ownBlock ∧ some k_ ≠ (.slice Ao76 t176.length co76 : Value).ownBlock ∧ some k_ ≠ (.slice Ao78 t180.length co78 : Value).ownBlock ∧ some k_ ≠ (.slice Ao75 y193.length co75 : Value).ownBlock ∧ some k_ ≠ (.slice Ao77 y196.length co77 : Value).ownBlock)) (by (with_reducible repeat (first | apply R_alloc | apply R_drewN | apply R_drew)); exact Kd.R_mono HO213.out (fun _ hk => by simp only [hk, ne_eq, not_false_eq_true, and_self])) hg hat)
            have n6_ := am (hb)
            have n7_ := am ((show Kd.C k32 w85 (some ad210) y203.length y203 from by rw [Ny203.out]; exact Kd.C_take (m := ((ji62) : Int).toNat) ((Kd.R_reads' (Kd.R_after (ok := (fun k_ => some k_ ≠ (.slice Ao76 t176.length co76 : Value).ownBlock ∧ some k_ ≠ (.slice Ao78 t180.length co78 : Value).ownBlock ∧ some k_ ≠ (.slice Ao75 y193.length co75 : Value).ownBlock ∧ some k_ ≠ (.slice Ao77 y196.length co77 : Value).ownBlock ∧ some k_ ≠ (v212 : Value).ownBlock)) (by (with_reducible repeat (first | apply R_alloc | apply R_drewN | apply R_drew)); exact Kd.R_mono HO_11.out (fun _ hk => by simp only [hk, ne_eq, not_false_eq_true, and_self])) hg hat)).2.2) KL80.out))
            have n8_ := am (ho)
            clear HO_11
            clear HO_13
            clear HO_15
            clear HO195
            clear HO198
            clear HO213
            clear HB
            clear HR206
            clear HO202
            have HO_11 := n0_
            have HO_13 := n1_
            have HO_15 := n2_
            have HO195 := n3_
            have HO198 := n4_
            have HO213 := n5_
            have HB := n6_
            have HR206 := n7_
            have HO209 := n8_
            clear n0_ n1_ n2_ n3_ n4_ n5_ n6_ n7_ n8_
            clear ho hb hg hat
            refine hK.out _ _ ⟨HS0_, HS1_, HS2_⟩ (fun hHeld => ?_)
            clear hK K
            refine norm_ (a' := ?_) ?_ ?_
            rotate_left
            ·
             show Act.put _ (some 143) _ = _
             simp only [Act.put, setIfInBounds_toArray, set_cons_zero, set_cons_succ, i64_w, i32_w]
             rfl
            exact norm_ (by simp only [putAll, Act.put, setIfInBounds_toArray, set_cons_zero, set_cons_succ]) (hCont (v201, v208, v212) _ ⟨hHeld, (by (with_reducible repeat (first | apply R_alloc | apply R_drewN | apply R_drew)); exact Kd.R_mono HO195.out (fun _ hk => by simp only [hk, ne_eq, not_false_eq_true, and_self])), (by (with_reducible repeat (first | apply R_alloc | apply R_drewN | apply R_drew)); exact Kd.R_mono HO198.out (fun _ hk => by simp only [hk, ne_eq, not_false_eq_true, and_self])), (by (with_reducible repeat (first | apply R_alloc | apply R_drewN | apply R_drew)); exact Kd.R_mono HO209.out (fun _ hk => by simp only [hk, ne_eq, not_false_eq_true, and_self])), (by (with_reducible repeat (first | apply R_alloc | apply R_drewN | apply R_drew)); exact Kd.R_mono HO213.out (fun _ hk => by simp only [hk, ne_eq, not_false_eq_true, and_self])), (by (with_reducible repeat (first | apply R_alloc | apply R_drewN | apply R_drew)); exact Kd.R_mono HO_11.out (fun _ hk => by simp only [hk, ne_eq, not_false_eq_true, and_self])), (by (with_reducible repeat (first | apply R_alloc | apply R_drewN | apply R_drew)); exact Kd.R_mono HO_13.out (fun _ hk => by simp only [hk, ne_eq, not_false_eq_true, and_self])), (by (with_reducible repeat (first | apply R_alloc | apply R_drewN | apply R_drew)); exact Kd.R_mono HO_15.out (fun _ hk => by simp only [hk, ne_eq, not_false_eq_true, and_self])), (by repeat (first | (with_reducible first | exact HB.out | apply below_alloc | apply pw_below_drewN | apply below_drew1) | exact HB.out))⟩)
           skip
           refine Kd.R_lit_step k32 _ 32 ?hg (N := 138) ?hd (xs := ([] : List (S32))) (inner := []) (ok := fun _ => True) (okp := fun _ => True) ?hr ?hp (fun _ hk => hk) trivial (Below.refl _ _) (Nat.le_refl _) (by simp) ?_; (case hd => rfl); (case hg => rfl); (case hr => first | (go_simp; done) | (go_simp; rfl)); (case hp => exact (Reps.none _ _))
           intro v201 w81 ho82 hb hg_ hnew_
           have HS0_ := (hb.cell (World.block_lt_of_cell? _ _ (hHeld.1))).trans (hHeld.1)
           have HS1_ := (hb.cell (World.block_lt_of_cell? _ _ (hHeld.2.1))).trans (hHeld.2.1)
           have HS2_ := (hb.cell (World.block_lt_of_cell? _ _ (hHeld.2.2))).trans (hHeld.2.2)
           clear hg_ hnew_
           (first | rw [← Ny200.out] at ho82 | (simp only [Int.reduceToNat] at ho82; rw [← Ny200.out] at ho82))
           have n0_ := am (Kd.R_elder' (by (with_reducible repeat (first | apply R_alloc | apply R_drewN | apply R_drew)); exact HO_11.out) (Kd.R_base ho82) hb)
           have n1_ := am (Kd.R_elder' (by (with_reducible repeat (first | apply R_alloc | apply R_drewN | apply R_drew)); exact HO_13.out) (Kd.R_base ho82) hb)
           have n2_ := am (Kd.R_elder' (by (with_reducible repeat (first | apply R_alloc | apply R_drewN | apply R_drew)); exact HO_15.out) (Kd.R_base ho82) hb)
           have n3_ := am (Kd.R_elder' (by (with_reducible repeat (first | apply R_alloc | apply R_drewN | apply R_drew)); exact HO195.out) (Kd.R_base ho82) hb)
           have n4_ := am (Kd.R_elder' (by (with_reducible repeat (first | apply R_alloc | apply R_drewN | apply R_drew)); exact HO198.out) (Kd.R_base ho82) hb)
           have n5_ := am (Kd.R_lower (Kd.R_new' (Kd.R_new' (Kd.R_new' (Kd.R_new' (Kd.R_new' ho82 (Kd.R_lt (by (with_reducible repeat (first | apply R_alloc | apply R_drewN | apply R_drew)); exact HO_11.out))) (Kd.R_lt (by (with_reducible repeat (first | apply R_alloc | apply R_drewN | apply R_drew)); exact HO_13.out))) (Kd.R_lt (by (with_reducible repeat (first | apply R_alloc | apply R_drewN | apply R_drew)); exact HO_15.out))) (Kd.R_lt (by (with_reducible repeat (first | apply R_alloc | apply R_drewN | apply R_drew)); exact HO195.out))) (Kd.R_lt (by (with_reducible repeat (first | apply R_alloc | apply R_drewN | apply R_drew)); exact HO198.out))) (below_size (by repeat (first | (with_reducible first | exact HB.out | apply below_alloc | apply pw_below_drewN | apply below_drew1) | exact HB.out))))
           have n6_ := am (Kd.C_below (by repeat (first | (with_reducible exact HR206.out) | (with_reducible refine Kd.C_alloc ?_ _) | (with_reducible refine Kd.C_drewN ?_ _) | (with_reducible refine Kd.C_drew ?_) | exact HR206.out)) hb)
           have n7_ := am (below_step (by repeat (first | (with_reducible first | exact HB.out | apply below_alloc | apply pw_below_drewN | apply below_drew1) | exact HB.out)) hb)
           clear HO_11
           clear HO_13
           clear HO_15
           clear HO195
           clear HO198
           clear HR206
           clear HB
           have HO_11 := n0_
           have HO_13 := n1_
           have HO_15 := n2_
           have HO195 := n3_
           have HO198 := n4_
           have HO202 := n5_
           have HR206 := n6_
           have HB := n7_
           clear n0_ n1_ n2_ n3_ n4_ n5_ n6_ n7_
           clear hb ho82
           refine hK.out _ _ ⟨HS0_, HS1_, HS2_⟩ (fun hHeld => ?_)
           clear hK K
           refine norm_ (a' := ?_) ?_ ?_
           rotate_left
           ·
            show Act.put _ (some 138) _ = _
            simp only [Act.put, setIfInBounds_toArray, set_cons_zero, set_cons_succ, i64_w, i32_w]
            rfl
           refine two_ (i := 9) (j := 18) (Ni := some 143) (Nj := some 152) #[T, T, T, T, T, T, T, T, T, T, T, T, T, T, T, T, T, T, F, F, F, F, F] #[T, T, T, T, T, T, T, T, T, F, T, T, T, T, T, T, T, T, T, F, F, F, F] rfl rfl rfl rfl (two_of HT_.out (by kernel_rfl)) (by decide) (by decide) (fun K hK => ?_) (fun K hK => ?_)
           ·
            skip
            refine Kd.R_append_rows_step k32 (w0 := w) w.heap.size (by rfl) (.tmp 138) (.tmp 142) 22 32 (.agg #[(.int .u64 0), (.bool false), (.int .u64 0)]) 24 rfl Try.underlying22 info32 rfl (by decide) (by omega) v201 y200 y203 _ _ _ (fun k_ => some k_ ≠ (.slice (some ad210) t173.length co20 : Value).ownBlock ∧ some k_ ≠ (.slice Ao76 t176.length co76 : Value).ownBlock ∧ some k_ ≠ (.slice Ao78 t180.length co78 : Value).ownBlock ∧ some k_ ≠ (.slice Ao75 y193.length co75 : Value).ownBlock ∧ some k_ ≠ (.slice Ao77 y196.length co77 : Value).ownBlock) (fun _ => False) rfl rfl ?aO ?aR (fun _ _ h => h) (fun _ h => h.elim) ?aF ?aB ?aS ?aL ?_
            (case aR => repeat (first | exact (by repeat (first | (with_reducible exact HR206.out) | (with_reducible refine Kd.C_alloc ?_ _) | (with_reducible refine Kd.C_drewN ?_ _) | (with_reducible refine Kd.C_drew ?_) | exact HR206.out)) | (with_reducible refine Kd.C_alloc ?_ _) | (with_reducible refine Kd.C_drewN ?_ _) | (with_reducible refine Kd.C_drew ?_)))
            (case aB => exact (by repeat (first | (with_reducible first | exact HB.out | apply below_alloc | apply pw_below_drewN | apply below_drew1) | exact HB.out)))
            (case aF => exact (fun k_ hk => ⟨Kd.fresh' (Kd.R_lt (by (with_reducible repeat (first | apply R_alloc | apply R_drewN | apply R_drew)); exact HO_11.out)) k_ hk, Kd.fresh' (Kd.R_lt (by (with_reducible repeat (first | apply R_alloc | apply R_drewN | apply R_drew)); exact HO_13.out)) k_ hk, Kd.fresh' (Kd.R_lt (by (with_reducible repeat (first | apply R_alloc | apply R_drewN | apply R_drew)); exact HO_15.out)) k_ hk, Kd.fresh' (Kd.R_lt (by (with_reducible repeat (first | apply R_alloc | apply R_drewN | apply R_drew)); exact HO195.out)) k_ hk, Kd.fresh' (Kd.R_lt (by (with_reducible repeat (first | apply R_alloc | apply R_drewN | apply R_drew)); exact HO198.out)) k_ hk⟩))
            (case aO => exact (by (with_reducible repeat (first | apply R_alloc | apply R_drewN | apply R_drew)); exact Kd.R_mono HO202.out (fun _ hk => by simp only [hk, ne_eq, not_false_eq_true, and_self])))
            (case aS => exact (below_size (by repeat (first | (with_reducible first | exact HB.out | apply below_alloc | apply pw_below_drewN | apply below_drew1) | exact HB.out))))
            (case aL => have := LMc65.out; omega)
            intro v208 w83 ho hb hg hat
            (first | have HS0_ := cell_grown hg (hHeld.1) (by first | (rw [add_block]; exact (HO_11.out.1 _ rfl).2) | (show some (Addr.add _ _).block ≠ _; rw [add_block]; exact (HO_11.out.1 _ rfl).2) | exact (HO_11.out.1 _ rfl).2) | have HS0_ := cell_grown hg (cell_unalloc (hHeld.1) (by first | (rw [add_block]; exact Kd.R_lt HO_11.out _ rfl) | (show (Addr.add _ _).block < _; rw [add_block]; exact Kd.R_lt HO_11.out _ rfl) | exact Kd.R_lt HO_11.out _ rfl)) (by first | (rw [add_block]; exact (HO_11.out.1 _ rfl).2) | (show some (Addr.add _ _).block ≠ _; rw [add_block]; exact (HO_11.out.1 _ rfl).2) | exact (HO_11.out.1 _ rfl).2))
            (first | have HS1_ := cell_grown hg (hHeld.2.1) (by first | (rw [add_block]; exact (HO_11.out.1 _ rfl).2) | (show some (Addr.add _ _).block ≠ _; rw [add_block]; exact (HO_11.out.1 _ rfl).2) | exact (HO_11.out.1 _ rfl).2) | have HS1_ := cell_grown hg (cell_unalloc (hHeld.2.1) (by first | (rw [add_block]; exact Kd.R_lt HO_11.out _ rfl) | (show (Addr.add _ _).block < _; rw [add_block]; exact Kd.R_lt HO_11.out _ rfl) | exact Kd.R_lt HO_11.out _ rfl)) (by first | (rw [add_block]; exact (HO_11.out.1 _ rfl).2) | (show some (Addr.add _ _).block ≠ _; rw [add_block]; exact (HO_11.out.1 _ rfl).2) | exact (HO_11.out.1 _ rfl).2))
            (first | have HS2_ := cell_grown hg (hHeld.2.2) (by first | (rw [add_block]; exact (HO_11.out.1 _ rfl).2) | (show some (Addr.add _ _).block ≠ _; rw [add_block]; exact (HO_11.out.1 _ rfl).2) | exact (HO_11.out.1 _ rfl).2) | have HS2_ := cell_grown hg (cell_unalloc (hHeld.2.2) (by first | (rw [add_block]; exact Kd.R_lt HO_11.out _ rfl) | (show (Addr.add _ _).block < _; rw [add_block]; exact Kd.R_lt HO_11.out _ rfl) | exact Kd.R_lt HO_11.out _ rfl)) (by first | (rw [add_block]; exact (HO_11.out.1 _ rfl).2) | (show some (Addr.add _ _).block ≠ _; rw [add_block]; exact (HO_11.out.1 _ rfl).2) | exact (HO_11.out.1 _ rfl).2))
            rw [← Ny207.out] at ho
            have n0_ := am (Kd.R_after (ok := (fun k_ => some k_ ≠ (.slice Ao76 t176.length co76 : Value).ownBlock ∧ some k_ ≠ (.slice Ao78 t180.length co78 : Value).ownBlock ∧ some k_ ≠ (.slice Ao75 y193.length co75 : Value).ownBlock ∧ some k_ ≠ (.slice Ao77 y196.length co77 : Value).ownBlock)) (by (with_reducible repeat (first | apply R_alloc | apply R_drewN | apply R_drew)); exact Kd.R_mono HO_11.out (fun _ hk => by simp only [hk, ne_eq, not_false_eq_true, and_self])) hg hat)
            have n1_ := am (Kd.R_after (ok := (fun k_ => some k_ ≠ (.slice (some ad210) t173.length co20 : Value).ownBlock ∧ some k_ ≠ (.slice Ao78 t180.length co78 : Value).ownBlock ∧ some k_ ≠ (.slice Ao75 y193.length co75 : Value).ownBlock ∧ some k_ ≠ (.slice Ao77 y196.length co77 : Value).ownBlock)) (by (with_reducible repeat (first | apply R_alloc | apply R_drewN | apply R_drew)); exact Kd.R_mono HO_13.out (fun _ hk => by simp only [hk, ne_eq, not_false_eq_true, and_self])) hg hat)
            have n2_ := am (Kd.R_after (ok := (fun k_ => some k_ ≠ (.slice (some ad210) t173.length co20 : Value).ownBlock ∧ some k_ ≠ (.slice Ao76 t176.length co76 : Value).ownBlock ∧ some k_ ≠ (.slice Ao75 y193.length co75 : Value).ownBlock ∧ some k_ ≠ (.slice Ao77 y196.length co77 : Value).ownBlock)) (by (with_reducible repeat (first | apply R_alloc | apply R_drewN | apply R_drew)); exact Kd.R_mono HO_15.out (fun _ hk => by simp only [hk, ne_eq, not_false_eq_true, and_self])) hg hat)
            have n3_ := am (Kd.R_after (ok := (fun k_ => some k_ ≠ (.slice (some ad210) t173.length co20 : Value).ownBlock ∧ some k_ ≠ (.slice Ao76 t176.length co76 : Value).ownBlock ∧ some k_ ≠ (.slice Ao78 t180.length co78 : Value).ownBlock ∧ some k_ ≠ (.slice Ao77 y196.length co77 : Value).ownBlock)) (by (with_reducible repeat (first | apply R_alloc | apply R_drewN | apply R_drew)); exact Kd.R_mono HO195.out (fun _ hk => by simp only [hk, ne_eq, not_false_eq_true, and_self])) hg hat)
            have n4_ := am (Kd.R_after (ok := (fun k_ => some k_ ≠ (.slice (some ad210) t173.length co20 : Value).ownBlock ∧ some k_ ≠ (.slice Ao76 t176.length co76 : Value).ownBlock ∧ some k_ ≠ (.slice Ao78 t180.length co78 : Value).ownBlock ∧ some k_ ≠ (.slice Ao75 y193.length co75 : Value).ownBlock)) (by (with_reducible repeat (first | apply R_alloc | apply R_drewN | apply R_drew)); exact Kd.R_mono HO198.out (fun _ hk => by simp only [hk, ne_eq, not_false_eq_true, and_self])) hg hat)
            have n5_ := am (hb)
            have n6_ := am ((show Kd.C k32 w83 (some ad210) y203.length y203 from by rw [Ny203.out]; exact Kd.C_take (m := ((ji62) : Int).toNat) ((Kd.R_reads' (Kd.R_after (ok := (fun k_ => some k_ ≠ (.slice Ao76 t176.length co76 : Value).ownBlock ∧ some k_ ≠ (.slice Ao78 t180.length co78 : Value).ownBlock ∧ some k_ ≠ (.slice Ao75 y193.length co75 : Value).ownBlock ∧ some k_ ≠ (.slice Ao77 y196.length co77 : Value).ownBlock)) (by (with_reducible repeat (first | apply R_alloc | apply R_drewN | apply R_drew)); exact Kd.R_mono HO_11.out (fun _ hk => by simp only [hk, ne_eq, not_false_eq_true, and_self])) hg hat)).2.2) KL80.out))
            have n7_ := am (ho)
            clear HO_11
            clear HO_13
            clear HO_15
            clear HO195
            clear HO198
            clear HB
            clear HR206
            clear HO202
            have HO_11 := n0_
            have HO_13 := n1_
            have HO_15 := n2_
            have HO195 := n3_
            have HO198 := n4_
            have HB := n5_
            have HR206 := n6_
            have HO209 := n7_
            clear n0_ n1_ n2_ n3_ n4_ n5_ n6_ n7_
            clear ho hb hg hat
            refine hK.out _ _ ⟨HS0_, HS1_, HS2_⟩ (fun hHeld => ?_)
            clear hK K
            refine norm_ (a' := ?_) ?_ ?_
            rotate_left
            ·
             show Act.put _ (some 143) _ = _
             simp only [Act.put, setIfInBounds_toArray, set_cons_zero, set_cons_succ, i64_w, i32_w]
             rfl
            refine one_ (i := 18) (N := some 152) #[T, T, T, T, T, T, T, T, T, T, T, T, T, T, T, T, T, T, T, F, F, F, F] rfl rfl (one_of HT_.out (by kernel_rfl)) (by decide) (fun K hK => ?_)
            refine Kd.R_lit_step k32 _ 32 ?hg (N := 152) ?hd (xs := ([(⟨(rd_T32 t173 (ji62)).f0, true, a4⟩ : S32)] : List (S32))) (inner := [.int .u64 ((rd_T32 t173 (ji62)).f0), .bool true, .int .u64 a4]) (ok := fun _ => True) (okp := fun _ => True) ?hr ?hp (fun _ hk => hk) trivial (Below.refl _ _) (Nat.le_refl _) (by simp) ?_; (case hd => rfl); (case hg => rfl); (case hr => first | (go_simp; done) | (go_simp; rfl)); (case hp => exact (Reps.c3 (show Kd.M k32 _ _ _ (⟨(rd_T32 t173 (ji62)).f0, true, a4⟩ : S32) [.int .u64 ((rd_T32 t173 (ji62)).f0), .bool true, .int .u64 a4] from (k32_mkM _ _ _ (⟨(rd_T32 t173 (ji62)).f0, true, a4⟩ : S32) )) (Reps.none _ _)))
            intro v212 w84 ho85 hb hg_ hnew_
            have HS0_ := (hb.cell (World.block_lt_of_cell? _ _ (hHeld.1))).trans (hHeld.1)
            have HS1_ := (hb.cell (World.block_lt_of_cell? _ _ (hHeld.2.1))).trans (hHeld.2.1)
            have HS2_ := (hb.cell (World.block_lt_of_cell? _ _ (hHeld.2.2))).trans (hHeld.2.2)
            clear hg_ hnew_
            (first | rw [← Ny211.out] at ho85 | (simp only [Int.reduceToNat] at ho85; rw [← Ny211.out] at ho85))
            have n0_ := am (Kd.R_elder' (by (with_reducible repeat (first | apply R_alloc | apply R_drewN | apply R_drew)); exact HO_11.out) (Kd.R_base ho85) hb)
            have n1_ := am (Kd.R_elder' (by (with_reducible repeat (first | apply R_alloc | apply R_drewN | apply R_drew)); exact HO_13.out) (Kd.R_base ho85) hb)
            have n2_ := am (Kd.R_elder' (by (with_reducible repeat (first | apply R_alloc | apply R_drewN | apply R_drew)); exact HO_15.out) (Kd.R_base ho85) hb)
            have n3_ := am (Kd.R_elder' (by (with_reducible repeat (first | apply R_alloc | apply R_drewN | apply R_drew)); exact HO195.out) (Kd.R_base ho85) hb)
            have n4_ := am (Kd.R_elder' (by (with_reducible repeat (first | apply R_alloc | apply R_drewN | apply R_drew)); exact HO198.out) (Kd.R_base ho85) hb)
            have n5_ := am (Kd.R_elder' (by (with_reducible repeat (first | apply R_alloc | apply R_drewN | apply R_drew)); exact HO209.out) (Kd.R_base ho85) hb)
            have n6_ := am (Kd.R_lower (Kd.R_new' (Kd.R_new' (Kd.R_new' (Kd.R_new' (Kd.R_new' (Kd.R_new' ho85 (Kd.R_lt (by (with_reducible repeat (first | apply R_alloc | apply R_drewN | apply R_drew)); exact HO_11.out))) (Kd.R_lt (by (with_reducible repeat (first | apply R_alloc | apply R_drewN | apply R_drew)); exact HO_13.out))) (Kd.R_lt (by (with_reducible repeat (first | apply R_alloc | apply R_drewN | apply R_drew)); exact HO_15.out))) (Kd.R_lt (by (with_reducible repeat (first | apply R_alloc | apply R_drewN | apply R_drew)); exact HO195.out))) (Kd.R_lt (by (with_reducible repeat (first | apply R_alloc | apply R_drewN | apply R_drew)); exact HO198.out))) (Kd.R_lt (by (with_reducible repeat (first | apply R_alloc | apply R_drewN | apply R_drew)); exact HO209.out))) (below_size (by repeat (first | (with_reducible first | exact HB.out | apply below_alloc | apply pw_below_drewN | apply below_drew1) | exact HB.out))))
            have n7_ := am (Kd.C_below (by repeat (first | (with_reducible exact HR206.out) | (with_reducible refine Kd.C_alloc ?_ _) | (with_reducible refine Kd.C_drewN ?_ _) | (with_reducible refine Kd.C_drew ?_) | exact HR206.out)) hb)
            have n8_ := am (below_step (by repeat (first | (with_reducible first | exact HB.out | apply below_alloc | apply pw_below_drewN | apply below_drew1) | exact HB.out)) hb)
            clear HO_11
            clear HO_13
            clear HO_15
            clear HO195
            clear HO198
            clear HO209
            clear HR206
            clear HB
            have HO_11 := n0_
            have HO_13 := n1_
            have HO_15 := n2_
            have HO195 := n3_
            have HO198 := n4_
            have HO209 := n5_
            have HO213 := n6_
            have HR206 := n7_
            have HB := n8_
            clear n0_ n1_ n2_ n3_ n4_ n5_ n6_ n7_ n8_
            clear hb ho85
            refine hK.out _ _ ⟨HS0_, HS1_, HS2_⟩ (fun hHeld => ?_)
            clear hK K
            refine norm_ (a' := ?_) ?_ ?_
            rotate_left
            ·
             show Act.put _ (some 152) _ = _
             simp only [Act.put, setIfInBounds_toArray, set_cons_zero, set_cons_succ, i64_w, i32_w]
             rfl
            exact norm_ (by simp only [putAll, Act.put, setIfInBounds_toArray, set_cons_zero, set_cons_succ]) (hCont (v201, v208, v212) _ ⟨hHeld, (by (with_reducible repeat (first | apply R_alloc | apply R_drewN | apply R_drew)); exact Kd.R_mono HO195.out (fun _ hk => by simp only [hk, ne_eq, not_false_eq_true, and_self])), (by (with_reducible repeat (first | apply R_alloc | apply R_drewN | apply R_drew)); exact Kd.R_mono HO198.out (fun _ hk => by simp only [hk, ne_eq, not_false_eq_true, and_self])), (by (with_reducible repeat (first | apply R_alloc | apply R_drewN | apply R_drew)); exact Kd.R_mono HO209.out (fun _ hk => by simp only [hk, ne_eq, not_false_eq_true, and_self])), (by (with_reducible repeat (first | apply R_alloc | apply R_drewN | apply R_drew)); exact Kd.R_mono HO213.out (fun _ hk => by simp only [hk, ne_eq, not_false_eq_true, and_self])), (by (with_reducible repeat (first | apply R_alloc | apply R_drewN | apply R_drew)); exact Kd.R_mono HO_11.out (fun _ hk => by simp only [hk, ne_eq, not_false_eq_true, and_self])), (by (with_reducible repeat (first | apply R_alloc | apply R_drewN | apply R_drew)); exact Kd.R_mono HO_13.out (fun _ hk => by simp only [hk, ne_eq, not_false_eq_true, and_self])), (by (with_reducible repeat (first | apply R_alloc | apply R_drewN | apply R_drew)); exact Kd.R_mono HO_15.out (fun _ hk => by simp only [hk, ne_eq, not_false_eq_true, and_self])), (by repeat (first | (with_reducible first | exact HB.out | apply below_alloc | apply pw_below_drewN | apply below_drew1) | exact HB.out))⟩)
           skip
           refine Kd.R_lit_step k32 _ 32 ?hg (N := 152) ?hd (xs := ([(⟨(rd_T32 t173 (ji62)).f0, true, a4⟩ : S32)] : List (S32))) (inner := [.int .u64 ((rd_T32 t173 (ji62)).f0), .bool true, .int .u64 a4]) (ok := fun _ => True) (okp := fun _ => True) ?hr ?hp (fun _ hk => hk) trivial (Below.refl _ _) (Nat.le_refl _) (by simp) ?_; (case hd => rfl); (case hg => rfl); (case hr => first | (go_simp; done) | (go_simp; rfl)); (case hp => exact (Reps.c3 (show Kd.M k32 _ _ _ (⟨(rd_T32 t173 (ji62)).f0, true, a4⟩ : S32) [.int .u64 ((rd_T32 t173 (ji62)).f0), .bool true, .int .u64 a4] from (k32_mkM _ _ _ (⟨(rd_T32 t173 (ji62)).f0, true, a4⟩ : S32) )) (Reps.none _ _)))
           intro v212 w83 ho84 hb hg_ hnew_
           have HS0_ := (hb.cell (World.block_lt_of_cell? _ _ (hHeld.1))).trans (hHeld.1)
           have HS1_ := (hb.cell (World.block_lt_of_cell? _ _ (hHeld.2.1))).trans (hHeld.2.1)
           have HS2_ := (hb.cell (World.block_lt_of_cell? _ _ (hHeld.2.2))).trans (hHeld.2.2)
           clear hg_ hnew_
           (first | rw [← Ny211.out] at ho84 | (simp only [Int.reduceToNat] at ho84; rw [← Ny211.out] at ho84))
           have n0_ := am (Kd.R_elder' (by (with_reducible repeat (first | apply R_alloc | apply R_drewN | apply R_drew)); exact HO_11.out) (Kd.R_base ho84) hb)
           have n1_ := am (Kd.R_elder' (by (with_reducible repeat (first | apply R_alloc | apply R_drewN | apply R_drew)); exact HO_13.out) (Kd.R_base ho84) hb)
           have n2_ := am (Kd.R_elder' (by (with_reducible repeat (first | apply R_alloc | apply R_drewN | apply R_drew)); exact HO_15.out) (Kd.R_base ho84) hb)
           have n3_ := am (Kd.R_elder' (by (with_reducible repeat (first | apply R_alloc | apply R_drewN | apply R_drew)); exact HO195.out) (Kd.R_base ho84) hb)
           have n4_ := am (Kd.R_elder' (by (with_reducible repeat (first | apply R_alloc | apply R_drewN | apply R_drew)); exact HO198.out) (Kd.R_base ho84) hb)
           have n5_ := am (Kd.R_elder' (by (with_reducible repeat (first | apply R_alloc | apply R_drewN | apply R_drew)); exact HO202.out) (Kd.R_base ho84) hb)
           have n6_ := am (Kd.R_lower (Kd.R_new' (Kd.R_new' (Kd.R_new' (Kd.R_new' (Kd.R_new' (Kd.R_new' ho84 (Kd.R_lt (by (with_reducible repeat (first | apply R_alloc | apply R_drewN | apply R_drew)); exact HO_11.out))) (Kd.R_lt (by (with_reducible repeat (first | apply R_alloc | apply R_drewN | apply R_drew)); exact HO_13.out))) (Kd.R_lt (by (with_reducible repeat (first | apply R_alloc | apply R_drewN | apply R_drew)); exact HO_15.out))) (Kd.R_lt (by (with_reducible repeat (first | apply R_alloc | apply R_drewN | apply R_drew)); exact HO195.out))) (Kd.R_lt (by (with_reducible repeat (first | apply R_alloc | apply R_drewN | apply R_drew)); exact HO198.out))) (Kd.R_lt (by (with_reducible repeat (first | apply R_alloc | apply R_drewN | apply R_drew)); exact HO202.out))) (below_size (by repeat (first | (with_reducible first | exact HB.out | apply below_alloc | apply pw_below_drewN | apply below_drew1) | exact HB.out))))
           have n7_ := am (Kd.C_below (by repeat (first | (with_reducible exact HR206.out) | (with_reducible refine Kd.C_alloc ?_ _) | (with_reducible refine Kd.C_drewN ?_ _) | (with_reducible refine Kd.C_drew ?_) | exact HR206.out)) hb)
           have n8_ := am (below_step (by repeat (first | (with_reducible first | exact HB.out | apply below_alloc | apply pw_below_drewN | apply below_drew1) | exact HB.out)) hb)
           clear HO_11
           clear HO_13
           clear HO_15
           clear HO195
           clear HO198
           clear HO202
           clear HR206
           clear HB
           have HO_11 := n0_
           have HO_13 := n1_
           have HO_15 := n2_
           have HO195 := n3_
           have HO198 := n4_
           have HO202 := n5_
           have HO213 := n6_
           have HR206 := n7_
           have HB := n8_
           clear n0_ n1_ n2_ n3_ n4_ n5_ n6_ n7_ n8_
           clear hb ho84
           refine hK.out _ _ ⟨HS0_, HS1_, HS2_⟩ (fun hHeld => ?_)
           clear hK K
           refine norm_ (a' := ?_) ?_ ?_
           rotate_left
           ·
            show Act.put _ (some 152) _ = _
            simp only [Act.put, setIfInBounds_toArray, set_cons_zero, set_cons_succ, i64_w, i32_w]
            rfl
           refine one_ (i := 9) (N := some 143) #[T, T, T, T, T, T, T, T, T, T, T, T, T, T, T, T, T, T, T, F, F, F, F] rfl rfl (one_of HT_.out (by kernel_rfl)) (by decide) (fun K hK => ?_)
           refine Kd.R_append_rows_step k32 (w0 := w) w.heap.size (by rfl) (.tmp 138) (.tmp 142) 22 32 (.agg #[(.int .u64 0), (.bool false), (.int .u64 0)]) 24 rfl Try.underlying22 info32 rfl (by decide) (by omega) v201 y200 y203 _ _ _ (fun k_ => some k_ ≠ (.slice (some ad210) t173.length co20 : Value).ownBlock ∧ some k_ ≠ (.slice Ao76 t176.length co76 : Value).ownBlock ∧ some k_ ≠ (.slice Ao78 t180.length co78 : Value).ownBlock ∧ some k_ ≠ (.slice Ao75 y193.length co75 : Value).ownBlock ∧ some k_ ≠ (.slice Ao77 y196.length co77 : Value).ownBlock ∧ some k_ ≠ (v212 : Value).ownBlock) (fun _ => False) rfl rfl ?aO ?aR (fun _ _ h => h) (fun _ h => h.elim) ?aF ?aB ?aS ?aL ?_
           (case aR => repeat (first | exact (by repeat (first | (with_reducible exact HR206.out) | (with_reducible refine Kd.C_alloc ?_ _) | (with_reducible refine Kd.C_drewN ?_ _) | (with_reducible refine Kd.C_drew ?_) | exact HR206.out)) | (with_reducible refine Kd.C_alloc ?_ _) | (with_reducible refine Kd.C_drewN ?_ _) | (with_reducible refine Kd.C_drew ?_)))
           (case aB => exact (by repeat (first | (with_reducible first | exact HB.out | apply below_alloc | apply pw_below_drewN | apply below_drew1) | exact HB.out)))
           (case aF => exact (fun k_ hk => ⟨Kd.fresh' (Kd.R_lt (by (with_reducible repeat (first | apply R_alloc | apply R_drewN | apply R_drew)); exact HO_11.out)) k_ hk, Kd.fresh' (Kd.R_lt (by (with_reducible repeat (first | apply R_alloc | apply R_drewN | apply R_drew)); exact HO_13.out)) k_ hk, Kd.fresh' (Kd.R_lt (by (with_reducible repeat (first | apply R_alloc | apply R_drewN | apply R_drew)); exact HO_15.out)) k_ hk, Kd.fresh' (Kd.R_lt (by (with_reducible repeat (first | apply R_alloc | apply R_drewN | apply R_drew)); exact HO195.out)) k_ hk, Kd.fresh' (Kd.R_lt (by (with_reducible repeat (first | apply R_alloc | apply R_drewN | apply R_drew)); exact HO198.out)) k_ hk, Kd.fresh' (Kd.R_lt (by (with_reducible repeat (first | apply R_alloc | apply R_drewN | apply R_drew)); exact HO213.out)) k_ hk⟩))
           (case aO => exact (by (with_reducible repeat (first | apply R_alloc | apply R_drewN | apply R_drew)); exact Kd.R_mono HO202.out (fun _ hk => by simp only [hk, ne_eq, not_false_eq_true, and_self])))
           (case aS => exact (below_size (by repeat (first | (with_reducible first | exact HB.out | apply below_alloc | apply pw_below_drewN | apply below_drew1) | exact HB.out))))
           (case aL => have := LMc65.out; omega)
           intro v208 w85 ho hb hg hat
           (first | have HS0_ := cell_grown hg (hHeld.1) (by first | (rw [add_block]; exact (HO_11.out.1 _ rfl).1.2) | (show some (Addr.add _ _).block ≠ _; rw [add_block]; exact (HO_11.out.1 _ rfl).1.2) | exact (HO_11.out.1 _ rfl).1.2) | have HS0_ := cell_grown hg (cell_unalloc (hHeld.1) (by first | (rw [add_block]; exact Kd.R_lt HO_11.out _ rfl) | (show (Addr.add _ _).block < _; rw [add_block]; exact Kd.R_lt HO_11.out _ rfl) | exact Kd.R_lt HO_11.out _ rfl)) (by first | (rw [add_block]; exact (HO_11.out.1 _ rfl).1.2) | (show some (Addr.add _ _).block ≠ _; rw [add_block]; exact (HO_11.out.1 _ rfl).1.2) | exact (HO_11.out.1 _ rfl).1.2))
           (first | have HS1_ := cell_grown hg (hHeld.2.1) (by first | (rw [add_block]; exact (HO_11.out.1 _ rfl).1.2) | (show some (Addr.add _ _).block ≠ _; rw [add_block]; exact (HO_11.out.1 _ rfl).1.2) | exact (HO_11.out.1 _ rfl).1.2) | have HS1_ := cell_grown hg (cell_unalloc (hHeld.2.1) (by first | (rw [add_block]; exact Kd.R_lt HO_11.out _ rfl) | (show (Addr.add _ _).block < _; rw [add_block]; exact Kd.R_lt HO_11.out _ rfl) | exact Kd.R_lt HO_11.out _ rfl)) (by first | (rw [add_block]; exact (HO_11.out.1 _ rfl).1.2) | (show some (Addr.add _ _).block ≠ _; rw [add_block]; exact (HO_11.out.1 _ rfl).1.2) | exact (HO_11.out.1 _ rfl).1.2))
           (first | have HS2_ := cell_grown hg (hHeld.2.2) (by first | (rw [add_block]; exact (HO_11.out.1 _ rfl).1.2) | (show some (Addr.add _ _).block ≠ _; rw [add_block]; exact (HO_11.out.1 _ rfl).1.2) | exact (HO_11.out.1 _ rfl).1.2) | have HS2_ := cell_grown hg (cell_unalloc (hHeld.2.2) (by first | (rw [add_block]; exact Kd.R_lt HO_11.out _ rfl) | (show (Addr.add _ _).block < _; rw [add_block]; exact Kd.R_lt HO_11.out _ rfl) | exact Kd.R_lt HO_11.out _ rfl)) (by first | (rw [add_block]; exact (HO_11.out.1 _ rfl).1.2) | (show some (Addr.add _ _).block ≠ _; rw [add_block]; exact (HO_11.out.1 _ rfl).1.2) | exact (HO_11.out.1 _ rfl).1.2))
           rw [← Ny207.out] at ho
           have n0_ := am (Kd.R_after (ok := (fun k_ => some k_ ≠ (.slice Ao76 t176.length co76 : Value).ownBlock ∧ some k_ ≠ (.slice Ao78 t180.length co78 : Value).ownBlock ∧ some k_ ≠ (.slice Ao75 y193.length co75 : Value).ownBlock ∧ some k_ ≠ (.slice Ao77 y196.length co77 : Value).ownBlock ∧ some k_ ≠ (v212 : Value).ownBlock)) (by (with_reducible repeat (first | apply R_alloc | apply R_drewN | apply R_drew)); exact Kd.R_mono HO_11.out (fun _ hk => by simp only [hk, ne_eq, not_false_eq_true, and_self])) hg hat)
           have n1_ := am (Kd.R_after (ok := (fun k_ => some k_ ≠ (.slice (some ad210) t173.length co20 : Value).ownBlock ∧ some k_ ≠ (.slice Ao78 t180.length co78 : Value).ownBlock ∧ some k_ ≠ (.slice Ao75 y193.length co75 : Value).ownBlock ∧ some k_ ≠ (.slice Ao77 y196.length co77 : Value).ownBlock ∧ some k_ ≠ (v212 : Value).ownBlock)) (by (with_reducible repeat (first | apply R_alloc | apply R_drewN | apply R_drew)); exact Kd.R_mono HO_13.out (fun _ hk => by simp only [hk, ne_eq, not_false_eq_true, and_self])) hg hat)
           have n2_ := am (Kd.R_after (ok := (fun k_ => some k_ ≠ (.slice (some ad210) t173.length co20 : Value).ownBlock ∧ some k_ ≠ (.slice Ao76 t176.length co76 : Value).ownBlock ∧ some k_ ≠ (.slice Ao75 y193.length co75 : Value).ownBlock ∧ some k_ ≠ (.slice Ao77 y196.length co77 : Value).ownBlock ∧ some k_ ≠ (v212 : Value).ownBlock)) (by (with_reducible repeat (first | apply R_alloc | apply R_drewN | apply R_drew)); exact Kd.R_mono HO_15.out (fun _ hk => by simp only [hk, ne_eq, not_false_eq_true, and_self])) hg hat)
           have n3_ := am (Kd.R_after (ok := (fun k_ => some k_ ≠ (.slice (some ad210) t173.length co20 : Value).ownBlock ∧ some k_ ≠ (.slice Ao76 t176.length co76 : Value).ownBlock ∧ some k_ ≠ (.slice Ao78 t180.length co78 : Value).ownBlock ∧ some k_ ≠ (.slice Ao77 y196.length co77 : Value).ownBlock ∧ some k_ ≠ (v212 : Value).ownBlock)) (by (with_reducible repeat (first | apply R_alloc | apply R_drewN | apply R_drew)); exact Kd.R_mono HO195.out (fun _ hk => by simp only [hk, ne_eq, not_false_eq_true, and_self])) hg hat)
           have n4_ := am (Kd.R_after (ok := (fun k_ => some k_ ≠ (.slice (some ad210) t173.length co20 : Value).ownBlock ∧ some k_ ≠ (.slice Ao76 t176.length co76 : Value).ownBlock ∧ some k_ ≠ (.slice Ao78 t180.length co78 : Value).ownBlock ∧ some k_ ≠ (.slice Ao75 y193.length co75 : Value).ownBlock ∧ some k_ ≠ (v212 : Value).ownBlock)) (by (with_reducible repeat (first | apply R_alloc | apply R_drewN | apply R_drew)); exact Kd.R_mono HO198.out (fun _ hk => by simp only [hk, ne_eq, not_false_eq_true, and_self])) hg hat)
           have n5_ := am (Kd.R_after (ok := (fun k_ => some k_ ≠ (.slice (some ad210) t173.length co20 : Value).ownBlock ∧ some k_ ≠ (.slice Ao76 t176.length co76 : Value).ownBlock ∧ some k_ ≠ (.slice Ao78 t180.length co78 : Value).ownBlock ∧ some k_ ≠ (.slice Ao75 y193.length co75 : Value).ownBlock ∧ some k_ ≠ (.slice Ao77 y196.length co77 : Value).ownBlock)) (by (with_reducible repeat (first | apply R_alloc | apply R_drewN | apply R_drew)); exact Kd.R_mono HO213.out (fun _ hk => by simp only [hk, ne_eq, not_false_eq_true, and_self])) hg hat)
           have n6_ := am (hb)
           have n7_ := am ((show Kd.C k32 w85 (some ad210) y203.length y203 from by rw [Ny203.out]; exact Kd.C_take (m := ((ji62) : Int).toNat) ((Kd.R_reads' (Kd.R_after (ok := (fun k_ => some k_ ≠ (.slice Ao76 t176.length co76 : Value).ownBlock ∧ some k_ ≠ (.slice Ao78 t180.length co78 : Value).ownBlock ∧ some k_ ≠ (.slice Ao75 y193.length co75 : Value).ownBlock ∧ some k_ ≠ (.slice Ao77 y196.length co77 : Value).ownBlock ∧ some k_ ≠ (v212 : Value).ownBlock)) (by (with_reducible repeat (first | apply R_alloc | apply R_drewN | apply R_drew)); exact Kd.R_mono HO_11.out (fun _ hk => by simp only [hk, ne_eq, not_false_eq_true, and_self])) hg hat)).2.2) KL80.out))
           have n8_ := am (ho)
           clear HO_11
           clear HO_13
           clear HO_15
           clear HO195
           clear HO198
           clear HO213
           clear HB
           clear HR206
           clear HO202
           have HO_11 := n0_
           have HO_13 := n1_
           have HO_15 := n2_
           have HO195 := n3_
           have HO198 := n4_
           have HO213 := n5_
           have HB := n6_
           have HR206 := n7_
           have HO209 := n8_
           clear n0_ n1_ n2_ n3_ n4_ n5_ n6_ n7_ n8_
           clear ho hb hg hat
           refine hK.out _ _ ⟨HS0_, HS1_, HS2_⟩ (fun hHeld => ?_)
           clear hK K
           refine norm_ (a' := ?_) ?_ ?_
           rotate_left
           ·
            show Act.put _ (some 143) _ = _
            simp only [Act.put, setIfInBounds_toArray, set_cons_zero, set_cons_succ, i64_w, i32_w]
            rfl
           exact norm_ (by simp only [putAll, Act.put, setIfInBounds_toArray, set_cons_zero, set_cons_succ]) (hCont (v201, v208, v212) _ ⟨hHeld, (by (with_reducible repeat (first | apply R_alloc | apply R_drewN | apply R_drew)); exact Kd.R_mono HO195.out (fun _ hk => by simp only [hk, ne_eq, not_false_eq_true, and_self])), (by (with_reducible repeat (first | apply R_alloc | apply R_drewN | apply R_drew)); exact Kd.R_mono HO198.out (fun _ hk => by simp only [hk, ne_eq, not_false_eq_true, and_self])), (by (with_reducible repeat (first | apply R_alloc | apply R_drewN | apply R_drew)); exact Kd.R_mono HO209.out (fun _ hk => by simp only [hk, ne_eq, not_false_eq_true, and_self])), (by (with_reducible repeat (first | apply R_alloc | apply R_drewN | apply R_drew)); exact Kd.R_mono HO213.out (fun _ hk => by simp only [hk, ne_eq, not_false_eq_true, and_self])), (by (with_reducible repeat (first | apply R_alloc | apply R_drewN | apply R_drew)); exact Kd.R_mono HO_11.out (fun _ hk => by simp only [hk, ne_eq, not_false_eq_true, and_self])), (by (with_reducible repeat (first | apply R_alloc | apply R_drewN | apply R_drew)); exact Kd.R_mono HO_13.out (fun _ hk => by simp only [hk, ne_eq, not_false_eq_true, and_self])), (by (with_reducible repeat (first | apply R_alloc | apply R_drewN | apply R_drew)); exact Kd.R_mono HO_15.out (fun _ hk => by simp only [hk, ne_eq, not_false_eq_true, and_self])), (by repeat (first | (with_reducible first | exact HB.out | apply below_alloc | apply pw_below_drewN | apply below_drew1) | exact HB.out))⟩)
          rintro ⟨v201, v208, v212⟩ w86 ⟨hS_, h0_, h1_, h2_, h3_, h4_, h5_, h6_, h7_⟩
          have n0_ : Aside0 (Kd.R k32 32 w86 w.heap.size (fun k_ => some k_ ≠ (.slice Ao77 y196.length co77 : Value).ownBlock ∧ some k_ ≠ (v208 : Value).ownBlock ∧ some k_ ≠ (v212 : Value).ownBlock ∧ some k_ ≠ (.slice (some ad210) t173.length co20 : Value).ownBlock ∧ some k_ ≠ (.slice Ao76 t176.length co76 : Value).ownBlock ∧ some k_ ≠ (.slice Ao78 t180.length co78 : Value).ownBlock) (.slice Ao75 y193.length co75) y193) := ⟨h0_⟩
          have n1_ : Aside0 (Kd.R k32 32 w86 w.heap.size (fun k_ => some k_ ≠ (.slice Ao75 y193.length co75 : Value).ownBlock ∧ some k_ ≠ (v208 : Value).ownBlock ∧ some k_ ≠ (v212 : Value).ownBlock ∧ some k_ ≠ (.slice (some ad210) t173.length co20 : Value).ownBlock ∧ some k_ ≠ (.slice Ao76 t176.length co76 : Value).ownBlock ∧ some k_ ≠ (.slice Ao78 t180.length co78 : Value).ownBlock) (.slice Ao77 y196.length co77) y196) := ⟨h1_⟩
          have n2_ : Aside0 (Kd.R k32 32 w86 w.heap.size (fun k_ => some k_ ≠ (.slice Ao75 y193.length co75 : Value).ownBlock ∧ some k_ ≠ (.slice Ao77 y196.length co77 : Value).ownBlock ∧ some k_ ≠ (v212 : Value).ownBlock ∧ some k_ ≠ (.slice (some ad210) t173.length co20 : Value).ownBlock ∧ some k_ ≠ (.slice Ao76 t176.length co76 : Value).ownBlock ∧ some k_ ≠ (.slice Ao78 t180.length co78 : Value).ownBlock) v208 y207) := ⟨h2_⟩
          have n3_ : Aside0 (Kd.R k32 32 w86 w.heap.size (fun k_ => some k_ ≠ (.slice Ao75 y193.length co75 : Value).ownBlock ∧ some k_ ≠ (.slice Ao77 y196.length co77 : Value).ownBlock ∧ some k_ ≠ (v208 : Value).ownBlock ∧ some k_ ≠ (.slice (some ad210) t173.length co20 : Value).ownBlock ∧ some k_ ≠ (.slice Ao76 t176.length co76 : Value).ownBlock ∧ some k_ ≠ (.slice Ao78 t180.length co78 : Value).ownBlock) v212 y211) := ⟨h3_⟩
          have n4_ : Aside0 (Kd.R k32 32 w86 w.heap.size (fun k_ => some k_ ≠ (.slice Ao75 y193.length co75 : Value).ownBlock ∧ some k_ ≠ (.slice Ao77 y196.length co77 : Value).ownBlock ∧ some k_ ≠ (v208 : Value).ownBlock ∧ some k_ ≠ (v212 : Value).ownBlock ∧ some k_ ≠ (.slice Ao76 t176.length co76 : Value).ownBlock ∧ some k_ ≠ (.slice Ao78 t180.length co78 : Value).ownBlock) (.slice (some ad210) t173.length co20) t173) := ⟨h4_⟩
          have n5_ : Aside0 (Kd.R k32 32 w86 w.heap.size (fun k_ => some k_ ≠ (.slice Ao75 y193.length co75 : Value).ownBlock ∧ some k_ ≠ (.slice Ao77 y196.length co77 : Value).ownBlock ∧ some k_ ≠ (v208 : Value).ownBlock ∧ some k_ ≠ (v212 : Value).ownBlock ∧ some k_ ≠ (.slice (some ad210) t173.length co20 : Value).ownBlock ∧ some k_ ≠ (.slice Ao78 t180.length co78 : Value).ownBlock) (.slice Ao76 t176.length co76) t176) := ⟨h5_⟩
          have n6_ : Aside0 (Kd.R k32 32 w86 w.heap.size (fun k_ => some k_ ≠ (.slice Ao75 y193.length co75 : Value).ownBlock ∧ some k_ ≠ (.slice Ao77 y196.length co77 : Value).ownBlock ∧ some k_ ≠ (v208 : Value).ownBlock ∧ some k_ ≠ (v212 : Value).ownBlock ∧ some k_ ≠ (.slice (some ad210) t173.length co20 : Value).ownBlock ∧ some k_ ≠ (.slice Ao76 t176.length co76 : Value).ownBlock) (.slice Ao78 t180.length co78) t180) := ⟨h6_⟩
          have n7_ : Aside0 (Below w.heap.size w w86) := ⟨h7_⟩
          clear HO_11
          clear HO_13
          clear HO_15
          clear HO195
          clear HO198
          clear HB
          clear h0_ h1_ h2_ h3_ h4_ h5_ h6_ h7_
          have HO195 := n0_
          have HO198 := n1_
          have HO209 := n2_
          have HO213 := n3_
          have HO_11 := n4_
          have HO_13 := n5_
          have HO_15 := n6_
          have HB := n7_
          clear n0_ n1_ n2_ n3_ n4_ n5_ n6_ n7_
          have hHeld : w86.cell? (ad210.add (((ji62)).toNat * 3)) = some (.int .u64 ((rd_T32 t173 (ji62)).f0)) ∧ w86.cell? ⟨(ad210.add (((ji62)).toNat * 3)).block, (ad210.add (((ji62)).toNat * 3)).off + 1, none⟩ = some (.bool ((rd_T32 t173 (ji62)).f1)) ∧ w86.cell? ⟨(ad210.add (((ji62)).toNat * 3)).block, (ad210.add (((ji62)).toNat * 3)).off + 2, none⟩ = some (.int .u64 ((rd_T32 t173 (ji62)).f2)) := hS_
          obtain ⟨Ao88, co88, eo88⟩ := Kd.R_slice HO213.out
          (first | subst eo88 | (injection eo88 with f1_ f2_ f3_; have f4_ := f1_.symm; have f5_ := f3_.symm; clear f1_ f2_ f3_; subst f4_; subst f5_))
          refine norm_ (a' := ?_) ?_ ?_
          rotate_left
          ·
           simp only [putAll, Act.put, setIfInBounds_toArray, set_cons_zero, set_cons_succ]
           rfl
          refine one_ (i := 19) (N := some 153) #[T, T, T, T, T, T, T, T, T, T, T, T, T, T, T, T, T, T, T, T, F, F, F] rfl rfl (one_of HT_.out (by kernel_rfl)) (by decide) (fun K hK => ?_)
          refine Kd.R_append_rows_step k32 (w0 := w) w.heap.size (by rfl) (.tmp 143) (.tmp 152) 22 32 (.agg #[(.int .u64 0), (.bool false), (.int .u64 0)]) 24 rfl Try.underlying22 info32 rfl (by decide) (by omega) v208 y207 y211 _ _ _ (fun k_ => some k_ ≠ (.slice (some ad210) t173.length co20 : Value).ownBlock ∧ some k_ ≠ (.slice Ao76 t176.length co76 : Value).ownBlock ∧ some k_ ≠ (.slice Ao78 t180.length co78 : Value).ownBlock ∧ some k_ ≠ (.slice Ao75 y193.length co75 : Value).ownBlock ∧ some k_ ≠ (.slice Ao77 y196.length co77 : Value).ownBlock ∧ some k_ ≠ (.slice Ao88 y211.length co88 : Value).ownBlock) (fun _ => False) rfl rfl ?aO ?aR (fun _ _ h => h) (fun _ h => h.elim) ?aF ?aB ?aS ?aL ?_
          (case aR => repeat (first | exact (Kd.R_reads' HO213.out).2.2 | (with_reducible refine Kd.C_alloc ?_ _) | (with_reducible refine Kd.C_drewN ?_ _) | (with_reducible refine Kd.C_drew ?_)))
          (case aB => exact (by repeat (first | (with_reducible first | exact HB.out | apply below_alloc | apply pw_below_drewN | apply below_drew1) | exact HB.out)))
          (case aF => exact (fun k_ hk => ⟨Kd.fresh' (Kd.R_lt (by (with_reducible repeat (first | apply R_alloc | apply R_drewN | apply R_drew)); exact HO_11.out)) k_ hk, Kd.fresh' (Kd.R_lt (by (with_reducible repeat (first | apply R_alloc | apply R_drewN | apply R_drew)); exact HO_13.out)) k_ hk, Kd.fresh' (Kd.R_lt (by (with_reducible repeat (first | apply R_alloc | apply R_drewN | apply R_drew)); exact HO_15.out)) k_ hk, Kd.fresh' (Kd.R_lt (by (with_reducible repeat (first | apply R_alloc | apply R_drewN | apply R_drew)); exact HO195.out)) k_ hk, Kd.fresh' (Kd.R_lt (by (with_reducible repeat (first | apply R_alloc | apply R_drewN | apply R_drew)); exact HO198.out)) k_ hk, Kd.fresh' (Kd.R_lt (by (with_reducible repeat (first | apply R_alloc | apply R_drewN | apply R_drew)); exact HO213.out)) k_ hk⟩))
          (case aO => exact (by (with_reducible repeat (first | apply R_alloc | apply R_drewN | apply R_drew)); exact Kd.R_mono HO209.out (fun _ hk => by simp only [hk, ne_eq, not_false_eq_true, and_self])))
          (case aS => exact (below_size (by repeat (first | (with_reducible first | exact HB.out | apply below_alloc | apply pw_below_drewN | apply below_drew1) | exact HB.out))))
          (case aL => have := LMc67.out; omega)
          intro v215 w87 ho hb hg hat
          (first | have HS0_ := cell_grown hg (hHeld.1) (by first | (rw [add_block]; exact (HO_11.out.1 _ rfl).2.2.1) | (show some (Addr.add _ _).block ≠ _; rw [add_block]; exact (HO_11.out.1 _ rfl).2.2.1) | exact (HO_11.out.1 _ rfl).2.2.1) | have HS0_ := cell_grown hg (cell_unalloc (hHeld.1) (by first | (rw [add_block]; exact Kd.R_lt HO_11.out _ rfl) | (show (Addr.add _ _).block < _; rw [add_block]; exact Kd.R_lt HO_11.out _ rfl) | exact Kd.R_lt HO_11.out _ rfl)) (by first | (rw [add_block]; exact (HO_11.out.1 _ rfl).2.2.1) | (show some (Addr.add _ _).block ≠ _; rw [add_block]; exact (HO_11.out.1 _ rfl).2.2.1) | exact (HO_11.out.1 _ rfl).2.2.1))
          (first | have HS1_ := cell_grown hg (hHeld.2.1) (by first | (rw [add_block]; exact (HO_11.out.1 _ rfl).2.2.1) | (show some (Addr.add _ _).block ≠ _; rw [add_block]; exact (HO_11.out.1 _ rfl).2.2.1) | exact (HO_11.out.1 _ rfl).2.2.1) | have HS1_ := cell_grown hg (cell_unalloc (hHeld.2.1) (by first | (rw [add_block]; exact Kd.R_lt HO_11.out _ rfl) | (show (Addr.add _ _).block < _; rw [add_block]; exact Kd.R_lt HO_11.out _ rfl) | exact Kd.R_lt HO_11.out _ rfl)) (by first | (rw [add_block]; exact (HO_11.out.1 _ rfl).2.2.1) | (show some (Addr.add _ _).block ≠ _; rw [add_block]; exact (HO_11.out.1 _ rfl).2.2.1) | exact (HO_11.out.1 _ rfl).2.2.1))
          (first | have HS2_ := cell_grown hg (hHeld.2.2) (by first | (rw [add_block]; exact (HO_11.out.1 _ rfl).2.2.1) | (show some (Addr.add _ _).block ≠ _; rw [add_block]; exact (HO_11.out.1 _ rfl).2.2.1) | exact (HO_11.out.1 _ rfl).2.2.1) | have HS2_ := cell_grown hg (cell_unalloc (hHeld.2.2) (by first | (rw [add_block]; exact Kd.R_lt HO_11.out _ rfl) | (show (Addr.add _ _).block < _; rw [add_block]; exact Kd.R_lt HO_11.out _ rfl) | exact Kd.R_lt HO_11.out _ rfl)) (by first | (rw [add_block]; exact (HO_11.out.1 _ rfl).2.2.1) | (show some (Addr.add _ _).block ≠ _; rw [add_block]; exact (HO_11.out.1 _ rfl).2.2.1) | exact (HO_11.out.1 _ rfl).2.2.1))
          rw [← Ny214.out] at ho
          have n0_ := am (Kd.R_after (ok := (fun k_ => some k_ ≠ (.slice Ao76 t176.length co76 : Value).ownBlock ∧ some k_ ≠ (.slice Ao78 t180.length co78 : Value).ownBlock ∧ some k_ ≠ (.slice Ao75 y193.length co75 : Value).ownBlock ∧ some k_ ≠ (.slice Ao77 y196.length co77 : Value).ownBlock ∧ some k_ ≠ (.slice Ao88 y211.length co88 : Value).ownBlock)) (by (with_reducible repeat (first | apply R_alloc | apply R_drewN | apply R_drew)); exact Kd.R_mono HO_11.out (fun _ hk => by simp only [hk, ne_eq, not_false_eq_true, and_self])) hg hat)
          have n1_ := am (Kd.R_after (ok := (fun k_ => some k_ ≠ (.slice (some ad210) t173.length co20 : Value).ownBlock ∧ some k_ ≠ (.slice Ao78 t180.length co78 : Value).ownBlock ∧ some k_ ≠ (.slice Ao75 y193.length co75 : Value).ownBlock ∧ some k_ ≠ (.slice Ao77 y196.length co77 : Value).ownBlock ∧ some k_ ≠ (.slice Ao88 y211.length co88 : Value).ownBlock)) (by (with_reducible repeat (first | apply R_alloc | apply R_drewN | apply R_drew)); exact Kd.R_mono HO_13.out (fun _ hk => by simp only [hk, ne_eq, not_false_eq_true, and_self])) hg hat)
          have n2_ := am (Kd.R_after (ok := (fun k_ => some k_ ≠ (.slice (some ad210) t173.length co20 : Value).ownBlock ∧ some k_ ≠ (.slice Ao76 t176.length co76 : Value).ownBlock ∧ some k_ ≠ (.slice Ao75 y193.length co75 : Value).ownBlock ∧ some k_ ≠ (.slice Ao77 y196.length co77 : Value).ownBlock ∧ some k_ ≠ (.slice Ao88 y211.length co88 : Value).ownBlock)) (by (with_reducible repeat (first | apply R_alloc | apply R_drewN | apply R_drew)); exact Kd.R_mono HO_15.out (fun _ hk => by simp only [hk, ne_eq, not_false_eq_true, and_self])) hg hat)
          have n3_ := am (Kd.R_after (ok := (fun k_ => some k_ ≠ (.slice (some ad210) t173.length co20 : Value).ownBlock ∧ some k_ ≠ (.slice Ao76 t176.length co76 : Value).ownBlock ∧ some k_ ≠ (.slice Ao78 t180.length co78 : Value).ownBlock ∧ some k_ ≠ (.slice Ao77 y196.length co77 : Value).ownBlock ∧ some k_ ≠ (.slice Ao88 y211.length co88 : Value).ownBlock)) (by (with_reducible repeat (first | apply R_alloc | apply R_drewN | apply R_drew)); exact Kd.R_mono HO195.out (fun _ hk => by simp only [hk, ne_eq, not_false_eq_true, and_self])) hg hat)
          have n4_ := am (Kd.R_after (ok := (fun k_ => some k_ ≠ (.slice (some ad210) t173.length co20 : Value).ownBlock ∧ some k_ ≠ (.slice Ao76 t176.length co76 : Value).ownBlock ∧ some k_ ≠ (.slice Ao78 t180.length co78 : Value).ownBlock ∧ some k_ ≠ (.slice Ao75 y193.length co75 : Value).ownBlock ∧ some k_ ≠ (.slice Ao88 y211.length co88 : Value).ownBlock)) (by (with_reducible repeat (first | apply R_alloc | apply R_drewN | apply R_drew)); exact Kd.R_mono HO198.out (fun _ hk => by simp only [hk, ne_eq, not_false_eq_true, and_self])) hg hat)
          have n5_ := am (Kd.R_after (ok := (fun k_ => some k_ ≠ (.slice (some ad210) t173.length co20 : Value).ownBlock ∧ some k_ ≠ (.slice Ao76 t176.length co76 : Value).ownBlock ∧ some k_ ≠ (.slice Ao78 t180.length co78 : Value).ownBlock ∧ some k_ ≠ (.slice Ao75 y193.length co75 : Value).ownBlock ∧ some k_ ≠ (.slice Ao77 y196.length co77 : Value).ownBlock)) (by (with_reducible repeat (first | apply R_alloc | apply R_drewN | apply R_drew)); exact Kd.R_mono HO213.out (fun _ hk => by simp only [hk, ne_eq, not_false_eq_true, and_self])) hg hat)
          have n6_ := am (hb)
          have n7_ := am (ho)
          clear HO_11
          clear HO_13
          clear HO_15
          clear HO195
          clear HO198
          clear HO213
          clear HB
          clear HO209
          have HO_11 := n0_
          have HO_13 := n1_
          have HO_15 := n2_
          have HO195 := n3_
          have HO198 := n4_
          have HO213 := n5_
          have HB := n6_
          have HO216 := n7_
          clear n0_ n1_ n2_ n3_ n4_ n5_ n6_ n7_
          clear ho hb hg hat
          obtain ⟨Ao89, co89, eo89⟩ := Kd.R_slice HO216.out
          (first | subst eo89 | (injection eo89 with f1_ f2_ f3_; have f4_ := f1_.symm; have f5_ := f3_.symm; clear f1_ f2_ f3_; subst f4_; subst f5_))
          refine hK.out _ _ ⟨HS0_, HS1_, HS2_⟩ (fun hHeld => ?_)
          clear hK K
          refine norm_ (a' := ?_) ?_ ?_
          rotate_left
          ·
           show Act.put _ (some 153) _ = _
           simp only [Act.put, setIfInBounds_toArray, set_cons_zero, set_cons_succ, i64_w, i32_w]
           rfl
          refine one_ (i := 20) (N := some 154) #[T, T, T, T, T, T, T, T, T, T, T, T, T, T, T, T, T, T, T, T, T, F, F] rfl rfl (one_of HT_.out (by kernel_rfl)) (by decide) (fun K hK => ?_)
          refine goes_ Try.func15 (by kernel_rfl) rfl #[.slice Ao78 t180.length co78, .slice Ao89 y214.length co89] (by rfl) rfl rfl (by (try simp only [List.map_toArray, List.map_cons, List.map_nil]); first | done | rfl | (simp only [List.length_drop, List.length_take]; rfl)) ?_
          with_reducible refine (mailcoachref13_SameLedgers.calls kj42 _ _ t180 _ _ y214 t217 _ ?side1 ?side2 ?side3 ?side4 A68.out).mono ?_
          (case side1 => repeat (first | exact (Kd.R_reads' HO_15.out).2.2 | (with_reducible refine Kd.C_alloc ?_ _) | (with_reducible refine Kd.C_drewN ?_ _) | (with_reducible refine Kd.C_drew ?_)))
          (case side2 => exact (Kd.R_reads' HO_15.out).2.1)
          (case side3 => repeat (first | exact (Kd.R_reads' HO216.out).2.2 | (with_reducible refine Kd.C_alloc ?_ _) | (with_reducible refine Kd.C_drewN ?_ _) | (with_reducible refine Kd.C_drew ?_)))
          (case side4 => exact (Kd.R_reads' HO216.out).2.1)
          rintro e w' ⟨rfl, ⟨nd, rfl⟩⟩
          refine ⟨_, rfl, ?_⟩
          refine hK.out _ _ ⟨hHeld.1, hHeld.2.1, hHeld.2.2⟩ (fun hHeld => ?_)
          clear hK K
          refine norm_ (a' := ?_) ?_ ?_
          rotate_left
          ·
           show Act.put _ (some 154) _ = _
           simp only [Act.put, setIfInBounds_toArray, set_cons_zero, set_cons_succ, i64_w, i32_w]
           rfl
          refine pure_ (i := 21) (N := some 155) (v := ?_) (a' := ?_) #[T, T, T, T, T, T, T, T, T, T, T, T, T, T, T, T, T, T, T, T, T, T, F] rfl rfl (any_of HT_.out (by kernel_rfl)) (fun _ _ _ h => h) (Or.inl ⟨by rfl, ?_⟩) ?_ ?_
          rotate_left
          ·
           intro w'
           go_simp
           with_reducible rfl
          rotate_left
          ·
           simp only [Act.put, setIfInBounds_toArray, set_cons_zero, set_cons_succ, i64_w, i32_w]
           rfl
          refine pure_ (i := 22) (N := some 10) (v := ?_) (a' := ?_) #[T, T, T, T, T, T, T, T, T, T, T, T, T, T, T, T, T, T, T, T, T, T, T] rfl rfl (any_of HT_.out (by kernel_rfl)) (fun _ _ _ h => h) (Or.inl ⟨by rfl, ?_⟩) ?_ ?_
          rotate_left
          ·
           intro w'
           go_simp
           with_reducible rfl
          rotate_left
          ·
           simp only [Act.put, setIfInBounds_toArray, set_cons_zero, set_cons_succ, i64_w, i32_w]
           rfl
          refine done_ (done_of HT_.out (by kernel_rfl)) ?_
          try go_wp2
          go_ret
          exact ⟨by first | rfl | (simp [errW_none, errW_some] <;> rfl) | (simp only [← hji62]; first | rfl | (simp [errW_none, errW_some] <;> rfl)) | (simp [*, errW_none, errW_some] <;> rfl), by repeat (first | (with_reducible first | exact HB.out | apply below_alloc | apply pw_below_drewN | apply below_drew1) | exact HB.out)⟩

end Go.Proofs.Ytmbealldhndeoaa.PLedgersChecks
