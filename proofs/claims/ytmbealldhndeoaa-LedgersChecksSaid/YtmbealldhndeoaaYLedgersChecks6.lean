-- Written by a program of this session's; its pattern is the kit's print.
import Derived.Test.YtmbealldhndeoaaYLedgersChecks0
import Derived.WalkSpells
namespace Go.Proofs.Ytmbealldhndeoaa.PLedgersChecks
open Go.RowKit Go.Proofs.YtmbealldhndeoaaW.PrintWords Go.Proofs.YtmbealldhndeoaaW.PrintLast Go.Proofs.YtmbealldhndeoaaW.PrintMore
attribute [local go_sem] max2_int min2_int max_two min_two max_three min_three max_four min_four   -- for this text's walks alone
set_option linter.unusedVariables false
set_option linter.unusedSimpArgs false

/-! ### mailcoachlaw13_Made: function 12 -/
def mailcoachlaw13_Made.l0 : Nat → Bool → List (S32) → Int → List Int → Int → Int → Option ((List (S32)))
  | 0, _, _, _, _, _, _ => none
  | k + 1, x1, x5, x6, x10, x11, x12 => if x12 < x11 then (if 0 ≤ x12 then (if x12 < (x10.length : Int) then (if x12 > 12 then (if x1 = true then (if (x5.length : Int) > 0 then (if 0 ≤ (wrap64 ((x5.length : Int) - 1)) then (if (wrap64 ((x5.length : Int) - 1)) < (x5.length : Int) then ((some (x5.set ((wrap64 ((x5.length : Int) - 1)) : Int).toNat (⟨(rd_T32 x5 (wrap64 ((x5.length : Int) - 1))).f0, false, (rd_T32 x5 (wrap64 ((x5.length : Int) - 1))).f2⟩ : S32) : List (S32))).bind fun y141 => (some (y141.set ((wrap64 ((x5.length : Int) - 1)) : Int).toNat (⟨(rd_T32 y141 (wrap64 ((x5.length : Int) - 1))).f0, (rd_T32 y141 (wrap64 ((x5.length : Int) - 1))).f1, 0⟩ : S32)))) else (none)) else (none)) else (some x5)) else (some x5)) else (if x5.length < 5864062014805 then (mailcoachlaw13_Made.l0 k x1 (x5 ++ [(⟨IntKind.u64.wrap (x6 + (1 + ((Int.tdiv (rd x10 x12) 64) % 256))), true, IntKind.u64.wrap (Int.tmod (rd x10 x12) 6)⟩ : S32)]) (IntKind.u64.wrap (x6 + (1 + ((Int.tdiv (rd x10 x12) 64) % 256)))) x10 x11 (wrap64 (x12 + 1))) else (none))) else (none)) else (none)) else (if x1 = true then (if (x5.length : Int) > 0 then (if 0 ≤ (wrap64 ((x5.length : Int) - 1)) then (if (wrap64 ((x5.length : Int) - 1)) < (x5.length : Int) then ((some (x5.set ((wrap64 ((x5.length : Int) - 1)) : Int).toNat (⟨(rd_T32 x5 (wrap64 ((x5.length : Int) - 1))).f0, false, (rd_T32 x5 (wrap64 ((x5.length : Int) - 1))).f2⟩ : S32) : List (S32))).bind fun y146 => (some (y146.set ((wrap64 ((x5.length : Int) - 1)) : Int).toNat (⟨(rd_T32 y146 (wrap64 ((x5.length : Int) - 1))).f0, (rd_T32 y146 (wrap64 ((x5.length : Int) - 1))).f1, 0⟩ : S32)))) else (none)) else (none)) else (some x5)) else (some x5))
def mailcoachlaw13_Made.f (k : Nat) (l0 : List Int) (a1 : Bool) : Option ((List (S32))) := mailcoachlaw13_Made.l0 k a1 ([] : List (S32)) 0 l0 (l0.length : Int) 0
theorem mailcoachlaw13_Made.mono_l : ∀ k, (∀ y0 y1 y2 y3 y4 y5, LeO (mailcoachlaw13_Made.l0 k y0 y1 y2 y3 y4 y5) (mailcoachlaw13_Made.l0 (k + 1) y0 y1 y2 y3 y4 y5))
  | 0 => fun _ _ _ _ _ _ r h => by simp [mailcoachlaw13_Made.l0] at h
  | k + 1 => by
    have ih0 := mailcoachlaw13_Made.mono_l k
    · intro y0 y1 y2 y3 y4 y5
      unfold mailcoachlaw13_Made.l0
      repeat' first
      | (with_reducible exact ih0 _ _ _ _ _ _)
      | (with_reducible exact LeO.refl _)
      | (with_reducible exact LeO.none _)
      | (with_reducible refine LeO.ite ?_ ?_)
      | (with_reducible refine LeO.bind ?_ (fun _ => ?_))
      | exact ih0 _ _ _ _ _ _
      | exact LeO.none _
      | refine LeO.ite ?_ ?_
      | refine LeO.bind ?_ (fun _ => ?_)
theorem mailcoachlaw13_Made.mono : ∀ a0 a1 k, LeO (mailcoachlaw13_Made.f k a0 a1) (mailcoachlaw13_Made.f (k + 1) a0 a1) := by
  intro a0 a1 k
  have ih0 := mailcoachlaw13_Made.mono_l k
  unfold mailcoachlaw13_Made.f
  repeat' first
      | (with_reducible exact ih0 _ _ _ _ _ _)
      | (with_reducible exact LeO.refl _)
      | (with_reducible exact LeO.none _)
      | (with_reducible refine LeO.ite ?_ ?_)
      | (with_reducible refine LeO.bind ?_ (fun _ => ?_))
      | exact ih0 _ _ _ _ _ _
      | exact LeO.none _
      | refine LeO.ite ?_ ?_
      | refine LeO.bind ?_ (fun _ => ?_)
set_option maxHeartbeats 8000000 in
set_option maxRecDepth 100000 in
theorem mailcoachlaw13_Made.calls (k : Nat) (A0 : Option Addr) (c0 : Nat) (l0 : List Int) (a1 : Bool) (r : List (S32)) (w : World) (hr0 : Kd.C (Kd.int .u8) w A0 l0.length l0) (hc0 : l0.length ≤ c0) (h : mailcoachlaw13_Made.f k l0 a1 = some r) :
    Calls Try.prog 12 #[.slice A0 l0.length c0, .bool a1] w fun e w' => ∃ v0_ : Value, e = .returned (v0_) ∧ Kd.R k32 32 w' w.heap.size (fun _ => True) v0_ r ∧ Below w.heap.size w w' := by
  have hu32 := Try.underlying32
  have HR0 := Aside0.mk hr0
  have HC0 := Aside0.mk hc0
  clear hr0 hc0
  have HB := Aside0.mk (Below.refl w.heap.size w)
  have H : (mailcoachlaw13_Made.l0 k a1 ([] : List (S32)) 0 l0 (l0.length : Int) 0) = some r := h
  clear h
  have H' := Aside0.mk H
  clear H
  go_enter Try.func12, Try.ntmps12
  go_wp2
  go_loopg [5, 6, 12] k (fun kq v5 v6 v12 w' => ∃ (x5_1 : List (S32)) (x6_1 : Int) (x12_1 : Int), v6 = .int .u64 x6_1 ∧ v12 = .int .i64 x12_1 ∧ Aside0 (mailcoachlaw13_Made.l0 kq a1 x5_1 x6_1 l0 (l0.length : Int) x12_1 = some r) ∧ Aside0 (kq ≤ k) ∧ Aside0 (Kd.R k32 32 w' w.heap.size (fun _ => True) v5 x5_1) ∧ Aside0 (Below w.heap.size w w'))
  case atStart => exact ⟨(([] : List (S32))), (0), (0), (by first | rfl | (simp; done) | (simp [*]; done)), (by first | rfl | (simp; done) | (simp [*]; done)), H', ⟨Nat.le_refl _⟩, ⟨by first | exact Kd.R_nil _ _ _ _ _ | exact Kd.N_nil _ _ _ _ _ | exact Kd.V_nil _ _ _ _ _ | exact Kd.Q_nil _ _ _ _ _ | exact Kd.S_nil _ _ _ _ _⟩, ⟨by repeat (first | (with_reducible first | exact HB.out | apply below_alloc | apply pw_below_drewN | apply below_drew1) | exact HB.out)⟩⟩
  case round =>
    clear H'
    try clear c1
    try clear p2
    obtain ⟨x5_1, x6_1, x12_1, rfl, rfl, HA, HK1, HO_5, HB⟩ := hrel
    cases gk with
    | zero => exact absurd HA.out (by simp [mailcoachlaw13_Made.l0])
    | succ k1 =>
      have H := HA.out
      clear HA
      simp only [mailcoachlaw13_Made.l0] at H
      by_cases c3 : x12_1 < (l0.length : Int)
      · rw [if_pos c3] at H
        have c3b0 : decide (x12_1 < (l0.length : Int)) = true := decide_eq_true c3
        clear c3
        by_cases c4 : 0 ≤ x12_1
        · rw [if_pos c4] at H
          have c4b0 : decide (0 ≤ x12_1) = true := decide_eq_true c4
          clear c4
          by_cases c5 : x12_1 < (l0.length : Int)
          · rw [if_pos c5] at H
            have c5b0 : decide (x12_1 < (l0.length : Int)) = true := decide_eq_true c5
            clear c5
            by_cases c6 : x12_1 > 12
            · rw [if_pos c6] at H
              have c6b0 : decide (12 < x12_1) = true := decide_eq_true c6
              clear c6
              by_cases c7 : a1 = true
              · subst c7
                have H1 : (if (x5_1.length : Int) > 0 then (if 0 ≤ (wrap64 ((x5_1.length : Int) - 1)) then (if (wrap64 ((x5_1.length : Int) - 1)) < (x5_1.length : Int) then ((some (x5_1.set ((wrap64 ((x5_1.length : Int) - 1)) : Int).toNat (⟨(rd_T32 x5_1 (wrap64 ((x5_1.length : Int) - 1))).f0, false, (rd_T32 x5_1 (wrap64 ((x5_1.length : Int) - 1))).f2⟩ : S32) : List (S32))).bind fun y141 => (some (y141.set ((wrap64 ((x5_1.length : Int) - 1)) : Int).toNat (⟨(rd_T32 y141 (wrap64 ((x5_1.length : Int) - 1))).f0, (rd_T32 y141 (wrap64 ((x5_1.length : Int) - 1))).f1, 0⟩ : S32)))) else (none)) else (none)) else (some x5_1)) = some r := by rw [if_pos rfl] at H; exact H
                clear H
                have H := H1
                clear H1
                by_cases c8 : (x5_1.length : Int) > 0
                · rw [if_pos c8] at H
                  have c8b0 : decide (0 < (x5_1.length : Int)) = true := decide_eq_true c8
                  have c8b1 : decide (0 < x5_1.length) = true := decide_eq_true (by omega)
                  clear c8
                  obtain ⟨ji9, hji9⟩ : ∃ j_ : Int, (wrap64 ((x5_1.length : Int) - 1)) = j_ := ⟨_, rfl⟩
                  replace H : (if 0 ≤ (ji9) then (if (ji9) < (x5_1.length : Int) then ((some (x5_1.set ((ji9) : Int).toNat (⟨(rd_T32 x5_1 (ji9)).f0, false, (rd_T32 x5_1 (ji9)).f2⟩ : S32) : List (S32))).bind fun y141 => (some (y141.set ((ji9) : Int).toNat (⟨(rd_T32 y141 (ji9)).f0, (rd_T32 y141 (ji9)).f1, 0⟩ : S32)))) else (none)) else (none)) = some r := by first | (rw [hji9] at H; exact H) | (simp only [hji9] at H ⊢; exact H)
                  have hji9w : (IntKind.i64.wrap ((x5_1.length : Int) - 1)) = ji9 := (i64_w _).trans hji9
                  by_cases c10 : 0 ≤ (ji9)
                  · rw [if_pos c10] at H
                    have c10b0 : decide (0 ≤ (ji9)) = true := decide_eq_true c10
                    clear c10
                    by_cases c11 : (ji9) < (x5_1.length : Int)
                    · rw [if_pos c11] at H
                      have c11b0 : decide ((ji9) < (x5_1.length : Int)) = true := decide_eq_true c11
                      clear c11
                      obtain ⟨y141, hy141⟩ : ∃ y_ : List (S32), y_ = (x5_1.set ((ji9) : Int).toNat (⟨(rd_T32 x5_1 (ji9)).f0, false, (rd_T32 x5_1 (ji9)).f2⟩ : S32)) := ⟨_, rfl⟩
                      replace H : (some (y141.set ((ji9) : Int).toNat (⟨(rd_T32 y141 (ji9)).f0, (rd_T32 y141 (ji9)).f1, 0⟩ : S32))) = some r := by first | (rw [hy141]; with_reducible exact H) | (have H2_ := (Option.bind_some _ _).symm.trans H; rw [hy141]; with_reducible exact H2_) | (have H2_ := (Option.bind_some _ _).symm.trans H; with_reducible exact H2_) | with_reducible exact H | (rw [hy141]; exact H) | exact H
                      have Ny141 := Aside0.mk hy141
                      clear hy141
                      obtain ⟨y142, hy142⟩ : ∃ y_ : List (S32), y_ = (y141.set ((ji9) : Int).toNat (⟨(rd_T32 y141 (ji9)).f0, (rd_T32 y141 (ji9)).f1, 0⟩ : S32)) := ⟨_, rfl⟩
                      replace H : (some y142) = some r := by first | (rw [hy142]; with_reducible exact H) | (have H2_ := (Option.bind_some _ _).symm.trans H; rw [hy142]; with_reducible exact H2_) | (have H2_ := (Option.bind_some _ _).symm.trans H; with_reducible exact H2_) | with_reducible exact H | (rw [hy142]; exact H) | exact H
                      have Ny142 := Aside0.mk hy142
                      clear hy142
                      as_aux_lemma =>
                        obtain rfl := Option.some.inj H
                        have p140 : 0 ≤ (x12_1 : Int) := of_decide_eq_true (by first | (with_reducible assumption) | assumption)
                        have q140 : x12_1 < (l0.length : Int) := of_decide_eq_true (by first | (with_reducible assumption) | assumption)
                        obtain ⟨ad140, e140, hx140_0⟩ := Kd.at_int HR0.out x12_1 p140 q140
                        cases e140
                        replace hx140_0 := (HB.out.cell (World.block_lt_of_cell? w _ hx140_0)).trans hx140_0
                        replace p140 := eq_true p140
                        replace q140 := eq_true q140
                        obtain ⟨Ao14, co14, eo14⟩ := Kd.R_slice HO_5.out
                        subst eo14
                        have p12 : 0 ≤ ((ji9) : Int) := of_decide_eq_true (by first | (with_reducible assumption) | assumption)
                        have q12 : ((ji9) : Int) < ((x5_1.length : Int) : Int) := of_decide_eq_true (by first | (with_reducible assumption) | assumption)
                        obtain ⟨go12, co12, eo12, gb12, gl12, cl12, HG12⟩ := Kd.R_form HO_5.out (by omega)
                        (first | cases eo12 | (injection eo12 with ea_ en_ ec_; (first | subst ea_ | (injection ea_ with ea_; subst ea_)); subst ec_; clear en_))
                        have GB12 := Aside0.mk gb12
                        have GG12 := Aside0.mk HG12
                        clear gb12 gl12 HG12
                        obtain ⟨ce12, hcl12, hM12, hcc12, hfr12⟩ := Kd.R_elem HO_5.out z32 ((ji9) : Int) p12 q12
                        obtain rfl := k32_openM hM12
                        have hx12_0 : wr.cell? ⟨go12, ((ji9) : Int).toNat * 3, none⟩ = some (.int .u64 ((rd_T32 x5_1 (ji9)).f0)) := hcc12 0 _ rfl
                        have hx12_1 : wr.cell? ⟨go12, ((ji9) : Int).toNat * 3 + 1, none⟩ = some (.bool ((rd_T32 x5_1 (ji9)).f1)) := hcc12 1 _ rfl
                        have hx12_2 : wr.cell? ⟨go12, ((ji9) : Int).toNat * 3 + 2, none⟩ = some (.int .u64 ((rd_T32 x5_1 (ji9)).f2)) := hcc12 2 _ rfl
                        have hf12_0 : wr.frozen? ⟨go12, ((ji9) : Int).toNat * 3, none⟩ = false := hfr12 0
                        have hf12_1 : wr.frozen? ⟨go12, ((ji9) : Int).toNat * 3 + 1, none⟩ = false := hfr12 1
                        have hf12_2 : wr.frozen? ⟨go12, ((ji9) : Int).toNat * 3 + 2, none⟩ = false := hfr12 2
                        clear hcl12 hcc12 hfr12 hM12
                        replace p12 := eq_true p12
                        replace q12 := eq_true q12
                        have HX15 := Aside0.mk (show Kd.R k32 32 wr w.heap.size (fun _ => True) (.slice (some ⟨go12, 0, none⟩) x5_1.length co14) x5_1 from (by (with_reducible repeat (first | apply Kd.R_alloc | apply Kd.R_drewN | apply Kd.R_drew)); exact HO_5.out))
                        obtain ⟨ce15, hcl15, hM15, hcc15, hfr15⟩ := Kd.R_elem HX15.out z32 ((ji9) : Int) (of_decide_eq_true (by first | (with_reducible assumption) | assumption)) (by have h_ : ((ji9) : Int) < ((x5_1.length : Int) : Int) := of_decide_eq_true (by first | (with_reducible assumption) | assumption); first | exact h_ | (have e_ := (Kd.R_reads' HO_5.out).1; omega) | simpa using h_)
                        obtain rfl := k32_openM hM15
                        have HP15 := Kd.R_seg HX15.out ((ji9) : Int) (of_decide_eq_true (by first | (with_reducible assumption) | assumption)) (by have h_ : ((ji9) : Int) < ((x5_1.length : Int) : Int) := of_decide_eq_true (by first | (with_reducible assumption) | assumption); first | exact h_ | (have e_ := (Kd.R_reads' HO_5.out).1; omega) | simpa using h_) (seg := [.bool false]) (j := 1) hcl15 hcc15 (show 2 ≤ 3 from by decide) (x' := (⟨(rd_T32 x5_1 (ji9)).f0, false, (rd_T32 x5_1 (ji9)).f2⟩ : S32)) (k32_mkM _ _ _ (⟨(rd_T32 x5_1 (ji9)).f0, false, (rd_T32 x5_1 (ji9)).f2⟩ : S32) ) (fun _ hk => hk)
                        have hx15_1 := hcc15 1 _ rfl
                        (try simp only [show (k32).sz = 3 from rfl, Nat.mul_one, Nat.add_zero] at hx15_1)
                        have hf15_1 := hfr15 1
                        (try simp only [show (k32).sz = 3 from rfl, Nat.mul_one, Nat.add_zero] at hf15_1)
                        clear hcl15 hcc15 hfr15 hM15
                        go_wp2_with (first | ((with_reducible refine gate_store (t := 4) (p := 48) rfl ?_); refine store_event (t := 4) (p := 48) (v := ?vo_w16) (w1 := (wr.setCell ⟨go12, ((ji9) : Int).toNat * 3 + 1, none⟩ (.bool false))) ?hg ?ho ?hn ?hr ?_; (case ho => rfl); (case hg => rfl); (case hn => rfl); (case hr => first | (go_simp; done) | (go_simp; rfl)); intro w16 hw; have hg : wr.grownBy w16 (some go12) := (by rw [hw]; exact HP15.2); have hp_ : Kd.R k32 32 w16 w.heap.size (fun _ => True) (.slice (some ⟨go12, 0, none⟩) x5_1.length co14) y141 := (by rw [hw, Ny141.out]; exact HP15.1); clear HP15; have n0_ := Aside0.mk (hp_); have n1_ := Aside0.mk ((by rw [hw]; exact below_set (HB.out) GB12.out : Below w.heap.size w w16)); clear HO_5; clear HB; have HO_5 := n0_; have HB := n1_; clear n0_ n1_; clear hg hw hp_; have p13 : 0 ≤ ((ji9) : Int) := of_decide_eq_true (by first | (with_reducible assumption) | assumption); have q13 : ((ji9) : Int) < ((x5_1.length : Int) : Int) := of_decide_eq_true (by first | (with_reducible assumption) | assumption); obtain ⟨ce13, hcl13, hM13, hcc13, hfr13⟩ := Kd.R_elem HO_5.out z32 ((ji9) : Int) p13 q13; obtain rfl := k32_openM hM13; have hx13_0 : w16.cell? ⟨go12, ((ji9) : Int).toNat * 3, none⟩ = some (.int .u64 ((rd_T32 y141 (ji9)).f0)) := hcc13 0 _ rfl; have hx13_1 : w16.cell? ⟨go12, ((ji9) : Int).toNat * 3 + 1, none⟩ = some (.bool ((rd_T32 y141 (ji9)).f1)) := hcc13 1 _ rfl; have hx13_2 : w16.cell? ⟨go12, ((ji9) : Int).toNat * 3 + 2, none⟩ = some (.int .u64 ((rd_T32 y141 (ji9)).f2)) := hcc13 2 _ rfl; have hf13_0 : w16.frozen? ⟨go12, ((ji9) : Int).toNat * 3, none⟩ = false := hfr13 0; have hf13_1 : w16.frozen? ⟨go12, ((ji9) : Int).toNat * 3 + 1, none⟩ = false := hfr13 1; have hf13_2 : w16.frozen? ⟨go12, ((ji9) : Int).toNat * 3 + 2, none⟩ = false := hfr13 2; clear hcl13 hcc13 hfr13 hM13; replace p13 := eq_true p13; replace q13 := eq_true q13; have HX17 := Aside0.mk (show Kd.R k32 32 w16 w.heap.size (fun _ => True) (.slice (some ⟨go12, 0, none⟩) x5_1.length co14) y141 from (by (with_reducible repeat (first | apply Kd.R_alloc | apply Kd.R_drewN | apply Kd.R_drew)); exact HO_5.out)); obtain ⟨ce17, hcl17, hM17, hcc17, hfr17⟩ := Kd.R_elem HX17.out z32 ((ji9) : Int) (of_decide_eq_true (by first | (with_reducible assumption) | assumption)) (by have h_ : ((ji9) : Int) < ((x5_1.length : Int) : Int) := of_decide_eq_true (by first | (with_reducible assumption) | assumption); first | exact h_ | (have e_ := (Kd.R_reads' HO_5.out).1; omega) | simpa using h_); obtain rfl := k32_openM hM17; have HP17 := Kd.R_seg HX17.out ((ji9) : Int) (of_decide_eq_true (by first | (with_reducible assumption) | assumption)) (by have h_ : ((ji9) : Int) < ((x5_1.length : Int) : Int) := of_decide_eq_true (by first | (with_reducible assumption) | assumption); first | exact h_ | (have e_ := (Kd.R_reads' HO_5.out).1; omega) | simpa using h_) (seg := [.int .u64 0]) (j := 2) hcl17 hcc17 (show 3 ≤ 3 from by decide) (x' := (⟨(rd_T32 y141 (ji9)).f0, (rd_T32 y141 (ji9)).f1, 0⟩ : S32)) (k32_mkM _ _ _ (⟨(rd_T32 y141 (ji9)).f0, (rd_T32 y141 (ji9)).f1, 0⟩ : S32) ) (fun _ hk => hk); have hx17_2 := hcc17 2 _ rfl; (try simp only [show (k32).sz = 3 from rfl, Nat.mul_one, Nat.add_zero] at hx17_2); have hf17_2 := hfr17 2; (try simp only [show (k32).sz = 3 from rfl, Nat.mul_one, Nat.add_zero] at hf17_2); clear hcl17 hcc17 hfr17 hM17) | ((with_reducible refine gate_store (t := 24) (p := 50) rfl ?_); refine store_event (t := 24) (p := 50) (v := ?vo_w18) (w1 := (w16.setCell ⟨go12, ((ji9) : Int).toNat * 3 + 2, none⟩ (.int .u64 0))) ?hg ?ho ?hn ?hr ?_; (case ho => rfl); (case hg => rfl); (case hn => rfl); (case hr => first | (go_simp; done) | (go_simp; rfl)); intro w18 hw; have hg : w16.grownBy w18 (some go12) := (by rw [hw]; exact HP17.2); have hp_ : Kd.R k32 32 w18 w.heap.size (fun _ => True) (.slice (some ⟨go12, 0, none⟩) x5_1.length co14) y142 := (by rw [hw, Ny142.out]; exact HP17.1); clear HP17; have n0_ := Aside0.mk (hp_); have n1_ := Aside0.mk ((by rw [hw]; exact below_set (HB.out) GB12.out : Below w.heap.size w w18)); clear HO_5; clear HB; have HO_5 := n0_; have HB := n1_; clear n0_ n1_; clear hg hw hp_))
                        go_ret
                        exact ⟨_, by first | rfl | (simp [errW_none, errW_some] <;> rfl) | (simp only [← hji9]; first | rfl | (simp [errW_none, errW_some] <;> rfl)) | (simp [*, errW_none, errW_some] <;> rfl), by (with_reducible repeat (first | apply Kd.R_alloc | apply Kd.R_drewN | apply Kd.R_drew)); exact HO_5.out, by repeat (first | (with_reducible first | exact HB.out | apply below_alloc | apply pw_below_drewN | apply below_drew1) | exact HB.out)⟩
                    · rw [if_neg c11] at H
                      exact absurd H (by simp)
                  · rw [if_neg c10] at H
                    exact absurd H (by simp)
                · rw [if_neg c8] at H
                  have c8b0 : decide (0 < (x5_1.length : Int)) = false := decide_eq_false c8
                  have c8b1 : decide (0 < x5_1.length) = false := decide_eq_false (by omega)
                  clear c8
                  as_aux_lemma =>
                    obtain rfl := Option.some.inj H
                    have p140 : 0 ≤ (x12_1 : Int) := of_decide_eq_true (by first | (with_reducible assumption) | assumption)
                    have q140 : x12_1 < (l0.length : Int) := of_decide_eq_true (by first | (with_reducible assumption) | assumption)
                    obtain ⟨ad140, e140, hx140_0⟩ := Kd.at_int HR0.out x12_1 p140 q140
                    cases e140
                    replace hx140_0 := (HB.out.cell (World.block_lt_of_cell? w _ hx140_0)).trans hx140_0
                    replace p140 := eq_true p140
                    replace q140 := eq_true q140
                    obtain ⟨Ao19, co19, eo19⟩ := Kd.R_slice HO_5.out
                    subst eo19
                    go_wp2
                    go_ret
                    exact ⟨_, by first | rfl | (simp [errW_none, errW_some] <;> rfl) | (simp [*, errW_none, errW_some] <;> rfl), by (with_reducible repeat (first | apply Kd.R_alloc | apply Kd.R_drewN | apply Kd.R_drew)); exact HO_5.out, by repeat (first | (with_reducible first | exact HB.out | apply below_alloc | apply pw_below_drewN | apply below_drew1) | exact HB.out)⟩
              · replace c7 := Bool.eq_false_iff.mpr c7
                subst c7
                have H1 : (some x5_1) = some r := by rw [if_neg (show ¬ (false = true) by decide)] at H; exact H
                clear H
                have H := H1
                clear H1
                as_aux_lemma =>
                  obtain rfl := Option.some.inj H
                  have p140 : 0 ≤ (x12_1 : Int) := of_decide_eq_true (by first | (with_reducible assumption) | assumption)
                  have q140 : x12_1 < (l0.length : Int) := of_decide_eq_true (by first | (with_reducible assumption) | assumption)
                  obtain ⟨ad140, e140, hx140_0⟩ := Kd.at_int HR0.out x12_1 p140 q140
                  cases e140
                  replace hx140_0 := (HB.out.cell (World.block_lt_of_cell? w _ hx140_0)).trans hx140_0
                  replace p140 := eq_true p140
                  replace q140 := eq_true q140
                  obtain ⟨Ao20, co20, eo20⟩ := Kd.R_slice HO_5.out
                  subst eo20
                  go_wp2
                  go_ret
                  exact ⟨_, by first | rfl | (simp [errW_none, errW_some] <;> rfl) | (simp [*, errW_none, errW_some] <;> rfl), by (with_reducible repeat (first | apply Kd.R_alloc | apply Kd.R_drewN | apply Kd.R_drew)); exact HO_5.out, by repeat (first | (with_reducible first | exact HB.out | apply below_alloc | apply pw_below_drewN | apply below_drew1) | exact HB.out)⟩
            · rw [if_neg c6] at H
              have c6b0 : decide (12 < x12_1) = false := decide_eq_false c6
              clear c6
              by_cases c21 : x5_1.length < 5864062014805
              · rw [if_pos c21] at H
                have LMc21 := Aside0.mk c21
                clear c21
                obtain ⟨y143, hy143⟩ : ∃ y_ : List (S32), y_ = (x5_1 ++ [(⟨IntKind.u64.wrap (x6_1 + (1 + ((Int.tdiv (rd l0 x12_1) 64) % 256))), true, IntKind.u64.wrap (Int.tmod (rd l0 x12_1) 6)⟩ : S32)]) := ⟨_, rfl⟩
                replace H : (mailcoachlaw13_Made.l0 k1 a1 y143 (IntKind.u64.wrap (x6_1 + (1 + ((Int.tdiv (rd l0 x12_1) 64) % 256)))) l0 (l0.length : Int) (wrap64 (x12_1 + 1))) = some r := by first | (rw [hy143]; with_reducible exact H) | (have H2_ := (Option.bind_some _ _).symm.trans H; rw [hy143]; with_reducible exact H2_) | (have H2_ := (Option.bind_some _ _).symm.trans H; with_reducible exact H2_) | with_reducible exact H | (rw [hy143]; exact H) | exact H
                have Ny143 := Aside0.mk hy143
                clear hy143
                as_aux_lemma =>
                  have H' := Aside0.mk H
                  clear H
                  have p140 : 0 ≤ (x12_1 : Int) := of_decide_eq_true (by first | (with_reducible assumption) | assumption)
                  have q140 : x12_1 < (l0.length : Int) := of_decide_eq_true (by first | (with_reducible assumption) | assumption)
                  obtain ⟨ad140, e140, hx140_0⟩ := Kd.at_int HR0.out x12_1 p140 q140
                  cases e140
                  replace hx140_0 := (HB.out.cell (World.block_lt_of_cell? w _ hx140_0)).trans hx140_0
                  replace p140 := eq_true p140
                  replace q140 := eq_true q140
                  go_wp2_with (first | ((with_reducible refine gate_builtin (b := .append) (xs := #[.tmp 25, .tmp 31]) rfl ?_); at_builtin; refine Kd.R_append k32 (w0 := w) w.heap.size rfl (.tmp 25) (.tmp 31) 22 32 (.agg #[(.int .u64 0), (.bool false), (.int .u64 0)]) 24 rfl Try.underlying22 info32 rfl (by decide) (by omega) u5 x5_1 (⟨IntKind.u64.wrap (x6_1 + (1 + ((Int.tdiv (rd l0 x12_1) 64) % 256))), true, IntKind.u64.wrap (Int.tmod (rd l0 x12_1) 6)⟩ : S32) [.int .u64 (IntKind.u64.wrap (x6_1 + (1 + ((Int.tdiv (rd l0 x12_1) 64) % 256)))), .bool true, .int .u64 (IntKind.u64.wrap (Int.tmod (rd l0 x12_1) 6))] (fun _ => True) (fun _ => False) rfl rfl ?aP (fun _ hk => hk.elim) ?aF ?aO ?aB ?aS ?aL ?_; (case aP => exact k32_mkM _ _ _ (⟨IntKind.u64.wrap (x6_1 + (1 + ((Int.tdiv (rd l0 x12_1) 64) % 256))), true, IntKind.u64.wrap (Int.tmod (rd l0 x12_1) 6)⟩ : S32)); (case aB => exact (by repeat (first | (with_reducible first | exact HB.out | apply below_alloc | apply pw_below_drewN | apply below_drew1) | exact HB.out))); (case aF => exact (fun _ _ => trivial)); (case aO => exact (by (with_reducible repeat (first | apply Kd.R_alloc | apply Kd.R_drewN | apply Kd.R_drew)); exact HO_5.out)); (case aS => exact (below_size (by repeat (first | (with_reducible first | exact HB.out | apply below_alloc | apply pw_below_drewN | apply below_drew1) | exact HB.out)))); (case aL => have := LMc21.out; omega); intro v144 w22 ho hb hg hat; rw [← Ny143.out] at ho; have n0_ := Aside0.mk (hb); have n1_ := Aside0.mk (ho); clear HB; clear HO_5; have HB := n0_; have HO145 := n1_; clear n0_ n1_; clear ho hb hg hat))
                  go_roundg k1
                  case measure => have := HK1.out; omega
                  case rel => exact ⟨(y143), (IntKind.u64.wrap (x6_1 + (1 + ((Int.tdiv (rd l0 x12_1) 64) % 256)))), (wrap64 (x12_1 + 1)), (by first | rfl | (simp; done) | (simp [*]; done)), (by first | rfl | (simp; done) | (simp [*]; done)), H', ⟨by have := HK1.out; omega⟩, ⟨by (with_reducible repeat (first | apply Kd.R_alloc | apply Kd.R_drewN | apply Kd.R_drew)); exact HO145.out⟩, ⟨by repeat (first | (with_reducible first | exact HB.out | apply below_alloc | apply pw_below_drewN | apply below_drew1) | exact HB.out)⟩⟩
              · rw [if_neg c21] at H
                exact absurd H (by simp)
          · rw [if_neg c5] at H
            exact absurd H (by simp)
        · rw [if_neg c4] at H
          exact absurd H (by simp)
      · rw [if_neg c3] at H
        have c3b0 : decide (x12_1 < (l0.length : Int)) = false := decide_eq_false c3
        clear c3
        by_cases c23 : a1 = true
        · subst c23
          have H1 : (if (x5_1.length : Int) > 0 then (if 0 ≤ (wrap64 ((x5_1.length : Int) - 1)) then (if (wrap64 ((x5_1.length : Int) - 1)) < (x5_1.length : Int) then ((some (x5_1.set ((wrap64 ((x5_1.length : Int) - 1)) : Int).toNat (⟨(rd_T32 x5_1 (wrap64 ((x5_1.length : Int) - 1))).f0, false, (rd_T32 x5_1 (wrap64 ((x5_1.length : Int) - 1))).f2⟩ : S32) : List (S32))).bind fun y146 => (some (y146.set ((wrap64 ((x5_1.length : Int) - 1)) : Int).toNat (⟨(rd_T32 y146 (wrap64 ((x5_1.length : Int) - 1))).f0, (rd_T32 y146 (wrap64 ((x5_1.length : Int) - 1))).f1, 0⟩ : S32)))) else (none)) else (none)) else (some x5_1)) = some r := by rw [if_pos rfl] at H; exact H
          clear H
          have H := H1
          clear H1
          by_cases c24 : (x5_1.length : Int) > 0
          · rw [if_pos c24] at H
            have c24b0 : decide (0 < (x5_1.length : Int)) = true := decide_eq_true c24
            have c24b1 : decide (0 < x5_1.length) = true := decide_eq_true (by omega)
            clear c24
            obtain ⟨ji25, hji25⟩ : ∃ j_ : Int, (wrap64 ((x5_1.length : Int) - 1)) = j_ := ⟨_, rfl⟩
            replace H : (if 0 ≤ (ji25) then (if (ji25) < (x5_1.length : Int) then ((some (x5_1.set ((ji25) : Int).toNat (⟨(rd_T32 x5_1 (ji25)).f0, false, (rd_T32 x5_1 (ji25)).f2⟩ : S32) : List (S32))).bind fun y146 => (some (y146.set ((ji25) : Int).toNat (⟨(rd_T32 y146 (ji25)).f0, (rd_T32 y146 (ji25)).f1, 0⟩ : S32)))) else (none)) else (none)) = some r := by first | (rw [hji25] at H; exact H) | (simp only [hji25] at H ⊢; exact H)
            have hji25w : (IntKind.i64.wrap ((x5_1.length : Int) - 1)) = ji25 := (i64_w _).trans hji25
            by_cases c26 : 0 ≤ (ji25)
            · rw [if_pos c26] at H
              have c26b0 : decide (0 ≤ (ji25)) = true := decide_eq_true c26
              clear c26
              by_cases c27 : (ji25) < (x5_1.length : Int)
              · rw [if_pos c27] at H
                have c27b0 : decide ((ji25) < (x5_1.length : Int)) = true := decide_eq_true c27
                clear c27
                obtain ⟨y146, hy146⟩ : ∃ y_ : List (S32), y_ = (x5_1.set ((ji25) : Int).toNat (⟨(rd_T32 x5_1 (ji25)).f0, false, (rd_T32 x5_1 (ji25)).f2⟩ : S32)) := ⟨_, rfl⟩
                replace H : (some (y146.set ((ji25) : Int).toNat (⟨(rd_T32 y146 (ji25)).f0, (rd_T32 y146 (ji25)).f1, 0⟩ : S32))) = some r := by first | (rw [hy146]; with_reducible exact H) | (have H2_ := (Option.bind_some _ _).symm.trans H; rw [hy146]; with_reducible exact H2_) | (have H2_ := (Option.bind_some _ _).symm.trans H; with_reducible exact H2_) | with_reducible exact H | (rw [hy146]; exact H) | exact H
                have Ny146 := Aside0.mk hy146
                clear hy146
                obtain ⟨y147, hy147⟩ : ∃ y_ : List (S32), y_ = (y146.set ((ji25) : Int).toNat (⟨(rd_T32 y146 (ji25)).f0, (rd_T32 y146 (ji25)).f1, 0⟩ : S32)) := ⟨_, rfl⟩
                replace H : (some y147) = some r := by first | (rw [hy147]; with_reducible exact H) | (have H2_ := (Option.bind_some _ _).symm.trans H; rw [hy147]; with_reducible exact H2_) | (have H2_ := (Option.bind_some _ _).symm.trans H; with_reducible exact H2_) | with_reducible exact H | (rw [hy147]; exact H) | exact H
                have Ny147 := Aside0.mk hy147
                clear hy147
                as_aux_lemma =>
                  obtain rfl := Option.some.inj H
                  obtain ⟨Ao30, co30, eo30⟩ := Kd.R_slice HO_5.out
                  subst eo30
                  have p28 : 0 ≤ ((ji25) : Int) := of_decide_eq_true (by first | (with_reducible assumption) | assumption)
                  have q28 : ((ji25) : Int) < ((x5_1.length : Int) : Int) := of_decide_eq_true (by first | (with_reducible assumption) | assumption)
                  obtain ⟨go28, co28, eo28, gb28, gl28, cl28, HG28⟩ := Kd.R_form HO_5.out (by omega)
                  (first | cases eo28 | (injection eo28 with ea_ en_ ec_; (first | subst ea_ | (injection ea_ with ea_; subst ea_)); subst ec_; clear en_))
                  have GB28 := Aside0.mk gb28
                  have GG28 := Aside0.mk HG28
                  clear gb28 gl28 HG28
                  obtain ⟨ce28, hcl28, hM28, hcc28, hfr28⟩ := Kd.R_elem HO_5.out z32 ((ji25) : Int) p28 q28
                  obtain rfl := k32_openM hM28
                  have hx28_0 : wr.cell? ⟨go28, ((ji25) : Int).toNat * 3, none⟩ = some (.int .u64 ((rd_T32 x5_1 (ji25)).f0)) := hcc28 0 _ rfl
                  have hx28_1 : wr.cell? ⟨go28, ((ji25) : Int).toNat * 3 + 1, none⟩ = some (.bool ((rd_T32 x5_1 (ji25)).f1)) := hcc28 1 _ rfl
                  have hx28_2 : wr.cell? ⟨go28, ((ji25) : Int).toNat * 3 + 2, none⟩ = some (.int .u64 ((rd_T32 x5_1 (ji25)).f2)) := hcc28 2 _ rfl
                  have hf28_0 : wr.frozen? ⟨go28, ((ji25) : Int).toNat * 3, none⟩ = false := hfr28 0
                  have hf28_1 : wr.frozen? ⟨go28, ((ji25) : Int).toNat * 3 + 1, none⟩ = false := hfr28 1
                  have hf28_2 : wr.frozen? ⟨go28, ((ji25) : Int).toNat * 3 + 2, none⟩ = false := hfr28 2
                  clear hcl28 hcc28 hfr28 hM28
                  replace p28 := eq_true p28
                  replace q28 := eq_true q28
                  have HX31 := Aside0.mk (show Kd.R k32 32 wr w.heap.size (fun _ => True) (.slice (some ⟨go28, 0, none⟩) x5_1.length co30) x5_1 from (by (with_reducible repeat (first | apply Kd.R_alloc | apply Kd.R_drewN | apply Kd.R_drew)); exact HO_5.out))
                  obtain ⟨ce31, hcl31, hM31, hcc31, hfr31⟩ := Kd.R_elem HX31.out z32 ((ji25) : Int) (of_decide_eq_true (by first | (with_reducible assumption) | assumption)) (by have h_ : ((ji25) : Int) < ((x5_1.length : Int) : Int) := of_decide_eq_true (by first | (with_reducible assumption) | assumption); first | exact h_ | (have e_ := (Kd.R_reads' HO_5.out).1; omega) | simpa using h_)
                  obtain rfl := k32_openM hM31
                  have HP31 := Kd.R_seg HX31.out ((ji25) : Int) (of_decide_eq_true (by first | (with_reducible assumption) | assumption)) (by have h_ : ((ji25) : Int) < ((x5_1.length : Int) : Int) := of_decide_eq_true (by first | (with_reducible assumption) | assumption); first | exact h_ | (have e_ := (Kd.R_reads' HO_5.out).1; omega) | simpa using h_) (seg := [.bool false]) (j := 1) hcl31 hcc31 (show 2 ≤ 3 from by decide) (x' := (⟨(rd_T32 x5_1 (ji25)).f0, false, (rd_T32 x5_1 (ji25)).f2⟩ : S32)) (k32_mkM _ _ _ (⟨(rd_T32 x5_1 (ji25)).f0, false, (rd_T32 x5_1 (ji25)).f2⟩ : S32) ) (fun _ hk => hk)
                  have hx31_1 := hcc31 1 _ rfl
                  (try simp only [show (k32).sz = 3 from rfl, Nat.mul_one, Nat.add_zero] at hx31_1)
                  have hf31_1 := hfr31 1
                  (try simp only [show (k32).sz = 3 from rfl, Nat.mul_one, Nat.add_zero] at hf31_1)
                  clear hcl31 hcc31 hfr31 hM31
                  go_wp2_with (first | ((with_reducible refine gate_store (t := 4) (p := 48) rfl ?_); refine store_event (t := 4) (p := 48) (v := ?vo_w32) (w1 := (wr.setCell ⟨go28, ((ji25) : Int).toNat * 3 + 1, none⟩ (.bool false))) ?hg ?ho ?hn ?hr ?_; (case ho => rfl); (case hg => rfl); (case hn => rfl); (case hr => first | (go_simp; done) | (go_simp; rfl)); intro w32 hw; have hg : wr.grownBy w32 (some go28) := (by rw [hw]; exact HP31.2); have hp_ : Kd.R k32 32 w32 w.heap.size (fun _ => True) (.slice (some ⟨go28, 0, none⟩) x5_1.length co30) y146 := (by rw [hw, Ny146.out]; exact HP31.1); clear HP31; have n0_ := Aside0.mk (hp_); have n1_ := Aside0.mk ((by rw [hw]; exact below_set (HB.out) GB28.out : Below w.heap.size w w32)); clear HO_5; clear HB; have HO_5 := n0_; have HB := n1_; clear n0_ n1_; clear hg hw hp_; have p29 : 0 ≤ ((ji25) : Int) := of_decide_eq_true (by first | (with_reducible assumption) | assumption); have q29 : ((ji25) : Int) < ((x5_1.length : Int) : Int) := of_decide_eq_true (by first | (with_reducible assumption) | assumption); obtain ⟨ce29, hcl29, hM29, hcc29, hfr29⟩ := Kd.R_elem HO_5.out z32 ((ji25) : Int) p29 q29; obtain rfl := k32_openM hM29; have hx29_0 : w32.cell? ⟨go28, ((ji25) : Int).toNat * 3, none⟩ = some (.int .u64 ((rd_T32 y146 (ji25)).f0)) := hcc29 0 _ rfl; have hx29_1 : w32.cell? ⟨go28, ((ji25) : Int).toNat * 3 + 1, none⟩ = some (.bool ((rd_T32 y146 (ji25)).f1)) := hcc29 1 _ rfl; have hx29_2 : w32.cell? ⟨go28, ((ji25) : Int).toNat * 3 + 2, none⟩ = some (.int .u64 ((rd_T32 y146 (ji25)).f2)) := hcc29 2 _ rfl; have hf29_0 : w32.frozen? ⟨go28, ((ji25) : Int).toNat * 3, none⟩ = false := hfr29 0; have hf29_1 : w32.frozen? ⟨go28, ((ji25) : Int).toNat * 3 + 1, none⟩ = false := hfr29 1; have hf29_2 : w32.frozen? ⟨go28, ((ji25) : Int).toNat * 3 + 2, none⟩ = false := hfr29 2; clear hcl29 hcc29 hfr29 hM29; replace p29 := eq_true p29; replace q29 := eq_true q29; have HX33 := Aside0.mk (show Kd.R k32 32 w32 w.heap.size (fun _ => True) (.slice (some ⟨go28, 0, none⟩) x5_1.length co30) y146 from (by (with_reducible repeat (first | apply Kd.R_alloc | apply Kd.R_drewN | apply Kd.R_drew)); exact HO_5.out)); obtain ⟨ce33, hcl33, hM33, hcc33, hfr33⟩ := Kd.R_elem HX33.out z32 ((ji25) : Int) (of_decide_eq_true (by first | (with_reducible assumption) | assumption)) (by have h_ : ((ji25) : Int) < ((x5_1.length : Int) : Int) := of_decide_eq_true (by first | (with_reducible assumption) | assumption); first | exact h_ | (have e_ := (Kd.R_reads' HO_5.out).1; omega) | simpa using h_); obtain rfl := k32_openM hM33; have HP33 := Kd.R_seg HX33.out ((ji25) : Int) (of_decide_eq_true (by first | (with_reducible assumption) | assumption)) (by have h_ : ((ji25) : Int) < ((x5_1.length : Int) : Int) := of_decide_eq_true (by first | (with_reducible assumption) | assumption); first | exact h_ | (have e_ := (Kd.R_reads' HO_5.out).1; omega) | simpa using h_) (seg := [.int .u64 0]) (j := 2) hcl33 hcc33 (show 3 ≤ 3 from by decide) (x' := (⟨(rd_T32 y146 (ji25)).f0, (rd_T32 y146 (ji25)).f1, 0⟩ : S32)) (k32_mkM _ _ _ (⟨(rd_T32 y146 (ji25)).f0, (rd_T32 y146 (ji25)).f1, 0⟩ : S32) ) (fun _ hk => hk); have hx33_2 := hcc33 2 _ rfl; (try simp only [show (k32).sz = 3 from rfl, Nat.mul_one, Nat.add_zero] at hx33_2); have hf33_2 := hfr33 2; (try simp only [show (k32).sz = 3 from rfl, Nat.mul_one, Nat.add_zero] at hf33_2); clear hcl33 hcc33 hfr33 hM33) | ((with_reducible refine gate_store (t := 24) (p := 50) rfl ?_); refine store_event (t := 24) (p := 50) (v := ?vo_w34) (w1 := (w32.setCell ⟨go28, ((ji25) : Int).toNat * 3 + 2, none⟩ (.int .u64 0))) ?hg ?ho ?hn ?hr ?_; (case ho => rfl); (case hg => rfl); (case hn => rfl); (case hr => first | (go_simp; done) | (go_simp; rfl)); intro w34 hw; have hg : w32.grownBy w34 (some go28) := (by rw [hw]; exact HP33.2); have hp_ : Kd.R k32 32 w34 w.heap.size (fun _ => True) (.slice (some ⟨go28, 0, none⟩) x5_1.length co30) y147 := (by rw [hw, Ny147.out]; exact HP33.1); clear HP33; have n0_ := Aside0.mk (hp_); have n1_ := Aside0.mk ((by rw [hw]; exact below_set (HB.out) GB28.out : Below w.heap.size w w34)); clear HO_5; clear HB; have HO_5 := n0_; have HB := n1_; clear n0_ n1_; clear hg hw hp_))
                  go_ret
                  exact ⟨_, by first | rfl | (simp [errW_none, errW_some] <;> rfl) | (simp only [← hji25]; first | rfl | (simp [errW_none, errW_some] <;> rfl)) | (simp [*, errW_none, errW_some] <;> rfl), by (with_reducible repeat (first | apply Kd.R_alloc | apply Kd.R_drewN | apply Kd.R_drew)); exact HO_5.out, by repeat (first | (with_reducible first | exact HB.out | apply below_alloc | apply pw_below_drewN | apply below_drew1) | exact HB.out)⟩
              · rw [if_neg c27] at H
                exact absurd H (by simp)
            · rw [if_neg c26] at H
              exact absurd H (by simp)
          · rw [if_neg c24] at H
            have c24b0 : decide (0 < (x5_1.length : Int)) = false := decide_eq_false c24
            have c24b1 : decide (0 < x5_1.length) = false := decide_eq_false (by omega)
            clear c24
            as_aux_lemma =>
              obtain rfl := Option.some.inj H
              obtain ⟨Ao35, co35, eo35⟩ := Kd.R_slice HO_5.out
              subst eo35
              go_wp2
              go_ret
              exact ⟨_, by first | rfl | (simp [errW_none, errW_some] <;> rfl) | (simp [*, errW_none, errW_some] <;> rfl), by (with_reducible repeat (first | apply Kd.R_alloc | apply Kd.R_drewN | apply Kd.R_drew)); exact HO_5.out, by repeat (first | (with_reducible first | exact HB.out | apply below_alloc | apply pw_below_drewN | apply below_drew1) | exact HB.out)⟩
        · replace c23 := Bool.eq_false_iff.mpr c23
          subst c23
          have H1 : (some x5_1) = some r := by rw [if_neg (show ¬ (false = true) by decide)] at H; exact H
          clear H
          have H := H1
          clear H1
          as_aux_lemma =>
            obtain rfl := Option.some.inj H
            obtain ⟨Ao36, co36, eo36⟩ := Kd.R_slice HO_5.out
            subst eo36
            go_wp2
            go_ret
            exact ⟨_, by first | rfl | (simp [errW_none, errW_some] <;> rfl) | (simp [*, errW_none, errW_some] <;> rfl), by (with_reducible repeat (first | apply Kd.R_alloc | apply Kd.R_drewN | apply Kd.R_drew)); exact HO_5.out, by repeat (first | (with_reducible first | exact HB.out | apply below_alloc | apply pw_below_drewN | apply below_drew1) | exact HB.out)⟩

/-! ### api_Ledger: function 30 -/
def api_Ledger.f (l0 : List (S32)) : Option ((List (S32))) := (some (([] : List (S32)) : List (S32))).bind fun y148 => (if y148.length + l0.length < 5864062014805 then (some (y148 ++ l0)) else (none))
set_option maxHeartbeats 8000000 in
set_option maxRecDepth 100000 in
theorem api_Ledger.calls (A0 : Option Addr) (c0 : Nat) (l0 : List (S32)) (r : List (S32)) (w : World) (hr0 : Kd.C k32 w A0 l0.length l0) (hc0 : l0.length ≤ c0) (h : api_Ledger.f l0 = some r) :
    Calls Try.prog 30 #[.slice A0 l0.length c0] w fun e w' => ∃ v0_ : Value, e = .returned (v0_) ∧ Kd.R k32 32 w' w.heap.size (fun _ => True) v0_ r ∧ Below w.heap.size w w' := by
  have q_ : ∀ (w : World) (a : Option Addr) (n c n' c' : Nat), (binOp .eql 22 (.slice a n c) (.slice none n' c')).run Try.prog w = .ok (.bool a.isNone) w := fun w a n c n' c' => Lib.run_eql_slice_nil w _ _ a n c n' c' Try.underlying22
  cases A0 with
  | none =>
    have hl_ : l0 = [] := by
      rcases l0 with _ | ⟨x, s⟩
      · rfl
      · obtain ⟨ad, h1, _⟩ := hr0.2.2 (by simp)
        cases h1
    subst hl_
    obtain rfl : r = [] := by
      have h2 := h
      simp [api_Ledger.f] at h2
      first | exact h2.symm | exact h2 | exact h2.2.symm | exact h2.2
    go_enter Try.func30, Try.ntmps30
    go_wp2
    go_ret
    exact ⟨_, rfl, Kd.R_nil _ _ _ _ _, Below.refl _ _⟩
  | some a0_ =>
    have HR0 := Aside0.mk hr0
    have HC0 := Aside0.mk hc0
    clear hr0 hc0
    have HB := Aside0.mk (Below.refl w.heap.size w)
    have H : ((some (([] : List (S32)) : List (S32))).bind fun y148 => (if y148.length + l0.length < 5864062014805 then (some (y148 ++ l0)) else (none))) = some r := h
    clear h
    obtain ⟨y148, hy148⟩ : ∃ y_ : List (S32), y_ = (([] : List (S32))) := ⟨_, rfl⟩
    replace H : (if y148.length + l0.length < 5864062014805 then (some (y148 ++ l0)) else (none)) = some r := by first | (rw [hy148]; with_reducible exact H) | (have H2_ := (Option.bind_some _ _).symm.trans H; rw [hy148]; with_reducible exact H2_) | (have H2_ := (Option.bind_some _ _).symm.trans H; with_reducible exact H2_) | with_reducible exact H | (rw [hy148]; exact H) | exact H
    have Ny148 := Aside0.mk hy148
    clear hy148
    by_cases c2 : y148.length + l0.length < 5864062014805
    · rw [if_pos c2] at H
      have LMc2 := Aside0.mk c2
      clear c2
      obtain ⟨y151, hy151⟩ : ∃ y_ : List (S32), y_ = (y148 ++ l0) := ⟨_, rfl⟩
      replace H : (some y151) = some r := by first | (rw [hy151]; with_reducible exact H) | (have H2_ := (Option.bind_some _ _).symm.trans H; rw [hy151]; with_reducible exact H2_) | (have H2_ := (Option.bind_some _ _).symm.trans H; with_reducible exact H2_) | with_reducible exact H | (rw [hy151]; exact H) | exact H
      have Ny151 := Aside0.mk hy151
      clear hy151
      as_aux_lemma =>
        obtain rfl := Option.some.inj H
        go_enter Try.func30, Try.ntmps30
        go_wp2_with (first | ((with_reducible refine gate_dst (N := 5) rfl ?_); refine Kd.R_lit k32 _ 32 ?hg (N := 5) ?hd (xs := ([] : List (S32))) (inner := []) (ok := fun _ => True) (okp := fun _ => True) ?hr ?hp (fun _ hk => hk) trivial (Below.refl _ _) (Nat.le_refl _) (by simp) ?_; (case hd => rfl); (case hg => rfl); (case hr => first | (go_simp; done) | (go_simp; rfl)); (case hp => exact (Reps.none _ _)); intro v149 w3 ho4 hb hg_ hnew_; clear hg_ hnew_; (first | rw [← Ny148.out] at ho4 | (simp only [Int.reduceToNat] at ho4; rw [← Ny148.out] at ho4)); have n0_ := Aside0.mk (Kd.R_lower ho4 (below_size (by repeat (first | (with_reducible first | exact HB.out | apply below_alloc | apply pw_below_drewN | apply below_drew1) | exact HB.out)))); have n1_ := Aside0.mk (below_step (by repeat (first | (with_reducible first | exact HB.out | apply below_alloc | apply pw_below_drewN | apply below_drew1) | exact HB.out)) hb); clear HB; have HO150 := n0_; have HB := n1_; clear n0_ n1_; clear hb ho4) | ((with_reducible refine gate_builtin (b := .append) (xs := #[.tmp 5, .tmp 6]) rfl ?_); at_builtin; refine Kd.R_append_rows k32 (w0 := w) w.heap.size rfl (.tmp 5) (.tmp 6) 22 32 (.agg #[(.int .u64 0), (.bool false), (.int .u64 0)]) 24 rfl Try.underlying22 info32 rfl (by decide) (by omega) v149 y148 l0 _ _ _ (fun _ => True) (fun _ => False) rfl rfl ?aO ?aR (fun _ _ h => h) (fun _ h => h.elim) ?aF ?aB ?aS ?aL ?_; (case aR => repeat (first | exact (Kd.C_below HR0.out HB.out) | (with_reducible refine Kd.C_alloc ?_ _) | (with_reducible refine Kd.C_drewN ?_ _) | (with_reducible refine Kd.C_drew ?_))); (case aB => exact (by repeat (first | (with_reducible first | exact HB.out | apply below_alloc | apply pw_below_drewN | apply below_drew1) | exact HB.out))); (case aF => exact (fun _ _ => trivial)); (case aO => exact (by (with_reducible repeat (first | apply Kd.R_alloc | apply Kd.R_drewN | apply Kd.R_drew)); exact HO150.out)); (case aS => exact (below_size (by repeat (first | (with_reducible first | exact HB.out | apply below_alloc | apply pw_below_drewN | apply below_drew1) | exact HB.out)))); (case aL => have := LMc2.out; omega); intro v152 w5 ho hb hg hat; rw [← Ny151.out] at ho; have n0_ := Aside0.mk (hb); have n1_ := Aside0.mk (ho); clear HB; clear HO150; have HB := n0_; have HO153 := n1_; clear n0_ n1_; clear ho hb hg hat))
        go_ret
        exact ⟨_, by first | rfl | (simp [errW_none, errW_some] <;> rfl) | (simp [*, errW_none, errW_some] <;> rfl), by (with_reducible repeat (first | apply Kd.R_alloc | apply Kd.R_drewN | apply Kd.R_drew)); exact HO153.out, by repeat (first | (with_reducible first | exact HB.out | apply below_alloc | apply pw_below_drewN | apply below_drew1) | exact HB.out)⟩
    · rw [if_neg c2] at H
      exact absurd H (by simp)

/-! ### ledgers_Open: function 13 -/
mutual
def ledgers_Open.j0 : Nat → List (S32) → Int → Int → Bool → Option ((List (S32)) × Int)
  | 0, _, _, _, _ => none
  | k + 1, x0, x1, x6, x9 => if x9 = true then (some (([] : List (S32)), 23)) else (if x1 = 0 then (ledgers_Open.j1 k x0 x1 x6 true) else (if x6 > 0 then (if 0 ≤ (wrap64 (x6 - 1)) then (if (wrap64 (x6 - 1)) < (x0.length : Int) then (ledgers_Open.j1 k x0 x1 x6 (decide (((rd_T32 x0 (wrap64 (x6 - 1))).f0) ≥ x1))) else (none)) else (none)) else (ledgers_Open.j1 k x0 x1 x6 false)))
def ledgers_Open.j1 : Nat → List (S32) → Int → Int → Bool → Option ((List (S32)) × Int)
  | 0, _, _, _, _ => none
  | k + 1, x0, x1, x6, x21 => if x21 = true then (some (([] : List (S32)), 30)) else (if x6 ≥ 64 then (some (([] : List (S32)), 14)) else ((api_Ledger.f x0).bind fun t156 => (if t156.length < 5864062014805 then (some ((t156 ++ [(⟨x1, false, 0⟩ : S32)]), 0)) else (none))))
end
def ledgers_Open.f (k : Nat) (l0 : List (S32)) (a1 : Int) : Option ((List (S32)) × Int) := if (l0.length : Int) > 0 then (if 0 ≤ (wrap64 ((l0.length : Int) - 1)) then (if (wrap64 ((l0.length : Int) - 1)) < (l0.length : Int) then (ledgers_Open.j0 k l0 a1 (l0.length : Int) (!((rd_T32 l0 (wrap64 ((l0.length : Int) - 1))).f1))) else (none)) else (none)) else (ledgers_Open.j0 k l0 a1 (l0.length : Int) false)
theorem ledgers_Open.mono_l : ∀ k, (∀ y0 y1 y2 y3, LeO (ledgers_Open.j0 k y0 y1 y2 y3) (ledgers_Open.j0 (k + 1) y0 y1 y2 y3)) ∧ (∀ y0 y1 y2 y3, LeO (ledgers_Open.j1 k y0 y1 y2 y3) (ledgers_Open.j1 (k + 1) y0 y1 y2 y3))
  | 0 => ⟨fun _ _ _ _ r h => by simp [ledgers_Open.j0] at h, fun _ _ _ _ r h => by simp [ledgers_Open.j1] at h⟩
  | k + 1 => by
    obtain ⟨ih0, ih1⟩ := ledgers_Open.mono_l k
    refine ⟨?_, ?_⟩
    · intro y0 y1 y2 y3
      unfold ledgers_Open.j0
      repeat' first
      | (with_reducible exact ih0 _ _ _ _)
      | (with_reducible exact ih1 _ _ _ _)
      | (with_reducible exact LeO.refl _)
      | (with_reducible exact LeO.none _)
      | (with_reducible refine LeO.ite ?_ ?_)
      | (with_reducible refine LeO.bind ?_ (fun _ => ?_))
      | exact ih0 _ _ _ _
      | exact ih1 _ _ _ _
      | exact LeO.none _
      | refine LeO.ite ?_ ?_
      | refine LeO.bind ?_ (fun _ => ?_)
    · intro y0 y1 y2 y3
      unfold ledgers_Open.j1
      repeat' first
      | (with_reducible exact ih0 _ _ _ _)
      | (with_reducible exact ih1 _ _ _ _)
      | (with_reducible exact LeO.refl _)
      | (with_reducible exact LeO.none _)
      | (with_reducible refine LeO.ite ?_ ?_)
      | (with_reducible refine LeO.bind ?_ (fun _ => ?_))
      | exact ih0 _ _ _ _
      | exact ih1 _ _ _ _
      | exact LeO.none _
      | refine LeO.ite ?_ ?_
      | refine LeO.bind ?_ (fun _ => ?_)
theorem ledgers_Open.mono : ∀ a0 a1 k, LeO (ledgers_Open.f k a0 a1) (ledgers_Open.f (k + 1) a0 a1) := by
  intro a0 a1 k
  obtain ⟨ih0, ih1⟩ := ledgers_Open.mono_l k
  unfold ledgers_Open.f
  repeat' first
      | (with_reducible exact ih0 _ _ _ _)
      | (with_reducible exact ih1 _ _ _ _)
      | (with_reducible exact LeO.refl _)
      | (with_reducible exact LeO.none _)
      | (with_reducible refine LeO.ite ?_ ?_)
      | (with_reducible refine LeO.bind ?_ (fun _ => ?_))
      | exact ih0 _ _ _ _
      | exact ih1 _ _ _ _
      | exact LeO.none _
      | refine LeO.ite ?_ ?_
      | refine LeO.bind ?_ (fun _ => ?_)
set_option maxHeartbeats 8000000 in
set_option maxRecDepth 100000 in
theorem ledgers_Open.calls (k : Nat) (A0 : Option Addr) (c0 : Nat) (l0 : List (S32)) (a1 : Int) (r1 : List (S32)) (r2 : Int) (w : World) (hr0 : Kd.C k32 w A0 l0.length l0) (hc0 : l0.length ≤ c0) (h : ledgers_Open.f k l0 a1 = some (r1, r2)) :
    Calls Try.prog 13 #[.slice A0 l0.length c0, .int .u64 a1] w fun e w' => ∃ v0_ : Value, e = .returned (.tuple #[v0_, .int .i64 r2]) ∧ Kd.R k32 32 w' w.heap.size (fun _ => True) v0_ r1 ∧ Below w.heap.size w w' := by
  have hu32 := Try.underlying32
  have HR0 := Aside0.mk hr0
  have HC0 := Aside0.mk hc0
  clear hr0 hc0
  have HB := Aside0.mk (Below.refl w.heap.size w)
  have H : (if (l0.length : Int) > 0 then (if 0 ≤ (wrap64 ((l0.length : Int) - 1)) then (if (wrap64 ((l0.length : Int) - 1)) < (l0.length : Int) then (ledgers_Open.j0 k l0 a1 (l0.length : Int) (!((rd_T32 l0 (wrap64 ((l0.length : Int) - 1))).f1))) else (none)) else (none)) else (ledgers_Open.j0 k l0 a1 (l0.length : Int) false)) = some (r1, r2) := h
  clear h
  have HC3 := Aside0.mk H
  clear H
  go_enter Try.func13, Try.ntmps13
  go_upto_region 2 with (fail)
  go_cut [9] (fun v9 wc => ∃ (kq : Nat) (x9_2 : Bool), v9 = .bool x9_2 ∧ Aside0 (ledgers_Open.j0 kq l0 a1 (l0.length : Int) x9_2 = some (r1, r2)) ∧ Aside0 (kq ≤ k) ∧ Aside0 (Below w.heap.size w wc))
  case first =>
    have H := HC3.out
    clear HC3
    by_cases c4 : (l0.length : Int) > 0
    · rw [if_pos c4] at H
      have c4b0 : decide (0 < (l0.length : Int)) = true := decide_eq_true c4
      have c4b1 : decide (0 < l0.length) = true := decide_eq_true (by omega)
      clear c4
      (first | rw [c4b0] | (simp only [i64_w, i32_w]; rw [c4b0]) | skip)
      obtain ⟨ji5, hji5⟩ : ∃ j_ : Int, (wrap64 ((l0.length : Int) - 1)) = j_ := ⟨_, rfl⟩
      replace H : (if 0 ≤ (ji5) then (if (ji5) < (l0.length : Int) then (ledgers_Open.j0 k l0 a1 (l0.length : Int) (!((rd_T32 l0 (ji5)).f1))) else (none)) else (none)) = some (r1, r2) := by first | (rw [hji5] at H; exact H) | (simp only [hji5] at H ⊢; exact H)
      have hji5w : (IntKind.i64.wrap ((l0.length : Int) - 1)) = ji5 := (i64_w _).trans hji5
      by_cases c6 : 0 ≤ (ji5)
      · rw [if_pos c6] at H
        have c6b0 : decide (0 ≤ (ji5)) = true := decide_eq_true c6
        clear c6
        by_cases c7 : (ji5) < (l0.length : Int)
        · rw [if_pos c7] at H
          have c7b0 : decide ((ji5) < (l0.length : Int)) = true := decide_eq_true c7
          clear c7
          as_aux_lemma =>
            have H' := Aside0.mk H
            clear H
            have p154 : 0 ≤ ((ji5) : Int) := of_decide_eq_true (by first | (with_reducible assumption) | assumption)
            have q154 : (ji5) < (l0.length : Int) := of_decide_eq_true (by first | (with_reducible assumption) | assumption)
            obtain ⟨ad154, e154, hx154_0, hx154_1, hx154_2⟩ := at_T32 HR0.out (ji5) p154 q154
            cases e154
            replace hx154_0 := (HB.out.cell (World.block_lt_of_cell? w _ hx154_0)).trans hx154_0
            replace hx154_1 := (HB.out.cell (World.block_lt_of_cell? w _ hx154_1)).trans hx154_1
            replace hx154_2 := (HB.out.cell (World.block_lt_of_cell? w _ hx154_2)).trans hx154_2
            replace p154 := eq_true p154
            replace q154 := eq_true q154
            go_wp2
            go_meet
            case rel => exact ⟨_, (!((rd_T32 l0 (ji5)).f1)), (by first | rfl | (simp; done) | (simp only [← hji5] <;> (first | rfl | simp)) | (simp [*]; done)), H', ⟨by first | omega | exact Nat.le_refl _⟩, ⟨by repeat (first | (with_reducible first | exact HB.out | apply below_alloc | apply pw_below_drewN | apply below_drew1) | exact HB.out)⟩⟩
        · rw [if_neg c7] at H
          exact absurd H (by simp)
      · rw [if_neg c6] at H
        exact absurd H (by simp)
    · rw [if_neg c4] at H
      have c4b0 : decide (0 < (l0.length : Int)) = false := decide_eq_false c4
      have c4b1 : decide (0 < l0.length) = false := decide_eq_false (by omega)
      clear c4
      (first | rw [c4b0] | (simp only [i64_w, i32_w]; rw [c4b0]) | skip)
      as_aux_lemma =>
        have H' := Aside0.mk H
        clear H
        go_wp2
        go_meet
        case rel => exact ⟨_, (false), (by first | rfl | (simp; done) | (simp [*]; done)), H', ⟨by first | omega | exact Nat.le_refl _⟩, ⟨by repeat (first | (with_reducible first | exact HB.out | apply below_alloc | apply pw_below_drewN | apply below_drew1) | exact HB.out)⟩⟩
  case rest =>
    clear HC3
    try clear c1
    try clear p1
    try clear q1
    try clear hx1
    try clear p2
    try clear c4
    try clear c4b0
    try clear c4b1
    try clear c6
    try clear c6b0
    try clear p6
    try clear c7
    try clear c7b0
    try clear hx154_0
    try clear hx154_1
    try clear hx154_2
    try clear p154
    try clear q154
    obtain ⟨kq, x9_2, rfl, HA, HJ2, HB⟩ := hcut
    cases kq with
    | zero => exact absurd HA.out (by simp [ledgers_Open.j0])
    | succ kj2 =>
      have H := HA.out
      clear HA
      simp only [ledgers_Open.j0] at H
      by_cases c8 : x9_2 = true
      · subst c8
        have H1 : (some (([] : List (S32)), 23)) = some (r1, r2) := by rw [if_pos rfl] at H; exact H
        clear H
        have H := H1
        clear H1
        as_aux_lemma =>
          simp only [Option.some.injEq, Prod.mk.injEq] at H
          obtain ⟨rfl, rfl⟩ := H
          go_wp2
          go_ret2
          exact ⟨_, by first | rfl | (simp [errW_none, errW_some] <;> rfl) | (simp [*, errW_none, errW_some] <;> rfl), by first | exact Kd.R_nil _ _ _ _ _ | exact Kd.N_nil _ _ _ _ _ | exact Kd.V_nil _ _ _ _ _ | exact Kd.Q_nil _ _ _ _ _ | exact Kd.S_nil _ _ _ _ _, by repeat (first | (with_reducible first | exact HB.out | apply below_alloc | apply pw_below_drewN | apply below_drew1) | exact HB.out)⟩
      · replace c8 := Bool.eq_false_iff.mpr c8
        subst c8
        have H1 : (if a1 = 0 then (ledgers_Open.j1 kj2 l0 a1 (l0.length : Int) true) else (if (l0.length : Int) > 0 then (if 0 ≤ (wrap64 ((l0.length : Int) - 1)) then (if (wrap64 ((l0.length : Int) - 1)) < (l0.length : Int) then (ledgers_Open.j1 kj2 l0 a1 (l0.length : Int) (decide (((rd_T32 l0 (wrap64 ((l0.length : Int) - 1))).f0) ≥ a1))) else (none)) else (none)) else (ledgers_Open.j1 kj2 l0 a1 (l0.length : Int) false))) = some (r1, r2) := by rw [if_neg (show ¬ (false = true) by decide)] at H; exact H
        clear H
        have H := H1
        clear H1
        have HC9 := Aside0.mk H
        clear H
        go_upto_region 4 with (fail)
        go_cut [21] (fun v21 wc => ∃ (kq : Nat) (x21_8 : Bool), v21 = .bool x21_8 ∧ Aside0 (ledgers_Open.j1 kq l0 a1 (l0.length : Int) x21_8 = some (r1, r2)) ∧ Aside0 (kq ≤ kj2) ∧ Aside0 (Below w.heap.size w wc))
        case first =>
          have H := HC9.out
          clear HC9
          by_cases c10 : a1 = 0
          · rw [if_pos c10] at H
            have c10b0 : (a1 == 0) = true := beq_iff_eq.mpr c10
            have c10b1 : (a1 != 0) = false := bne_eq_false_iff_eq.mpr c10
            clear c10
            (first | rw [c10b0] | (simp only [i64_w, i32_w]; rw [c10b0]) | skip)
            as_aux_lemma =>
              have H' := Aside0.mk H
              clear H
              go_wp2
              go_meet
              case rel => exact ⟨_, (true), (by first | rfl | (simp; done) | (simp [*]; done)), H', ⟨by have := HJ2.out; first | omega | exact Nat.le_refl _⟩, ⟨by repeat (first | (with_reducible first | exact HB.out | apply below_alloc | apply pw_below_drewN | apply below_drew1) | exact HB.out)⟩⟩
          · rw [if_neg c10] at H
            have c10b0 : (a1 == 0) = false := beq_eq_false_iff_ne.mpr c10
            have c10b1 : (a1 != 0) = true := bne_iff_ne.mpr c10
            (first | rw [c10b0] | (simp only [i64_w, i32_w]; rw [c10b0]) | skip)
            by_cases c11 : (l0.length : Int) > 0
            · rw [if_pos c11] at H
              have c11b0 : decide (0 < (l0.length : Int)) = true := decide_eq_true c11
              have c11b1 : decide (0 < l0.length) = true := decide_eq_true (by omega)
              clear c11
              obtain ⟨ji12, hji12⟩ : ∃ j_ : Int, (wrap64 ((l0.length : Int) - 1)) = j_ := ⟨_, rfl⟩
              replace H : (if 0 ≤ (ji12) then (if (ji12) < (l0.length : Int) then (ledgers_Open.j1 kj2 l0 a1 (l0.length : Int) (decide (((rd_T32 l0 (ji12)).f0) ≥ a1))) else (none)) else (none)) = some (r1, r2) := by first | (rw [hji12] at H; exact H) | (simp only [hji12] at H ⊢; exact H)
              have hji12w : (IntKind.i64.wrap ((l0.length : Int) - 1)) = ji12 := (i64_w _).trans hji12
              by_cases c13 : 0 ≤ (ji12)
              · rw [if_pos c13] at H
                have c13b0 : decide (0 ≤ (ji12)) = true := decide_eq_true c13
                clear c13
                by_cases c14 : (ji12) < (l0.length : Int)
                · rw [if_pos c14] at H
                  have c14b0 : decide ((ji12) < (l0.length : Int)) = true := decide_eq_true c14
                  clear c14
                  as_aux_lemma =>
                    have H' := Aside0.mk H
                    clear H
                    have p155 : 0 ≤ ((ji12) : Int) := of_decide_eq_true (by first | (with_reducible assumption) | assumption)
                    have q155 : (ji12) < (l0.length : Int) := of_decide_eq_true (by first | (with_reducible assumption) | assumption)
                    obtain ⟨ad155, e155, hx155_0, hx155_1, hx155_2⟩ := at_T32 HR0.out (ji12) p155 q155
                    cases e155
                    replace hx155_0 := (HB.out.cell (World.block_lt_of_cell? w _ hx155_0)).trans hx155_0
                    replace hx155_1 := (HB.out.cell (World.block_lt_of_cell? w _ hx155_1)).trans hx155_1
                    replace hx155_2 := (HB.out.cell (World.block_lt_of_cell? w _ hx155_2)).trans hx155_2
                    replace p155 := eq_true p155
                    replace q155 := eq_true q155
                    go_wp2
                    go_meet
                    case rel => exact ⟨_, (decide (((rd_T32 l0 (ji12)).f0) ≥ a1)), (by first | rfl | (simp; done) | (simp only [← hji12] <;> (first | rfl | simp)) | (simp [*]; done)), H', ⟨by have := HJ2.out; first | omega | exact Nat.le_refl _⟩, ⟨by repeat (first | (with_reducible first | exact HB.out | apply below_alloc | apply pw_below_drewN | apply below_drew1) | exact HB.out)⟩⟩
                · rw [if_neg c14] at H
                  exact absurd H (by simp)
              · rw [if_neg c13] at H
                exact absurd H (by simp)
            · rw [if_neg c11] at H
              have c11b0 : decide (0 < (l0.length : Int)) = false := decide_eq_false c11
              have c11b1 : decide (0 < l0.length) = false := decide_eq_false (by omega)
              clear c11
              as_aux_lemma =>
                have H' := Aside0.mk H
                clear H
                go_wp2
                go_meet
                case rel => exact ⟨_, (false), (by first | rfl | (simp; done) | (simp [*]; done)), H', ⟨by have := HJ2.out; first | omega | exact Nat.le_refl _⟩, ⟨by repeat (first | (with_reducible first | exact HB.out | apply below_alloc | apply pw_below_drewN | apply below_drew1) | exact HB.out)⟩⟩
        case rest =>
          clear HC9
          try clear c1
          try clear p1
          try clear q1
          try clear hx1
          try clear p2
          try clear c4
          try clear c4b0
          try clear c4b1
          try clear c6
          try clear c6b0
          try clear p6
          try clear c7
          try clear c7b0
          try clear c8
          try clear c10
          try clear c10b0
          try clear c10b1
          try clear c11
          try clear c11b0
          try clear c11b1
          try clear c13
          try clear c13b0
          try clear c14
          try clear c14b0
          try clear hx154_0
          try clear hx154_1
          try clear hx154_2
          try clear hx155_0
          try clear hx155_1
          try clear hx155_2
          try clear p1
          try clear p154
          try clear p155
          try clear p2
          try clear p6
          try clear q1
          try clear q154
          try clear q155
          obtain ⟨kq, x21_8, rfl, HA, HJ8, HB⟩ := hcut
          cases kq with
          | zero => exact absurd HA.out (by simp [ledgers_Open.j1])
          | succ kj8 =>
            have H := HA.out
            clear HA
            simp only [ledgers_Open.j1] at H
            by_cases c15 : x21_8 = true
            · subst c15
              have H1 : (some (([] : List (S32)), 30)) = some (r1, r2) := by rw [if_pos rfl] at H; exact H
              clear H
              have H := H1
              clear H1
              as_aux_lemma =>
                simp only [Option.some.injEq, Prod.mk.injEq] at H
                obtain ⟨rfl, rfl⟩ := H
                go_wp2
                go_ret2
                exact ⟨_, by first | rfl | (simp [errW_none, errW_some] <;> rfl) | (simp [*, errW_none, errW_some] <;> rfl), by first | exact Kd.R_nil _ _ _ _ _ | exact Kd.N_nil _ _ _ _ _ | exact Kd.V_nil _ _ _ _ _ | exact Kd.Q_nil _ _ _ _ _ | exact Kd.S_nil _ _ _ _ _, by repeat (first | (with_reducible first | exact HB.out | apply below_alloc | apply pw_below_drewN | apply below_drew1) | exact HB.out)⟩
            · replace c15 := Bool.eq_false_iff.mpr c15
              subst c15
              have H1 : (if (l0.length : Int) ≥ 64 then (some (([] : List (S32)), 14)) else ((api_Ledger.f l0).bind fun t156 => (if t156.length < 5864062014805 then (some ((t156 ++ [(⟨a1, false, 0⟩ : S32)]), 0)) else (none)))) = some (r1, r2) := by rw [if_neg (show ¬ (false = true) by decide)] at H; exact H
              clear H
              have H := H1
              clear H1
              by_cases c16 : (l0.length : Int) ≥ 64
              · rw [if_pos c16] at H
                have c16b0 : decide (64 ≤ (l0.length : Int)) = true := decide_eq_true c16
                have c16b1 : decide (64 ≤ l0.length) = true := decide_eq_true (by omega)
                clear c16
                as_aux_lemma =>
                  simp only [Option.some.injEq, Prod.mk.injEq] at H
                  obtain ⟨rfl, rfl⟩ := H
                  go_wp2
                  go_ret2
                  exact ⟨_, by first | rfl | (simp [errW_none, errW_some] <;> rfl) | (simp [*, errW_none, errW_some] <;> rfl), by first | exact Kd.R_nil _ _ _ _ _ | exact Kd.N_nil _ _ _ _ _ | exact Kd.V_nil _ _ _ _ _ | exact Kd.Q_nil _ _ _ _ _ | exact Kd.S_nil _ _ _ _ _, by repeat (first | (with_reducible first | exact HB.out | apply below_alloc | apply pw_below_drewN | apply below_drew1) | exact HB.out)⟩
              · rw [if_neg c16] at H
                have c16b0 : decide (64 ≤ (l0.length : Int)) = false := decide_eq_false c16
                have c16b1 : decide (64 ≤ l0.length) = false := decide_eq_false (by omega)
                clear c16
                replace H := Option.bind_eq_some_iff.mp H
                obtain ⟨t156, A170, H⟩ := H
                replace H : (if t156.length < 5864062014805 then (some ((t156 ++ [(⟨a1, false, 0⟩ : S32)]), 0)) else (none)) = some (r1, r2) := H
                have A17 := Aside0.mk A170
                clear A170
                by_cases c18 : t156.length < 5864062014805
                · rw [if_pos c18] at H
                  have LMc18 := Aside0.mk c18
                  clear c18
                  obtain ⟨y159, hy159⟩ : ∃ y_ : List (S32), y_ = (t156 ++ [(⟨a1, false, 0⟩ : S32)]) := ⟨_, rfl⟩
                  replace H : (some (y159, 0)) = some (r1, r2) := by first | (rw [hy159]; with_reducible exact H) | (have H2_ := (Option.bind_some _ _).symm.trans H; rw [hy159]; with_reducible exact H2_) | (have H2_ := (Option.bind_some _ _).symm.trans H; with_reducible exact H2_) | with_reducible exact H | (rw [hy159]; exact H) | exact H
                  have Ny159 := Aside0.mk hy159
                  clear hy159
                  as_aux_lemma =>
                    simp only [Option.some.injEq, Prod.mk.injEq] at H
                    obtain ⟨rfl, rfl⟩ := H
                    go_wp2_with (first | ((with_reducible refine gate_callee (f := 30) rfl ?_); refine goesL_ (some 42) rfl rfl Try.func30 (by kernel_rfl) rfl #[.slice A0 l0.length c0] rfl (by (try simp only [List.map_toArray, List.map_cons, List.map_nil]); first | done | rfl | (simp only [List.length_drop, List.length_take]; rfl)) ?_; (with_reducible refine (api_Ledger.calls _ _ l0 t156 _ ?side1 ?side2 A17.out).mono ?_); (case side1 => repeat (first | exact (Kd.C_below HR0.out HB.out) | (with_reducible refine Kd.C_alloc ?_ _) | (with_reducible refine Kd.C_drewN ?_ _) | (with_reducible refine Kd.C_drew ?_))); (case side2 => exact HC0.out); rintro e w19 ⟨v157, rfl, ho0, hb⟩; refine ⟨_, rfl, ?_⟩; have n0_ := Aside0.mk (Kd.R_lower ho0 (below_size (by repeat (first | (with_reducible first | exact HB.out | apply below_alloc | apply pw_below_drewN | apply below_drew1) | exact HB.out)))); have n1_ := Aside0.mk (below_step (by repeat (first | (with_reducible first | exact HB.out | apply below_alloc | apply pw_below_drewN | apply below_drew1) | exact HB.out)) hb); clear HB; have HO158 := n0_; have HB := n1_; clear n0_ n1_; (try clear hb); (try clear hb2); (try clear hk); (try clear hi); (try clear ho0)) | ((with_reducible refine gate_builtin (b := .append) (xs := #[.tmp 42, .tmp 45]) rfl ?_); at_builtin; refine Kd.R_append k32 (w0 := w) w.heap.size rfl (.tmp 42) (.tmp 45) 22 32 (.agg #[(.int .u64 0), (.bool false), (.int .u64 0)]) 24 rfl Try.underlying22 info32 rfl (by decide) (by omega) v157 t156 (⟨a1, false, 0⟩ : S32) [.int .u64 a1, .bool false, .int .u64 0] (fun _ => True) (fun _ => False) rfl rfl ?aP (fun _ hk => hk.elim) ?aF ?aO ?aB ?aS ?aL ?_; (case aP => exact k32_mkM _ _ _ (⟨a1, false, 0⟩ : S32)); (case aB => exact (by repeat (first | (with_reducible first | exact HB.out | apply below_alloc | apply pw_below_drewN | apply below_drew1) | exact HB.out))); (case aF => exact (fun _ _ => trivial)); (case aO => exact (by (with_reducible repeat (first | apply Kd.R_alloc | apply Kd.R_drewN | apply Kd.R_drew)); exact HO158.out)); (case aS => exact (below_size (by repeat (first | (with_reducible first | exact HB.out | apply below_alloc | apply pw_below_drewN | apply below_drew1) | exact HB.out)))); (case aL => have := LMc18.out; omega); intro v160 w20 ho hb hg hat; rw [← Ny159.out] at ho; have n0_ := Aside0.mk (hb); have n1_ := Aside0.mk (ho); clear HB; clear HO158; have HB := n0_; have HO161 := n1_; clear n0_ n1_; clear ho hb hg hat))
                    go_ret2
                    exact ⟨_, by first | rfl | (simp [errW_none, errW_some] <;> rfl) | (simp [*, errW_none, errW_some] <;> rfl), by (with_reducible repeat (first | apply Kd.R_alloc | apply Kd.R_drewN | apply Kd.R_drew)); exact HO161.out, by repeat (first | (with_reducible first | exact HB.out | apply below_alloc | apply pw_below_drewN | apply below_drew1) | exact HB.out)⟩
                · rw [if_neg c18] at H
                  exact absurd H (by simp)

/-! ### ledgers_Close: function 14 -/
def ledgers_Close.j0 : Nat → List (S32) → Int → Int → Bool → Option ((List (S32)) × Int)
  | 0, _, _, _, _ => none
  | k + 1, x0, x1, x6, x10 => if x10 = true then (some (([] : List (S32)), 23)) else (if x1 > 1048576 then (some (([] : List (S32)), 14)) else ((api_Ledger.f x0).bind fun t163 => (if 0 ≤ (wrap64 (x6 - 1)) then (if (wrap64 (x6 - 1)) < (t163.length : Int) then ((some (t163.set ((wrap64 (x6 - 1)) : Int).toNat (⟨(rd_T32 t163 (wrap64 (x6 - 1))).f0, true, (rd_T32 t163 (wrap64 (x6 - 1))).f2⟩ : S32) : List (S32))).bind fun y166 => (some ((y166.set ((wrap64 (x6 - 1)) : Int).toNat (⟨(rd_T32 y166 (wrap64 (x6 - 1))).f0, (rd_T32 y166 (wrap64 (x6 - 1))).f1, x1⟩ : S32)), 0))) else (none)) else (none))))
def ledgers_Close.f (k : Nat) (l0 : List (S32)) (a1 : Int) : Option ((List (S32)) × Int) := if (l0.length : Int) = 0 then (ledgers_Close.j0 k l0 a1 (l0.length : Int) true) else (if 0 ≤ (wrap64 ((l0.length : Int) - 1)) then (if (wrap64 ((l0.length : Int) - 1)) < (l0.length : Int) then (ledgers_Close.j0 k l0 a1 (l0.length : Int) ((rd_T32 l0 (wrap64 ((l0.length : Int) - 1))).f1)) else (none)) else (none))
theorem ledgers_Close.mono_l : ∀ k, (∀ y0 y1 y2 y3, LeO (ledgers_Close.j0 k y0 y1 y2 y3) (ledgers_Close.j0 (k + 1) y0 y1 y2 y3))
  | 0 => fun _ _ _ _ r h => by simp [ledgers_Close.j0] at h
  | k + 1 => by
    have ih0 := ledgers_Close.mono_l k
    · intro y0 y1 y2 y3
      unfold ledgers_Close.j0
      repeat' first
      | (with_reducible exact ih0 _ _ _ _)
      | (with_reducible exact LeO.refl _)
      | (with_reducible exact LeO.none _)
      | (with_reducible refine LeO.ite ?_ ?_)
      | (with_reducible refine LeO.bind ?_ (fun _ => ?_))
      | exact ih0 _ _ _ _
      | exact LeO.none _
      | refine LeO.ite ?_ ?_
      | refine LeO.bind ?_ (fun _ => ?_)
theorem ledgers_Close.mono : ∀ a0 a1 k, LeO (ledgers_Close.f k a0 a1) (ledgers_Close.f (k + 1) a0 a1) := by
  intro a0 a1 k
  have ih0 := ledgers_Close.mono_l k
  unfold ledgers_Close.f
  repeat' first
      | (with_reducible exact ih0 _ _ _ _)
      | (with_reducible exact LeO.refl _)
      | (with_reducible exact LeO.none _)
      | (with_reducible refine LeO.ite ?_ ?_)
      | (with_reducible refine LeO.bind ?_ (fun _ => ?_))
      | exact ih0 _ _ _ _
      | exact LeO.none _
      | refine LeO.ite ?_ ?_
      | refine LeO.bind ?_ (fun _ => ?_)
set_option maxHeartbeats 8000000 in
set_option maxRecDepth 100000 in
theorem ledgers_Close.calls (k : Nat) (A0 : Option Addr) (c0 : Nat) (l0 : List (S32)) (a1 : Int) (r1 : List (S32)) (r2 : Int) (w : World) (hr0 : Kd.C k32 w A0 l0.length l0) (hc0 : l0.length ≤ c0) (h : ledgers_Close.f k l0 a1 = some (r1, r2)) :
    Calls Try.prog 14 #[.slice A0 l0.length c0, .int .u64 a1] w fun e w' => ∃ v0_ : Value, e = .returned (.tuple #[v0_, .int .i64 r2]) ∧ Kd.R k32 32 w' w.heap.size (fun _ => True) v0_ r1 ∧ Below w.heap.size w w' := by
  have HR0 := Aside0.mk hr0
  have HC0 := Aside0.mk hc0
  clear hr0 hc0
  have HB := Aside0.mk (Below.refl w.heap.size w)
  have H : (if (l0.length : Int) = 0 then (ledgers_Close.j0 k l0 a1 (l0.length : Int) true) else (if 0 ≤ (wrap64 ((l0.length : Int) - 1)) then (if (wrap64 ((l0.length : Int) - 1)) < (l0.length : Int) then (ledgers_Close.j0 k l0 a1 (l0.length : Int) ((rd_T32 l0 (wrap64 ((l0.length : Int) - 1))).f1)) else (none)) else (none))) = some (r1, r2) := h
  clear h
  have HC3 := Aside0.mk H
  clear H
  go_enter Try.func14, Try.ntmps14
  go_upto_region 2 with (fail)
  go_cut [10] (fun v10 wc => ∃ (kq : Nat) (x10_2 : Bool), v10 = .bool x10_2 ∧ Aside0 (ledgers_Close.j0 kq l0 a1 (l0.length : Int) x10_2 = some (r1, r2)) ∧ Aside0 (kq ≤ k) ∧ Aside0 (Below w.heap.size w wc))
  case first =>
    have H := HC3.out
    clear HC3
    by_cases c4 : (l0.length : Int) = 0
    · rw [if_pos c4] at H
      have c4b0 : ((l0.length : Int) == 0) = true := beq_iff_eq.mpr c4
      have c4b1 : ((l0.length : Int) != 0) = false := bne_eq_false_iff_eq.mpr c4
      clear c4
      (first | rw [c4b0] | (simp only [i64_w, i32_w]; rw [c4b0]) | skip)
      as_aux_lemma =>
        have H' := Aside0.mk H
        clear H
        go_wp2
        go_meet
        case rel => exact ⟨_, (true), (by first | rfl | (simp; done) | (simp [*]; done)), H', ⟨by first | omega | exact Nat.le_refl _⟩, ⟨by repeat (first | (with_reducible first | exact HB.out | apply below_alloc | apply pw_below_drewN | apply below_drew1) | exact HB.out)⟩⟩
    · rw [if_neg c4] at H
      have c4b0 : ((l0.length : Int) == 0) = false := beq_eq_false_iff_ne.mpr c4
      have c4b1 : ((l0.length : Int) != 0) = true := bne_iff_ne.mpr c4
      have c4b2 : ¬ (l0 = []) := fun h_ => c4 (by rw [h_]; rfl)
      (first | rw [c4b0] | (simp only [i64_w, i32_w]; rw [c4b0]) | skip)
      obtain ⟨ji5, hji5⟩ : ∃ j_ : Int, (wrap64 ((l0.length : Int) - 1)) = j_ := ⟨_, rfl⟩
      replace H : (if 0 ≤ (ji5) then (if (ji5) < (l0.length : Int) then (ledgers_Close.j0 k l0 a1 (l0.length : Int) ((rd_T32 l0 (ji5)).f1)) else (none)) else (none)) = some (r1, r2) := by first | (rw [hji5] at H; exact H) | (simp only [hji5] at H ⊢; exact H)
      have hji5w : (IntKind.i64.wrap ((l0.length : Int) - 1)) = ji5 := (i64_w _).trans hji5
      by_cases c6 : 0 ≤ (ji5)
      · rw [if_pos c6] at H
        have c6b0 : decide (0 ≤ (ji5)) = true := decide_eq_true c6
        clear c6
        by_cases c7 : (ji5) < (l0.length : Int)
        · rw [if_pos c7] at H
          have c7b0 : decide ((ji5) < (l0.length : Int)) = true := decide_eq_true c7
          clear c7
          as_aux_lemma =>
            have H' := Aside0.mk H
            clear H
            have p162 : 0 ≤ ((ji5) : Int) := of_decide_eq_true (by first | (with_reducible assumption) | assumption)
            have q162 : (ji5) < (l0.length : Int) := of_decide_eq_true (by first | (with_reducible assumption) | assumption)
            obtain ⟨ad162, e162, hx162_0, hx162_1, hx162_2⟩ := at_T32 HR0.out (ji5) p162 q162
            cases e162
            replace hx162_0 := (HB.out.cell (World.block_lt_of_cell? w _ hx162_0)).trans hx162_0
            replace hx162_1 := (HB.out.cell (World.block_lt_of_cell? w _ hx162_1)).trans hx162_1
            replace hx162_2 := (HB.out.cell (World.block_lt_of_cell? w _ hx162_2)).trans hx162_2
            replace p162 := eq_true p162
            replace q162 := eq_true q162
            go_wp2
            go_meet
            case rel => exact ⟨_, ((rd_T32 l0 (ji5)).f1), (by first | rfl | (simp; done) | (simp only [← hji5] <;> (first | rfl | simp)) | (simp [*]; done)), H', ⟨by first | omega | exact Nat.le_refl _⟩, ⟨by repeat (first | (with_reducible first | exact HB.out | apply below_alloc | apply pw_below_drewN | apply below_drew1) | exact HB.out)⟩⟩
        · rw [if_neg c7] at H
          exact absurd H (by simp)
      · rw [if_neg c6] at H
        exact absurd H (by simp)
  case rest =>
    clear HC3
    try clear c1
    try clear p1
    try clear q1
    try clear hx1
    try clear p2
    try clear c4
    try clear c4b0
    try clear c4b1
    try clear c4b2
    try clear c6
    try clear c6b0
    try clear p6
    try clear c7
    try clear c7b0
    try clear hx162_0
    try clear hx162_1
    try clear hx162_2
    try clear p162
    try clear q162
    obtain ⟨kq, x10_2, rfl, HA, HJ2, HB⟩ := hcut
    cases kq with
    | zero => exact absurd HA.out (by simp [ledgers_Close.j0])
    | succ kj2 =>
      have H := HA.out
      clear HA
      simp only [ledgers_Close.j0] at H
      by_cases c8 : x10_2 = true
      · subst c8
        have H1 : (some (([] : List (S32)), 23)) = some (r1, r2) := by rw [if_pos rfl] at H; exact H
        clear H
        have H := H1
        clear H1
        as_aux_lemma =>
          simp only [Option.some.injEq, Prod.mk.injEq] at H
          obtain ⟨rfl, rfl⟩ := H
          go_wp2
          go_ret2
          exact ⟨_, by first | rfl | (simp [errW_none, errW_some] <;> rfl) | (simp [*, errW_none, errW_some] <;> rfl), by first | exact Kd.R_nil _ _ _ _ _ | exact Kd.N_nil _ _ _ _ _ | exact Kd.V_nil _ _ _ _ _ | exact Kd.Q_nil _ _ _ _ _ | exact Kd.S_nil _ _ _ _ _, by repeat (first | (with_reducible first | exact HB.out | apply below_alloc | apply pw_below_drewN | apply below_drew1) | exact HB.out)⟩
      · replace c8 := Bool.eq_false_iff.mpr c8
        subst c8
        have H1 : (if a1 > 1048576 then (some (([] : List (S32)), 14)) else ((api_Ledger.f l0).bind fun t163 => (if 0 ≤ (wrap64 ((l0.length : Int) - 1)) then (if (wrap64 ((l0.length : Int) - 1)) < (t163.length : Int) then ((some (t163.set ((wrap64 ((l0.length : Int) - 1)) : Int).toNat (⟨(rd_T32 t163 (wrap64 ((l0.length : Int) - 1))).f0, true, (rd_T32 t163 (wrap64 ((l0.length : Int) - 1))).f2⟩ : S32) : List (S32))).bind fun y166 => (some ((y166.set ((wrap64 ((l0.length : Int) - 1)) : Int).toNat (⟨(rd_T32 y166 (wrap64 ((l0.length : Int) - 1))).f0, (rd_T32 y166 (wrap64 ((l0.length : Int) - 1))).f1, a1⟩ : S32)), 0))) else (none)) else (none)))) = some (r1, r2) := by rw [if_neg (show ¬ (false = true) by decide)] at H; exact H
        clear H
        have H := H1
        clear H1
        by_cases c9 : a1 > 1048576
        · rw [if_pos c9] at H
          have c9b0 : decide (1048576 < a1) = true := decide_eq_true c9
          clear c9
          as_aux_lemma =>
            simp only [Option.some.injEq, Prod.mk.injEq] at H
            obtain ⟨rfl, rfl⟩ := H
            go_wp2
            go_ret2
            exact ⟨_, by first | rfl | (simp [errW_none, errW_some] <;> rfl) | (simp [*, errW_none, errW_some] <;> rfl), by first | exact Kd.R_nil _ _ _ _ _ | exact Kd.N_nil _ _ _ _ _ | exact Kd.V_nil _ _ _ _ _ | exact Kd.Q_nil _ _ _ _ _ | exact Kd.S_nil _ _ _ _ _, by repeat (first | (with_reducible first | exact HB.out | apply below_alloc | apply pw_below_drewN | apply below_drew1) | exact HB.out)⟩
        · rw [if_neg c9] at H
          have c9b0 : decide (1048576 < a1) = false := decide_eq_false c9
          clear c9
          replace H := Option.bind_eq_some_iff.mp H
          obtain ⟨t163, A100, H⟩ := H
          replace H : (if 0 ≤ (wrap64 ((l0.length : Int) - 1)) then (if (wrap64 ((l0.length : Int) - 1)) < (t163.length : Int) then ((some (t163.set ((wrap64 ((l0.length : Int) - 1)) : Int).toNat (⟨(rd_T32 t163 (wrap64 ((l0.length : Int) - 1))).f0, true, (rd_T32 t163 (wrap64 ((l0.length : Int) - 1))).f2⟩ : S32) : List (S32))).bind fun y166 => (some ((y166.set ((wrap64 ((l0.length : Int) - 1)) : Int).toNat (⟨(rd_T32 y166 (wrap64 ((l0.length : Int) - 1))).f0, (rd_T32 y166 (wrap64 ((l0.length : Int) - 1))).f1, a1⟩ : S32)), 0))) else (none)) else (none)) = some (r1, r2) := H
          have A10 := Aside0.mk A100
          clear A100
          obtain ⟨ji11, hji11⟩ : ∃ j_ : Int, (wrap64 ((l0.length : Int) - 1)) = j_ := ⟨_, rfl⟩
          replace H : (if 0 ≤ (ji11) then (if (ji11) < (t163.length : Int) then ((some (t163.set ((ji11) : Int).toNat (⟨(rd_T32 t163 (ji11)).f0, true, (rd_T32 t163 (ji11)).f2⟩ : S32) : List (S32))).bind fun y166 => (some ((y166.set ((ji11) : Int).toNat (⟨(rd_T32 y166 (ji11)).f0, (rd_T32 y166 (ji11)).f1, a1⟩ : S32)), 0))) else (none)) else (none)) = some (r1, r2) := by first | (rw [hji11] at H; exact H) | (simp only [hji11] at H ⊢; exact H)
          (try rw [hji11] at A10)
          have hji11w : (IntKind.i64.wrap ((l0.length : Int) - 1)) = ji11 := (i64_w _).trans hji11
          by_cases c12 : 0 ≤ (ji11)
          · rw [if_pos c12] at H
            have c12b0 : decide (0 ≤ (ji11)) = true := decide_eq_true c12
            clear c12
            by_cases c13 : (ji11) < (t163.length : Int)
            · rw [if_pos c13] at H
              have c13b0 : decide ((ji11) < (t163.length : Int)) = true := decide_eq_true c13
              clear c13
              obtain ⟨y166, hy166⟩ : ∃ y_ : List (S32), y_ = (t163.set ((ji11) : Int).toNat (⟨(rd_T32 t163 (ji11)).f0, true, (rd_T32 t163 (ji11)).f2⟩ : S32)) := ⟨_, rfl⟩
              replace H : (some ((y166.set ((ji11) : Int).toNat (⟨(rd_T32 y166 (ji11)).f0, (rd_T32 y166 (ji11)).f1, a1⟩ : S32)), 0)) = some (r1, r2) := by first | (rw [hy166]; with_reducible exact H) | (have H2_ := (Option.bind_some _ _).symm.trans H; rw [hy166]; with_reducible exact H2_) | (have H2_ := (Option.bind_some _ _).symm.trans H; with_reducible exact H2_) | with_reducible exact H | (rw [hy166]; exact H) | exact H
              have Ny166 := Aside0.mk hy166
              clear hy166
              obtain ⟨y167, hy167⟩ : ∃ y_ : List (S32), y_ = (y166.set ((ji11) : Int).toNat (⟨(rd_T32 y166 (ji11)).f0, (rd_T32 y166 (ji11)).f1, a1⟩ : S32)) := ⟨_, rfl⟩
              replace H : (some (y167, 0)) = some (r1, r2) := by first | (rw [hy167]; with_reducible exact H) | (have H2_ := (Option.bind_some _ _).symm.trans H; rw [hy167]; with_reducible exact H2_) | (have H2_ := (Option.bind_some _ _).symm.trans H; with_reducible exact H2_) | with_reducible exact H | (rw [hy167]; exact H) | exact H
              have Ny167 := Aside0.mk hy167
              clear hy167
              as_aux_lemma =>
                simp only [Option.some.injEq, Prod.mk.injEq] at H
                obtain ⟨rfl, rfl⟩ := H
                go_wp2_with (first | ((with_reducible refine gate_callee (f := 30) rfl ?_); refine goesL_ (some 25) rfl rfl Try.func30 (by kernel_rfl) rfl #[.slice A0 l0.length c0] rfl (by (try simp only [List.map_toArray, List.map_cons, List.map_nil]); first | done | rfl | (simp only [List.length_drop, List.length_take]; rfl)) ?_; (with_reducible refine (api_Ledger.calls _ _ l0 t163 _ ?side1 ?side2 A10.out).mono ?_); (case side1 => repeat (first | exact (Kd.C_below HR0.out HB.out) | (with_reducible refine Kd.C_alloc ?_ _) | (with_reducible refine Kd.C_drewN ?_ _) | (with_reducible refine Kd.C_drew ?_))); (case side2 => exact HC0.out); rintro e w16 ⟨v164, rfl, ho0, hb⟩; refine ⟨_, rfl, ?_⟩; have n0_ := Aside0.mk (Kd.R_lower ho0 (below_size (by repeat (first | (with_reducible first | exact HB.out | apply below_alloc | apply pw_below_drewN | apply below_drew1) | exact HB.out)))); have n1_ := Aside0.mk (below_step (by repeat (first | (with_reducible first | exact HB.out | apply below_alloc | apply pw_below_drewN | apply below_drew1) | exact HB.out)) hb); clear HB; have HO165 := n0_; have HB := n1_; clear n0_ n1_; (try clear hb); (try clear hb2); (try clear hk); (try clear hi); (try clear ho0); have p14 : 0 ≤ ((ji11) : Int) := of_decide_eq_true (by first | (with_reducible assumption) | assumption); have q14 : ((ji11) : Int) < ((t163.length : Int) : Int) := of_decide_eq_true (by first | (with_reducible assumption) | assumption); obtain ⟨go14, co14, eo14, gb14, gl14, cl14, HG14⟩ := Kd.R_form HO165.out (by omega); (first | cases eo14 | (injection eo14 with ea_ en_ ec_; (first | subst ea_ | (injection ea_ with ea_; subst ea_)); subst ec_; clear en_)); have GB14 := Aside0.mk gb14; have GG14 := Aside0.mk HG14; clear gb14 gl14 HG14; obtain ⟨ce14, hcl14, hM14, hcc14, hfr14⟩ := Kd.R_elem HO165.out z32 ((ji11) : Int) p14 q14; obtain rfl := k32_openM hM14; have hx14_0 : w16.cell? ⟨go14, ((ji11) : Int).toNat * 3, none⟩ = some (.int .u64 ((rd_T32 t163 (ji11)).f0)) := hcc14 0 _ rfl; have hx14_1 : w16.cell? ⟨go14, ((ji11) : Int).toNat * 3 + 1, none⟩ = some (.bool ((rd_T32 t163 (ji11)).f1)) := hcc14 1 _ rfl; have hx14_2 : w16.cell? ⟨go14, ((ji11) : Int).toNat * 3 + 2, none⟩ = some (.int .u64 ((rd_T32 t163 (ji11)).f2)) := hcc14 2 _ rfl; have hf14_0 : w16.frozen? ⟨go14, ((ji11) : Int).toNat * 3, none⟩ = false := hfr14 0; have hf14_1 : w16.frozen? ⟨go14, ((ji11) : Int).toNat * 3 + 1, none⟩ = false := hfr14 1; have hf14_2 : w16.frozen? ⟨go14, ((ji11) : Int).toNat * 3 + 2, none⟩ = false := hfr14 2; clear hcl14 hcc14 hfr14 hM14; replace p14 := eq_true p14; replace q14 := eq_true q14; have HX17 := Aside0.mk (show Kd.R k32 32 w16 w.heap.size (fun _ => True) (.slice (some ⟨go14, 0, none⟩) t163.length co14) t163 from (by (with_reducible repeat (first | apply Kd.R_alloc | apply Kd.R_drewN | apply Kd.R_drew)); exact HO165.out)); obtain ⟨ce17, hcl17, hM17, hcc17, hfr17⟩ := Kd.R_elem HX17.out z32 ((ji11) : Int) (of_decide_eq_true (by first | (with_reducible assumption) | assumption)) (by have h_ : ((ji11) : Int) < ((t163.length : Int) : Int) := of_decide_eq_true (by first | (with_reducible assumption) | assumption); first | exact h_ | (have e_ := (Kd.R_reads' HO165.out).1; omega) | simpa using h_); obtain rfl := k32_openM hM17; have HP17 := Kd.R_seg HX17.out ((ji11) : Int) (of_decide_eq_true (by first | (with_reducible assumption) | assumption)) (by have h_ : ((ji11) : Int) < ((t163.length : Int) : Int) := of_decide_eq_true (by first | (with_reducible assumption) | assumption); first | exact h_ | (have e_ := (Kd.R_reads' HO165.out).1; omega) | simpa using h_) (seg := [.bool true]) (j := 1) hcl17 hcc17 (show 2 ≤ 3 from by decide) (x' := (⟨(rd_T32 t163 (ji11)).f0, true, (rd_T32 t163 (ji11)).f2⟩ : S32)) (k32_mkM _ _ _ (⟨(rd_T32 t163 (ji11)).f0, true, (rd_T32 t163 (ji11)).f2⟩ : S32) ) (fun _ hk => hk); have hx17_1 := hcc17 1 _ rfl; (try simp only [show (k32).sz = 3 from rfl, Nat.mul_one, Nat.add_zero] at hx17_1); have hf17_1 := hfr17 1; (try simp only [show (k32).sz = 3 from rfl, Nat.mul_one, Nat.add_zero] at hf17_1); clear hcl17 hcc17 hfr17 hM17) | ((with_reducible refine gate_store (t := 4) (p := 34) rfl ?_); refine store_event (t := 4) (p := 34) (v := ?vo_w18) (w1 := (w16.setCell ⟨go14, ((ji11) : Int).toNat * 3 + 1, none⟩ (.bool true))) ?hg ?ho ?hn ?hr ?_; (case ho => rfl); (case hg => rfl); (case hn => rfl); (case hr => first | (go_simp; done) | (go_simp; rfl)); intro w18 hw; have hg : w16.grownBy w18 (some go14) := (by rw [hw]; exact HP17.2); have hp_ : Kd.R k32 32 w18 w.heap.size (fun _ => True) (.slice (some ⟨go14, 0, none⟩) t163.length co14) y166 := (by rw [hw, Ny166.out]; exact HP17.1); clear HP17; have n0_ := Aside0.mk (hp_); have n1_ := Aside0.mk ((by rw [hw]; exact below_set (HB.out) GB14.out : Below w.heap.size w w18)); clear HO165; clear HB; have HO165 := n0_; have HB := n1_; clear n0_ n1_; clear hg hw hp_; have p15 : 0 ≤ ((ji11) : Int) := of_decide_eq_true (by first | (with_reducible assumption) | assumption); have q15 : ((ji11) : Int) < ((t163.length : Int) : Int) := of_decide_eq_true (by first | (with_reducible assumption) | assumption); obtain ⟨ce15, hcl15, hM15, hcc15, hfr15⟩ := Kd.R_elem HO165.out z32 ((ji11) : Int) p15 q15; obtain rfl := k32_openM hM15; have hx15_0 : w18.cell? ⟨go14, ((ji11) : Int).toNat * 3, none⟩ = some (.int .u64 ((rd_T32 y166 (ji11)).f0)) := hcc15 0 _ rfl; have hx15_1 : w18.cell? ⟨go14, ((ji11) : Int).toNat * 3 + 1, none⟩ = some (.bool ((rd_T32 y166 (ji11)).f1)) := hcc15 1 _ rfl; have hx15_2 : w18.cell? ⟨go14, ((ji11) : Int).toNat * 3 + 2, none⟩ = some (.int .u64 ((rd_T32 y166 (ji11)).f2)) := hcc15 2 _ rfl; have hf15_0 : w18.frozen? ⟨go14, ((ji11) : Int).toNat * 3, none⟩ = false := hfr15 0; have hf15_1 : w18.frozen? ⟨go14, ((ji11) : Int).toNat * 3 + 1, none⟩ = false := hfr15 1; have hf15_2 : w18.frozen? ⟨go14, ((ji11) : Int).toNat * 3 + 2, none⟩ = false := hfr15 2; clear hcl15 hcc15 hfr15 hM15; replace p15 := eq_true p15; replace q15 := eq_true q15; have HX19 := Aside0.mk (show Kd.R k32 32 w18 w.heap.size (fun _ => True) (.slice (some ⟨go14, 0, none⟩) t163.length co14) y166 from (by (with_reducible repeat (first | apply Kd.R_alloc | apply Kd.R_drewN | apply Kd.R_drew)); exact HO165.out)); obtain ⟨ce19, hcl19, hM19, hcc19, hfr19⟩ := Kd.R_elem HX19.out z32 ((ji11) : Int) (of_decide_eq_true (by first | (with_reducible assumption) | assumption)) (by have h_ : ((ji11) : Int) < ((t163.length : Int) : Int) := of_decide_eq_true (by first | (with_reducible assumption) | assumption); first | exact h_ | (have e_ := (Kd.R_reads' HO165.out).1; omega) | simpa using h_); obtain rfl := k32_openM hM19; have HP19 := Kd.R_seg HX19.out ((ji11) : Int) (of_decide_eq_true (by first | (with_reducible assumption) | assumption)) (by have h_ : ((ji11) : Int) < ((t163.length : Int) : Int) := of_decide_eq_true (by first | (with_reducible assumption) | assumption); first | exact h_ | (have e_ := (Kd.R_reads' HO165.out).1; omega) | simpa using h_) (seg := [.int .u64 a1]) (j := 2) hcl19 hcc19 (show 3 ≤ 3 from by decide) (x' := (⟨(rd_T32 y166 (ji11)).f0, (rd_T32 y166 (ji11)).f1, a1⟩ : S32)) (k32_mkM _ _ _ (⟨(rd_T32 y166 (ji11)).f0, (rd_T32 y166 (ji11)).f1, a1⟩ : S32) ) (fun _ hk => hk); have hx19_2 := hcc19 2 _ rfl; (try simp only [show (k32).sz = 3 from rfl, Nat.mul_one, Nat.add_zero] at hx19_2); have hf19_2 := hfr19 2; (try simp only [show (k32).sz = 3 from rfl, Nat.mul_one, Nat.add_zero] at hf19_2); clear hcl19 hcc19 hfr19 hM19) | ((with_reducible refine gate_store (t := 24) (p := 36) rfl ?_); refine store_event (t := 24) (p := 36) (v := ?vo_w20) (w1 := (w18.setCell ⟨go14, ((ji11) : Int).toNat * 3 + 2, none⟩ (.int .u64 a1))) ?hg ?ho ?hn ?hr ?_; (case ho => rfl); (case hg => rfl); (case hn => rfl); (case hr => first | (go_simp; done) | (go_simp; rfl)); intro w20 hw; have hg : w18.grownBy w20 (some go14) := (by rw [hw]; exact HP19.2); have hp_ : Kd.R k32 32 w20 w.heap.size (fun _ => True) (.slice (some ⟨go14, 0, none⟩) t163.length co14) y167 := (by rw [hw, Ny167.out]; exact HP19.1); clear HP19; have n0_ := Aside0.mk (hp_); have n1_ := Aside0.mk ((by rw [hw]; exact below_set (HB.out) GB14.out : Below w.heap.size w w20)); clear HO165; clear HB; have HO165 := n0_; have HB := n1_; clear n0_ n1_; clear hg hw hp_))
                go_ret2
                exact ⟨_, by first | rfl | (simp [errW_none, errW_some] <;> rfl) | (simp only [← hji11]; first | rfl | (simp [errW_none, errW_some] <;> rfl)) | (simp [*, errW_none, errW_some] <;> rfl), by (with_reducible repeat (first | apply Kd.R_alloc | apply Kd.R_drewN | apply Kd.R_drew)); exact HO165.out, by repeat (first | (with_reducible first | exact HB.out | apply below_alloc | apply pw_below_drewN | apply below_drew1) | exact HB.out)⟩
            · rw [if_neg c13] at H
              exact absurd H (by simp)
          · rw [if_neg c12] at H
            exact absurd H (by simp)

end Go.Proofs.Ytmbealldhndeoaa.PLedgersChecks
