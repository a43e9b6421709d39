-- PRINTED BY print.sh 35421559b90ae4d0a3588c463048766b98c2df88dd9212a6774a882060cdf62d: not written by this session
import Derived.Test.YtcjndpmknachhaaPQuorumSpreadx0
import Derived.Test.YtcjndpmknachhaaPQuorumSpreadx1
import Derived.Test.YtcjndpmknachhaaPQuorumSpreadx2
namespace Go.Proofs.Ytcjndpmknachhaa.PQuorumSpread
open Go.RowKit Go.Proofs.YtcjndpmknachhaaW.PrintWords Go.Proofs.YtcjndpmknachhaaW.PrintLast Go.Proofs.YtcjndpmknachhaaW.PrintMore
attribute [local go_sem] max2_int min2_int max_two min_two max_three min_three max_four min_four   -- for this text's walks alone
set_option linter.unusedVariables false
set_option linter.unusedSimpArgs false

/-! ### mailcoachlaw10_QuorumSpread: function 3 -/
mutual
def mailcoachlaw10_QuorumSpread.l0 : Nat → Int → List Int → Int → Int → Int → Int → Int → Option (Bool)
  | 0, _, _, _, _, _, _, _ => none
  | k + 1, x1, x6, x23, x24, x136000, x136001, x136002 => if x24 < x23 then (if 0 ≤ x136000 then (if (x136000 : Int).toNat ≤ 281474976710656 then ((quorum_Set.f k x136000 x136001 x136002 (IntKind.u64.wrap (x1 + (IntKind.u64.wrap (x24))))).bind fun t142 => (mailcoachlaw10_QuorumSpread.l1 k x1 x6 (List.replicate (x136000 : Int).toNat false) x23 x24 t142 (t142.length : Int) 0 x136000 x136001 x136002)) else (none)) else (none)) else (mailcoachlaw10_QuorumSpread.l2 k x6 (x6.length : Int) 0 x136000 x136001 x136002)
def mailcoachlaw10_QuorumSpread.l1 : Nat → Int → List Int → List Bool → Int → Int → List Int → Int → Int → Int → Int → Int → Option (Bool)
  | 0, _, _, _, _, _, _, _, _, _, _, _ => none
  | k + 1, x1, x6, x8, x23, x24, x35, x36, x37, x136000, x136001, x136002 => if x37 < x36 then (if 0 ≤ x37 then (if x37 < (x35.length : Int) then (if (rd x35 x37) < 0 then (some false) else (if (rd x35 x37) ≥ x136000 then (some false) else (if 0 ≤ (rd x35 x37) then (if (rd x35 x37) < (x8.length : Int) then (if rdOf false x8 (rd x35 x37) = true then (some false) else (if (rd x35 x37) < (x6.length : Int) then (mailcoachlaw10_QuorumSpread.l1 k x1 (x6.set ((rd x35 x37) : Int).toNat (wrap64 ((rd x6 (rd x35 x37)) + 1))) (x8.set ((rd x35 x37) : Int).toNat true) x23 x24 x35 x36 (wrap64 (x37 + 1)) x136000 x136001 x136002) else (none))) else (none)) else (none)))) else (none)) else (none)) else (mailcoachlaw10_QuorumSpread.l0 k x1 x6 x23 (wrap64 (x24 + 1)) x136000 x136001 x136002)
def mailcoachlaw10_QuorumSpread.l2 : Nat → List Int → Int → Int → Int → Int → Int → Option (Bool)
  | 0, _, _, _, _, _, _ => none
  | k + 1, x66, x67, x68, x136000, x136001, x136002 => if x68 < x67 then (if 0 ≤ x68 then (if x68 < (x66.length : Int) then (if (rd x66 x68) = x136001 then (mailcoachlaw10_QuorumSpread.l2 k x66 x67 (wrap64 (x68 + 1)) x136000 x136001 x136002) else (some false)) else (none)) else (none)) else (some true)
end
def mailcoachlaw10_QuorumSpread.f (k : Nat) (a0 : Int) (a1 : Int) : Option (Bool) := (mailcoachlaw10_Awake.f k).bind fun t131 => (if t131 = true then ((mailcoachlaw10_Quorum.f a0).bind fun bt132 => (if a1 > 4611686018427387904 then (some true) else (if 0 ≤ bt132.1 then (if (bt132.1 : Int).toNat ≤ 35184372088832 then (mailcoachlaw10_QuorumSpread.l0 k a1 (List.replicate (bt132.1 : Int).toNat 0) bt132.1 0 bt132.1 bt132.2.1 bt132.2.2) else (none)) else (none)))) else (some false))
theorem mailcoachlaw10_QuorumSpread.mono_l : ∀ k, (∀ y0 y1 y2 y3 y4 y5 y6, LeO (mailcoachlaw10_QuorumSpread.l0 k y0 y1 y2 y3 y4 y5 y6) (mailcoachlaw10_QuorumSpread.l0 (k + 1) y0 y1 y2 y3 y4 y5 y6)) ∧ (∀ y0 y1 y2 y3 y4 y5 y6 y7 y8 y9 y10, LeO (mailcoachlaw10_QuorumSpread.l1 k y0 y1 y2 y3 y4 y5 y6 y7 y8 y9 y10) (mailcoachlaw10_QuorumSpread.l1 (k + 1) y0 y1 y2 y3 y4 y5 y6 y7 y8 y9 y10)) ∧ (∀ y0 y1 y2 y3 y4 y5, LeO (mailcoachlaw10_QuorumSpread.l2 k y0 y1 y2 y3 y4 y5) (mailcoachlaw10_QuorumSpread.l2 (k + 1) y0 y1 y2 y3 y4 y5))
  | 0 => ⟨fun _ _ _ _ _ _ _ r h => by simp [mailcoachlaw10_QuorumSpread.l0] at h, fun _ _ _ _ _ _ _ _ _ _ _ r h => by simp [mailcoachlaw10_QuorumSpread.l1] at h, fun _ _ _ _ _ _ r h => by simp [mailcoachlaw10_QuorumSpread.l2] at h⟩
  | k + 1 => by
    obtain ⟨ih0, ih1, ih2⟩ := mailcoachlaw10_QuorumSpread.mono_l k
    refine ⟨?_, ?_, ?_⟩
    · intro y0 y1 y2 y3 y4 y5 y6
      unfold mailcoachlaw10_QuorumSpread.l0
      repeat' first
      | (with_reducible exact ih0 _ _ _ _ _ _ _)
      | (with_reducible exact ih1 _ _ _ _ _ _ _ _ _ _ _)
      | (with_reducible exact ih2 _ _ _ _ _ _)
      | (with_reducible exact mailcoachlaw10_Awake.mono _)
      | (with_reducible exact quorum_Set.mono _ _ _ _ _)
      | (with_reducible exact LeO.refl _)
      | (with_reducible exact LeO.none _)
      | (with_reducible refine LeO.ite ?_ ?_)
      | (with_reducible refine LeO.bind ?_ (fun _ => ?_))
      | exact ih0 _ _ _ _ _ _ _
      | exact ih1 _ _ _ _ _ _ _ _ _ _ _
      | exact ih2 _ _ _ _ _ _
      | exact mailcoachlaw10_Awake.mono _
      | exact quorum_Set.mono _ _ _ _ _
      | exact LeO.none _
      | refine LeO.ite ?_ ?_
      | refine LeO.bind ?_ (fun _ => ?_)
    · intro y0 y1 y2 y3 y4 y5 y6 y7 y8 y9 y10
      unfold mailcoachlaw10_QuorumSpread.l1
      repeat' first
      | (with_reducible exact ih0 _ _ _ _ _ _ _)
      | (with_reducible exact ih1 _ _ _ _ _ _ _ _ _ _ _)
      | (with_reducible exact ih2 _ _ _ _ _ _)
      | (with_reducible exact mailcoachlaw10_Awake.mono _)
      | (with_reducible exact quorum_Set.mono _ _ _ _ _)
      | (with_reducible exact LeO.refl _)
      | (with_reducible exact LeO.none _)
      | (with_reducible refine LeO.ite ?_ ?_)
      | (with_reducible refine LeO.bind ?_ (fun _ => ?_))
      | exact ih0 _ _ _ _ _ _ _
      | exact ih1 _ _ _ _ _ _ _ _ _ _ _
      | exact ih2 _ _ _ _ _ _
      | exact mailcoachlaw10_Awake.mono _
      | exact quorum_Set.mono _ _ _ _ _
      | exact LeO.none _
      | refine LeO.ite ?_ ?_
      | refine LeO.bind ?_ (fun _ => ?_)
    · intro y0 y1 y2 y3 y4 y5
      unfold mailcoachlaw10_QuorumSpread.l2
      repeat' first
      | (with_reducible exact ih0 _ _ _ _ _ _ _)
      | (with_reducible exact ih1 _ _ _ _ _ _ _ _ _ _ _)
      | (with_reducible exact ih2 _ _ _ _ _ _)
      | (with_reducible exact mailcoachlaw10_Awake.mono _)
      | (with_reducible exact quorum_Set.mono _ _ _ _ _)
      | (with_reducible exact LeO.refl _)
      | (with_reducible exact LeO.none _)
      | (with_reducible refine LeO.ite ?_ ?_)
      | (with_reducible refine LeO.bind ?_ (fun _ => ?_))
      | exact ih0 _ _ _ _ _ _ _
      | exact ih1 _ _ _ _ _ _ _ _ _ _ _
      | exact ih2 _ _ _ _ _ _
      | exact mailcoachlaw10_Awake.mono _
      | exact quorum_Set.mono _ _ _ _ _
      | exact LeO.none _
      | refine LeO.ite ?_ ?_
      | refine LeO.bind ?_ (fun _ => ?_)
theorem mailcoachlaw10_QuorumSpread.mono : ∀ a0 a1 k, LeO (mailcoachlaw10_QuorumSpread.f k a0 a1) (mailcoachlaw10_QuorumSpread.f (k + 1) a0 a1) := by
  intro a0 a1 k
  obtain ⟨ih0, ih1, ih2⟩ := mailcoachlaw10_QuorumSpread.mono_l k
  unfold mailcoachlaw10_QuorumSpread.f
  repeat' first
      | (with_reducible exact ih0 _ _ _ _ _ _ _)
      | (with_reducible exact ih1 _ _ _ _ _ _ _ _ _ _ _)
      | (with_reducible exact ih2 _ _ _ _ _ _)
      | (with_reducible exact mailcoachlaw10_Awake.mono _)
      | (with_reducible exact quorum_Set.mono _ _ _ _ _)
      | (with_reducible exact LeO.refl _)
      | (with_reducible exact LeO.none _)
      | (with_reducible refine LeO.ite ?_ ?_)
      | (with_reducible refine LeO.bind ?_ (fun _ => ?_))
      | exact ih0 _ _ _ _ _ _ _
      | exact ih1 _ _ _ _ _ _ _ _ _ _ _
      | exact ih2 _ _ _ _ _ _
      | exact mailcoachlaw10_Awake.mono _
      | exact quorum_Set.mono _ _ _ _ _
      | exact LeO.none _
      | refine LeO.ite ?_ ?_
      | refine LeO.bind ?_ (fun _ => ?_)
set_option maxHeartbeats 8000000 in
set_option maxRecDepth 100000 in
theorem mailcoachlaw10_QuorumSpread.calls (k : Nat) (a0 : Int) (a1 : Int) (r : Bool) (w : World) (h : mailcoachlaw10_QuorumSpread.f k a0 a1 = some r) :
    Calls Try.prog 3 #[.int .u16 a0, .int .u64 a1] w fun e w' => e = .returned (.bool r) ∧ Below w.heap.size w w' := by
  have hu26 := Try.underlying26
  have HB := Aside0.mk (Below.refl w.heap.size w)
  have H : ((mailcoachlaw10_Awake.f k).bind fun t131 => (if t131 = true then ((mailcoachlaw10_Quorum.f a0).bind fun bt132 => (if a1 > 4611686018427387904 then (some true) else (if 0 ≤ bt132.1 then (if (bt132.1 : Int).toNat ≤ 35184372088832 then (mailcoachlaw10_QuorumSpread.l0 k a1 (List.replicate (bt132.1 : Int).toNat 0) bt132.1 0 bt132.1 bt132.2.1 bt132.2.2) else (none)) else (none)))) else (some false))) = some r := h
  clear h
  replace H := Option.bind_eq_some_iff.mp H
  obtain ⟨t131, A30, H⟩ := H
  replace H : (if t131 = true then ((mailcoachlaw10_Quorum.f a0).bind fun bt132 => (if a1 > 4611686018427387904 then (some true) else (if 0 ≤ bt132.1 then (if (bt132.1 : Int).toNat ≤ 35184372088832 then (mailcoachlaw10_QuorumSpread.l0 k a1 (List.replicate (bt132.1 : Int).toNat 0) bt132.1 0 bt132.1 bt132.2.1 bt132.2.2) else (none)) else (none)))) else (some false)) = some r := H
  have A3 := Aside0.mk A30
  clear A30
  by_cases c4 : t131 = true
  · subst c4
    have H1 : ((mailcoachlaw10_Quorum.f a0).bind fun bt132 => (if a1 > 4611686018427387904 then (some true) else (if 0 ≤ bt132.1 then (if (bt132.1 : Int).toNat ≤ 35184372088832 then (mailcoachlaw10_QuorumSpread.l0 k a1 (List.replicate (bt132.1 : Int).toNat 0) bt132.1 0 bt132.1 bt132.2.1 bt132.2.2) else (none)) else (none)))) = some r := by rw [if_pos rfl] at H; exact H
    clear H
    have H := H1
    clear H1
    replace H := Option.bind_eq_some_iff.mp H
    obtain ⟨⟨t132, t133, t134⟩, A50, H⟩ := H
    replace H : (if a1 > 4611686018427387904 then (some true) else (if 0 ≤ t132 then (if (t132 : Int).toNat ≤ 35184372088832 then (mailcoachlaw10_QuorumSpread.l0 k a1 (List.replicate (t132 : Int).toNat 0) t132 0 t132 t133 t134) else (none)) else (none))) = some r := H
    have A5 := Aside0.mk A50
    clear A50
    by_cases c6 : a1 > 4611686018427387904
    · rw [if_pos c6] at H
      have c6b0 : decide (4611686018427387904 < a1) = true := decide_eq_true c6
      clear c6
      obtain rfl := Option.some.inj H
      go_enter Try.func3, Try.ntmps3
      go_wp2_with (first | ((with_reducible refine gate_callee (f := 8) rfl ?_); refine goesL_ (some 13) rfl rfl Try.func8 (by kernel_rfl) rfl #[] rfl (by (try simp only [List.map_toArray, List.map_cons, List.map_nil]); first | done | rfl | (simp only [List.length_drop, List.length_take]; rfl)) ?_; (with_reducible refine (mailcoachlaw10_Awake.calls k  true _ A3.out).mono ?_); rintro e w7 ⟨rfl, hb⟩; refine ⟨_, rfl, ?_⟩; have n0_ := Aside0.mk (below_step (by repeat (first | (with_reducible first | exact HB.out | apply below_alloc | apply pw_below_drewN | apply below_drew1) | exact HB.out)) hb); clear HB; have HB := n0_; clear n0_; (try clear hb); (try clear hb2); (try clear hk); (try clear hi)) | ((with_reducible refine gate_callee (f := 9) rfl ?_); refine goesL_ (some 16) rfl rfl Try.func9 (by kernel_rfl) rfl #[.int .u16 a0] rfl (by (try simp only [List.map_toArray, List.map_cons, List.map_nil]); first | done | rfl | (simp only [List.length_drop, List.length_take]; rfl)) ?_; (with_reducible refine (mailcoachlaw10_Quorum.calls a0 t132 t133 t134 _ A5.out).mono ?_); rintro e w8 ⟨rfl, hb⟩; refine ⟨_, rfl, ?_⟩; have n0_ := Aside0.mk (below_step (by repeat (first | (with_reducible first | exact HB.out | apply below_alloc | apply pw_below_drewN | apply below_drew1) | exact HB.out)) hb); clear HB; have HB := n0_; clear n0_; (try clear hb); (try clear hb2); (try clear hk); (try clear hi)) | ((with_reducible refine gate_dst (N := 5) rfl ?_); refine box_event ?hg (N := 5) ?hd (cs := #[.int .i64 0, .int .i64 0, .int .i64 0]) (t := 26) ?hr ?_; (case hd => rfl); (case hg => rfl); (case hr => first | (go_simp; done) | (go_simp; rfl)); intro gb135 hg w9 hbox hb; have n0_ := Aside0.mk (below_step (by repeat (first | (with_reducible first | exact HB.out | apply below_alloc | apply pw_below_drewN | apply below_drew1) | exact HB.out)) hb); have n1_ := Aside0.mk (hbox); have n2_ := Aside0.mk ((by rw [hg]; exact (below_size (by repeat (first | (with_reducible first | exact HB.out | apply below_alloc | apply pw_below_drewN | apply below_drew1) | exact HB.out))) : w.heap.size ≤ gb135)); have n3_ := Aside0.mk ((by rw [hg]; exact (below_size (by repeat (first | (with_reducible first | exact HB.out | apply below_alloc | apply pw_below_drewN | apply below_drew1) | exact HB.out))) : w.heap.size ≤ gb135)); clear HB; have HB := n0_; have BK135 := n1_; have GW135 := n2_; have GE135 := n3_; clear n0_ n1_ n2_ n3_; clear hb hbox hg; have hcz10_0 : w9.cell? ⟨gb135, 0, none⟩ = some (.int .i64 0) := (blk_cell BK135.out 0).trans rfl; have hcz10_1 : w9.cell? ⟨gb135, 1, none⟩ = some (.int .i64 0) := (blk_cell BK135.out 1).trans rfl; have hcz10_2 : w9.cell? ⟨gb135, 2, none⟩ = some (.int .i64 0) := (blk_cell BK135.out 2).trans rfl; have hfz10_0 := blk_frozen BK135.out 0; have hfz10_1 := blk_frozen BK135.out 1; have hfz10_2 := blk_frozen BK135.out 2))
      go_ret
      exact ⟨by first | rfl | (simp [errW_none, errW_some] <;> rfl) | (simp [*, errW_none, errW_some] <;> rfl), by repeat (first | (with_reducible first | exact HB.out | apply below_alloc | apply pw_below_drewN | apply below_drew1 | refine below_set ?_ GE135.out) | exact HB.out)⟩
    · rw [if_neg c6] at H
      have c6b0 : decide (4611686018427387904 < a1) = false := decide_eq_false c6
      clear c6
      by_cases c11 : 0 ≤ t132
      · rw [if_pos c11] at H
        have c11b0 := eq_true c11
        have c11b1 : decide (0 ≤ t132) = true := decide_eq_true c11
        clear c11
        by_cases c12 : (t132 : Int).toNat ≤ 35184372088832
        · rw [if_pos c12] at H
          have c12b0 := eq_true c12
          have c12b1 : decide ((t132 : Int).toNat ≤ 35184372088832) = true := decide_eq_true c12
          clear c12
          obtain ⟨y136, hy136⟩ : ∃ y_ : List Int, y_ = (List.replicate (t132 : Int).toNat 0) := ⟨_, rfl⟩
          replace H : (mailcoachlaw10_QuorumSpread.l0 k a1 y136 t132 0 t132 t133 t134) = some r := by first | (rw [hy136]; with_reducible exact H) | (have H2_ := (Option.bind_some _ _).symm.trans H; rw [hy136]; with_reducible exact H2_) | (have H2_ := (Option.bind_some _ _).symm.trans H; with_reducible exact H2_) | with_reducible exact H | (rw [hy136]; exact H) | exact H
          have Ny136 := Aside0.mk hy136
          clear hy136
          have H' := Aside0.mk H
          clear H
          go_enter Try.func3, Try.ntmps3
          go_wp2_with (first | ((with_reducible refine gate_callee (f := 8) rfl ?_); refine goesL_ (some 13) rfl rfl Try.func8 (by kernel_rfl) rfl #[] rfl (by (try simp only [List.map_toArray, List.map_cons, List.map_nil]); first | done | rfl | (simp only [List.length_drop, List.length_take]; rfl)) ?_; (with_reducible refine (mailcoachlaw10_Awake.calls k  true _ A3.out).mono ?_); rintro e w13 ⟨rfl, hb⟩; refine ⟨_, rfl, ?_⟩; have n0_ := Aside0.mk (below_step (by repeat (first | (with_reducible first | exact HB.out | apply below_alloc | apply pw_below_drewN | apply below_drew1) | exact HB.out)) hb); clear HB; have HB := n0_; clear n0_; (try clear hb); (try clear hb2); (try clear hk); (try clear hi)) | ((with_reducible refine gate_callee (f := 9) rfl ?_); refine goesL_ (some 16) rfl rfl Try.func9 (by kernel_rfl) rfl #[.int .u16 a0] rfl (by (try simp only [List.map_toArray, List.map_cons, List.map_nil]); first | done | rfl | (simp only [List.length_drop, List.length_take]; rfl)) ?_; (with_reducible refine (mailcoachlaw10_Quorum.calls a0 t132 t133 t134 _ A5.out).mono ?_); rintro e w14 ⟨rfl, hb⟩; refine ⟨_, rfl, ?_⟩; have n0_ := Aside0.mk (below_step (by repeat (first | (with_reducible first | exact HB.out | apply below_alloc | apply pw_below_drewN | apply below_drew1) | exact HB.out)) hb); clear HB; have HB := n0_; clear n0_; (try clear hb); (try clear hb2); (try clear hk); (try clear hi)) | ((with_reducible refine gate_dst (N := 5) rfl ?_); refine box_event ?hg (N := 5) ?hd (cs := #[.int .i64 0, .int .i64 0, .int .i64 0]) (t := 26) ?hr ?_; (case hd => rfl); (case hg => rfl); (case hr => first | (go_simp; done) | (go_simp; rfl)); intro gb135 hg w15 hbox hb; have n0_ := Aside0.mk (below_step (by repeat (first | (with_reducible first | exact HB.out | apply below_alloc | apply pw_below_drewN | apply below_drew1) | exact HB.out)) hb); have n1_ := Aside0.mk (hbox); have n2_ := Aside0.mk ((by rw [hg]; exact (below_size (by repeat (first | (with_reducible first | exact HB.out | apply below_alloc | apply pw_below_drewN | apply below_drew1) | exact HB.out))) : w.heap.size ≤ gb135)); have n3_ := Aside0.mk ((by rw [hg]; exact (below_size (by repeat (first | (with_reducible first | exact HB.out | apply below_alloc | apply pw_below_drewN | apply below_drew1) | exact HB.out))) : w.heap.size ≤ gb135)); clear HB; have HB := n0_; have BK135 := n1_; have GW135 := n2_; have GE135 := n3_; clear n0_ n1_ n2_ n3_; clear hb hbox hg; have hcz16_0 : w15.cell? ⟨gb135, 0, none⟩ = some (.int .i64 0) := (blk_cell BK135.out 0).trans rfl; have hcz16_1 : w15.cell? ⟨gb135, 1, none⟩ = some (.int .i64 0) := (blk_cell BK135.out 1).trans rfl; have hcz16_2 : w15.cell? ⟨gb135, 2, none⟩ = some (.int .i64 0) := (blk_cell BK135.out 2).trans rfl; have hfz16_0 := blk_frozen BK135.out 0; have hfz16_1 := blk_frozen BK135.out 1; have hfz16_2 := blk_frozen BK135.out 2) | ((with_reducible refine gate_dst (N := 21) rfl ?_); refine Kd.R_make (Kd.int .i64) _ 3 rfl (N := 21) rfl 28 _ _ rfl t132 rfl rfl Try.underlying28 (.int .i64 0) 8 info3 rfl (by decide) (by omega) 0 (ok := fun _ => True) (okp := fun _ => True) rfl (fun _ hk => hk) trivial (of_decide_eq_true (by first | (with_reducible assumption) | assumption)) (Nat.le_trans (Nat.mul_le_mul_right _ (of_decide_eq_true (by first | (with_reducible assumption) | assumption) : t132.toNat ≤ 35184372088832)) (by omega)) (Below.refl _ _) (Nat.le_refl _) ?_; intro v137 w17 ho18 hb hg_ hnew_; clear hg_ hnew_; (first | rw [← Ny136.out] at ho18 | (simp only [Int.reduceToNat] at ho18; rw [← Ny136.out] at ho18)); have n0_ := Aside0.mk (Kd.R_lower ho18 (below_size (by repeat (first | (with_reducible first | exact HB.out | apply below_alloc | apply pw_below_drewN | apply below_drew1 | refine below_set ?_ GE135.out) | exact HB.out)))); have n1_ := Aside0.mk (blk_below (g := gb135) (o := .cells #[.int .i64 t132, .int .i64 t133, .int .i64 t134] 26 (0, 0)) (by (with_reducible repeat (first | refine blk_drewN ?_ _ | refine blk_drew ?_ | refine blk_alloc ?_ _)); refine blk_put (cs := #[.int .i64 t132, .int .i64 t133, .int .i64 0]) ?_ 2 _ rfl; (with_reducible repeat (first | refine blk_drewN ?_ _ | refine blk_drew ?_ | refine blk_alloc ?_ _)); refine blk_put (cs := #[.int .i64 t132, .int .i64 0, .int .i64 0]) ?_ 1 _ rfl; (with_reducible repeat (first | refine blk_drewN ?_ _ | refine blk_drew ?_ | refine blk_alloc ?_ _)); refine blk_put (cs := #[.int .i64 0, .int .i64 0, .int .i64 0]) ?_ 0 _ rfl; (with_reducible repeat (first | refine blk_drewN ?_ _ | refine blk_drew ?_ | refine blk_alloc ?_ _)); exact BK135.out) hb); have n2_ := Aside0.mk (below_step (by repeat (first | (with_reducible first | exact HB.out | apply below_alloc | apply pw_below_drewN | apply below_drew1 | refine below_set ?_ GE135.out) | exact HB.out)) hb); clear BK135; clear HB; have HO138 := n0_; have BK135 := n1_; have HB := n2_; clear n0_ n1_ n2_; clear hb ho18; have hcz19_0 : w17.cell? ⟨gb135, 0, none⟩ = some (.int .i64 t132) := (blk_cell BK135.out 0).trans rfl; have hcz19_1 : w17.cell? ⟨gb135, 1, none⟩ = some (.int .i64 t133) := (blk_cell BK135.out 1).trans rfl; have hcz19_2 : w17.cell? ⟨gb135, 2, none⟩ = some (.int .i64 t134) := (blk_cell BK135.out 2).trans rfl; have hfz19_0 := blk_frozen BK135.out 0; have hfz19_1 := blk_frozen BK135.out 1; have hfz19_2 := blk_frozen BK135.out 2))
          go_loopg [24] k (fun kq v24 w' => ∃ (x6_1 : List Int) (x24_1 : Int), v24 = .int .i64 x24_1 ∧ Aside0 (mailcoachlaw10_QuorumSpread.l0 kq a1 x6_1 t132 x24_1 t132 t133 t134 = some r) ∧ Aside0 (kq ≤ k) ∧ Aside0 (Kd.R (Kd.int .i64) 3 w' w.heap.size (fun _ => True) v137 x6_1) ∧ Aside0 (w'.heap[gb135]? = some (.cells #[.int .i64 t132, .int .i64 t133, .int .i64 t134] 26 (0, 0))) ∧ Aside0 (Below w.heap.size w w'))
          case atStart => exact ⟨(y136), (0), (by first | rfl | (simp; done) | (simp [*]; done)), H', ⟨Nat.le_refl _⟩, ⟨by (with_reducible repeat (first | apply Kd.R_alloc | apply Kd.R_drewN | apply Kd.R_drew)); exact HO138.out⟩, ⟨by (with_reducible repeat (first | refine blk_drewN ?_ _ | refine blk_drew ?_ | refine blk_alloc ?_ _)); exact BK135.out⟩, ⟨by repeat (first | (with_reducible first | exact HB.out | apply below_alloc | apply pw_below_drewN | apply below_drew1 | refine below_set ?_ GE135.out) | exact HB.out)⟩⟩
          case round =>
            clear H'
            try clear c1
            try clear p2
            try clear c3
            try clear c4
            try clear c6
            try clear c6b0
            try clear c8
            try clear c9
            try clear c11
            try clear c11b0
            try clear c11b1
            try clear c12
            try clear c12b0
            try clear c12b1
            try clear hcz10_0
            try clear hcz10_1
            try clear hcz10_2
            try clear hcz16_0
            try clear hcz16_1
            try clear hcz16_2
            try clear hcz19_0
            try clear hcz19_1
            try clear hcz19_2
            try clear hfz10_0
            try clear hfz10_1
            try clear hfz10_2
            try clear hfz16_0
            try clear hfz16_1
            try clear hfz16_2
            try clear hfz19_0
            try clear hfz19_1
            try clear hfz19_2
            obtain ⟨x6_1, x24_1, rfl, HA, HK1, HO_6, BK135, HB⟩ := hrel
            cases gk with
            | zero => exact absurd HA.out (by simp [mailcoachlaw10_QuorumSpread.l0])
            | succ k1 =>
              have H := HA.out
              clear HA
              simp only [mailcoachlaw10_QuorumSpread.l0] at H
              by_cases c20 : x24_1 < t132
              · rw [if_pos c20] at H
                have c20b0 : decide (x24_1 < t132) = true := decide_eq_true c20
                clear c20
                by_cases c21 : 0 ≤ t132
                · rw [if_pos c21] at H
                  have c21b0 := eq_true c21
                  have c21b1 : decide (0 ≤ t132) = true := decide_eq_true c21
                  clear c21
                  by_cases c22 : (t132 : Int).toNat ≤ 281474976710656
                  · rw [if_pos c22] at H
                    have c22b0 := eq_true c22
                    have c22b1 : decide ((t132 : Int).toNat ≤ 281474976710656) = true := decide_eq_true c22
                    clear c22
                    obtain ⟨y139, hy139⟩ : ∃ y_ : List Bool, y_ = (List.replicate (t132 : Int).toNat false) := ⟨_, rfl⟩
                    replace H : ((quorum_Set.f k1 t132 t133 t134 (IntKind.u64.wrap (a1 + (IntKind.u64.wrap (x24_1))))).bind fun t142 => (mailcoachlaw10_QuorumSpread.l1 k1 a1 x6_1 y139 t132 x24_1 t142 (t142.length : Int) 0 t132 t133 t134)) = some r := by first | (rw [hy139]; with_reducible exact H) | (have H2_ := (Option.bind_some _ _).symm.trans H; rw [hy139]; with_reducible exact H2_) | (have H2_ := (Option.bind_some _ _).symm.trans H; with_reducible exact H2_) | with_reducible exact H | (rw [hy139]; exact H) | exact H
                    have Ny139 := Aside0.mk hy139
                    clear hy139
                    replace H := Option.bind_eq_some_iff.mp H
                    obtain ⟨t142, A230, H⟩ := H
                    replace H : (mailcoachlaw10_QuorumSpread.l1 k1 a1 x6_1 y139 t132 x24_1 t142 (t142.length : Int) 0 t132 t133 t134) = some r := H
                    have A23 := Aside0.mk A230
                    clear A230
                    have H' := Aside0.mk H
                    clear H
                    have hcz24_0 : wr.cell? ⟨gb135, 0, none⟩ = some (.int .i64 t132) := (blk_cell BK135.out 0).trans rfl
                    have hcz24_1 : wr.cell? ⟨gb135, 1, none⟩ = some (.int .i64 t133) := (blk_cell BK135.out 1).trans rfl
                    have hcz24_2 : wr.cell? ⟨gb135, 2, none⟩ = some (.int .i64 t134) := (blk_cell BK135.out 2).trans rfl
                    have hfz24_0 := blk_frozen BK135.out 0
                    have hfz24_1 := blk_frozen BK135.out 1
                    have hfz24_2 := blk_frozen BK135.out 2
                    go_wp2_with (first | ((with_reducible refine gate_dst (N := 29) rfl ?_); refine Kd.R_make Kd.bool _ 4 rfl (N := 29) rfl 29 _ _ rfl t132 rfl rfl Try.underlying29 (.bool false) 1 info4 rfl (by decide) (by omega) false (ok := fun _ => True) (okp := fun _ => True) rfl (fun _ hk => hk) trivial (of_decide_eq_true (by first | (with_reducible assumption) | assumption)) (Nat.le_trans (Nat.mul_le_mul_right _ (of_decide_eq_true (by first | (with_reducible assumption) | assumption) : t132.toNat ≤ 281474976710656)) (by omega)) (Below.refl _ _) (Nat.le_refl _) ?_; intro v140 w25 ho26 hb hg_ hnew_; clear hg_ hnew_; (first | rw [← Ny139.out] at ho26 | (simp only [Int.reduceToNat] at ho26; rw [← Ny139.out] at ho26)); have n0_ := Aside0.mk (Kd.R_below (by (with_reducible repeat (first | apply Kd.R_alloc | apply Kd.R_drewN | apply Kd.R_drew)); exact HO_6.out) hb); have n1_ := Aside0.mk (Kd.R_lower ho26 (below_size (by repeat (first | (with_reducible first | exact HB.out | apply below_alloc | apply pw_below_drewN | apply below_drew1 | refine below_set ?_ GE135.out) | exact HB.out)))); have n2_ := Aside0.mk (blk_below (g := gb135) (o := .cells #[.int .i64 t132, .int .i64 t133, .int .i64 t134] 26 (0, 0)) (by (with_reducible repeat (first | refine blk_drewN ?_ _ | refine blk_drew ?_ | refine blk_alloc ?_ _)); exact BK135.out) hb); have n3_ := Aside0.mk (below_step (by repeat (first | (with_reducible first | exact HB.out | apply below_alloc | apply pw_below_drewN | apply below_drew1 | refine below_set ?_ GE135.out) | exact HB.out)) hb); clear HO_6; clear BK135; clear HB; have HO_6 := n0_; have HO141 := n1_; have BK135 := n2_; have HB := n3_; clear n0_ n1_ n2_ n3_; clear hb ho26; have hcz27_0 : w25.cell? ⟨gb135, 0, none⟩ = some (.int .i64 t132) := (blk_cell BK135.out 0).trans rfl; have hcz27_1 : w25.cell? ⟨gb135, 1, none⟩ = some (.int .i64 t133) := (blk_cell BK135.out 1).trans rfl; have hcz27_2 : w25.cell? ⟨gb135, 2, none⟩ = some (.int .i64 t134) := (blk_cell BK135.out 2).trans rfl; have hfz27_0 := blk_frozen BK135.out 0; have hfz27_1 := blk_frozen BK135.out 1; have hfz27_2 := blk_frozen BK135.out 2) | ((with_reducible refine gate_callee (f := 10) rfl ?_); refine goesL_ (some 35) rfl rfl Try.func10 (by kernel_rfl) rfl #[.agg #[.int .i64 t132, .int .i64 t133, .int .i64 t134], .int .u64 (IntKind.u64.wrap (a1 + (IntKind.u64.wrap (x24_1))))] rfl (by (try simp only [List.map_toArray, List.map_cons, List.map_nil]); first | done | rfl | (simp only [List.length_drop, List.length_take]; rfl)) ?_; (with_reducible refine (quorum_Set.calls k1 t132 t133 t134 (IntKind.u64.wrap (a1 + (IntKind.u64.wrap (x24_1)))) t142 _ A23.out).mono ?_); rintro e w28 ⟨v143, rfl, ho0, hb⟩; refine ⟨_, rfl, ?_⟩; have n0_ := Aside0.mk (Kd.R_elder' (by (with_reducible repeat (first | apply Kd.R_alloc | apply Kd.R_drewN | apply Kd.R_drew)); exact HO_6.out) (Kd.R_base ho0) hb); have n1_ := Aside0.mk (Kd.R_below (by (with_reducible repeat (first | apply Kd.R_alloc | apply Kd.R_drewN | apply Kd.R_drew)); exact HO141.out) hb); have n2_ := Aside0.mk (Kd.R_lower (Kd.R_new' ho0 (Kd.R_lt (by (with_reducible repeat (first | apply Kd.R_alloc | apply Kd.R_drewN | apply Kd.R_drew)); exact HO_6.out))) (below_size (by repeat (first | (with_reducible first | exact HB.out | apply below_alloc | apply pw_below_drewN | apply below_drew1 | refine below_set ?_ GE135.out) | exact HB.out)))); have n3_ := Aside0.mk (blk_below (g := gb135) (o := .cells #[.int .i64 t132, .int .i64 t133, .int .i64 t134] 26 (0, 0)) (by (with_reducible repeat (first | refine blk_drewN ?_ _ | refine blk_drew ?_ | refine blk_alloc ?_ _)); exact BK135.out) hb); have n4_ := Aside0.mk (below_step (by repeat (first | (with_reducible first | exact HB.out | apply below_alloc | apply pw_below_drewN | apply below_drew1 | refine below_set ?_ GE135.out) | exact HB.out)) hb); clear HO_6; clear HO141; clear BK135; clear HB; have HO_6 := n0_; have HO141 := n1_; have HO144 := n2_; have BK135 := n3_; have HB := n4_; clear n0_ n1_ n2_ n3_ n4_; (try clear hb); (try clear hb2); (try clear hk); (try clear hi); (try clear ho0); obtain ⟨Ao29, co29, eo29⟩ := Kd.R_slice HO144.out; subst eo29))
                    go_loopg [37] k1 (fun kq v37 w' => ∃ (x6_2 : List Int) (x8_2 : List Bool) (x37_2 : Int), v37 = .int .i64 x37_2 ∧ Aside0 (mailcoachlaw10_QuorumSpread.l1 kq a1 x6_2 x8_2 t132 x24_1 t142 (t142.length : Int) x37_2 t132 t133 t134 = some r) ∧ Aside0 (kq ≤ k1) ∧ Aside0 (Kd.R (Kd.int .i64) 3 w' w.heap.size (fun k_ => some k_ ≠ ((.slice Ao29 t142.length co29) : Value).ownBlock) v137 x6_2) ∧ Aside0 (Kd.R Kd.bool 4 w' w.heap.size (fun _ => True) v140 x8_2) ∧ Aside0 (Kd.R (Kd.int .i64) 3 w' w.heap.size (fun k_ => some k_ ≠ (v137 : Value).ownBlock) (.slice Ao29 t142.length co29) t142) ∧ Aside0 (w'.heap[gb135]? = some (.cells #[.int .i64 t132, .int .i64 t133, .int .i64 t134] 26 (0, 0))) ∧ Aside0 (Below w.heap.size w w'))
                    case atStart => exact ⟨(x6_1), (y139), (0), (by first | rfl | (simp; done) | (simp [*]; done)), H', ⟨Nat.le_refl _⟩, ⟨by (with_reducible repeat (first | apply Kd.R_alloc | apply Kd.R_drewN | apply Kd.R_drew)); exact Kd.R_mono HO_6.out (fun _ hk => hk.2)⟩, ⟨by (with_reducible repeat (first | apply Kd.R_alloc | apply Kd.R_drewN | apply Kd.R_drew)); exact HO141.out⟩, ⟨by (with_reducible repeat (first | apply Kd.R_alloc | apply Kd.R_drewN | apply Kd.R_drew)); exact Kd.R_mono HO144.out (fun _ hk => hk.2)⟩, ⟨by (with_reducible repeat (first | refine blk_drewN ?_ _ | refine blk_drew ?_ | refine blk_alloc ?_ _)); exact BK135.out⟩, ⟨by repeat (first | (with_reducible first | exact HB.out | apply below_alloc | apply pw_below_drewN | apply below_drew1 | refine below_set ?_ GE135.out) | exact HB.out)⟩⟩
                    case round =>
                      clear H'
                      try clear c1
                      try clear c2
                      try clear p2
                      try clear c3
                      try clear c4
                      try clear c6
                      try clear c6b0
                      try clear c8
                      try clear c9
                      try clear c10
                      try clear c11
                      try clear c11b0
                      try clear c11b1
                      try clear c12
                      try clear c12b0
                      try clear c12b1
                      try clear c20
                      try clear c20b0
                      try clear c21
                      try clear c21b0
                      try clear c21b1
                      try clear c22
                      try clear c22b0
                      try clear c22b1
                      try clear hcz10_0
                      try clear hcz10_1
                      try clear hcz10_2
                      try clear hcz16_0
                      try clear hcz16_1
                      try clear hcz16_2
                      try clear hcz19_0
                      try clear hcz19_1
                      try clear hcz19_2
                      try clear hcz24_0
                      try clear hcz24_1
                      try clear hcz24_2
                      try clear hcz27_0
                      try clear hcz27_1
                      try clear hcz27_2
                      try clear hfz10_0
                      try clear hfz10_1
                      try clear hfz10_2
                      try clear hfz16_0
                      try clear hfz16_1
                      try clear hfz16_2
                      try clear hfz19_0
                      try clear hfz19_1
                      try clear hfz19_2
                      try clear hfz24_0
                      try clear hfz24_1
                      try clear hfz24_2
                      try clear hfz27_0
                      try clear hfz27_1
                      try clear hfz27_2
                      try clear p2
                      obtain ⟨x6_2, x8_2, x37_2, rfl, HA, HK2, HO_6, HO_8, HO_35, BK135, HB⟩ := hrel
                      cases gk with
                      | zero => exact absurd HA.out (by simp [mailcoachlaw10_QuorumSpread.l1])
                      | succ k2 =>
                        have H := HA.out
                        clear HA
                        simp only [mailcoachlaw10_QuorumSpread.l1] at H
                        by_cases c30 : x37_2 < (t142.length : Int)
                        · rw [if_pos c30] at H
                          have c30b0 : decide (x37_2 < (t142.length : Int)) = true := decide_eq_true c30
                          clear c30
                          by_cases c31 : 0 ≤ x37_2
                          · rw [if_pos c31] at H
                            have c31b0 : decide (0 ≤ x37_2) = true := decide_eq_true c31
                            clear c31
                            by_cases c32 : x37_2 < (t142.length : Int)
                            · rw [if_pos c32] at H
                              have c32b0 : decide (x37_2 < (t142.length : Int)) = true := decide_eq_true c32
                              clear c32
                              by_cases c33 : (rd t142 x37_2) < 0
                              · rw [if_pos c33] at H
                                have c33b0 : decide ((rd t142 x37_2) < 0) = true := decide_eq_true c33
                                clear c33
                                obtain rfl := Option.some.inj H
                                have p145 : 0 ≤ (x37_2 : Int) := of_decide_eq_true (by first | (with_reducible assumption) | assumption)
                                have q145 : x37_2 < (t142.length : Int) := of_decide_eq_true (by first | (with_reducible assumption) | assumption)
                                obtain ⟨ad145, e145, hx145_0⟩ := Kd.at_int (Kd.R_reads' HO_35.out).2.2 x37_2 p145 q145
                                cases e145
                                replace p145 := eq_true p145
                                replace q145 := eq_true q145
                                go_wp2
                                go_ret
                                exact ⟨by first | rfl | (simp [errW_none, errW_some] <;> rfl) | (simp [*, errW_none, errW_some] <;> rfl), by repeat (first | (with_reducible first | exact HB.out | apply below_alloc | apply pw_below_drewN | apply below_drew1 | refine below_set ?_ GE135.out) | exact HB.out)⟩
                              · rw [if_neg c33] at H
                                have c33b0 : decide ((rd t142 x37_2) < 0) = false := decide_eq_false c33
                                clear c33
                                by_cases c34 : (rd t142 x37_2) ≥ t132
                                · rw [if_pos c34] at H
                                  have c34b0 : decide (t132 ≤ (rd t142 x37_2)) = true := decide_eq_true c34
                                  clear c34
                                  obtain rfl := Option.some.inj H
                                  have p145 : 0 ≤ (x37_2 : Int) := of_decide_eq_true (by first | (with_reducible assumption) | assumption)
                                  have q145 : x37_2 < (t142.length : Int) := of_decide_eq_true (by first | (with_reducible assumption) | assumption)
                                  obtain ⟨ad145, e145, hx145_0⟩ := Kd.at_int (Kd.R_reads' HO_35.out).2.2 x37_2 p145 q145
                                  cases e145
                                  replace p145 := eq_true p145
                                  replace q145 := eq_true q145
                                  have hcz35_0 : wr.cell? ⟨gb135, 0, none⟩ = some (.int .i64 t132) := (blk_cell BK135.out 0).trans rfl
                                  have hcz35_1 : wr.cell? ⟨gb135, 1, none⟩ = some (.int .i64 t133) := (blk_cell BK135.out 1).trans rfl
                                  have hcz35_2 : wr.cell? ⟨gb135, 2, none⟩ = some (.int .i64 t134) := (blk_cell BK135.out 2).trans rfl
                                  have hfz35_0 := blk_frozen BK135.out 0
                                  have hfz35_1 := blk_frozen BK135.out 1
                                  have hfz35_2 := blk_frozen BK135.out 2
                                  go_wp2
                                  go_ret
                                  exact ⟨by first | rfl | (simp [errW_none, errW_some] <;> rfl) | (simp [*, errW_none, errW_some] <;> rfl), by repeat (first | (with_reducible first | exact HB.out | apply below_alloc | apply pw_below_drewN | apply below_drew1 | refine below_set ?_ GE135.out) | exact HB.out)⟩
                                · rw [if_neg c34] at H
                                  have c34b0 : decide (t132 ≤ (rd t142 x37_2)) = false := decide_eq_false c34
                                  clear c34
                                  by_cases c36 : 0 ≤ (rd t142 x37_2)
                                  · rw [if_pos c36] at H
                                    have c36b0 : decide (0 ≤ (rd t142 x37_2)) = true := decide_eq_true c36
                                    clear c36
                                    by_cases c37 : (rd t142 x37_2) < (x8_2.length : Int)
                                    · rw [if_pos c37] at H
                                      have c37b0 : decide ((rd t142 x37_2) < (x8_2.length : Int)) = true := decide_eq_true c37
                                      clear c37
                                      obtain ⟨bq38, hbq38⟩ : ∃ b_ : Bool, b_ = (rdOf false x8_2 (rd t142 x37_2)) := ⟨_, rfl⟩
                                      replace H : (if bq38 = true then (some false) else (if (rd t142 x37_2) < (x6_2.length : Int) then (mailcoachlaw10_QuorumSpread.l1 k2 a1 (x6_2.set ((rd t142 x37_2) : Int).toNat (wrap64 ((rd x6_2 (rd t142 x37_2)) + 1))) (x8_2.set ((rd t142 x37_2) : Int).toNat true) t132 x24_1 t142 (t142.length : Int) (wrap64 (x37_2 + 1)) t132 t133 t134) else (none))) = some r := by rw [← hbq38] at H; exact H
                                      have Nbq38 := Aside0.mk hbq38
                                      clear hbq38
                                      by_cases c39 : bq38 = true
                                      · subst c39
                                        have H1 : (some false) = some r := by rw [if_pos rfl] at H; exact H
                                        clear H
                                        have H := H1
                                        clear H1
                                        obtain rfl := Option.some.inj H
                                        have p145 : 0 ≤ (x37_2 : Int) := of_decide_eq_true (by first | (with_reducible assumption) | assumption)
                                        have q145 : x37_2 < (t142.length : Int) := of_decide_eq_true (by first | (with_reducible assumption) | assumption)
                                        obtain ⟨ad145, e145, hx145_0⟩ := Kd.at_int (Kd.R_reads' HO_35.out).2.2 x37_2 p145 q145
                                        cases e145
                                        replace p145 := eq_true p145
                                        replace q145 := eq_true q145
                                        have hcz40_0 : wr.cell? ⟨gb135, 0, none⟩ = some (.int .i64 t132) := (blk_cell BK135.out 0).trans rfl
                                        have hcz40_1 : wr.cell? ⟨gb135, 1, none⟩ = some (.int .i64 t133) := (blk_cell BK135.out 1).trans rfl
                                        have hcz40_2 : wr.cell? ⟨gb135, 2, none⟩ = some (.int .i64 t134) := (blk_cell BK135.out 2).trans rfl
                                        have hfz40_0 := blk_frozen BK135.out 0
                                        have hfz40_1 := blk_frozen BK135.out 1
                                        have hfz40_2 := blk_frozen BK135.out 2
                                        obtain ⟨Ao41, co41, eo41⟩ := Kd.R_slice HO_8.out
                                        subst eo41
                                        have p146 : 0 ≤ ((rd t142 x37_2) : Int) := of_decide_eq_true (by first | (with_reducible assumption) | assumption)
                                        have q146 : (rd t142 x37_2) < (x8_2.length : Int) := of_decide_eq_true (by first | (with_reducible assumption) | assumption)
                                        obtain ⟨ad146, e146, hx146_0⟩ := Kd.at_bool (Kd.R_reads' HO_8.out).2.2 (rd t142 x37_2) p146 q146
                                        (try rw [← Nbq38.out] at hx146_0)
                                        cases e146
                                        replace p146 := eq_true p146
                                        replace q146 := eq_true q146
                                        go_wp2
                                        go_ret
                                        exact ⟨by first | rfl | (simp [errW_none, errW_some] <;> rfl) | (simp [*, errW_none, errW_some] <;> rfl), by repeat (first | (with_reducible first | exact HB.out | apply below_alloc | apply pw_below_drewN | apply below_drew1 | refine below_set ?_ GE135.out) | exact HB.out)⟩
                                      · replace c39 := Bool.eq_false_iff.mpr c39
                                        subst c39
                                        have H1 : (if (rd t142 x37_2) < (x6_2.length : Int) then (mailcoachlaw10_QuorumSpread.l1 k2 a1 (x6_2.set ((rd t142 x37_2) : Int).toNat (wrap64 ((rd x6_2 (rd t142 x37_2)) + 1))) (x8_2.set ((rd t142 x37_2) : Int).toNat true) t132 x24_1 t142 (t142.length : Int) (wrap64 (x37_2 + 1)) t132 t133 t134) else (none)) = some r := by rw [if_neg (show ¬ (false = true) by decide)] at H; exact H
                                        clear H
                                        have H := H1
                                        clear H1
                                        obtain ⟨y147, hy147⟩ : ∃ y_ : List Bool, y_ = (x8_2.set ((rd t142 x37_2) : Int).toNat true) := ⟨_, rfl⟩
                                        replace H : (if (rd t142 x37_2) < (x6_2.length : Int) then (mailcoachlaw10_QuorumSpread.l1 k2 a1 (x6_2.set ((rd t142 x37_2) : Int).toNat (wrap64 ((rd x6_2 (rd t142 x37_2)) + 1))) y147 t132 x24_1 t142 (t142.length : Int) (wrap64 (x37_2 + 1)) t132 t133 t134) else (none)) = some r := by first | (rw [hy147]; with_reducible exact H) | (have H2_ := (Option.bind_some _ _).symm.trans H; rw [hy147]; with_reducible exact H2_) | (have H2_ := (Option.bind_some _ _).symm.trans H; with_reducible exact H2_) | with_reducible exact H | (rw [hy147]; exact H) | exact H
                                        have Ny147 := Aside0.mk hy147
                                        clear hy147
                                        by_cases c43 : (rd t142 x37_2) < (x6_2.length : Int)
                                        · rw [if_pos c43] at H
                                          have c43b0 : decide ((rd t142 x37_2) < (x6_2.length : Int)) = true := decide_eq_true c43
                                          clear c43
                                          obtain ⟨y149, hy149⟩ : ∃ y_ : List Int, y_ = (x6_2.set ((rd t142 x37_2) : Int).toNat (wrap64 ((rd x6_2 (rd t142 x37_2)) + 1))) := ⟨_, rfl⟩
                                          replace H : (mailcoachlaw10_QuorumSpread.l1 k2 a1 y149 y147 t132 x24_1 t142 (t142.length : Int) (wrap64 (x37_2 + 1)) t132 t133 t134) = some r := by first | (rw [hy149]; with_reducible exact H) | (have H2_ := (Option.bind_some _ _).symm.trans H; rw [hy149]; with_reducible exact H2_) | (have H2_ := (Option.bind_some _ _).symm.trans H; with_reducible exact H2_) | with_reducible exact H | (rw [hy149]; exact H) | exact H
                                          have Ny149 := Aside0.mk hy149
                                          clear hy149
                                          have H' := Aside0.mk H
                                          clear H
                                          have p145 : 0 ≤ (x37_2 : Int) := of_decide_eq_true (by first | (with_reducible assumption) | assumption)
                                          have q145 : x37_2 < (t142.length : Int) := of_decide_eq_true (by first | (with_reducible assumption) | assumption)
                                          obtain ⟨ad145, e145, hx145_0⟩ := Kd.at_int (Kd.R_reads' HO_35.out).2.2 x37_2 p145 q145
                                          cases e145
                                          replace p145 := eq_true p145
                                          replace q145 := eq_true q145
                                          have hcz45_0 : wr.cell? ⟨gb135, 0, none⟩ = some (.int .i64 t132) := (blk_cell BK135.out 0).trans rfl
                                          have hcz45_1 : wr.cell? ⟨gb135, 1, none⟩ = some (.int .i64 t133) := (blk_cell BK135.out 1).trans rfl
                                          have hcz45_2 : wr.cell? ⟨gb135, 2, none⟩ = some (.int .i64 t134) := (blk_cell BK135.out 2).trans rfl
                                          have hfz45_0 := blk_frozen BK135.out 0
                                          have hfz45_1 := blk_frozen BK135.out 1
                                          have hfz45_2 := blk_frozen BK135.out 2
                                          obtain ⟨Ao46, co46, eo46⟩ := Kd.R_slice HO_8.out
                                          subst eo46
                                          have p146 : 0 ≤ ((rd t142 x37_2) : Int) := of_decide_eq_true (by first | (with_reducible assumption) | assumption)
                                          have q146 : (rd t142 x37_2) < (x8_2.length : Int) := of_decide_eq_true (by first | (with_reducible assumption) | assumption)
                                          obtain ⟨ad146, e146, hx146_0⟩ := Kd.at_bool (Kd.R_reads' HO_8.out).2.2 (rd t142 x37_2) p146 q146
                                          (try rw [← Nbq38.out] at hx146_0)
                                          cases e146
                                          replace p146 := eq_true p146
                                          replace q146 := eq_true q146
                                          have p42 : 0 ≤ ((rd t142 x37_2) : Int) := of_decide_eq_true (by first | (with_reducible assumption) | assumption)
                                          have q42 : ((rd t142 x37_2) : Int) < ((x8_2.length : Int) : Int) := of_decide_eq_true (by first | (with_reducible assumption) | assumption)
                                          obtain ⟨go42, co42, eo42, gb42, gl42, cl42, HG42⟩ := Kd.R_form HO_8.out (by omega)
                                          (first | cases eo42 | (injection eo42 with ea_ en_ ec_; (first | subst ea_ | (injection ea_ with ea_; subst ea_)); subst ec_; clear en_))
                                          have GB42 := Aside0.mk gb42
                                          have GG42 := Aside0.mk HG42
                                          clear gb42 gl42 HG42
                                          (first | simp only [add_plain] at hx146_0 | skip)
                                          obtain ⟨hx42_0, hf42_0⟩ := Kd.R_celln false HO_8.out ((rd t142 x37_2) : Int) p42 q42
                                          replace p42 := eq_true p42
                                          replace q42 := eq_true q42
                                          have HP47 := Kd.R_putg HO_8.out ((rd t142 x37_2) : Int) true
                                          go_wp2_with (first | ((with_reducible refine gate_store (t := 4) (p := 57) rfl ?_); refine store_event (t := 4) (p := 57) (v := ?vo_w48) (w1 := (wr.setCell ⟨go42, ((rd t142 x37_2) : Int).toNat, none⟩ (.bool true))) ?hg ?ho ?hn ?hr ?_; (case ho => rfl); (case hg => rfl); (case hn => rfl); (case hr => first | (go_simp; done) | (go_simp; rfl)); intro w48 hw; have hg : wr.grownBy w48 (some go42) := (by rw [hw]; exact HP47.2); have hp_ : Kd.R Kd.bool 4 w48 w.heap.size (fun _ => True) (.slice (some ⟨go42, 0, none⟩) x8_2.length co46) y147 := (by rw [hw, Ny147.out]; exact HP47.1); clear HP47; have n0_ := Aside0.mk (Kd.R_over' (v := (.slice (some ⟨go42, 0, none⟩) x8_2.length co46)) (by (with_reducible repeat (first | apply Kd.R_alloc | apply Kd.R_drewN | apply Kd.R_drew)); exact HO_6.out) (Kd.R_typed HO_8.out) (by decide) hg); have n1_ := Aside0.mk (hp_); have n2_ := Aside0.mk (Kd.R_over' (v := (.slice (some ⟨go42, 0, none⟩) x8_2.length co46)) (by (with_reducible repeat (first | apply Kd.R_alloc | apply Kd.R_drewN | apply Kd.R_drew)); exact HO_35.out) (Kd.R_typed HO_8.out) (by decide) hg); have n3_ := Aside0.mk (blk_grown (g := gb135) (o := .cells #[.int .i64 t132, .int .i64 t133, .int .i64 t134] 26 (0, 0)) (by (with_reducible repeat (first | refine blk_drewN ?_ _ | refine blk_drew ?_ | refine blk_alloc ?_ _)); exact BK135.out) hg (Kd.R_ne HO_8.out BK135.out (by decide))); have n4_ := Aside0.mk ((by rw [hw]; exact below_set (HB.out) GB42.out : Below w.heap.size w w48)); clear HO_6; clear HO_8; clear HO_35; clear BK135; clear HB; have HO_6 := n0_; have HO_8 := n1_; have HO_35 := n2_; have BK135 := n3_; have HB := n4_; clear n0_ n1_ n2_ n3_ n4_; clear hg hw hp_; obtain ⟨Ao49, co49, eo49⟩ := Kd.R_slice HO_6.out; subst eo49; have p148 : 0 ≤ ((rd t142 x37_2) : Int) := of_decide_eq_true (by first | (with_reducible assumption) | assumption); have q148 : (rd t142 x37_2) < (x6_2.length : Int) := of_decide_eq_true (by first | (with_reducible assumption) | assumption); obtain ⟨ad148, e148, hx148_0⟩ := Kd.at_int (Kd.R_reads' HO_6.out).2.2 (rd t142 x37_2) p148 q148; cases e148; replace p148 := eq_true p148; replace q148 := eq_true q148; have p44 : 0 ≤ ((rd t142 x37_2) : Int) := of_decide_eq_true (by first | (with_reducible assumption) | assumption); have q44 : ((rd t142 x37_2) : Int) < ((x6_2.length : Int) : Int) := of_decide_eq_true (by first | (with_reducible assumption) | assumption); obtain ⟨go44, co44, eo44, gb44, gl44, cl44, HG44⟩ := Kd.R_form HO_6.out (by omega); (first | cases eo44 | (injection eo44 with ea_ en_ ec_; (first | subst ea_ | (injection ea_ with ea_; subst ea_)); subst ec_; clear en_)); have GB44 := Aside0.mk gb44; have GG44 := Aside0.mk HG44; clear gb44 gl44 HG44; (first | simp only [add_plain] at hx148_0 | skip); obtain ⟨hx44_0, hf44_0⟩ := Kd.R_celln 0 HO_6.out ((rd t142 x37_2) : Int) p44 q44; replace p44 := eq_true p44; replace q44 := eq_true q44; obtain ⟨hy50_, hz50_⟩ := Kd.R_celln 0 HO_6.out ((rd t142 x37_2) : Int) (of_decide_eq_true (by first | (with_reducible assumption) | assumption)) (of_decide_eq_true (by first | (with_reducible assumption) | assumption)); have HP50 := Kd.R_putg HO_6.out ((rd t142 x37_2) : Int) (wrap64 ((rd x6_2 (rd t142 x37_2)) + 1))) | ((with_reducible refine gate_store (t := 3) (p := 63) rfl ?_); refine store_event (t := 3) (p := 63) (v := ?vo_w51) (w1 := (w48.setCell ⟨go44, ((rd t142 x37_2) : Int).toNat, none⟩ (.int .i64 (wrap64 ((rd x6_2 (rd t142 x37_2)) + 1))))) ?hg ?ho ?hn ?hr ?_; (case ho => rfl); (case hg => rfl); (case hn => rfl); (case hr => first | (go_simp; done) | (go_simp; rfl)); intro w51 hw; have hg : w48.grownBy w51 (some go44) := (by rw [hw]; exact HP50.2); have hp_ : Kd.R (Kd.int .i64) 3 w51 w.heap.size (fun k_ => some k_ ≠ (.slice (some ad145) t142.length co29 : Value).ownBlock) (.slice (some ⟨go44, 0, none⟩) x6_2.length co49) y149 := (by rw [hw, Ny149.out]; exact HP50.1); clear HP50; have n0_ := Aside0.mk (hp_); have n1_ := Aside0.mk (Kd.R_over' (v := (.slice (some ⟨go44, 0, none⟩) x6_2.length co49)) (by (with_reducible repeat (first | apply Kd.R_alloc | apply Kd.R_drewN | apply Kd.R_drew)); exact HO_8.out) (Kd.R_typed HO_6.out) (by decide) hg); have n2_ := Aside0.mk (Kd.R_after (v := (.slice (some ⟨go44, 0, none⟩) x6_2.length co49)) (v1 := (.slice (some ⟨go44, 0, none⟩) x6_2.length co49)) (ok := (fun _ => True)) (by (with_reducible repeat (first | apply Kd.R_alloc | apply Kd.R_drewN | apply Kd.R_drew)); exact Kd.R_mono HO_35.out (fun _ hk => ⟨trivial, hk⟩)) hg (.inl rfl)); have n3_ := Aside0.mk (blk_grown (g := gb135) (o := .cells #[.int .i64 t132, .int .i64 t133, .int .i64 t134] 26 (0, 0)) (by (with_reducible repeat (first | refine blk_drewN ?_ _ | refine blk_drew ?_ | refine blk_alloc ?_ _)); exact BK135.out) hg (Kd.R_ne HO_6.out BK135.out (by decide))); have n4_ := Aside0.mk ((by rw [hw]; exact below_set (HB.out) GB44.out : Below w.heap.size w w51)); clear HO_6; clear HO_8; clear HO_35; clear BK135; clear HB; have HO_6 := n0_; have HO_8 := n1_; have HO_35 := n2_; have BK135 := n3_; have HB := n4_; clear n0_ n1_ n2_ n3_ n4_; clear hg hw hp_))
                                          go_roundg k2
                                          case measure => have := HK1.out; have := HK2.out; omega
                                          case rel => exact ⟨(y149), (y147), (wrap64 (x37_2 + 1)), (by first | rfl | (simp; done) | (simp [*]; done)), H', ⟨by have := HK1.out; have := HK2.out; omega⟩, ⟨by (with_reducible repeat (first | apply Kd.R_alloc | apply Kd.R_drewN | apply Kd.R_drew)); exact HO_6.out⟩, ⟨by (with_reducible repeat (first | apply Kd.R_alloc | apply Kd.R_drewN | apply Kd.R_drew)); exact HO_8.out⟩, ⟨by (with_reducible repeat (first | apply Kd.R_alloc | apply Kd.R_drewN | apply Kd.R_drew)); exact Kd.R_mono HO_35.out (fun _ hk => hk.2)⟩, ⟨by (with_reducible repeat (first | refine blk_drewN ?_ _ | refine blk_drew ?_ | refine blk_alloc ?_ _)); exact BK135.out⟩, ⟨by repeat (first | (with_reducible first | exact HB.out | apply below_alloc | apply pw_below_drewN | apply below_drew1 | refine below_set ?_ GE135.out) | exact HB.out)⟩⟩
                                        · rw [if_neg c43] at H
                                          exact absurd H (by simp)
                                    · rw [if_neg c37] at H
                                      exact absurd H (by simp)
                                  · rw [if_neg c36] at H
                                    exact absurd H (by simp)
                            · rw [if_neg c32] at H
                              exact absurd H (by simp)
                          · rw [if_neg c31] at H
                            exact absurd H (by simp)
                        · rw [if_neg c30] at H
                          have c30b0 : decide (x37_2 < (t142.length : Int)) = false := decide_eq_false c30
                          clear c30
                          have H' := Aside0.mk H
                          clear H
                          go_wp2
                          go_roundg k2
                          case measure => have := HK1.out; have := HK2.out; omega
                          case rel => exact ⟨(x6_2), (wrap64 (x24_1 + 1)), (by first | rfl | (simp; done) | (simp [*]; done)), H', ⟨by have := HK1.out; have := HK2.out; omega⟩, ⟨by (with_reducible repeat (first | apply Kd.R_alloc | apply Kd.R_drewN | apply Kd.R_drew)); exact Kd.R_mono HO_6.out (fun _ hk => trivial)⟩, ⟨by (with_reducible repeat (first | refine blk_drewN ?_ _ | refine blk_drew ?_ | refine blk_alloc ?_ _)); exact BK135.out⟩, ⟨by repeat (first | (with_reducible first | exact HB.out | apply below_alloc | apply pw_below_drewN | apply below_drew1 | refine below_set ?_ GE135.out) | exact HB.out)⟩⟩
                  · rw [if_neg c22] at H
                    exact absurd H (by simp)
                · rw [if_neg c21] at H
                  exact absurd H (by simp)
              · rw [if_neg c20] at H
                have c20b0 : decide (x24_1 < t132) = false := decide_eq_false c20
                clear c20
                have H' := Aside0.mk H
                clear H
                obtain ⟨Ao52, co52, eo52⟩ := Kd.R_slice HO_6.out
                subst eo52
                go_wp2
                go_loopg [68] k1 (fun kq v68 w' => ∃ (x68_2 : Int), v68 = .int .i64 x68_2 ∧ Aside0 (mailcoachlaw10_QuorumSpread.l2 kq x6_1 (x6_1.length : Int) x68_2 t132 t133 t134 = some r) ∧ Aside0 (kq ≤ k1) ∧ Aside0 (Kd.R (Kd.int .i64) 3 w' w.heap.size (fun _ => True) (.slice Ao52 x6_1.length co52) x6_1) ∧ Aside0 (w'.heap[gb135]? = some (.cells #[.int .i64 t132, .int .i64 t133, .int .i64 t134] 26 (0, 0))) ∧ Aside0 (Below w.heap.size w w'))
                case atStart => exact ⟨(0), (by first | rfl | (simp; done) | (simp [*]; done)), H', ⟨Nat.le_refl _⟩, ⟨by (with_reducible repeat (first | apply Kd.R_alloc | apply Kd.R_drewN | apply Kd.R_drew)); exact HO_6.out⟩, ⟨by (with_reducible repeat (first | refine blk_drewN ?_ _ | refine blk_drew ?_ | refine blk_alloc ?_ _)); exact BK135.out⟩, ⟨by repeat (first | (with_reducible first | exact HB.out | apply below_alloc | apply pw_below_drewN | apply below_drew1 | refine below_set ?_ GE135.out) | exact HB.out)⟩⟩
                case round =>
                  clear H'
                  try clear c1
                  try clear p1
                  try clear q1
                  try clear hx1
                  try clear c2
                  try clear p2
                  try clear c3
                  try clear q3
                  try clear c4
                  try clear p4
                  try clear q4
                  try clear hx4
                  try clear hf4
                  try clear c6
                  try clear c6b0
                  try clear p6
                  try clear c8
                  try clear c9
                  try clear c10
                  try clear c11
                  try clear c11b0
                  try clear c11b1
                  try clear c12
                  try clear c12b0
                  try clear c12b1
                  try clear p14
                  try clear q14
                  try clear hx14
                  try clear c20
                  try clear c20b0
                  try clear c21
                  try clear c21b0
                  try clear c21b1
                  try clear c22
                  try clear c22b0
                  try clear c22b1
                  try clear c30
                  try clear c30b0
                  try clear c31
                  try clear c31b0
                  try clear c32
                  try clear c32b0
                  try clear c33
                  try clear c33b0
                  try clear c34
                  try clear c34b0
                  try clear c36
                  try clear c36b0
                  try clear c37
                  try clear c37b0
                  try clear q38
                  try clear c39
                  try clear p42
                  try clear q42
                  try clear hx42
                  try clear hf42
                  try clear c43
                  try clear c43b0
                  try clear p44
                  try clear q44
                  try clear hx44
                  try clear hf44
                  try clear hcz10_0
                  try clear hcz10_1
                  try clear hcz10_2
                  try clear hcz16_0
                  try clear hcz16_1
                  try clear hcz16_2
                  try clear hcz19_0
                  try clear hcz19_1
                  try clear hcz19_2
                  try clear hcz24_0
                  try clear hcz24_1
                  try clear hcz24_2
                  try clear hcz27_0
                  try clear hcz27_1
                  try clear hcz27_2
                  try clear hcz35_0
                  try clear hcz35_1
                  try clear hcz35_2
                  try clear hcz40_0
                  try clear hcz40_1
                  try clear hcz40_2
                  try clear hcz45_0
                  try clear hcz45_1
                  try clear hcz45_2
                  try clear hfz10_0
                  try clear hfz10_1
                  try clear hfz10_2
                  try clear hfz16_0
                  try clear hfz16_1
                  try clear hfz16_2
                  try clear hfz19_0
                  try clear hfz19_1
                  try clear hfz19_2
                  try clear hfz24_0
                  try clear hfz24_1
                  try clear hfz24_2
                  try clear hfz27_0
                  try clear hfz27_1
                  try clear hfz27_2
                  try clear hfz35_0
                  try clear hfz35_1
                  try clear hfz35_2
                  try clear hfz40_0
                  try clear hfz40_1
                  try clear hfz40_2
                  try clear hfz45_0
                  try clear hfz45_1
                  try clear hfz45_2
                  try clear hx145_0
                  try clear hx146_0
                  try clear hx148_0
                  try clear hx42_0
                  try clear hx44_0
                  try clear p145
                  try clear p146
                  try clear p148
                  try clear p2
                  try clear p42
                  try clear p44
                  try clear q145
                  try clear q146
                  try clear q148
                  try clear q42
                  try clear q44
                  obtain ⟨x68_2, rfl, HA, HK2, HO_66, BK135, HB⟩ := hrel
                  cases gk with
                  | zero => exact absurd HA.out (by simp [mailcoachlaw10_QuorumSpread.l2])
                  | succ k2 =>
                    have H := HA.out
                    clear HA
                    simp only [mailcoachlaw10_QuorumSpread.l2] at H
                    by_cases c53 : x68_2 < (x6_1.length : Int)
                    · rw [if_pos c53] at H
                      have c53b0 : decide (x68_2 < (x6_1.length : Int)) = true := decide_eq_true c53
                      clear c53
                      by_cases c54 : 0 ≤ x68_2
                      · rw [if_pos c54] at H
                        have c54b0 : decide (0 ≤ x68_2) = true := decide_eq_true c54
                        clear c54
                        by_cases c55 : x68_2 < (x6_1.length : Int)
                        · rw [if_pos c55] at H
                          have c55b0 : decide (x68_2 < (x6_1.length : Int)) = true := decide_eq_true c55
                          clear c55
                          by_cases c56 : (rd x6_1 x68_2) = t133
                          · rw [if_pos c56] at H
                            have c56b0 : ((rd x6_1 x68_2) == t133) = true := beq_iff_eq.mpr c56
                            have c56b1 : ((rd x6_1 x68_2) != t133) = false := bne_eq_false_iff_eq.mpr c56
                            clear c56
                            have H' := Aside0.mk H
                            clear H
                            have p150 : 0 ≤ (x68_2 : Int) := of_decide_eq_true (by first | (with_reducible assumption) | assumption)
                            have q150 : x68_2 < (x6_1.length : Int) := of_decide_eq_true (by first | (with_reducible assumption) | assumption)
                            obtain ⟨ad150, e150, hx150_0⟩ := Kd.at_int (Kd.R_reads' HO_66.out).2.2 x68_2 p150 q150
                            cases e150
                            replace p150 := eq_true p150
                            replace q150 := eq_true q150
                            have hcz57_0 : wr.cell? ⟨gb135, 0, none⟩ = some (.int .i64 t132) := (blk_cell BK135.out 0).trans rfl
                            have hcz57_1 : wr.cell? ⟨gb135, 1, none⟩ = some (.int .i64 t133) := (blk_cell BK135.out 1).trans rfl
                            have hcz57_2 : wr.cell? ⟨gb135, 2, none⟩ = some (.int .i64 t134) := (blk_cell BK135.out 2).trans rfl
                            have hfz57_0 := blk_frozen BK135.out 0
                            have hfz57_1 := blk_frozen BK135.out 1
                            have hfz57_2 := blk_frozen BK135.out 2
                            go_wp2
                            go_roundg k2
                            case measure => have := HK1.out; have := HK2.out; omega
                            case rel => exact ⟨(wrap64 (x68_2 + 1)), (by first | rfl | (simp; done) | (simp [*]; done)), H', ⟨by have := HK1.out; have := HK2.out; omega⟩, ⟨by (with_reducible repeat (first | apply Kd.R_alloc | apply Kd.R_drewN | apply Kd.R_drew)); exact HO_66.out⟩, ⟨by (with_reducible repeat (first | refine blk_drewN ?_ _ | refine blk_drew ?_ | refine blk_alloc ?_ _)); exact BK135.out⟩, ⟨by repeat (first | (with_reducible first | exact HB.out | apply below_alloc | apply pw_below_drewN | apply below_drew1 | refine below_set ?_ GE135.out) | exact HB.out)⟩⟩
                          · rw [if_neg c56] at H
                            have c56b0 : ((rd x6_1 x68_2) == t133) = false := beq_eq_false_iff_ne.mpr c56
                            have c56b1 : ((rd x6_1 x68_2) != t133) = true := bne_iff_ne.mpr c56
                            obtain rfl := Option.some.inj H
                            have p150 : 0 ≤ (x68_2 : Int) := of_decide_eq_true (by first | (with_reducible assumption) | assumption)
                            have q150 : x68_2 < (x6_1.length : Int) := of_decide_eq_true (by first | (with_reducible assumption) | assumption)
                            obtain ⟨ad150, e150, hx150_0⟩ := Kd.at_int (Kd.R_reads' HO_66.out).2.2 x68_2 p150 q150
                            cases e150
                            replace p150 := eq_true p150
                            replace q150 := eq_true q150
                            have hcz58_0 : wr.cell? ⟨gb135, 0, none⟩ = some (.int .i64 t132) := (blk_cell BK135.out 0).trans rfl
                            have hcz58_1 : wr.cell? ⟨gb135, 1, none⟩ = some (.int .i64 t133) := (blk_cell BK135.out 1).trans rfl
                            have hcz58_2 : wr.cell? ⟨gb135, 2, none⟩ = some (.int .i64 t134) := (blk_cell BK135.out 2).trans rfl
                            have hfz58_0 := blk_frozen BK135.out 0
                            have hfz58_1 := blk_frozen BK135.out 1
                            have hfz58_2 := blk_frozen BK135.out 2
                            go_wp2
                            go_ret
                            exact ⟨by first | rfl | (simp [errW_none, errW_some] <;> rfl) | (simp [*, errW_none, errW_some] <;> rfl), by repeat (first | (with_reducible first | exact HB.out | apply below_alloc | apply pw_below_drewN | apply below_drew1 | refine below_set ?_ GE135.out) | exact HB.out)⟩
                        · rw [if_neg c55] at H
                          exact absurd H (by simp)
                      · rw [if_neg c54] at H
                        exact absurd H (by simp)
                    · rw [if_neg c53] at H
                      have c53b0 : decide (x68_2 < (x6_1.length : Int)) = false := decide_eq_false c53
                      clear c53
                      obtain rfl := Option.some.inj H
                      go_wp2
                      go_ret
                      exact ⟨by first | rfl | (simp [errW_none, errW_some] <;> rfl) | (simp [*, errW_none, errW_some] <;> rfl), by repeat (first | (with_reducible first | exact HB.out | apply below_alloc | apply pw_below_drewN | apply below_drew1 | refine below_set ?_ GE135.out) | exact HB.out)⟩
        · rw [if_neg c12] at H
          exact absurd H (by simp)
      · rw [if_neg c11] at H
        exact absurd H (by simp)
  · replace c4 := Bool.eq_false_iff.mpr c4
    subst c4
    have H1 : (some false) = some r := by rw [if_neg (show ¬ (false = true) by decide)] at H; exact H
    clear H
    have H := H1
    clear H1
    obtain rfl := Option.some.inj H
    go_enter Try.func3, Try.ntmps3
    go_wp2_with (first | ((with_reducible refine gate_callee (f := 8) rfl ?_); refine goesL_ (some 13) rfl rfl Try.func8 (by kernel_rfl) rfl #[] rfl (by (try simp only [List.map_toArray, List.map_cons, List.map_nil]); first | done | rfl | (simp only [List.length_drop, List.length_take]; rfl)) ?_; (with_reducible refine (mailcoachlaw10_Awake.calls k  false _ A3.out).mono ?_); rintro e w59 ⟨rfl, hb⟩; refine ⟨_, rfl, ?_⟩; have n0_ := Aside0.mk (below_step (by repeat (first | (with_reducible first | exact HB.out | apply below_alloc | apply pw_below_drewN | apply below_drew1) | exact HB.out)) hb); clear HB; have HB := n0_; clear n0_; (try clear hb); (try clear hb2); (try clear hk); (try clear hi)))
    go_ret
    exact ⟨by first | rfl | (simp [errW_none, errW_some] <;> rfl) | (simp [*, errW_none, errW_some] <;> rfl), by repeat (first | (with_reducible first | exact HB.out | apply below_alloc | apply pw_below_drewN | apply below_drew1) | exact HB.out)⟩

/-- THE ONE PURE STATEMENT of mailcoachlaw10_QuorumSpread: yours. -/
def mailcoachlaw10_QuorumSpread.Pure : Prop := ∀ (a0 : Int) (a1 : Int), (Lit.int .u16 a0).wf = true → (Lit.int .u64 a1).wf = true → ∃ k, mailcoachlaw10_QuorumSpread.f k a0 a1 = some true
theorem mailcoachlaw10_QuorumSpread.walk (P : mailcoachlaw10_QuorumSpread.Pure) (a0 : Int) (a1 : Int) (w : World) (w0 : (Lit.int .u16 a0).wf = true) (w1 : (Lit.int .u64 a1).wf = true) :
    Calls Try.prog 3 #[.int .u16 a0, .int .u64 a1] w fun e w' => e = .returned (.bool true) ∧ Below w.heap.size w w' := by
  obtain ⟨k, h⟩ := P a0 a1 w0 w1
  refine (mailcoachlaw10_QuorumSpread.calls k a0 a1 true w h).mono ?_
  rintro e w' ⟨rfl, hd⟩
  exact ⟨rfl, hd⟩

end Go.Proofs.Ytcjndpmknachhaa.PQuorumSpread
