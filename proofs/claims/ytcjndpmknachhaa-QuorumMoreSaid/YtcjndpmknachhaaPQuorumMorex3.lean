-- PRINTED BY print.sh 35421559b90ae4d0a3588c463048766b98c2df88dd9212a6774a882060cdf62d: not written by this session
import Derived.Test.YtcjndpmknachhaaPQuorumMorex0
import Derived.Test.YtcjndpmknachhaaPQuorumMorex2
namespace Go.Proofs.Ytcjndpmknachhaa.PQuorumMore
open Go.RowKit Go.Proofs.YtcjndpmknachhaaW.PrintWords Go.Proofs.YtcjndpmknachhaaW.PrintLast Go.Proofs.YtcjndpmknachhaaW.PrintMore
attribute [local go_sem] max2_int min2_int max_two min_two max_three min_three max_four min_four   -- for this text's walks alone
set_option linter.unusedVariables false
set_option linter.unusedSimpArgs false

/-! ### mailcoachlaw10_QuorumMore: function 7 -/
def mailcoachlaw10_QuorumMore.l0 : Nat → Int → Int → Int → List Bool → List Bool → Int → Int → Int → Int → Int → Option (Bool)
  | 0, _, _, _, _, _, _, _, _, _, _ => none
  | k + 1, x1, x2, x3, x10, x11, x24, x25, x139000, x139001, x139002 => if x25 < x24 then (if 0 ≤ x25 then (if x25 < (x10.length : Int) then ((some (x10.set (x25 : Int).toNat ((Go.bits .and .u8 (shr .u8 x2 x25) 1) == 1) : List Bool)).bind fun y145 => (if rdOf false y145 x25 = true then (if x25 < (x11.length : Int) then (mailcoachlaw10_QuorumMore.l0 k x1 x2 x3 y145 (x11.set (x25 : Int).toNat true) x24 (wrap64 (x25 + 1)) x139000 x139001 x139002) else (none)) else (if x25 < (x11.length : Int) then (mailcoachlaw10_QuorumMore.l0 k x1 x2 x3 y145 (x11.set (x25 : Int).toNat ((Go.bits .and .u8 (shr .u8 x3 x25) 1) == 1)) x24 (wrap64 (x25 + 1)) x139000 x139001 x139002) else (none)))) else (none)) else (none)) else ((quorum_Enough.f k x139000 x139001 x139002 x1 x10).bind fun t149 => (if t149 = true then ((quorum_Enough.f k x139000 x139001 x139002 x1 x11).bind fun t150 => (if t150 = true then ((quorum_Covered.f k x139000 x139001 x139002 x10).bind fun t151 => (if t151 = true then ((quorum_Covered.f k x139000 x139001 x139002 x11).bind fun t152 => (some t152)) else (some true))) else (some false))) else ((quorum_Covered.f k x139000 x139001 x139002 x10).bind fun t153 => (if t153 = true then ((quorum_Covered.f k x139000 x139001 x139002 x11).bind fun t154 => (some t154)) else (some true)))))
def mailcoachlaw10_QuorumMore.f (k : Nat) (a0 : Int) (a1 : Int) (a2 : Int) (a3 : Int) : Option (Bool) := (mailcoachlaw10_Awake.f k).bind fun t134 => (if t134 = true then ((mailcoachlaw10_Quorum.f a0).bind fun bt135 => (if 0 ≤ bt135.1 then (if (bt135.1 : Int).toNat ≤ 281474976710656 then (mailcoachlaw10_QuorumMore.l0 k a1 a2 a3 (List.replicate (bt135.1 : Int).toNat false) (List.replicate (bt135.1 : Int).toNat false) bt135.1 0 bt135.1 bt135.2.1 bt135.2.2) else (none)) else (none))) else (some false))
theorem mailcoachlaw10_QuorumMore.mono_l : ∀ k, (∀ y0 y1 y2 y3 y4 y5 y6 y7 y8 y9, LeO (mailcoachlaw10_QuorumMore.l0 k y0 y1 y2 y3 y4 y5 y6 y7 y8 y9) (mailcoachlaw10_QuorumMore.l0 (k + 1) y0 y1 y2 y3 y4 y5 y6 y7 y8 y9))
  | 0 => fun _ _ _ _ _ _ _ _ _ _ r h => by simp [mailcoachlaw10_QuorumMore.l0] at h
  | k + 1 => by
    have ih0 := mailcoachlaw10_QuorumMore.mono_l k
    · intro y0 y1 y2 y3 y4 y5 y6 y7 y8 y9
      unfold mailcoachlaw10_QuorumMore.l0
      repeat' first
      | (with_reducible exact ih0 _ _ _ _ _ _ _ _ _ _)
      | (with_reducible exact mailcoachlaw10_Awake.mono _)
      | (with_reducible exact quorum_Covered.mono _ _ _ _ _)
      | (with_reducible exact quorum_Enough.mono _ _ _ _ _ _)
      | (with_reducible exact LeO.refl _)
      | (with_reducible exact LeO.none _)
      | (with_reducible refine LeO.ite ?_ ?_)
      | (with_reducible refine LeO.bind ?_ (fun _ => ?_))
      | exact ih0 _ _ _ _ _ _ _ _ _ _
      | exact mailcoachlaw10_Awake.mono _
      | exact quorum_Covered.mono _ _ _ _ _
      | exact quorum_Enough.mono _ _ _ _ _ _
      | exact LeO.none _
      | refine LeO.ite ?_ ?_
      | refine LeO.bind ?_ (fun _ => ?_)
theorem mailcoachlaw10_QuorumMore.mono : ∀ a0 a1 a2 a3 k, LeO (mailcoachlaw10_QuorumMore.f k a0 a1 a2 a3) (mailcoachlaw10_QuorumMore.f (k + 1) a0 a1 a2 a3) := by
  intro a0 a1 a2 a3 k
  have ih0 := mailcoachlaw10_QuorumMore.mono_l k
  unfold mailcoachlaw10_QuorumMore.f
  repeat' first
      | (with_reducible exact ih0 _ _ _ _ _ _ _ _ _ _)
      | (with_reducible exact mailcoachlaw10_Awake.mono _)
      | (with_reducible exact quorum_Covered.mono _ _ _ _ _)
      | (with_reducible exact quorum_Enough.mono _ _ _ _ _ _)
      | (with_reducible exact LeO.refl _)
      | (with_reducible exact LeO.none _)
      | (with_reducible refine LeO.ite ?_ ?_)
      | (with_reducible refine LeO.bind ?_ (fun _ => ?_))
      | exact ih0 _ _ _ _ _ _ _ _ _ _
      | exact mailcoachlaw10_Awake.mono _
      | exact quorum_Covered.mono _ _ _ _ _
      | exact quorum_Enough.mono _ _ _ _ _ _
      | exact LeO.none _
      | refine LeO.ite ?_ ?_
      | refine LeO.bind ?_ (fun _ => ?_)
def mailcoachlaw10_QuorumMore.T4 : Bool × List (List Nat × List Nat) := (true, [([], []), ([0], [0]), ([1, 1], [1]), ([], []), ([3], [3]), ([4, 4], [4]), ([2, 0, 1, 2], [2]), ([5, 6, 0, 1, 2, 3, 4, 5, 6], [5])])
def mailcoachlaw10_QuorumMore.B4 : List Nat := [0, 1, 3, 0, 8, 24, 7, 127]
theorem mailcoachlaw10_QuorumMore.tab4 : rtab .any (opsOf Try.f7 4) = mailcoachlaw10_QuorumMore.T4 := by kernel_rfl
theorem mailcoachlaw10_QuorumMore.bits4 : waitsOk mailcoachlaw10_QuorumMore.T4.2 mailcoachlaw10_QuorumMore.B4 = true := by kernel_rfl
set_option maxHeartbeats 8000000 in
set_option maxRecDepth 100000 in
theorem mailcoachlaw10_QuorumMore.calls (k : Nat) (a0 : Int) (a1 : Int) (a2 : Int) (a3 : Int) (r : Bool) (w : World) (h : mailcoachlaw10_QuorumMore.f k a0 a1 a2 a3 = some r) :
    Calls Try.prog 7 #[.int .u16 a0, .int .u64 a1, .int .u8 a2, .int .u8 a3] w fun e w' => e = .returned (.bool r) ∧ Below w.heap.size w w' := by
  have hu26 := Try.underlying26
  have HB := Aside0.mk (Below.refl w.heap.size w)
  have H : ((mailcoachlaw10_Awake.f k).bind fun t134 => (if t134 = true then ((mailcoachlaw10_Quorum.f a0).bind fun bt135 => (if 0 ≤ bt135.1 then (if (bt135.1 : Int).toNat ≤ 281474976710656 then (mailcoachlaw10_QuorumMore.l0 k a1 a2 a3 (List.replicate (bt135.1 : Int).toNat false) (List.replicate (bt135.1 : Int).toNat false) bt135.1 0 bt135.1 bt135.2.1 bt135.2.2) else (none)) else (none))) else (some false))) = some r := h
  clear h
  replace H := Option.bind_eq_some_iff.mp H
  obtain ⟨t134, A50, H⟩ := H
  replace H : (if t134 = true then ((mailcoachlaw10_Quorum.f a0).bind fun bt135 => (if 0 ≤ bt135.1 then (if (bt135.1 : Int).toNat ≤ 281474976710656 then (mailcoachlaw10_QuorumMore.l0 k a1 a2 a3 (List.replicate (bt135.1 : Int).toNat false) (List.replicate (bt135.1 : Int).toNat false) bt135.1 0 bt135.1 bt135.2.1 bt135.2.2) else (none)) else (none))) else (some false)) = some r := H
  have A5 := Aside0.mk A50
  clear A50
  by_cases c6 : t134 = true
  · subst c6
    have H1 : ((mailcoachlaw10_Quorum.f a0).bind fun bt135 => (if 0 ≤ bt135.1 then (if (bt135.1 : Int).toNat ≤ 281474976710656 then (mailcoachlaw10_QuorumMore.l0 k a1 a2 a3 (List.replicate (bt135.1 : Int).toNat false) (List.replicate (bt135.1 : Int).toNat false) bt135.1 0 bt135.1 bt135.2.1 bt135.2.2) else (none)) else (none))) = some r := by rw [if_pos rfl] at H; exact H
    clear H
    have H := H1
    clear H1
    replace H := Option.bind_eq_some_iff.mp H
    obtain ⟨⟨t135, t136, t137⟩, A70, H⟩ := H
    replace H : (if 0 ≤ t135 then (if (t135 : Int).toNat ≤ 281474976710656 then (mailcoachlaw10_QuorumMore.l0 k a1 a2 a3 (List.replicate (t135 : Int).toNat false) (List.replicate (t135 : Int).toNat false) t135 0 t135 t136 t137) else (none)) else (none)) = some r := H
    have A7 := Aside0.mk A70
    clear A70
    by_cases c8 : 0 ≤ t135
    · rw [if_pos c8] at H
      have c8b0 := eq_true c8
      have c8b1 : decide (0 ≤ t135) = true := decide_eq_true c8
      clear c8
      by_cases c9 : (t135 : Int).toNat ≤ 281474976710656
      · rw [if_pos c9] at H
        have c9b0 := eq_true c9
        have c9b1 : decide ((t135 : Int).toNat ≤ 281474976710656) = true := decide_eq_true c9
        clear c9
        obtain ⟨y139, hy139⟩ : ∃ y_ : List Bool, y_ = (List.replicate (t135 : Int).toNat false) := ⟨_, rfl⟩
        replace H : (mailcoachlaw10_QuorumMore.l0 k a1 a2 a3 y139 (List.replicate (t135 : Int).toNat false) t135 0 t135 t136 t137) = some r := by first | (rw [hy139]; with_reducible exact H) | (have H2_ := (Option.bind_some _ _).symm.trans H; rw [hy139]; with_reducible exact H2_) | (have H2_ := (Option.bind_some _ _).symm.trans H; with_reducible exact H2_) | with_reducible exact H | (rw [hy139]; exact H) | exact H
        have Ny139 := Aside0.mk hy139
        clear hy139
        obtain ⟨y142, hy142⟩ : ∃ y_ : List Bool, y_ = (List.replicate (t135 : Int).toNat false) := ⟨_, rfl⟩
        replace H : (mailcoachlaw10_QuorumMore.l0 k a1 a2 a3 y139 y142 t135 0 t135 t136 t137) = some r := by first | (rw [hy142]; with_reducible exact H) | (have H2_ := (Option.bind_some _ _).symm.trans H; rw [hy142]; with_reducible exact H2_) | (have H2_ := (Option.bind_some _ _).symm.trans H; with_reducible exact H2_) | with_reducible exact H | (rw [hy142]; exact H) | exact H
        have Ny142 := Aside0.mk hy142
        clear hy142
        have H' := Aside0.mk H
        clear H
        go_enter Try.func7, Try.ntmps7
        try go_wp2_with (first | ((with_reducible refine gate_callee (f := 8) rfl ?_); refine goesL_ (some 13) rfl rfl Try.func8 (by kernel_rfl) rfl #[] rfl (by (try simp only [List.map_toArray, List.map_cons, List.map_nil]); first | done | rfl | (simp only [List.length_drop, List.length_take]; rfl)) ?_; (with_reducible refine (mailcoachlaw10_Awake.calls k  true _ A5.out).mono ?_); rintro e w10 ⟨rfl, hb⟩; refine ⟨_, rfl, ?_⟩; have n0_ := Aside0.mk (below_step (by repeat (first | (with_reducible first | exact HB.out | apply below_alloc | apply pw_below_drewN | apply below_drew1) | exact HB.out)) hb); clear HB; have HB := n0_; clear n0_; (try clear hb); (try clear hb2); (try clear hk); (try clear hi)) | ((with_reducible refine gate_callee (f := 9) rfl ?_); refine goesL_ (some 16) rfl rfl Try.func9 (by kernel_rfl) rfl #[.int .u16 a0] rfl (by (try simp only [List.map_toArray, List.map_cons, List.map_nil]); first | done | rfl | (simp only [List.length_drop, List.length_take]; rfl)) ?_; (with_reducible refine (mailcoachlaw10_Quorum.calls a0 t135 t136 t137 _ A7.out).mono ?_); rintro e w11 ⟨rfl, hb⟩; refine ⟨_, rfl, ?_⟩; have n0_ := Aside0.mk (below_step (by repeat (first | (with_reducible first | exact HB.out | apply below_alloc | apply pw_below_drewN | apply below_drew1) | exact HB.out)) hb); clear HB; have HB := n0_; clear n0_; (try clear hb); (try clear hb2); (try clear hk); (try clear hi)) | ((with_reducible refine gate_dst (N := 9) rfl ?_); refine box_event ?hg (N := 9) ?hd (cs := #[.int .i64 0, .int .i64 0, .int .i64 0]) (t := 26) ?hr ?_; (case hd => rfl); (case hg => rfl); (case hr => first | (go_simp; done) | (go_simp; rfl)); intro gb138 hg w12 hbox hb; have n0_ := Aside0.mk (below_step (by repeat (first | (with_reducible first | exact HB.out | apply below_alloc | apply pw_below_drewN | apply below_drew1) | exact HB.out)) hb); have n1_ := Aside0.mk (hbox); have n2_ := Aside0.mk ((by rw [hg]; exact (below_size (by repeat (first | (with_reducible first | exact HB.out | apply below_alloc | apply pw_below_drewN | apply below_drew1) | exact HB.out))) : w.heap.size ≤ gb138)); have n3_ := Aside0.mk ((by rw [hg]; exact (below_size (by repeat (first | (with_reducible first | exact HB.out | apply below_alloc | apply pw_below_drewN | apply below_drew1) | exact HB.out))) : w.heap.size ≤ gb138)); clear HB; have HB := n0_; have BK138 := n1_; have GW138 := n2_; have GE138 := n3_; clear n0_ n1_ n2_ n3_; clear hb hbox hg; have hcz13_0 : w12.cell? ⟨gb138, 0, none⟩ = some (.int .i64 0) := (blk_cell BK138.out 0).trans rfl; have hcz13_1 : w12.cell? ⟨gb138, 1, none⟩ = some (.int .i64 0) := (blk_cell BK138.out 1).trans rfl; have hcz13_2 : w12.cell? ⟨gb138, 2, none⟩ = some (.int .i64 0) := (blk_cell BK138.out 2).trans rfl; have hfz13_0 := blk_frozen BK138.out 0; have hfz13_1 := blk_frozen BK138.out 1; have hfz13_2 := blk_frozen BK138.out 2))
        have n0_ : Aside0 ((((w12.setCell ⟨gb138, 0, none⟩ (.int .i64 t135)).setCell ⟨gb138, 1, none⟩ (.int .i64 t136)).setCell ⟨gb138, 2, none⟩ (.int .i64 t137)).heap[gb138]? = some (.cells #[.int .i64 t135, .int .i64 t136, .int .i64 t137] 26 (0, 0))) := ⟨by (with_reducible repeat (first | refine blk_drewN ?_ _ | refine blk_drew ?_ | refine blk_alloc ?_ _)); refine blk_put (cs := #[.int .i64 t135, .int .i64 t136, .int .i64 0]) ?_ 2 _ rfl; (with_reducible repeat (first | refine blk_drewN ?_ _ | refine blk_drew ?_ | refine blk_alloc ?_ _)); refine blk_put (cs := #[.int .i64 t135, .int .i64 0, .int .i64 0]) ?_ 1 _ rfl; (with_reducible repeat (first | refine blk_drewN ?_ _ | refine blk_drew ?_ | refine blk_alloc ?_ _)); refine blk_put (cs := #[.int .i64 0, .int .i64 0, .int .i64 0]) ?_ 0 _ rfl; (with_reducible repeat (first | refine blk_drewN ?_ _ | refine blk_drew ?_ | refine blk_alloc ?_ _)); exact BK138.out⟩
        have n1_ : Aside0 (Below w.heap.size w (((w12.setCell ⟨gb138, 0, none⟩ (.int .i64 t135)).setCell ⟨gb138, 1, none⟩ (.int .i64 t136)).setCell ⟨gb138, 2, none⟩ (.int .i64 t137))) := ⟨by repeat (first | (with_reducible first | exact HB.out | apply below_alloc | apply pw_below_drewN | apply below_drew1 | refine below_set ?_ GE138.out) | exact HB.out)⟩
        (try clear BK138)
        (try clear HB)
        generalize (((w12.setCell ⟨gb138, 0, none⟩ (.int .i64 t135)).setCell ⟨gb138, 1, none⟩ (.int .i64 t136)).setCell ⟨gb138, 2, none⟩ (.int .i64 t137)) = w14 at n0_ n1_ ⊢
        have BK138 := n0_
        have HB := n1_
        clear n0_ n1_
        have n0_ := Aside0.mk (blk_drew BK138.out)
        have n1_ := Aside0.mk (below_drew1 HB.out)
        clear BK138
        clear HB
        have BK138 := n0_
        have HB := n1_
        clear n0_ n1_
        refine start_ (n := 8) (S := fun w' => w'.cell? ⟨gb138, 0, none⟩ = some (.int .i64 t135) ∧ w'.cell? ⟨gb138, 1, none⟩ = some (.int .i64 t136) ∧ w'.cell? ⟨gb138, 2, none⟩ = some (.int .i64 t137)) (ds := []) #[false, false, false, false, false, false, false, false] (by kernel_rfl) rfl rfl ⟨(blk_cell BK138.out 0).trans rfl, (blk_cell BK138.out 1).trans rfl, (blk_cell BK138.out 2).trans rfl⟩ (fun hHeld => ?_); refine with_tabW mailcoachlaw10_QuorumMore.tab4 mailcoachlaw10_QuorumMore.bits4 (fun HT_ HW_ => ?_)
        generalize w14.drew = w15 at BK138 HB hHeld ⊢
        refine pure_ (i := 0) (N := some 17) (v := ?_) (a' := ?_) #[true, false, false, false, false, false, false, false] rfl rfl (any_of HT_.out (by kernel_rfl)) (fun _ _ _ h => h) (Or.inl ⟨by rfl, ?_⟩) ?_ ?_
        rotate_left
        · intro w'
          go_simp
          with_reducible rfl
        rotate_left
        · simp only [Act.put, List.setIfInBounds_toArray, List.set_cons_zero, List.set_cons_succ, i64_w, i32_w]
          rfl
        refine pure_ (i := 3) (N := some 20) (v := ?_) (a' := ?_) #[true, false, false, true, false, false, false, false] rfl rfl (any_of HT_.out (by kernel_rfl)) (fun _ _ _ h => h) (Or.inl ⟨by rfl, ?_⟩) ?_ ?_
        rotate_left
        · intro w'
          go_simp
          with_reducible rfl
        rotate_left
        · simp only [Act.put, List.setIfInBounds_toArray, List.set_cons_zero, List.set_cons_succ, i64_w, i32_w]
          rfl
        refine take_ (i := 1) (N := some 18) (v := ?_) (a' := ?_) #[true, true, false, true, false, false, false, false] rfl rfl (take_ofW HT_.out HW_.out (by kernel_rfl)) (fun _ _ _ h => h) (Or.inl ⟨by rfl, ?_⟩) hHeld ?_ ?_
        rotate_left
        · rintro w' ⟨s0, s1, s2⟩
          go_simp
          with_reducible rfl
        rotate_left
        · simp only [Act.put, List.setIfInBounds_toArray, List.set_cons_zero, List.set_cons_succ, i64_w, i32_w]
          rfl
        refine take_ (i := 4) (N := some 21) (v := ?_) (a' := ?_) #[true, true, false, true, true, false, false, false] rfl rfl (take_ofW HT_.out HW_.out (by kernel_rfl)) (fun _ _ _ h => h) (Or.inl ⟨by rfl, ?_⟩) hHeld ?_ ?_
        rotate_left
        · rintro w' ⟨s0, s1, s2⟩
          go_simp
          with_reducible rfl
        rotate_left
        · simp only [Act.put, List.setIfInBounds_toArray, List.set_cons_zero, List.set_cons_succ, i64_w, i32_w]
          rfl
        refine join_ (σ := Value × Value) 1 #[true, true, true, true, true, true, true, false] (fun s_ => [(19, s_.1), (22, s_.2), (10, s_.1)]) (fun s_ w' => (w'.cell? ⟨gb138, 0, none⟩ = some (.int .i64 t135) ∧ w'.cell? ⟨gb138, 1, none⟩ = some (.int .i64 t136) ∧ w'.cell? ⟨gb138, 2, none⟩ = some (.int .i64 t137)) ∧ (Kd.R Kd.bool 4 w' w.heap.size (fun k_ => some k_ ≠ (s_.2 : Value).ownBlock) s_.1 y139) ∧ (Kd.R Kd.bool 4 w' w.heap.size (fun k_ => some k_ ≠ (s_.1 : Value).ownBlock) s_.2 y142) ∧ (w'.heap[gb138]? = some (.cells #[.int .i64 t135, .int .i64 t136, .int .i64 t137] 26 (0, 0))) ∧ (Below w.heap.size w w')) ?_ ?_
        rotate_left
        · intro hCont
          refine two_ (i := 2) (j := 5) (Ni := some 19) (Nj := some 22) #[true, true, true, true, true, false, false, false] #[true, true, false, true, true, true, false, false] rfl rfl rfl rfl (two_of HT_.out (by kernel_rfl)) (by decide) (by decide) (fun K hK => ?_) (fun K hK => ?_)
          · skip
            refine Kd.R_make_step Kd.bool _ 4 (by rfl) (N := 19) rfl 29 _ _ rfl t135 rfl rfl Try.underlying29 (.bool false) 1 info4 rfl (by decide) (by omega) false (ok := fun _ => True) (okp := fun _ => True) rfl (fun _ hk => hk) trivial (of_decide_eq_true (by first | (with_reducible assumption) | assumption)) (Nat.le_trans (Nat.mul_le_mul_right _ (of_decide_eq_true (by first | (with_reducible assumption) | assumption) : t135.toNat ≤ 281474976710656)) (by omega)) (Below.refl _ _) (Nat.le_refl _) ?_
            intro v140 w16 ho17 hb hg_ hnew_
            clear hg_ hnew_
            (first | rw [← Ny139.out] at ho17 | (simp only [Int.reduceToNat] at ho17; rw [← Ny139.out] at ho17))
            have n0_ := Aside0.mk (Kd.R_lower ho17 (below_size (by repeat (first | (with_reducible first | exact HB.out | apply below_alloc | apply pw_below_drewN | apply below_drew1 | refine below_set ?_ GE138.out) | exact HB.out))))
            have n1_ := Aside0.mk (blk_below (g := gb138) (o := .cells #[.int .i64 t135, .int .i64 t136, .int .i64 t137] 26 (0, 0)) (by (with_reducible repeat (first | refine blk_drewN ?_ _ | refine blk_drew ?_ | refine blk_alloc ?_ _)); exact BK138.out) hb)
            have n2_ := Aside0.mk (below_step (by repeat (first | (with_reducible first | exact HB.out | apply below_alloc | apply pw_below_drewN | apply below_drew1 | refine below_set ?_ GE138.out) | exact HB.out)) hb)
            clear BK138
            clear HB
            have HO141 := n0_
            have BK138 := n1_
            have HB := n2_
            clear n0_ n1_ n2_
            clear hb ho17
            refine hK.out _ _ ⟨(blk_cell BK138.out 0).trans rfl, (blk_cell BK138.out 1).trans rfl, (blk_cell BK138.out 2).trans rfl⟩ (fun hHeld => ?_)
            clear hK K
            refine norm_ (a' := ?_) ?_ ?_
            rotate_left
            · show Act.put _ (some 19) _ = _
              simp only [Act.put, List.setIfInBounds_toArray, List.set_cons_zero, List.set_cons_succ, i64_w, i32_w]
              rfl
            refine pure_ (i := 6) (N := some 10) (v := ?_) (a' := ?_) #[true, true, true, true, true, false, true, false] rfl rfl (any_of HT_.out (by kernel_rfl)) (fun _ _ _ h => h) (Or.inl ⟨by rfl, ?_⟩) ?_ ?_
            rotate_left
            · intro w'
              go_simp
              with_reducible rfl
            rotate_left
            · simp only [Act.put, List.setIfInBounds_toArray, List.set_cons_zero, List.set_cons_succ, i64_w, i32_w]
              rfl
            refine one_ (i := 5) (N := some 22) #[true, true, true, true, true, true, true, false] rfl rfl (one_of HT_.out (by kernel_rfl)) (by decide) (fun K hK => ?_)
            refine Kd.R_make_step Kd.bool _ 4 (by rfl) (N := 22) rfl 29 _ _ rfl t135 rfl rfl Try.underlying29 (.bool false) 1 info4 rfl (by decide) (by omega) false (ok := fun _ => True) (okp := fun _ => True) rfl (fun _ hk => hk) trivial (of_decide_eq_true (by first | (with_reducible assumption) | assumption)) (Nat.le_trans (Nat.mul_le_mul_right _ (of_decide_eq_true (by first | (with_reducible assumption) | assumption) : t135.toNat ≤ 281474976710656)) (by omega)) (Below.refl _ _) (Nat.le_refl _) ?_
            intro v143 w18 ho19 hb hg_ hnew_
            clear hg_ hnew_
            (first | rw [← Ny142.out] at ho19 | (simp only [Int.reduceToNat] at ho19; rw [← Ny142.out] at ho19))
            have n0_ := Aside0.mk (Kd.R_elder' (by (with_reducible repeat (first | apply Kd.R_alloc | apply Kd.R_drewN | apply Kd.R_drew)); exact HO141.out) (Kd.R_base ho19) hb)
            have n1_ := Aside0.mk (Kd.R_lower (Kd.R_new' ho19 (Kd.R_lt (by (with_reducible repeat (first | apply Kd.R_alloc | apply Kd.R_drewN | apply Kd.R_drew)); exact HO141.out))) (below_size (by repeat (first | (with_reducible first | exact HB.out | apply below_alloc | apply pw_below_drewN | apply below_drew1 | refine below_set ?_ GE138.out) | exact HB.out))))
            have n2_ := Aside0.mk (blk_below (g := gb138) (o := .cells #[.int .i64 t135, .int .i64 t136, .int .i64 t137] 26 (0, 0)) (by (with_reducible repeat (first | refine blk_drewN ?_ _ | refine blk_drew ?_ | refine blk_alloc ?_ _)); exact BK138.out) hb)
            have n3_ := Aside0.mk (below_step (by repeat (first | (with_reducible first | exact HB.out | apply below_alloc | apply pw_below_drewN | apply below_drew1 | refine below_set ?_ GE138.out) | exact HB.out)) hb)
            clear HO141
            clear BK138
            clear HB
            have HO141 := n0_
            have HO144 := n1_
            have BK138 := n2_
            have HB := n3_
            clear n0_ n1_ n2_ n3_
            clear hb ho19
            refine hK.out _ _ ⟨(blk_cell BK138.out 0).trans rfl, (blk_cell BK138.out 1).trans rfl, (blk_cell BK138.out 2).trans rfl⟩ (fun hHeld => ?_)
            clear hK K
            refine norm_ (a' := ?_) ?_ ?_
            rotate_left
            · show Act.put _ (some 22) _ = _
              simp only [Act.put, List.setIfInBounds_toArray, List.set_cons_zero, List.set_cons_succ, i64_w, i32_w]
              rfl
            exact norm_ (by simp only [putAll, Act.put, List.setIfInBounds_toArray, List.set_cons_zero, List.set_cons_succ]) (hCont (v140, v143) _ ⟨hHeld, (by (with_reducible repeat (first | apply Kd.R_alloc | apply Kd.R_drewN | apply Kd.R_drew)); exact Kd.R_mono HO141.out (fun _ hk => hk.2)), (by (with_reducible repeat (first | apply Kd.R_alloc | apply Kd.R_drewN | apply Kd.R_drew)); exact Kd.R_mono HO144.out (fun _ hk => hk.2)), (by (with_reducible repeat (first | refine blk_drewN ?_ _ | refine blk_drew ?_ | refine blk_alloc ?_ _)); exact BK138.out), (by repeat (first | (with_reducible first | exact HB.out | apply below_alloc | apply pw_below_drewN | apply below_drew1 | refine below_set ?_ GE138.out) | exact HB.out))⟩)
          · skip
            refine Kd.R_make_step Kd.bool _ 4 (by rfl) (N := 22) rfl 29 _ _ rfl t135 rfl rfl Try.underlying29 (.bool false) 1 info4 rfl (by decide) (by omega) false (ok := fun _ => True) (okp := fun _ => True) rfl (fun _ hk => hk) trivial (of_decide_eq_true (by first | (with_reducible assumption) | assumption)) (Nat.le_trans (Nat.mul_le_mul_right _ (of_decide_eq_true (by first | (with_reducible assumption) | assumption) : t135.toNat ≤ 281474976710656)) (by omega)) (Below.refl _ _) (Nat.le_refl _) ?_
            intro v143 w16 ho17 hb hg_ hnew_
            clear hg_ hnew_
            (first | rw [← Ny142.out] at ho17 | (simp only [Int.reduceToNat] at ho17; rw [← Ny142.out] at ho17))
            have n0_ := Aside0.mk (Kd.R_lower ho17 (below_size (by repeat (first | (with_reducible first | exact HB.out | apply below_alloc | apply pw_below_drewN | apply below_drew1 | refine below_set ?_ GE138.out) | exact HB.out))))
            have n1_ := Aside0.mk (blk_below (g := gb138) (o := .cells #[.int .i64 t135, .int .i64 t136, .int .i64 t137] 26 (0, 0)) (by (with_reducible repeat (first | refine blk_drewN ?_ _ | refine blk_drew ?_ | refine blk_alloc ?_ _)); exact BK138.out) hb)
            have n2_ := Aside0.mk (below_step (by repeat (first | (with_reducible first | exact HB.out | apply below_alloc | apply pw_below_drewN | apply below_drew1 | refine below_set ?_ GE138.out) | exact HB.out)) hb)
            clear BK138
            clear HB
            have HO144 := n0_
            have BK138 := n1_
            have HB := n2_
            clear n0_ n1_ n2_
            clear hb ho17
            refine hK.out _ _ ⟨(blk_cell BK138.out 0).trans rfl, (blk_cell BK138.out 1).trans rfl, (blk_cell BK138.out 2).trans rfl⟩ (fun hHeld => ?_)
            clear hK K
            refine norm_ (a' := ?_) ?_ ?_
            rotate_left
            · show Act.put _ (some 22) _ = _
              simp only [Act.put, List.setIfInBounds_toArray, List.set_cons_zero, List.set_cons_succ, i64_w, i32_w]
              rfl
            refine one_ (i := 2) (N := some 19) #[true, true, true, true, true, true, false, false] rfl rfl (one_of HT_.out (by kernel_rfl)) (by decide) (fun K hK => ?_)
            refine Kd.R_make_step Kd.bool _ 4 (by rfl) (N := 19) rfl 29 _ _ rfl t135 rfl rfl Try.underlying29 (.bool false) 1 info4 rfl (by decide) (by omega) false (ok := fun _ => True) (okp := fun _ => True) rfl (fun _ hk => hk) trivial (of_decide_eq_true (by first | (with_reducible assumption) | assumption)) (Nat.le_trans (Nat.mul_le_mul_right _ (of_decide_eq_true (by first | (with_reducible assumption) | assumption) : t135.toNat ≤ 281474976710656)) (by omega)) (Below.refl _ _) (Nat.le_refl _) ?_
            intro v140 w18 ho19 hb hg_ hnew_
            clear hg_ hnew_
            (first | rw [← Ny139.out] at ho19 | (simp only [Int.reduceToNat] at ho19; rw [← Ny139.out] at ho19))
            have n0_ := Aside0.mk (Kd.R_elder' (by (with_reducible repeat (first | apply Kd.R_alloc | apply Kd.R_drewN | apply Kd.R_drew)); exact HO144.out) (Kd.R_base ho19) hb)
            have n1_ := Aside0.mk (Kd.R_lower (Kd.R_new' ho19 (Kd.R_lt (by (with_reducible repeat (first | apply Kd.R_alloc | apply Kd.R_drewN | apply Kd.R_drew)); exact HO144.out))) (below_size (by repeat (first | (with_reducible first | exact HB.out | apply below_alloc | apply pw_below_drewN | apply below_drew1 | refine below_set ?_ GE138.out) | exact HB.out))))
            have n2_ := Aside0.mk (blk_below (g := gb138) (o := .cells #[.int .i64 t135, .int .i64 t136, .int .i64 t137] 26 (0, 0)) (by (with_reducible repeat (first | refine blk_drewN ?_ _ | refine blk_drew ?_ | refine blk_alloc ?_ _)); exact BK138.out) hb)
            have n3_ := Aside0.mk (below_step (by repeat (first | (with_reducible first | exact HB.out | apply below_alloc | apply pw_below_drewN | apply below_drew1 | refine below_set ?_ GE138.out) | exact HB.out)) hb)
            clear HO144
            clear BK138
            clear HB
            have HO144 := n0_
            have HO141 := n1_
            have BK138 := n2_
            have HB := n3_
            clear n0_ n1_ n2_ n3_
            clear hb ho19
            refine hK.out _ _ ⟨(blk_cell BK138.out 0).trans rfl, (blk_cell BK138.out 1).trans rfl, (blk_cell BK138.out 2).trans rfl⟩ (fun hHeld => ?_)
            clear hK K
            refine norm_ (a' := ?_) ?_ ?_
            rotate_left
            · show Act.put _ (some 19) _ = _
              simp only [Act.put, List.setIfInBounds_toArray, List.set_cons_zero, List.set_cons_succ, i64_w, i32_w]
              rfl
            refine pure_ (i := 6) (N := some 10) (v := ?_) (a' := ?_) #[true, true, true, true, true, true, true, false] rfl rfl (any_of HT_.out (by kernel_rfl)) (fun _ _ _ h => h) (Or.inl ⟨by rfl, ?_⟩) ?_ ?_
            rotate_left
            · intro w'
              go_simp
              with_reducible rfl
            rotate_left
            · simp only [Act.put, List.setIfInBounds_toArray, List.set_cons_zero, List.set_cons_succ, i64_w, i32_w]
              rfl
            exact norm_ (by simp only [putAll, Act.put, List.setIfInBounds_toArray, List.set_cons_zero, List.set_cons_succ]) (hCont (v140, v143) _ ⟨hHeld, (by (with_reducible repeat (first | apply Kd.R_alloc | apply Kd.R_drewN | apply Kd.R_drew)); exact Kd.R_mono HO141.out (fun _ hk => hk.2)), (by (with_reducible repeat (first | apply Kd.R_alloc | apply Kd.R_drewN | apply Kd.R_drew)); exact Kd.R_mono HO144.out (fun _ hk => hk.2)), (by (with_reducible repeat (first | refine blk_drewN ?_ _ | refine blk_drew ?_ | refine blk_alloc ?_ _)); exact BK138.out), (by repeat (first | (with_reducible first | exact HB.out | apply below_alloc | apply pw_below_drewN | apply below_drew1 | refine below_set ?_ GE138.out) | exact HB.out))⟩)
        rintro ⟨v140, v143⟩ w20 ⟨hS_, h0_, h1_, h2_, h3_⟩
        have n0_ : Aside0 (Kd.R Kd.bool 4 w20 w.heap.size (fun k_ => some k_ ≠ (v143 : Value).ownBlock) v140 y139) := ⟨h0_⟩
        have n1_ : Aside0 (Kd.R Kd.bool 4 w20 w.heap.size (fun k_ => some k_ ≠ (v140 : Value).ownBlock) v143 y142) := ⟨h1_⟩
        have n2_ : Aside0 (w20.heap[gb138]? = some (.cells #[.int .i64 t135, .int .i64 t136, .int .i64 t137] 26 (0, 0))) := ⟨h2_⟩
        have n3_ : Aside0 (Below w.heap.size w w20) := ⟨h3_⟩
        clear BK138
        clear HB
        clear h0_ h1_ h2_ h3_
        have HO141 := n0_
        have HO144 := n1_
        have BK138 := n2_
        have HB := n3_
        clear n0_ n1_ n2_ n3_
        have hHeld : w20.cell? ⟨gb138, 0, none⟩ = some (.int .i64 t135) ∧ w20.cell? ⟨gb138, 1, none⟩ = some (.int .i64 t136) ∧ w20.cell? ⟨gb138, 2, none⟩ = some (.int .i64 t137) := hS_
        refine norm_ (a' := ?_) ?_ ?_
        rotate_left
        · simp only [putAll, Act.put, List.setIfInBounds_toArray, List.set_cons_zero, List.set_cons_succ]
          rfl
        refine pure_ (i := 7) (N := some 11) (v := ?_) (a' := ?_) #[true, true, true, true, true, true, true, true] rfl rfl (any_of HT_.out (by kernel_rfl)) (fun _ _ _ h => h) (Or.inl ⟨by rfl, ?_⟩) ?_ ?_
        rotate_left
        · intro w'
          go_simp
          with_reducible rfl
        rotate_left
        · simp only [Act.put, List.setIfInBounds_toArray, List.set_cons_zero, List.set_cons_succ, i64_w, i32_w]
          rfl
        refine done_ (done_of HT_.out (by kernel_rfl)) ?_
        have hcz21_0 : w20.cell? ⟨gb138, 0, none⟩ = some (.int .i64 t135) := (blk_cell BK138.out 0).trans rfl
        have hcz21_1 : w20.cell? ⟨gb138, 1, none⟩ = some (.int .i64 t136) := (blk_cell BK138.out 1).trans rfl
        have hcz21_2 : w20.cell? ⟨gb138, 2, none⟩ = some (.int .i64 t137) := (blk_cell BK138.out 2).trans rfl
        have hfz21_0 := blk_frozen BK138.out 0
        have hfz21_1 := blk_frozen BK138.out 1
        have hfz21_2 := blk_frozen BK138.out 2
        try go_wp2
        go_loopg [25] k (fun kq v25 w' => ∃ (x10_1 : List Bool) (x11_1 : List Bool) (x25_1 : Int), v25 = .int .i64 x25_1 ∧ Aside0 (mailcoachlaw10_QuorumMore.l0 kq a1 a2 a3 x10_1 x11_1 t135 x25_1 t135 t136 t137 = some r) ∧ Aside0 (kq ≤ k) ∧ Aside0 (Kd.R Kd.bool 4 w' w.heap.size (fun k_ => some k_ ≠ (v143 : Value).ownBlock) v140 x10_1) ∧ Aside0 (Kd.R Kd.bool 4 w' w.heap.size (fun k_ => some k_ ≠ (v140 : Value).ownBlock) v143 x11_1) ∧ Aside0 (w'.heap[gb138]? = some (.cells #[.int .i64 t135, .int .i64 t136, .int .i64 t137] 26 (0, 0))) ∧ Aside0 (Below w.heap.size w w'))
        case atStart => exact ⟨(y139), (y142), (0), (by first | rfl | (simp; done) | (simp [*]; done)), H', ⟨Nat.le_refl _⟩, ⟨by (with_reducible repeat (first | apply Kd.R_alloc | apply Kd.R_drewN | apply Kd.R_drew)); exact HO141.out⟩, ⟨by (with_reducible repeat (first | apply Kd.R_alloc | apply Kd.R_drewN | apply Kd.R_drew)); exact HO144.out⟩, ⟨by (with_reducible repeat (first | refine blk_drewN ?_ _ | refine blk_drew ?_ | refine blk_alloc ?_ _)); exact BK138.out⟩, ⟨by repeat (first | (with_reducible first | exact HB.out | apply below_alloc | apply pw_below_drewN | apply below_drew1 | refine below_set ?_ GE138.out) | exact HB.out)⟩⟩
        case round =>
          clear H'
          try clear p2
          try clear c6
          try clear c7
          try clear c8
          try clear c8b0
          try clear c8b1
          try clear c9
          try clear c9b0
          try clear c9b1
          try clear hcz13_0
          try clear hcz13_1
          try clear hcz13_2
          try clear hcz21_0
          try clear hcz21_1
          try clear hcz21_2
          try clear hfz13_0
          try clear hfz13_1
          try clear hfz13_2
          try clear hfz21_0
          try clear hfz21_1
          try clear hfz21_2
          obtain ⟨x10_1, x11_1, x25_1, rfl, HA, HK1, HO_10, HO_11, BK138, HB⟩ := hrel
          cases gk with
          | zero => exact absurd HA.out (by simp [mailcoachlaw10_QuorumMore.l0])
          | succ k1 =>
            have H := HA.out
            clear HA
            simp only [mailcoachlaw10_QuorumMore.l0] at H
            by_cases c22 : x25_1 < t135
            · rw [if_pos c22] at H
              have c22b0 : decide (x25_1 < t135) = true := decide_eq_true c22
              clear c22
              by_cases c23 : 0 ≤ x25_1
              · rw [if_pos c23] at H
                have c23b0 := eq_true c23
                have c23b1 : decide (0 ≤ x25_1) = true := decide_eq_true c23
                clear c23
                obtain ⟨ji24, hji24⟩ : ∃ j_ : Int, (shr .u8 a2 x25_1) = j_ := ⟨_, rfl⟩
                replace H : (if x25_1 < (x10_1.length : Int) then ((some (x10_1.set (x25_1 : Int).toNat ((Go.bits .and .u8 (ji24) 1) == 1) : List Bool)).bind fun y145 => (if rdOf false y145 x25_1 = true then (if x25_1 < (x11_1.length : Int) then (mailcoachlaw10_QuorumMore.l0 k1 a1 a2 a3 y145 (x11_1.set (x25_1 : Int).toNat true) t135 (wrap64 (x25_1 + 1)) t135 t136 t137) else (none)) else (if x25_1 < (x11_1.length : Int) then (mailcoachlaw10_QuorumMore.l0 k1 a1 a2 a3 y145 (x11_1.set (x25_1 : Int).toNat ((Go.bits .and .u8 (shr .u8 a3 x25_1) 1) == 1)) t135 (wrap64 (x25_1 + 1)) t135 t136 t137) else (none)))) else (none)) = some r := by first | (rw [hji24] at H; exact H) | (simp only [hji24] at H ⊢; exact H)
                have hji24_ : (a2 / 2 ^ min x25_1.toNat 8) = ji24 := hji24
                have hji24z : x25_1 ≤ 8 → (a2 / 2 ^ x25_1.toNat) = ji24 := shr_small hji24
                by_cases c25 : x25_1 < (x10_1.length : Int)
                · rw [if_pos c25] at H
                  have c25b0 : decide (x25_1 < (x10_1.length : Int)) = true := decide_eq_true c25
                  clear c25
                  obtain ⟨y145, hy145⟩ : ∃ y_ : List Bool, y_ = (x10_1.set (x25_1 : Int).toNat ((Go.bits .and .u8 (ji24) 1) == 1)) := ⟨_, rfl⟩
                  replace H : (if rdOf false y145 x25_1 = true then (if x25_1 < (x11_1.length : Int) then (mailcoachlaw10_QuorumMore.l0 k1 a1 a2 a3 y145 (x11_1.set (x25_1 : Int).toNat true) t135 (wrap64 (x25_1 + 1)) t135 t136 t137) else (none)) else (if x25_1 < (x11_1.length : Int) then (mailcoachlaw10_QuorumMore.l0 k1 a1 a2 a3 y145 (x11_1.set (x25_1 : Int).toNat ((Go.bits .and .u8 (shr .u8 a3 x25_1) 1) == 1)) t135 (wrap64 (x25_1 + 1)) t135 t136 t137) else (none))) = some r := by first | (rw [hy145]; with_reducible exact H) | (have H2_ := (Option.bind_some _ _).symm.trans H; rw [hy145]; with_reducible exact H2_) | (have H2_ := (Option.bind_some _ _).symm.trans H; with_reducible exact H2_) | with_reducible exact H | (rw [hy145]; exact H) | exact H
                  have Ny145 := Aside0.mk hy145
                  clear hy145
                  obtain ⟨bq27, hbq27⟩ : ∃ b_ : Bool, b_ = (rdOf false y145 x25_1) := ⟨_, rfl⟩
                  replace H : (if bq27 = true then (if x25_1 < (x11_1.length : Int) then (mailcoachlaw10_QuorumMore.l0 k1 a1 a2 a3 y145 (x11_1.set (x25_1 : Int).toNat true) t135 (wrap64 (x25_1 + 1)) t135 t136 t137) else (none)) else (if x25_1 < (x11_1.length : Int) then (mailcoachlaw10_QuorumMore.l0 k1 a1 a2 a3 y145 (x11_1.set (x25_1 : Int).toNat ((Go.bits .and .u8 (shr .u8 a3 x25_1) 1) == 1)) t135 (wrap64 (x25_1 + 1)) t135 t136 t137) else (none))) = some r := by rw [← hbq27] at H; exact H
                  have Nbq27 := Aside0.mk hbq27
                  clear hbq27
                  by_cases c28 : bq27 = true
                  · subst c28
                    have H1 : (if x25_1 < (x11_1.length : Int) then (mailcoachlaw10_QuorumMore.l0 k1 a1 a2 a3 y145 (x11_1.set (x25_1 : Int).toNat true) t135 (wrap64 (x25_1 + 1)) t135 t136 t137) else (none)) = some r := by rw [if_pos rfl] at H; exact H
                    clear H
                    have H := H1
                    clear H1
                    by_cases c29 : x25_1 < (x11_1.length : Int)
                    · rw [if_pos c29] at H
                      have c29b0 : decide (x25_1 < (x11_1.length : Int)) = true := decide_eq_true c29
                      clear c29
                      obtain ⟨y147, hy147⟩ : ∃ y_ : List Bool, y_ = (x11_1.set (x25_1 : Int).toNat true) := ⟨_, rfl⟩
                      replace H : (mailcoachlaw10_QuorumMore.l0 k1 a1 a2 a3 y145 y147 t135 (wrap64 (x25_1 + 1)) t135 t136 t137) = some r := by first | (rw [hy147]; with_reducible exact H) | (have H2_ := (Option.bind_some _ _).symm.trans H; rw [hy147]; with_reducible exact H2_) | (have H2_ := (Option.bind_some _ _).symm.trans H; with_reducible exact H2_) | with_reducible exact H | (rw [hy147]; exact H) | exact H
                      have Ny147 := Aside0.mk hy147
                      clear hy147
                      have H' := Aside0.mk H
                      clear H
                      have p26 : 0 ≤ (x25_1 : Int) := of_decide_eq_true (by first | (with_reducible assumption) | assumption)
                      have q26 : (x25_1 : Int) < ((x10_1.length : Int) : Int) := of_decide_eq_true (by first | (with_reducible assumption) | assumption)
                      obtain ⟨go26, co26, eo26, gb26, gl26, cl26, HG26⟩ := Kd.R_form HO_10.out (by omega)
                      (first | cases eo26 | (injection eo26 with ea_ en_ ec_; (first | subst ea_ | (injection ea_ with ea_; subst ea_)); subst ec_; clear en_))
                      have GB26 := Aside0.mk gb26
                      have GG26 := Aside0.mk HG26
                      clear gb26 gl26 HG26
                      obtain ⟨hx26_0, hf26_0⟩ := Kd.R_celln false HO_10.out (x25_1 : Int) p26 q26
                      replace p26 := eq_true p26
                      replace q26 := eq_true q26
                      have HP31 := Kd.R_putg HO_10.out (x25_1 : Int) ((Go.bits .and .u8 (ji24) 1) == 1)
                      go_wp2_with (first | ((with_reducible refine gate_store (t := 4) (p := 35) rfl ?_); refine store_event (t := 4) (p := 35) (v := ?vo_w32) (w1 := (wr.setCell ⟨go26, (x25_1 : Int).toNat, none⟩ (.bool ((Go.bits .and .u8 (ji24) 1) == 1)))) ?hg ?ho ?hn ?hr ?_; (case ho => rfl); (case hg => rfl); (case hn => rfl); (case hr => first | (go_simp; done) | (go_simp; rfl)); intro w32 hw; have hg : wr.grownBy w32 (some go26) := (by rw [hw]; exact HP31.2); have hp_ : Kd.R Kd.bool 4 w32 w.heap.size (fun k_ => some k_ ≠ (v143 : Value).ownBlock) (.slice (some ⟨go26, 0, none⟩) x10_1.length co26) y145 := (by rw [hw, Ny145.out]; exact HP31.1); clear HP31; have n0_ := Aside0.mk (hp_); have n1_ := Aside0.mk (Kd.R_after (v := (.slice (some ⟨go26, 0, none⟩) x10_1.length co26)) (v1 := (.slice (some ⟨go26, 0, none⟩) x10_1.length co26)) (ok := (fun _ => True)) (by (with_reducible repeat (first | apply Kd.R_alloc | apply Kd.R_drewN | apply Kd.R_drew)); exact Kd.R_mono HO_11.out (fun _ hk => ⟨trivial, hk⟩)) hg (.inl rfl)); have n2_ := Aside0.mk (blk_grown (g := gb138) (o := .cells #[.int .i64 t135, .int .i64 t136, .int .i64 t137] 26 (0, 0)) (by (with_reducible repeat (first | refine blk_drewN ?_ _ | refine blk_drew ?_ | refine blk_alloc ?_ _)); exact BK138.out) hg (Kd.R_ne HO_10.out BK138.out (by decide))); have n3_ := Aside0.mk ((by rw [hw]; exact below_set (HB.out) GB26.out : Below w.heap.size w w32)); clear HO_10; clear HO_11; clear BK138; clear HB; have HO_10 := n0_; have HO_11 := n1_; have BK138 := n2_; have HB := n3_; clear n0_ n1_ n2_ n3_; clear hg hw hp_; have p146 : 0 ≤ (x25_1 : Int) := of_decide_eq_true (by first | (with_reducible assumption) | assumption); have q146 : x25_1 < (y145.length : Int) := (by have h_ : (x25_1 : Int) < ((x10_1.length : Int) : Int) := of_decide_eq_true (by first | (with_reducible assumption) | assumption); first | (have e_ := (Kd.R_reads' HO_10.out).1; omega) | simpa only [Ny145.out, List.length_set] using h_); have ql146 : ((x25_1 : Int) < ((x10_1.length : Int) : Int)) = True := eq_true (of_decide_eq_true (by first | (with_reducible assumption) | assumption)); obtain ⟨ad146, e146, hx146_0⟩ := Kd.at_bool (Kd.R_reads' HO_10.out).2.2 x25_1 p146 q146; (try rw [← Nbq27.out] at hx146_0); obtain rfl : (⟨go26, 0, none⟩ : Addr) = ad146 := (by injection e146); (first | simp only [add_plain] at hx146_0 | simp only [add_at] at hx146_0 | simp only [Addr.add, Nat.zero_add] at hx146_0 | skip); replace p146 := eq_true p146; replace q146 := eq_true q146; have p30 : 0 ≤ (x25_1 : Int) := of_decide_eq_true (by first | (with_reducible assumption) | assumption); have q30 : (x25_1 : Int) < ((x11_1.length : Int) : Int) := of_decide_eq_true (by first | (with_reducible assumption) | assumption); obtain ⟨go30, co30, eo30, gb30, gl30, cl30, HG30⟩ := Kd.R_form HO_11.out (by omega); (first | cases eo30 | (injection eo30 with ea_ en_ ec_; (first | subst ea_ | (injection ea_ with ea_; subst ea_)); subst ec_; clear en_)); have GB30 := Aside0.mk gb30; have GG30 := Aside0.mk HG30; clear gb30 gl30 HG30; obtain ⟨hx30_0, hf30_0⟩ := Kd.R_celln false HO_11.out (x25_1 : Int) p30 q30; replace p30 := eq_true p30; replace q30 := eq_true q30; have n_ := Aside0.mk (Kd.R_mono (ok' := (fun k_ => some k_ ≠ (.slice (some ⟨go26, 0, none⟩) x10_1.length co26 : Value).ownBlock)) HO_11.out (fun k_ hk => hk.2)); clear HO_11; have HO_11 := n_; clear n_; obtain ⟨hy33_, hz33_⟩ := Kd.R_celln false HO_11.out (x25_1 : Int) (of_decide_eq_true (by first | (with_reducible assumption) | assumption)) (of_decide_eq_true (by first | (with_reducible assumption) | assumption)); have HP33 := Kd.R_putg HO_11.out (x25_1 : Int) true) | ((with_reducible refine gate_store (t := 4) (p := 49) rfl ?_); refine store_event (t := 4) (p := 49) (v := ?vo_w34) (w1 := (w32.setCell ⟨go30, (x25_1 : Int).toNat, none⟩ (.bool true))) ?hg ?ho ?hn ?hr ?_; (case ho => rfl); (case hg => rfl); (case hn => rfl); (case hr => first | (go_simp; done) | (go_simp; rfl)); intro w34 hw; have hg : w32.grownBy w34 (some go30) := (by rw [hw]; exact HP33.2); have hp_ : Kd.R Kd.bool 4 w34 w.heap.size (fun k_ => some k_ ≠ (.slice (some ⟨go26, 0, none⟩) x10_1.length co26 : Value).ownBlock) (.slice (some ⟨go30, 0, none⟩) x11_1.length co30) y147 := (by rw [hw, Ny147.out]; exact HP33.1); clear HP33; have n0_ := Aside0.mk (Kd.R_after (v := (.slice (some ⟨go30, 0, none⟩) x11_1.length co30)) (v1 := (.slice (some ⟨go30, 0, none⟩) x11_1.length co30)) (ok := (fun _ => True)) (by (with_reducible repeat (first | apply Kd.R_alloc | apply Kd.R_drewN | apply Kd.R_drew)); exact Kd.R_mono HO_10.out (fun _ hk => ⟨trivial, hk⟩)) hg (.inl rfl)); have n1_ := Aside0.mk (hp_); have n2_ := Aside0.mk (blk_grown (g := gb138) (o := .cells #[.int .i64 t135, .int .i64 t136, .int .i64 t137] 26 (0, 0)) (by (with_reducible repeat (first | refine blk_drewN ?_ _ | refine blk_drew ?_ | refine blk_alloc ?_ _)); exact BK138.out) hg (Kd.R_ne HO_11.out BK138.out (by decide))); have n3_ := Aside0.mk ((by rw [hw]; exact below_set (HB.out) GB30.out : Below w.heap.size w w34)); clear HO_10; clear HO_11; clear BK138; clear HB; have HO_10 := n0_; have HO_11 := n1_; have BK138 := n2_; have HB := n3_; clear n0_ n1_ n2_ n3_; clear hg hw hp_))
                      go_roundg k1
                      case measure => have := HK1.out; omega
                      case rel => exact ⟨(y145), (y147), (wrap64 (x25_1 + 1)), (by first | rfl | (simp; done) | (simp [*]; done)), H', ⟨by have := HK1.out; omega⟩, ⟨by (with_reducible repeat (first | apply Kd.R_alloc | apply Kd.R_drewN | apply Kd.R_drew)); exact Kd.R_mono HO_10.out (fun _ hk => hk.2)⟩, ⟨by (with_reducible repeat (first | apply Kd.R_alloc | apply Kd.R_drewN | apply Kd.R_drew)); exact HO_11.out⟩, ⟨by (with_reducible repeat (first | refine blk_drewN ?_ _ | refine blk_drew ?_ | refine blk_alloc ?_ _)); exact BK138.out⟩, ⟨by repeat (first | (with_reducible first | exact HB.out | apply below_alloc | apply pw_below_drewN | apply below_drew1 | refine below_set ?_ GE138.out) | exact HB.out)⟩⟩
                    · rw [if_neg c29] at H
                      exact absurd H (by simp)
                  · replace c28 := Bool.eq_false_iff.mpr c28
                    subst c28
                    have H1 : (if x25_1 < (x11_1.length : Int) then (mailcoachlaw10_QuorumMore.l0 k1 a1 a2 a3 y145 (x11_1.set (x25_1 : Int).toNat ((Go.bits .and .u8 (shr .u8 a3 x25_1) 1) == 1)) t135 (wrap64 (x25_1 + 1)) t135 t136 t137) else (none)) = some r := by rw [if_neg (show ¬ (false = true) by decide)] at H; exact H
                    clear H
                    have H := H1
                    clear H1
                    have c35b0 := eq_true (of_decide_eq_true (by first | (with_reducible assumption) | assumption) : 0 ≤ x25_1)
                    obtain ⟨ji36, hji36⟩ : ∃ j_ : Int, (shr .u8 a3 x25_1) = j_ := ⟨_, rfl⟩
                    replace H : (if x25_1 < (x11_1.length : Int) then (mailcoachlaw10_QuorumMore.l0 k1 a1 a2 a3 y145 (x11_1.set (x25_1 : Int).toNat ((Go.bits .and .u8 (ji36) 1) == 1)) t135 (wrap64 (x25_1 + 1)) t135 t136 t137) else (none)) = some r := by first | (rw [hji36] at H; exact H) | (simp only [hji36] at H ⊢; exact H)
                    have hji36_ : (a3 / 2 ^ min x25_1.toNat 8) = ji36 := hji36
                    have hji36z : x25_1 ≤ 8 → (a3 / 2 ^ x25_1.toNat) = ji36 := shr_small hji36
                    by_cases c37 : x25_1 < (x11_1.length : Int)
                    · rw [if_pos c37] at H
                      have c37b0 : decide (x25_1 < (x11_1.length : Int)) = true := decide_eq_true c37
                      clear c37
                      obtain ⟨y148, hy148⟩ : ∃ y_ : List Bool, y_ = (x11_1.set (x25_1 : Int).toNat ((Go.bits .and .u8 (ji36) 1) == 1)) := ⟨_, rfl⟩
                      replace H : (mailcoachlaw10_QuorumMore.l0 k1 a1 a2 a3 y145 y148 t135 (wrap64 (x25_1 + 1)) t135 t136 t137) = some r := by first | (rw [hy148]; with_reducible exact H) | (have H2_ := (Option.bind_some _ _).symm.trans H; rw [hy148]; with_reducible exact H2_) | (have H2_ := (Option.bind_some _ _).symm.trans H; with_reducible exact H2_) | with_reducible exact H | (rw [hy148]; exact H) | exact H
                      have Ny148 := Aside0.mk hy148
                      clear hy148
                      have H' := Aside0.mk H
                      clear H
                      have p26 : 0 ≤ (x25_1 : Int) := of_decide_eq_true (by first | (with_reducible assumption) | assumption)
                      have q26 : (x25_1 : Int) < ((x10_1.length : Int) : Int) := of_decide_eq_true (by first | (with_reducible assumption) | assumption)
                      obtain ⟨go26, co26, eo26, gb26, gl26, cl26, HG26⟩ := Kd.R_form HO_10.out (by omega)
                      (first | cases eo26 | (injection eo26 with ea_ en_ ec_; (first | subst ea_ | (injection ea_ with ea_; subst ea_)); subst ec_; clear en_))
                      have GB26 := Aside0.mk gb26
                      have GG26 := Aside0.mk HG26
                      clear gb26 gl26 HG26
                      obtain ⟨hx26_0, hf26_0⟩ := Kd.R_celln false HO_10.out (x25_1 : Int) p26 q26
                      replace p26 := eq_true p26
                      replace q26 := eq_true q26
                      have HP39 := Kd.R_putg HO_10.out (x25_1 : Int) ((Go.bits .and .u8 (ji24) 1) == 1)
                      go_wp2_with (first | ((with_reducible refine gate_store (t := 4) (p := 35) rfl ?_); refine store_event (t := 4) (p := 35) (v := ?vo_w40) (w1 := (wr.setCell ⟨go26, (x25_1 : Int).toNat, none⟩ (.bool ((Go.bits .and .u8 (ji24) 1) == 1)))) ?hg ?ho ?hn ?hr ?_; (case ho => rfl); (case hg => rfl); (case hn => rfl); (case hr => first | (go_simp; done) | (go_simp; rfl)); intro w40 hw; have hg : wr.grownBy w40 (some go26) := (by rw [hw]; exact HP39.2); have hp_ : Kd.R Kd.bool 4 w40 w.heap.size (fun k_ => some k_ ≠ (v143 : Value).ownBlock) (.slice (some ⟨go26, 0, none⟩) x10_1.length co26) y145 := (by rw [hw, Ny145.out]; exact HP39.1); clear HP39; have n0_ := Aside0.mk (hp_); have n1_ := Aside0.mk (Kd.R_after (v := (.slice (some ⟨go26, 0, none⟩) x10_1.length co26)) (v1 := (.slice (some ⟨go26, 0, none⟩) x10_1.length co26)) (ok := (fun _ => True)) (by (with_reducible repeat (first | apply Kd.R_alloc | apply Kd.R_drewN | apply Kd.R_drew)); exact Kd.R_mono HO_11.out (fun _ hk => ⟨trivial, hk⟩)) hg (.inl rfl)); have n2_ := Aside0.mk (blk_grown (g := gb138) (o := .cells #[.int .i64 t135, .int .i64 t136, .int .i64 t137] 26 (0, 0)) (by (with_reducible repeat (first | refine blk_drewN ?_ _ | refine blk_drew ?_ | refine blk_alloc ?_ _)); exact BK138.out) hg (Kd.R_ne HO_10.out BK138.out (by decide))); have n3_ := Aside0.mk ((by rw [hw]; exact below_set (HB.out) GB26.out : Below w.heap.size w w40)); clear HO_10; clear HO_11; clear BK138; clear HB; have HO_10 := n0_; have HO_11 := n1_; have BK138 := n2_; have HB := n3_; clear n0_ n1_ n2_ n3_; clear hg hw hp_; have p146 : 0 ≤ (x25_1 : Int) := of_decide_eq_true (by first | (with_reducible assumption) | assumption); have q146 : x25_1 < (y145.length : Int) := (by have h_ : (x25_1 : Int) < ((x10_1.length : Int) : Int) := of_decide_eq_true (by first | (with_reducible assumption) | assumption); first | (have e_ := (Kd.R_reads' HO_10.out).1; omega) | simpa only [Ny145.out, List.length_set] using h_); have ql146 : ((x25_1 : Int) < ((x10_1.length : Int) : Int)) = True := eq_true (of_decide_eq_true (by first | (with_reducible assumption) | assumption)); obtain ⟨ad146, e146, hx146_0⟩ := Kd.at_bool (Kd.R_reads' HO_10.out).2.2 x25_1 p146 q146; (try rw [← Nbq27.out] at hx146_0); obtain rfl : (⟨go26, 0, none⟩ : Addr) = ad146 := (by injection e146); (first | simp only [add_plain] at hx146_0 | simp only [add_at] at hx146_0 | simp only [Addr.add, Nat.zero_add] at hx146_0 | skip); replace p146 := eq_true p146; replace q146 := eq_true q146; have p38 : 0 ≤ (x25_1 : Int) := of_decide_eq_true (by first | (with_reducible assumption) | assumption); have q38 : (x25_1 : Int) < ((x11_1.length : Int) : Int) := of_decide_eq_true (by first | (with_reducible assumption) | assumption); obtain ⟨go38, co38, eo38, gb38, gl38, cl38, HG38⟩ := Kd.R_form HO_11.out (by omega); (first | cases eo38 | (injection eo38 with ea_ en_ ec_; (first | subst ea_ | (injection ea_ with ea_; subst ea_)); subst ec_; clear en_)); have GB38 := Aside0.mk gb38; have GG38 := Aside0.mk HG38; clear gb38 gl38 HG38; obtain ⟨hx38_0, hf38_0⟩ := Kd.R_celln false HO_11.out (x25_1 : Int) p38 q38; replace p38 := eq_true p38; replace q38 := eq_true q38; have n_ := Aside0.mk (Kd.R_mono (ok' := (fun k_ => some k_ ≠ (.slice (some ⟨go26, 0, none⟩) x10_1.length co26 : Value).ownBlock)) HO_11.out (fun k_ hk => hk.2)); clear HO_11; have HO_11 := n_; clear n_; obtain ⟨hy41_, hz41_⟩ := Kd.R_celln false HO_11.out (x25_1 : Int) (of_decide_eq_true (by first | (with_reducible assumption) | assumption)) (of_decide_eq_true (by first | (with_reducible assumption) | assumption)); have HP41 := Kd.R_putg HO_11.out (x25_1 : Int) ((Go.bits .and .u8 (ji36) 1) == 1)) | ((with_reducible refine gate_store (t := 4) (p := 49) rfl ?_); refine store_event (t := 4) (p := 49) (v := ?vo_w42) (w1 := (w40.setCell ⟨go38, (x25_1 : Int).toNat, none⟩ (.bool ((Go.bits .and .u8 (ji36) 1) == 1)))) ?hg ?ho ?hn ?hr ?_; (case ho => rfl); (case hg => rfl); (case hn => rfl); (case hr => first | (go_simp; done) | (go_simp; rfl)); intro w42 hw; have hg : w40.grownBy w42 (some go38) := (by rw [hw]; exact HP41.2); have hp_ : Kd.R Kd.bool 4 w42 w.heap.size (fun k_ => some k_ ≠ (.slice (some ⟨go26, 0, none⟩) x10_1.length co26 : Value).ownBlock) (.slice (some ⟨go38, 0, none⟩) x11_1.length co38) y148 := (by rw [hw, Ny148.out]; exact HP41.1); clear HP41; have n0_ := Aside0.mk (Kd.R_after (v := (.slice (some ⟨go38, 0, none⟩) x11_1.length co38)) (v1 := (.slice (some ⟨go38, 0, none⟩) x11_1.length co38)) (ok := (fun _ => True)) (by (with_reducible repeat (first | apply Kd.R_alloc | apply Kd.R_drewN | apply Kd.R_drew)); exact Kd.R_mono HO_10.out (fun _ hk => ⟨trivial, hk⟩)) hg (.inl rfl)); have n1_ := Aside0.mk (hp_); have n2_ := Aside0.mk (blk_grown (g := gb138) (o := .cells #[.int .i64 t135, .int .i64 t136, .int .i64 t137] 26 (0, 0)) (by (with_reducible repeat (first | refine blk_drewN ?_ _ | refine blk_drew ?_ | refine blk_alloc ?_ _)); exact BK138.out) hg (Kd.R_ne HO_11.out BK138.out (by decide))); have n3_ := Aside0.mk ((by rw [hw]; exact below_set (HB.out) GB38.out : Below w.heap.size w w42)); clear HO_10; clear HO_11; clear BK138; clear HB; have HO_10 := n0_; have HO_11 := n1_; have BK138 := n2_; have HB := n3_; clear n0_ n1_ n2_ n3_; clear hg hw hp_))
                      go_roundg k1
                      case measure => have := HK1.out; omega
                      case rel => exact ⟨(y145), (y148), (wrap64 (x25_1 + 1)), (by first | rfl | (simp; done) | (simp [*]; done)), H', ⟨by have := HK1.out; omega⟩, ⟨by (with_reducible repeat (first | apply Kd.R_alloc | apply Kd.R_drewN | apply Kd.R_drew)); exact Kd.R_mono HO_10.out (fun _ hk => hk.2)⟩, ⟨by (with_reducible repeat (first | apply Kd.R_alloc | apply Kd.R_drewN | apply Kd.R_drew)); exact HO_11.out⟩, ⟨by (with_reducible repeat (first | refine blk_drewN ?_ _ | refine blk_drew ?_ | refine blk_alloc ?_ _)); exact BK138.out⟩, ⟨by repeat (first | (with_reducible first | exact HB.out | apply below_alloc | apply pw_below_drewN | apply below_drew1 | refine below_set ?_ GE138.out) | exact HB.out)⟩⟩
                    · rw [if_neg c37] at H
                      exact absurd H (by simp)
                · rw [if_neg c25] at H
                  exact absurd H (by simp)
              · rw [if_neg c23] at H
                exact absurd H (by simp)
            · rw [if_neg c22] at H
              have c22b0 : decide (x25_1 < t135) = false := decide_eq_false c22
              clear c22
              replace H := Option.bind_eq_some_iff.mp H
              obtain ⟨t149, A430, H⟩ := H
              replace H : (if t149 = true then ((quorum_Enough.f k1 t135 t136 t137 a1 x11_1).bind fun t150 => (if t150 = true then ((quorum_Covered.f k1 t135 t136 t137 x10_1).bind fun t151 => (if t151 = true then ((quorum_Covered.f k1 t135 t136 t137 x11_1).bind fun t152 => (some t152)) else (some true))) else (some false))) else ((quorum_Covered.f k1 t135 t136 t137 x10_1).bind fun t153 => (if t153 = true then ((quorum_Covered.f k1 t135 t136 t137 x11_1).bind fun t154 => (some t154)) else (some true)))) = some r := H
              have A43 := Aside0.mk A430
              clear A430
              by_cases c44 : t149 = true
              · subst c44
                have H1 : ((quorum_Enough.f k1 t135 t136 t137 a1 x11_1).bind fun t150 => (if t150 = true then ((quorum_Covered.f k1 t135 t136 t137 x10_1).bind fun t151 => (if t151 = true then ((quorum_Covered.f k1 t135 t136 t137 x11_1).bind fun t152 => (some t152)) else (some true))) else (some false))) = some r := by rw [if_pos rfl] at H; exact H
                clear H
                have H := H1
                clear H1
                replace H := Option.bind_eq_some_iff.mp H
                obtain ⟨t150, A450, H⟩ := H
                replace H : (if t150 = true then ((quorum_Covered.f k1 t135 t136 t137 x10_1).bind fun t151 => (if t151 = true then ((quorum_Covered.f k1 t135 t136 t137 x11_1).bind fun t152 => (some t152)) else (some true))) else (some false)) = some r := H
                have A45 := Aside0.mk A450
                clear A450
                by_cases c46 : t150 = true
                · subst c46
                  have H1 : ((quorum_Covered.f k1 t135 t136 t137 x10_1).bind fun t151 => (if t151 = true then ((quorum_Covered.f k1 t135 t136 t137 x11_1).bind fun t152 => (some t152)) else (some true))) = some r := by rw [if_pos rfl] at H; exact H
                  clear H
                  have H := H1
                  clear H1
                  replace H := Option.bind_eq_some_iff.mp H
                  obtain ⟨t151, A470, H⟩ := H
                  replace H : (if t151 = true then ((quorum_Covered.f k1 t135 t136 t137 x11_1).bind fun t152 => (some t152)) else (some true)) = some r := H
                  have A47 := Aside0.mk A470
                  clear A470
                  by_cases c48 : t151 = true
                  · subst c48
                    have H1 : ((quorum_Covered.f k1 t135 t136 t137 x11_1).bind fun t152 => (some t152)) = some r := by rw [if_pos rfl] at H; exact H
                    clear H
                    have H := H1
                    clear H1
                    replace H := Option.bind_eq_some_iff.mp H
                    obtain ⟨t152, A490, H⟩ := H
                    replace H : (some t152) = some r := H
                    have A49 := Aside0.mk A490
                    clear A490
                    obtain rfl := Option.some.inj H
                    have hcz50_0 : wr.cell? ⟨gb138, 0, none⟩ = some (.int .i64 t135) := (blk_cell BK138.out 0).trans rfl
                    have hcz50_1 : wr.cell? ⟨gb138, 1, none⟩ = some (.int .i64 t136) := (blk_cell BK138.out 1).trans rfl
                    have hcz50_2 : wr.cell? ⟨gb138, 2, none⟩ = some (.int .i64 t137) := (blk_cell BK138.out 2).trans rfl
                    have hfz50_0 := blk_frozen BK138.out 0
                    have hfz50_1 := blk_frozen BK138.out 1
                    have hfz50_2 := blk_frozen BK138.out 2
                    obtain ⟨Ao51, co51, eo51⟩ := Kd.R_slice HO_10.out
                    subst eo51
                    go_wp2_with (first | ((with_reducible refine gate_callee (f := 15) rfl ?_); refine goesL_ (some 54) rfl rfl Try.func15 (by kernel_rfl) rfl #[.agg #[.int .i64 t135, .int .i64 t136, .int .i64 t137], .int .u64 a1, .slice Ao51 x10_1.length co51] rfl (by (try simp only [List.map_toArray, List.map_cons, List.map_nil]); first | done | rfl | (simp only [List.length_drop, List.length_take]; rfl)) ?_; (with_reducible refine (quorum_Enough.calls k1 t135 t136 t137 a1 _ _ x10_1 true _ ?side1 ?side2 A43.out).mono ?_); (case side1 => repeat (first | exact (Kd.R_reads' HO_10.out).2.2 | (with_reducible refine Kd.C_alloc ?_ _) | (with_reducible refine Kd.C_drewN ?_ _) | (with_reducible refine Kd.C_drew ?_))); (case side2 => exact (Kd.R_reads' HO_10.out).2.1); rintro e w52 ⟨rfl, hb⟩; refine ⟨_, rfl, ?_⟩; have n0_ := Aside0.mk (Kd.R_below (by (with_reducible repeat (first | apply Kd.R_alloc | apply Kd.R_drewN | apply Kd.R_drew)); exact HO_10.out) hb); have n1_ := Aside0.mk (Kd.R_below (by (with_reducible repeat (first | apply Kd.R_alloc | apply Kd.R_drewN | apply Kd.R_drew)); exact HO_11.out) hb); have n2_ := Aside0.mk (blk_below (g := gb138) (o := .cells #[.int .i64 t135, .int .i64 t136, .int .i64 t137] 26 (0, 0)) (by (with_reducible repeat (first | refine blk_drewN ?_ _ | refine blk_drew ?_ | refine blk_alloc ?_ _)); exact BK138.out) hb); have n3_ := Aside0.mk (below_step (by repeat (first | (with_reducible first | exact HB.out | apply below_alloc | apply pw_below_drewN | apply below_drew1 | refine below_set ?_ GE138.out) | exact HB.out)) hb); clear HO_10; clear HO_11; clear BK138; clear HB; have HO_10 := n0_; have HO_11 := n1_; have BK138 := n2_; have HB := n3_; clear n0_ n1_ n2_ n3_; (try clear hb); (try clear hb2); (try clear hk); (try clear hi); have hcz53_0 : w52.cell? ⟨gb138, 0, none⟩ = some (.int .i64 t135) := (blk_cell BK138.out 0).trans rfl; have hcz53_1 : w52.cell? ⟨gb138, 1, none⟩ = some (.int .i64 t136) := (blk_cell BK138.out 1).trans rfl; have hcz53_2 : w52.cell? ⟨gb138, 2, none⟩ = some (.int .i64 t137) := (blk_cell BK138.out 2).trans rfl; have hfz53_0 := blk_frozen BK138.out 0; have hfz53_1 := blk_frozen BK138.out 1; have hfz53_2 := blk_frozen BK138.out 2; obtain ⟨Ao54, co54, eo54⟩ := Kd.R_slice HO_11.out; subst eo54) | (go_at_call 15; (with_reducible refine (quorum_Enough.calls k1 t135 t136 t137 a1 _ _ x11_1 true _ ?side1 ?side2 A45.out).mono ?_); (case side1 => repeat (first | exact (Kd.R_reads' HO_11.out).2.2 | (with_reducible refine Kd.C_alloc ?_ _) | (with_reducible refine Kd.C_drewN ?_ _) | (with_reducible refine Kd.C_drew ?_))); (case side2 => exact (Kd.R_reads' HO_11.out).2.1); rintro e w55 ⟨rfl, hb⟩; have n0_ := Aside0.mk (Kd.R_below (by (with_reducible repeat (first | apply Kd.R_alloc | apply Kd.R_drewN | apply Kd.R_drew)); exact HO_10.out) hb); have n1_ := Aside0.mk (Kd.R_below (by (with_reducible repeat (first | apply Kd.R_alloc | apply Kd.R_drewN | apply Kd.R_drew)); exact HO_11.out) hb); have n2_ := Aside0.mk (blk_below (g := gb138) (o := .cells #[.int .i64 t135, .int .i64 t136, .int .i64 t137] 26 (0, 0)) (by (with_reducible repeat (first | refine blk_drewN ?_ _ | refine blk_drew ?_ | refine blk_alloc ?_ _)); exact BK138.out) hb); have n3_ := Aside0.mk (below_step (by repeat (first | (with_reducible first | exact HB.out | apply below_alloc | apply pw_below_drewN | apply below_drew1 | refine below_set ?_ GE138.out) | exact HB.out)) hb); clear HO_10; clear HO_11; clear BK138; clear HB; have HO_10 := n0_; have HO_11 := n1_; have BK138 := n2_; have HB := n3_; clear n0_ n1_ n2_ n3_; (try clear hb); (try clear hb2); (try clear hk); (try clear hi); have hcz56_0 : w55.cell? ⟨gb138, 0, none⟩ = some (.int .i64 t135) := (blk_cell BK138.out 0).trans rfl; have hcz56_1 : w55.cell? ⟨gb138, 1, none⟩ = some (.int .i64 t136) := (blk_cell BK138.out 1).trans rfl; have hcz56_2 : w55.cell? ⟨gb138, 2, none⟩ = some (.int .i64 t137) := (blk_cell BK138.out 2).trans rfl; have hfz56_0 := blk_frozen BK138.out 0; have hfz56_1 := blk_frozen BK138.out 1; have hfz56_2 := blk_frozen BK138.out 2) | (go_at_call 17; (with_reducible refine (quorum_Covered.calls k1 t135 t136 t137 _ _ x10_1 true _ ?side1 ?side2 A47.out).mono ?_); (case side1 => repeat (first | exact (Kd.R_reads' HO_10.out).2.2 | (with_reducible refine Kd.C_alloc ?_ _) | (with_reducible refine Kd.C_drewN ?_ _) | (with_reducible refine Kd.C_drew ?_))); (case side2 => exact (Kd.R_reads' HO_10.out).2.1); rintro e w57 ⟨rfl, hb⟩; have n0_ := Aside0.mk (Kd.R_below (by (with_reducible repeat (first | apply Kd.R_alloc | apply Kd.R_drewN | apply Kd.R_drew)); exact HO_10.out) hb); have n1_ := Aside0.mk (Kd.R_below (by (with_reducible repeat (first | apply Kd.R_alloc | apply Kd.R_drewN | apply Kd.R_drew)); exact HO_11.out) hb); have n2_ := Aside0.mk (blk_below (g := gb138) (o := .cells #[.int .i64 t135, .int .i64 t136, .int .i64 t137] 26 (0, 0)) (by (with_reducible repeat (first | refine blk_drewN ?_ _ | refine blk_drew ?_ | refine blk_alloc ?_ _)); exact BK138.out) hb); have n3_ := Aside0.mk (below_step (by repeat (first | (with_reducible first | exact HB.out | apply below_alloc | apply pw_below_drewN | apply below_drew1 | refine below_set ?_ GE138.out) | exact HB.out)) hb); clear HO_10; clear HO_11; clear BK138; clear HB; have HO_10 := n0_; have HO_11 := n1_; have BK138 := n2_; have HB := n3_; clear n0_ n1_ n2_ n3_; (try clear hb); (try clear hb2); (try clear hk); (try clear hi); have hcz58_0 : w57.cell? ⟨gb138, 0, none⟩ = some (.int .i64 t135) := (blk_cell BK138.out 0).trans rfl; have hcz58_1 : w57.cell? ⟨gb138, 1, none⟩ = some (.int .i64 t136) := (blk_cell BK138.out 1).trans rfl; have hcz58_2 : w57.cell? ⟨gb138, 2, none⟩ = some (.int .i64 t137) := (blk_cell BK138.out 2).trans rfl; have hfz58_0 := blk_frozen BK138.out 0; have hfz58_1 := blk_frozen BK138.out 1; have hfz58_2 := blk_frozen BK138.out 2) | (go_at_call 17; (with_reducible refine (quorum_Covered.calls k1 t135 t136 t137 _ _ x11_1 t152 _ ?side1 ?side2 A49.out).mono ?_); (case side1 => repeat (first | exact (Kd.R_reads' HO_11.out).2.2 | (with_reducible refine Kd.C_alloc ?_ _) | (with_reducible refine Kd.C_drewN ?_ _) | (with_reducible refine Kd.C_drew ?_))); (case side2 => exact (Kd.R_reads' HO_11.out).2.1); rintro e w59 ⟨rfl, hb⟩; have n0_ := Aside0.mk (Kd.R_below (by (with_reducible repeat (first | apply Kd.R_alloc | apply Kd.R_drewN | apply Kd.R_drew)); exact HO_10.out) hb); have n1_ := Aside0.mk (Kd.R_below (by (with_reducible repeat (first | apply Kd.R_alloc | apply Kd.R_drewN | apply Kd.R_drew)); exact HO_11.out) hb); have n2_ := Aside0.mk (blk_below (g := gb138) (o := .cells #[.int .i64 t135, .int .i64 t136, .int .i64 t137] 26 (0, 0)) (by (with_reducible repeat (first | refine blk_drewN ?_ _ | refine blk_drew ?_ | refine blk_alloc ?_ _)); exact BK138.out) hb); have n3_ := Aside0.mk (below_step (by repeat (first | (with_reducible first | exact HB.out | apply below_alloc | apply pw_below_drewN | apply below_drew1 | refine below_set ?_ GE138.out) | exact HB.out)) hb); clear HO_10; clear HO_11; clear BK138; clear HB; have HO_10 := n0_; have HO_11 := n1_; have BK138 := n2_; have HB := n3_; clear n0_ n1_ n2_ n3_; (try clear hb); (try clear hb2); (try clear hk); (try clear hi)))
                    go_ret
                    exact ⟨by first | rfl | (simp [errW_none, errW_some] <;> rfl) | (simp [*, errW_none, errW_some] <;> rfl), by repeat (first | (with_reducible first | exact HB.out | apply below_alloc | apply pw_below_drewN | apply below_drew1 | refine below_set ?_ GE138.out) | exact HB.out)⟩
                  · replace c48 := Bool.eq_false_iff.mpr c48
                    subst c48
                    have H1 : (some true) = some r := by rw [if_neg (show ¬ (false = true) by decide)] at H; exact H
                    clear H
                    have H := H1
                    clear H1
                    obtain rfl := Option.some.inj H
                    have hcz60_0 : wr.cell? ⟨gb138, 0, none⟩ = some (.int .i64 t135) := (blk_cell BK138.out 0).trans rfl
                    have hcz60_1 : wr.cell? ⟨gb138, 1, none⟩ = some (.int .i64 t136) := (blk_cell BK138.out 1).trans rfl
                    have hcz60_2 : wr.cell? ⟨gb138, 2, none⟩ = some (.int .i64 t137) := (blk_cell BK138.out 2).trans rfl
                    have hfz60_0 := blk_frozen BK138.out 0
                    have hfz60_1 := blk_frozen BK138.out 1
                    have hfz60_2 := blk_frozen BK138.out 2
                    obtain ⟨Ao61, co61, eo61⟩ := Kd.R_slice HO_10.out
                    subst eo61
                    go_wp2_with (first | ((with_reducible refine gate_callee (f := 15) rfl ?_); refine goesL_ (some 54) rfl rfl Try.func15 (by kernel_rfl) rfl #[.agg #[.int .i64 t135, .int .i64 t136, .int .i64 t137], .int .u64 a1, .slice Ao61 x10_1.length co61] rfl (by (try simp only [List.map_toArray, List.map_cons, List.map_nil]); first | done | rfl | (simp only [List.length_drop, List.length_take]; rfl)) ?_; (with_reducible refine (quorum_Enough.calls k1 t135 t136 t137 a1 _ _ x10_1 true _ ?side1 ?side2 A43.out).mono ?_); (case side1 => repeat (first | exact (Kd.R_reads' HO_10.out).2.2 | (with_reducible refine Kd.C_alloc ?_ _) | (with_reducible refine Kd.C_drewN ?_ _) | (with_reducible refine Kd.C_drew ?_))); (case side2 => exact (Kd.R_reads' HO_10.out).2.1); rintro e w62 ⟨rfl, hb⟩; refine ⟨_, rfl, ?_⟩; have n0_ := Aside0.mk (Kd.R_below (by (with_reducible repeat (first | apply Kd.R_alloc | apply Kd.R_drewN | apply Kd.R_drew)); exact HO_10.out) hb); have n1_ := Aside0.mk (Kd.R_below (by (with_reducible repeat (first | apply Kd.R_alloc | apply Kd.R_drewN | apply Kd.R_drew)); exact HO_11.out) hb); have n2_ := Aside0.mk (blk_below (g := gb138) (o := .cells #[.int .i64 t135, .int .i64 t136, .int .i64 t137] 26 (0, 0)) (by (with_reducible repeat (first | refine blk_drewN ?_ _ | refine blk_drew ?_ | refine blk_alloc ?_ _)); exact BK138.out) hb); have n3_ := Aside0.mk (below_step (by repeat (first | (with_reducible first | exact HB.out | apply below_alloc | apply pw_below_drewN | apply below_drew1 | refine below_set ?_ GE138.out) | exact HB.out)) hb); clear HO_10; clear HO_11; clear BK138; clear HB; have HO_10 := n0_; have HO_11 := n1_; have BK138 := n2_; have HB := n3_; clear n0_ n1_ n2_ n3_; (try clear hb); (try clear hb2); (try clear hk); (try clear hi); have hcz63_0 : w62.cell? ⟨gb138, 0, none⟩ = some (.int .i64 t135) := (blk_cell BK138.out 0).trans rfl; have hcz63_1 : w62.cell? ⟨gb138, 1, none⟩ = some (.int .i64 t136) := (blk_cell BK138.out 1).trans rfl; have hcz63_2 : w62.cell? ⟨gb138, 2, none⟩ = some (.int .i64 t137) := (blk_cell BK138.out 2).trans rfl; have hfz63_0 := blk_frozen BK138.out 0; have hfz63_1 := blk_frozen BK138.out 1; have hfz63_2 := blk_frozen BK138.out 2; obtain ⟨Ao64, co64, eo64⟩ := Kd.R_slice HO_11.out; subst eo64) | (go_at_call 15; (with_reducible refine (quorum_Enough.calls k1 t135 t136 t137 a1 _ _ x11_1 true _ ?side1 ?side2 A45.out).mono ?_); (case side1 => repeat (first | exact (Kd.R_reads' HO_11.out).2.2 | (with_reducible refine Kd.C_alloc ?_ _) | (with_reducible refine Kd.C_drewN ?_ _) | (with_reducible refine Kd.C_drew ?_))); (case side2 => exact (Kd.R_reads' HO_11.out).2.1); rintro e w65 ⟨rfl, hb⟩; have n0_ := Aside0.mk (Kd.R_below (by (with_reducible repeat (first | apply Kd.R_alloc | apply Kd.R_drewN | apply Kd.R_drew)); exact HO_10.out) hb); have n1_ := Aside0.mk (Kd.R_below (by (with_reducible repeat (first | apply Kd.R_alloc | apply Kd.R_drewN | apply Kd.R_drew)); exact HO_11.out) hb); have n2_ := Aside0.mk (blk_below (g := gb138) (o := .cells #[.int .i64 t135, .int .i64 t136, .int .i64 t137] 26 (0, 0)) (by (with_reducible repeat (first | refine blk_drewN ?_ _ | refine blk_drew ?_ | refine blk_alloc ?_ _)); exact BK138.out) hb); have n3_ := Aside0.mk (below_step (by repeat (first | (with_reducible first | exact HB.out | apply below_alloc | apply pw_below_drewN | apply below_drew1 | refine below_set ?_ GE138.out) | exact HB.out)) hb); clear HO_10; clear HO_11; clear BK138; clear HB; have HO_10 := n0_; have HO_11 := n1_; have BK138 := n2_; have HB := n3_; clear n0_ n1_ n2_ n3_; (try clear hb); (try clear hb2); (try clear hk); (try clear hi); have hcz66_0 : w65.cell? ⟨gb138, 0, none⟩ = some (.int .i64 t135) := (blk_cell BK138.out 0).trans rfl; have hcz66_1 : w65.cell? ⟨gb138, 1, none⟩ = some (.int .i64 t136) := (blk_cell BK138.out 1).trans rfl; have hcz66_2 : w65.cell? ⟨gb138, 2, none⟩ = some (.int .i64 t137) := (blk_cell BK138.out 2).trans rfl; have hfz66_0 := blk_frozen BK138.out 0; have hfz66_1 := blk_frozen BK138.out 1; have hfz66_2 := blk_frozen BK138.out 2) | (go_at_call 17; (with_reducible refine (quorum_Covered.calls k1 t135 t136 t137 _ _ x10_1 false _ ?side1 ?side2 A47.out).mono ?_); (case side1 => repeat (first | exact (Kd.R_reads' HO_10.out).2.2 | (with_reducible refine Kd.C_alloc ?_ _) | (with_reducible refine Kd.C_drewN ?_ _) | (with_reducible refine Kd.C_drew ?_))); (case side2 => exact (Kd.R_reads' HO_10.out).2.1); rintro e w67 ⟨rfl, hb⟩; have n0_ := Aside0.mk (Kd.R_below (by (with_reducible repeat (first | apply Kd.R_alloc | apply Kd.R_drewN | apply Kd.R_drew)); exact HO_10.out) hb); have n1_ := Aside0.mk (Kd.R_below (by (with_reducible repeat (first | apply Kd.R_alloc | apply Kd.R_drewN | apply Kd.R_drew)); exact HO_11.out) hb); have n2_ := Aside0.mk (blk_below (g := gb138) (o := .cells #[.int .i64 t135, .int .i64 t136, .int .i64 t137] 26 (0, 0)) (by (with_reducible repeat (first | refine blk_drewN ?_ _ | refine blk_drew ?_ | refine blk_alloc ?_ _)); exact BK138.out) hb); have n3_ := Aside0.mk (below_step (by repeat (first | (with_reducible first | exact HB.out | apply below_alloc | apply pw_below_drewN | apply below_drew1 | refine below_set ?_ GE138.out) | exact HB.out)) hb); clear HO_10; clear HO_11; clear BK138; clear HB; have HO_10 := n0_; have HO_11 := n1_; have BK138 := n2_; have HB := n3_; clear n0_ n1_ n2_ n3_; (try clear hb); (try clear hb2); (try clear hk); (try clear hi)))
                    go_ret
                    exact ⟨by first | rfl | (simp [errW_none, errW_some] <;> rfl) | (simp [*, errW_none, errW_some] <;> rfl), by repeat (first | (with_reducible first | exact HB.out | apply below_alloc | apply pw_below_drewN | apply below_drew1 | refine below_set ?_ GE138.out) | exact HB.out)⟩
                · replace c46 := Bool.eq_false_iff.mpr c46
                  subst c46
                  have H1 : (some false) = some r := by rw [if_neg (show ¬ (false = true) by decide)] at H; exact H
                  clear H
                  have H := H1
                  clear H1
                  obtain rfl := Option.some.inj H
                  have hcz68_0 : wr.cell? ⟨gb138, 0, none⟩ = some (.int .i64 t135) := (blk_cell BK138.out 0).trans rfl
                  have hcz68_1 : wr.cell? ⟨gb138, 1, none⟩ = some (.int .i64 t136) := (blk_cell BK138.out 1).trans rfl
                  have hcz68_2 : wr.cell? ⟨gb138, 2, none⟩ = some (.int .i64 t137) := (blk_cell BK138.out 2).trans rfl
                  have hfz68_0 := blk_frozen BK138.out 0
                  have hfz68_1 := blk_frozen BK138.out 1
                  have hfz68_2 := blk_frozen BK138.out 2
                  obtain ⟨Ao69, co69, eo69⟩ := Kd.R_slice HO_10.out
                  subst eo69
                  go_wp2_with (first | ((with_reducible refine gate_callee (f := 15) rfl ?_); refine goesL_ (some 54) rfl rfl Try.func15 (by kernel_rfl) rfl #[.agg #[.int .i64 t135, .int .i64 t136, .int .i64 t137], .int .u64 a1, .slice Ao69 x10_1.length co69] rfl (by (try simp only [List.map_toArray, List.map_cons, List.map_nil]); first | done | rfl | (simp only [List.length_drop, List.length_take]; rfl)) ?_; (with_reducible refine (quorum_Enough.calls k1 t135 t136 t137 a1 _ _ x10_1 true _ ?side1 ?side2 A43.out).mono ?_); (case side1 => repeat (first | exact (Kd.R_reads' HO_10.out).2.2 | (with_reducible refine Kd.C_alloc ?_ _) | (with_reducible refine Kd.C_drewN ?_ _) | (with_reducible refine Kd.C_drew ?_))); (case side2 => exact (Kd.R_reads' HO_10.out).2.1); rintro e w70 ⟨rfl, hb⟩; refine ⟨_, rfl, ?_⟩; have n0_ := Aside0.mk (Kd.R_below (by (with_reducible repeat (first | apply Kd.R_alloc | apply Kd.R_drewN | apply Kd.R_drew)); exact HO_10.out) hb); have n1_ := Aside0.mk (Kd.R_below (by (with_reducible repeat (first | apply Kd.R_alloc | apply Kd.R_drewN | apply Kd.R_drew)); exact HO_11.out) hb); have n2_ := Aside0.mk (blk_below (g := gb138) (o := .cells #[.int .i64 t135, .int .i64 t136, .int .i64 t137] 26 (0, 0)) (by (with_reducible repeat (first | refine blk_drewN ?_ _ | refine blk_drew ?_ | refine blk_alloc ?_ _)); exact BK138.out) hb); have n3_ := Aside0.mk (below_step (by repeat (first | (with_reducible first | exact HB.out | apply below_alloc | apply pw_below_drewN | apply below_drew1 | refine below_set ?_ GE138.out) | exact HB.out)) hb); clear HO_10; clear HO_11; clear BK138; clear HB; have HO_10 := n0_; have HO_11 := n1_; have BK138 := n2_; have HB := n3_; clear n0_ n1_ n2_ n3_; (try clear hb); (try clear hb2); (try clear hk); (try clear hi); have hcz71_0 : w70.cell? ⟨gb138, 0, none⟩ = some (.int .i64 t135) := (blk_cell BK138.out 0).trans rfl; have hcz71_1 : w70.cell? ⟨gb138, 1, none⟩ = some (.int .i64 t136) := (blk_cell BK138.out 1).trans rfl; have hcz71_2 : w70.cell? ⟨gb138, 2, none⟩ = some (.int .i64 t137) := (blk_cell BK138.out 2).trans rfl; have hfz71_0 := blk_frozen BK138.out 0; have hfz71_1 := blk_frozen BK138.out 1; have hfz71_2 := blk_frozen BK138.out 2; obtain ⟨Ao72, co72, eo72⟩ := Kd.R_slice HO_11.out; subst eo72) | (go_at_call 15; (with_reducible refine (quorum_Enough.calls k1 t135 t136 t137 a1 _ _ x11_1 false _ ?side1 ?side2 A45.out).mono ?_); (case side1 => repeat (first | exact (Kd.R_reads' HO_11.out).2.2 | (with_reducible refine Kd.C_alloc ?_ _) | (with_reducible refine Kd.C_drewN ?_ _) | (with_reducible refine Kd.C_drew ?_))); (case side2 => exact (Kd.R_reads' HO_11.out).2.1); rintro e w73 ⟨rfl, hb⟩; have n0_ := Aside0.mk (Kd.R_below (by (with_reducible repeat (first | apply Kd.R_alloc | apply Kd.R_drewN | apply Kd.R_drew)); exact HO_10.out) hb); have n1_ := Aside0.mk (Kd.R_below (by (with_reducible repeat (first | apply Kd.R_alloc | apply Kd.R_drewN | apply Kd.R_drew)); exact HO_11.out) hb); have n2_ := Aside0.mk (blk_below (g := gb138) (o := .cells #[.int .i64 t135, .int .i64 t136, .int .i64 t137] 26 (0, 0)) (by (with_reducible repeat (first | refine blk_drewN ?_ _ | refine blk_drew ?_ | refine blk_alloc ?_ _)); exact BK138.out) hb); have n3_ := Aside0.mk (below_step (by repeat (first | (with_reducible first | exact HB.out | apply below_alloc | apply pw_below_drewN | apply below_drew1 | refine below_set ?_ GE138.out) | exact HB.out)) hb); clear HO_10; clear HO_11; clear BK138; clear HB; have HO_10 := n0_; have HO_11 := n1_; have BK138 := n2_; have HB := n3_; clear n0_ n1_ n2_ n3_; (try clear hb); (try clear hb2); (try clear hk); (try clear hi)))
                  go_ret
                  exact ⟨by first | rfl | (simp [errW_none, errW_some] <;> rfl) | (simp [*, errW_none, errW_some] <;> rfl), by repeat (first | (with_reducible first | exact HB.out | apply below_alloc | apply pw_below_drewN | apply below_drew1 | refine below_set ?_ GE138.out) | exact HB.out)⟩
              · replace c44 := Bool.eq_false_iff.mpr c44
                subst c44
                have H1 : ((quorum_Covered.f k1 t135 t136 t137 x10_1).bind fun t153 => (if t153 = true then ((quorum_Covered.f k1 t135 t136 t137 x11_1).bind fun t154 => (some t154)) else (some true))) = some r := by rw [if_neg (show ¬ (false = true) by decide)] at H; exact H
                clear H
                have H := H1
                clear H1
                replace H := Option.bind_eq_some_iff.mp H
                obtain ⟨t153, A740, H⟩ := H
                replace H : (if t153 = true then ((quorum_Covered.f k1 t135 t136 t137 x11_1).bind fun t154 => (some t154)) else (some true)) = some r := H
                have A74 := Aside0.mk A740
                clear A740
                by_cases c75 : t153 = true
                · subst c75
                  have H1 : ((quorum_Covered.f k1 t135 t136 t137 x11_1).bind fun t154 => (some t154)) = some r := by rw [if_pos rfl] at H; exact H
                  clear H
                  have H := H1
                  clear H1
                  replace H := Option.bind_eq_some_iff.mp H
                  obtain ⟨t154, A760, H⟩ := H
                  replace H : (some t154) = some r := H
                  have A76 := Aside0.mk A760
                  clear A760
                  obtain rfl := Option.some.inj H
                  have hcz77_0 : wr.cell? ⟨gb138, 0, none⟩ = some (.int .i64 t135) := (blk_cell BK138.out 0).trans rfl
                  have hcz77_1 : wr.cell? ⟨gb138, 1, none⟩ = some (.int .i64 t136) := (blk_cell BK138.out 1).trans rfl
                  have hcz77_2 : wr.cell? ⟨gb138, 2, none⟩ = some (.int .i64 t137) := (blk_cell BK138.out 2).trans rfl
                  have hfz77_0 := blk_frozen BK138.out 0
                  have hfz77_1 := blk_frozen BK138.out 1
                  have hfz77_2 := blk_frozen BK138.out 2
                  obtain ⟨Ao78, co78, eo78⟩ := Kd.R_slice HO_10.out
                  subst eo78
                  go_wp2_with (first | ((with_reducible refine gate_callee (f := 15) rfl ?_); refine goesL_ (some 54) rfl rfl Try.func15 (by kernel_rfl) rfl #[.agg #[.int .i64 t135, .int .i64 t136, .int .i64 t137], .int .u64 a1, .slice Ao78 x10_1.length co78] rfl (by (try simp only [List.map_toArray, List.map_cons, List.map_nil]); first | done | rfl | (simp only [List.length_drop, List.length_take]; rfl)) ?_; (with_reducible refine (quorum_Enough.calls k1 t135 t136 t137 a1 _ _ x10_1 false _ ?side1 ?side2 A43.out).mono ?_); (case side1 => repeat (first | exact (Kd.R_reads' HO_10.out).2.2 | (with_reducible refine Kd.C_alloc ?_ _) | (with_reducible refine Kd.C_drewN ?_ _) | (with_reducible refine Kd.C_drew ?_))); (case side2 => exact (Kd.R_reads' HO_10.out).2.1); rintro e w79 ⟨rfl, hb⟩; refine ⟨_, rfl, ?_⟩; have n0_ := Aside0.mk (Kd.R_below (by (with_reducible repeat (first | apply Kd.R_alloc | apply Kd.R_drewN | apply Kd.R_drew)); exact HO_10.out) hb); have n1_ := Aside0.mk (Kd.R_below (by (with_reducible repeat (first | apply Kd.R_alloc | apply Kd.R_drewN | apply Kd.R_drew)); exact HO_11.out) hb); have n2_ := Aside0.mk (blk_below (g := gb138) (o := .cells #[.int .i64 t135, .int .i64 t136, .int .i64 t137] 26 (0, 0)) (by (with_reducible repeat (first | refine blk_drewN ?_ _ | refine blk_drew ?_ | refine blk_alloc ?_ _)); exact BK138.out) hb); have n3_ := Aside0.mk (below_step (by repeat (first | (with_reducible first | exact HB.out | apply below_alloc | apply pw_below_drewN | apply below_drew1 | refine below_set ?_ GE138.out) | exact HB.out)) hb); clear HO_10; clear HO_11; clear BK138; clear HB; have HO_10 := n0_; have HO_11 := n1_; have BK138 := n2_; have HB := n3_; clear n0_ n1_ n2_ n3_; (try clear hb); (try clear hb2); (try clear hk); (try clear hi); have hcz80_0 : w79.cell? ⟨gb138, 0, none⟩ = some (.int .i64 t135) := (blk_cell BK138.out 0).trans rfl; have hcz80_1 : w79.cell? ⟨gb138, 1, none⟩ = some (.int .i64 t136) := (blk_cell BK138.out 1).trans rfl; have hcz80_2 : w79.cell? ⟨gb138, 2, none⟩ = some (.int .i64 t137) := (blk_cell BK138.out 2).trans rfl; have hfz80_0 := blk_frozen BK138.out 0; have hfz80_1 := blk_frozen BK138.out 1; have hfz80_2 := blk_frozen BK138.out 2) | (go_at_call 17; (with_reducible refine (quorum_Covered.calls k1 t135 t136 t137 _ _ x10_1 true _ ?side1 ?side2 A74.out).mono ?_); (case side1 => repeat (first | exact (Kd.R_reads' HO_10.out).2.2 | (with_reducible refine Kd.C_alloc ?_ _) | (with_reducible refine Kd.C_drewN ?_ _) | (with_reducible refine Kd.C_drew ?_))); (case side2 => exact (Kd.R_reads' HO_10.out).2.1); rintro e w81 ⟨rfl, hb⟩; have n0_ := Aside0.mk (Kd.R_below (by (with_reducible repeat (first | apply Kd.R_alloc | apply Kd.R_drewN | apply Kd.R_drew)); exact HO_10.out) hb); have n1_ := Aside0.mk (Kd.R_below (by (with_reducible repeat (first | apply Kd.R_alloc | apply Kd.R_drewN | apply Kd.R_drew)); exact HO_11.out) hb); have n2_ := Aside0.mk (blk_below (g := gb138) (o := .cells #[.int .i64 t135, .int .i64 t136, .int .i64 t137] 26 (0, 0)) (by (with_reducible repeat (first | refine blk_drewN ?_ _ | refine blk_drew ?_ | refine blk_alloc ?_ _)); exact BK138.out) hb); have n3_ := Aside0.mk (below_step (by repeat (first | (with_reducible first | exact HB.out | apply below_alloc | apply pw_below_drewN | apply below_drew1 | refine below_set ?_ GE138.out) | exact HB.out)) hb); clear HO_10; clear HO_11; clear BK138; clear HB; have HO_10 := n0_; have HO_11 := n1_; have BK138 := n2_; have HB := n3_; clear n0_ n1_ n2_ n3_; (try clear hb); (try clear hb2); (try clear hk); (try clear hi); have hcz82_0 : w81.cell? ⟨gb138, 0, none⟩ = some (.int .i64 t135) := (blk_cell BK138.out 0).trans rfl; have hcz82_1 : w81.cell? ⟨gb138, 1, none⟩ = some (.int .i64 t136) := (blk_cell BK138.out 1).trans rfl; have hcz82_2 : w81.cell? ⟨gb138, 2, none⟩ = some (.int .i64 t137) := (blk_cell BK138.out 2).trans rfl; have hfz82_0 := blk_frozen BK138.out 0; have hfz82_1 := blk_frozen BK138.out 1; have hfz82_2 := blk_frozen BK138.out 2; obtain ⟨Ao83, co83, eo83⟩ := Kd.R_slice HO_11.out; subst eo83) | (go_at_call 17; (with_reducible refine (quorum_Covered.calls k1 t135 t136 t137 _ _ x11_1 t154 _ ?side1 ?side2 A76.out).mono ?_); (case side1 => repeat (first | exact (Kd.R_reads' HO_11.out).2.2 | (with_reducible refine Kd.C_alloc ?_ _) | (with_reducible refine Kd.C_drewN ?_ _) | (with_reducible refine Kd.C_drew ?_))); (case side2 => exact (Kd.R_reads' HO_11.out).2.1); rintro e w84 ⟨rfl, hb⟩; have n0_ := Aside0.mk (Kd.R_below (by (with_reducible repeat (first | apply Kd.R_alloc | apply Kd.R_drewN | apply Kd.R_drew)); exact HO_10.out) hb); have n1_ := Aside0.mk (Kd.R_below (by (with_reducible repeat (first | apply Kd.R_alloc | apply Kd.R_drewN | apply Kd.R_drew)); exact HO_11.out) hb); have n2_ := Aside0.mk (blk_below (g := gb138) (o := .cells #[.int .i64 t135, .int .i64 t136, .int .i64 t137] 26 (0, 0)) (by (with_reducible repeat (first | refine blk_drewN ?_ _ | refine blk_drew ?_ | refine blk_alloc ?_ _)); exact BK138.out) hb); have n3_ := Aside0.mk (below_step (by repeat (first | (with_reducible first | exact HB.out | apply below_alloc | apply pw_below_drewN | apply below_drew1 | refine below_set ?_ GE138.out) | exact HB.out)) hb); clear HO_10; clear HO_11; clear BK138; clear HB; have HO_10 := n0_; have HO_11 := n1_; have BK138 := n2_; have HB := n3_; clear n0_ n1_ n2_ n3_; (try clear hb); (try clear hb2); (try clear hk); (try clear hi)))
                  go_ret
                  exact ⟨by first | rfl | (simp [errW_none, errW_some] <;> rfl) | (simp [*, errW_none, errW_some] <;> rfl), by repeat (first | (with_reducible first | exact HB.out | apply below_alloc | apply pw_below_drewN | apply below_drew1 | refine below_set ?_ GE138.out) | exact HB.out)⟩
                · replace c75 := Bool.eq_false_iff.mpr c75
                  subst c75
                  have H1 : (some true) = some r := by rw [if_neg (show ¬ (false = true) by decide)] at H; exact H
                  clear H
                  have H := H1
                  clear H1
                  obtain rfl := Option.some.inj H
                  have hcz85_0 : wr.cell? ⟨gb138, 0, none⟩ = some (.int .i64 t135) := (blk_cell BK138.out 0).trans rfl
                  have hcz85_1 : wr.cell? ⟨gb138, 1, none⟩ = some (.int .i64 t136) := (blk_cell BK138.out 1).trans rfl
                  have hcz85_2 : wr.cell? ⟨gb138, 2, none⟩ = some (.int .i64 t137) := (blk_cell BK138.out 2).trans rfl
                  have hfz85_0 := blk_frozen BK138.out 0
                  have hfz85_1 := blk_frozen BK138.out 1
                  have hfz85_2 := blk_frozen BK138.out 2
                  obtain ⟨Ao86, co86, eo86⟩ := Kd.R_slice HO_10.out
                  subst eo86
                  go_wp2_with (first | ((with_reducible refine gate_callee (f := 15) rfl ?_); refine goesL_ (some 54) rfl rfl Try.func15 (by kernel_rfl) rfl #[.agg #[.int .i64 t135, .int .i64 t136, .int .i64 t137], .int .u64 a1, .slice Ao86 x10_1.length co86] rfl (by (try simp only [List.map_toArray, List.map_cons, List.map_nil]); first | done | rfl | (simp only [List.length_drop, List.length_take]; rfl)) ?_; (with_reducible refine (quorum_Enough.calls k1 t135 t136 t137 a1 _ _ x10_1 false _ ?side1 ?side2 A43.out).mono ?_); (case side1 => repeat (first | exact (Kd.R_reads' HO_10.out).2.2 | (with_reducible refine Kd.C_alloc ?_ _) | (with_reducible refine Kd.C_drewN ?_ _) | (with_reducible refine Kd.C_drew ?_))); (case side2 => exact (Kd.R_reads' HO_10.out).2.1); rintro e w87 ⟨rfl, hb⟩; refine ⟨_, rfl, ?_⟩; have n0_ := Aside0.mk (Kd.R_below (by (with_reducible repeat (first | apply Kd.R_alloc | apply Kd.R_drewN | apply Kd.R_drew)); exact HO_10.out) hb); have n1_ := Aside0.mk (Kd.R_below (by (with_reducible repeat (first | apply Kd.R_alloc | apply Kd.R_drewN | apply Kd.R_drew)); exact HO_11.out) hb); have n2_ := Aside0.mk (blk_below (g := gb138) (o := .cells #[.int .i64 t135, .int .i64 t136, .int .i64 t137] 26 (0, 0)) (by (with_reducible repeat (first | refine blk_drewN ?_ _ | refine blk_drew ?_ | refine blk_alloc ?_ _)); exact BK138.out) hb); have n3_ := Aside0.mk (below_step (by repeat (first | (with_reducible first | exact HB.out | apply below_alloc | apply pw_below_drewN | apply below_drew1 | refine below_set ?_ GE138.out) | exact HB.out)) hb); clear HO_10; clear HO_11; clear BK138; clear HB; have HO_10 := n0_; have HO_11 := n1_; have BK138 := n2_; have HB := n3_; clear n0_ n1_ n2_ n3_; (try clear hb); (try clear hb2); (try clear hk); (try clear hi); have hcz88_0 : w87.cell? ⟨gb138, 0, none⟩ = some (.int .i64 t135) := (blk_cell BK138.out 0).trans rfl; have hcz88_1 : w87.cell? ⟨gb138, 1, none⟩ = some (.int .i64 t136) := (blk_cell BK138.out 1).trans rfl; have hcz88_2 : w87.cell? ⟨gb138, 2, none⟩ = some (.int .i64 t137) := (blk_cell BK138.out 2).trans rfl; have hfz88_0 := blk_frozen BK138.out 0; have hfz88_1 := blk_frozen BK138.out 1; have hfz88_2 := blk_frozen BK138.out 2) | (go_at_call 17; (with_reducible refine (quorum_Covered.calls k1 t135 t136 t137 _ _ x10_1 false _ ?side1 ?side2 A74.out).mono ?_); (case side1 => repeat (first | exact (Kd.R_reads' HO_10.out).2.2 | (with_reducible refine Kd.C_alloc ?_ _) | (with_reducible refine Kd.C_drewN ?_ _) | (with_reducible refine Kd.C_drew ?_))); (case side2 => exact (Kd.R_reads' HO_10.out).2.1); rintro e w89 ⟨rfl, hb⟩; have n0_ := Aside0.mk (Kd.R_below (by (with_reducible repeat (first | apply Kd.R_alloc | apply Kd.R_drewN | apply Kd.R_drew)); exact HO_10.out) hb); have n1_ := Aside0.mk (Kd.R_below (by (with_reducible repeat (first | apply Kd.R_alloc | apply Kd.R_drewN | apply Kd.R_drew)); exact HO_11.out) hb); have n2_ := Aside0.mk (blk_below (g := gb138) (o := .cells #[.int .i64 t135, .int .i64 t136, .int .i64 t137] 26 (0, 0)) (by (with_reducible repeat (first | refine blk_drewN ?_ _ | refine blk_drew ?_ | refine blk_alloc ?_ _)); exact BK138.out) hb); have n3_ := Aside0.mk (below_step (by repeat (first | (with_reducible first | exact HB.out | apply below_alloc | apply pw_below_drewN | apply below_drew1 | refine below_set ?_ GE138.out) | exact HB.out)) hb); clear HO_10; clear HO_11; clear BK138; clear HB; have HO_10 := n0_; have HO_11 := n1_; have BK138 := n2_; have HB := n3_; clear n0_ n1_ n2_ n3_; (try clear hb); (try clear hb2); (try clear hk); (try clear hi)))
                  go_ret
                  exact ⟨by first | rfl | (simp [errW_none, errW_some] <;> rfl) | (simp [*, errW_none, errW_some] <;> rfl), by repeat (first | (with_reducible first | exact HB.out | apply below_alloc | apply pw_below_drewN | apply below_drew1 | refine below_set ?_ GE138.out) | exact HB.out)⟩
      · rw [if_neg c9] at H
        exact absurd H (by simp)
    · rw [if_neg c8] at H
      exact absurd H (by simp)
  · replace c6 := Bool.eq_false_iff.mpr c6
    subst c6
    have H1 : (some false) = some r := by rw [if_neg (show ¬ (false = true) by decide)] at H; exact H
    clear H
    have H := H1
    clear H1
    obtain rfl := Option.some.inj H
    go_enter Try.func7, Try.ntmps7
    go_wp2_with (first | ((with_reducible refine gate_callee (f := 8) rfl ?_); refine goesL_ (some 13) rfl rfl Try.func8 (by kernel_rfl) rfl #[] rfl (by (try simp only [List.map_toArray, List.map_cons, List.map_nil]); first | done | rfl | (simp only [List.length_drop, List.length_take]; rfl)) ?_; (with_reducible refine (mailcoachlaw10_Awake.calls k  false _ A5.out).mono ?_); rintro e w90 ⟨rfl, hb⟩; refine ⟨_, rfl, ?_⟩; have n0_ := Aside0.mk (below_step (by repeat (first | (with_reducible first | exact HB.out | apply below_alloc | apply pw_below_drewN | apply below_drew1) | exact HB.out)) hb); clear HB; have HB := n0_; clear n0_; (try clear hb); (try clear hb2); (try clear hk); (try clear hi)))
    go_ret
    exact ⟨by first | rfl | (simp [errW_none, errW_some] <;> rfl) | (simp [*, errW_none, errW_some] <;> rfl), by repeat (first | (with_reducible first | exact HB.out | apply below_alloc | apply pw_below_drewN | apply below_drew1) | exact HB.out)⟩

/-- THE ONE PURE STATEMENT of mailcoachlaw10_QuorumMore: yours. -/
def mailcoachlaw10_QuorumMore.Pure : Prop := ∀ (a0 : Int) (a1 : Int) (a2 : Int) (a3 : Int), (Lit.int .u16 a0).wf = true → (Lit.int .u64 a1).wf = true → (Lit.int .u8 a2).wf = true → (Lit.int .u8 a3).wf = true → ∃ k, mailcoachlaw10_QuorumMore.f k a0 a1 a2 a3 = some true
theorem mailcoachlaw10_QuorumMore.walk (P : mailcoachlaw10_QuorumMore.Pure) (a0 : Int) (a1 : Int) (a2 : Int) (a3 : Int) (w : World) (w0 : (Lit.int .u16 a0).wf = true) (w1 : (Lit.int .u64 a1).wf = true) (w2 : (Lit.int .u8 a2).wf = true) (w3 : (Lit.int .u8 a3).wf = true) :
    Calls Try.prog 7 #[.int .u16 a0, .int .u64 a1, .int .u8 a2, .int .u8 a3] w fun e w' => e = .returned (.bool true) ∧ Below w.heap.size w w' := by
  obtain ⟨k, h⟩ := P a0 a1 a2 a3 w0 w1 w2 w3
  refine (mailcoachlaw10_QuorumMore.calls k a0 a1 a2 a3 true w h).mono ?_
  rintro e w' ⟨rfl, hd⟩
  exact ⟨rfl, hd⟩

end Go.Proofs.Ytcjndpmknachhaa.PQuorumMore
