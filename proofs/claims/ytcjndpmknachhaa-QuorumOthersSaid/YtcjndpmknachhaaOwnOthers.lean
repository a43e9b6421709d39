/- The law function QuorumOthers: what it answers, and that the Go code comes to it. Lines of a text that print.sh wrote and that did not build, turned by hand here. -/
import Derived.Test.YtcjndpmknachhaaPQuorumOthersx0
import Derived.Test.YtcjndpmknachhaaPQuorumOthersx2
namespace Go.Proofs.Ytcjndpmknachhaa.PQuorumOthers
open Go.RowKit Go.Proofs.YtcjndpmknachhaaW.PrintWords Go.Proofs.YtcjndpmknachhaaW.PrintLast Go.Proofs.YtcjndpmknachhaaW.PrintMore
attribute [local go_sem] max2_int min2_int max_two min_two max_three min_three max_four min_four   -- for this text's walks alone
set_option linter.unusedVariables false
set_option linter.unusedSimpArgs false

/-! ### mailcoachlaw10_QuorumOthers: function 6 -/
mutual
def mailcoachlaw10_QuorumOthers.l0 : Nat → Int → Int → List Bool → List Bool → Int → Int → Int → Int → Int → Option (Bool)
  | 0, _, _, _, _, _, _, _, _, _ => none
  | k + 1, x1, x2, x8, x9, x23, x24, x139000, x139001, x139002 => if x24 < x23 then (if 0 ≤ x24 then (if x24 < (x8.length : Int) then (if x24 < (x9.length : Int) then (mailcoachlaw10_QuorumOthers.l0 k x1 x2 (x8.set (x24 : Int).toNat ((Go.bits .and .u8 (shr .u8 x1 x24) 1) == 1)) (x9.set (x24 : Int).toNat ((Go.bits .and .u8 (shr .u8 x1 x24) 1) == 0)) x23 (wrap64 (x24 + 1)) x139000 x139001 x139002) else (none)) else (none)) else (none)) else ((quorum_Covered.f k x139000 x139001 x139002 x8).bind fun t147 => (if t147 = true then ((quorum_Enough.f k x139000 x139001 x139002 x2 x9).bind fun t148 => (some (!t148))) else (mailcoachlaw10_QuorumOthers.l1 k x9 x139000 0 x139000 x139001 x139002)))
def mailcoachlaw10_QuorumOthers.l1 : Nat → List Bool → Int → Int → Int → Int → Int → Option (Bool)
  | 0, _, _, _, _, _, _ => none
  | k + 1, x9, x53, x54, x139000, x139001, x139002 => if x54 < x53 then ((quorum_Enough.f k x139000 x139001 x139002 (IntKind.u64.wrap (x54)) x9).bind fun t149 => (if t149 = true then (some true) else (mailcoachlaw10_QuorumOthers.l1 k x9 x53 (wrap64 (x54 + 1)) x139000 x139001 x139002))) else (some false)
end
def mailcoachlaw10_QuorumOthers.f (k : Nat) (a0 : Int) (a1 : Int) (a2 : Int) : Option (Bool) := (mailcoachlaw10_Awake.f k).bind fun t134 => (if t134 = true then ((mailcoachlaw10_Quorum.f a0).bind fun bt135 => (if 0 ≤ bt135.1 then (if (bt135.1 : Int).toNat ≤ 281474976710656 then (mailcoachlaw10_QuorumOthers.l0 k a1 a2 (List.replicate (bt135.1 : Int).toNat false) (List.replicate (bt135.1 : Int).toNat false) bt135.1 0 bt135.1 bt135.2.1 bt135.2.2) else (none)) else (none))) else (some false))
theorem mailcoachlaw10_QuorumOthers.mono_l : ∀ k, (∀ y0 y1 y2 y3 y4 y5 y6 y7 y8, LeO (mailcoachlaw10_QuorumOthers.l0 k y0 y1 y2 y3 y4 y5 y6 y7 y8) (mailcoachlaw10_QuorumOthers.l0 (k + 1) y0 y1 y2 y3 y4 y5 y6 y7 y8)) ∧ (∀ y0 y1 y2 y3 y4 y5, LeO (mailcoachlaw10_QuorumOthers.l1 k y0 y1 y2 y3 y4 y5) (mailcoachlaw10_QuorumOthers.l1 (k + 1) y0 y1 y2 y3 y4 y5))
  | 0 => ⟨fun _ _ _ _ _ _ _ _ _ r h => by simp [mailcoachlaw10_QuorumOthers.l0] at h, fun _ _ _ _ _ _ r h => by simp [mailcoachlaw10_QuorumOthers.l1] at h⟩
  | k + 1 => by
    obtain ⟨ih0, ih1⟩ := mailcoachlaw10_QuorumOthers.mono_l k
    refine ⟨?_, ?_⟩
    · intro y0 y1 y2 y3 y4 y5 y6 y7 y8
      unfold mailcoachlaw10_QuorumOthers.l0
      repeat' first
      | (with_reducible exact ih0 _ _ _ _ _ _ _ _ _)
      | (with_reducible exact ih1 _ _ _ _ _ _)
      | (with_reducible exact mailcoachlaw10_Awake.mono _)
      | (with_reducible exact quorum_Covered.mono _ _ _ _ _)
      | (with_reducible exact quorum_Enough.mono _ _ _ _ _ _)
      | (with_reducible exact LeO.refl _)
      | (with_reducible exact LeO.none _)
      | (with_reducible refine LeO.ite ?_ ?_)
      | (with_reducible refine LeO.bind ?_ (fun _ => ?_))
      | exact ih0 _ _ _ _ _ _ _ _ _
      | exact ih1 _ _ _ _ _ _
      | exact mailcoachlaw10_Awake.mono _
      | exact quorum_Covered.mono _ _ _ _ _
      | exact quorum_Enough.mono _ _ _ _ _ _
      | exact LeO.none _
      | refine LeO.ite ?_ ?_
      | refine LeO.bind ?_ (fun _ => ?_)
    · intro y0 y1 y2 y3 y4 y5
      unfold mailcoachlaw10_QuorumOthers.l1
      repeat' first
      | (with_reducible exact ih0 _ _ _ _ _ _ _ _ _)
      | (with_reducible exact ih1 _ _ _ _ _ _)
      | (with_reducible exact mailcoachlaw10_Awake.mono _)
      | (with_reducible exact quorum_Covered.mono _ _ _ _ _)
      | (with_reducible exact quorum_Enough.mono _ _ _ _ _ _)
      | (with_reducible exact LeO.refl _)
      | (with_reducible exact LeO.none _)
      | (with_reducible refine LeO.ite ?_ ?_)
      | (with_reducible refine LeO.bind ?_ (fun _ => ?_))
      | exact ih0 _ _ _ _ _ _ _ _ _
      | exact ih1 _ _ _ _ _ _
      | exact mailcoachlaw10_Awake.mono _
      | exact quorum_Covered.mono _ _ _ _ _
      | exact quorum_Enough.mono _ _ _ _ _ _
      | exact LeO.none _
      | refine LeO.ite ?_ ?_
      | refine LeO.bind ?_ (fun _ => ?_)
theorem mailcoachlaw10_QuorumOthers.mono : ∀ a0 a1 a2 k, LeO (mailcoachlaw10_QuorumOthers.f k a0 a1 a2) (mailcoachlaw10_QuorumOthers.f (k + 1) a0 a1 a2) := by
  intro a0 a1 a2 k
  obtain ⟨ih0, ih1⟩ := mailcoachlaw10_QuorumOthers.mono_l k
  unfold mailcoachlaw10_QuorumOthers.f
  repeat' first
      | (with_reducible exact ih0 _ _ _ _ _ _ _ _ _)
      | (with_reducible exact ih1 _ _ _ _ _ _)
      | (with_reducible exact mailcoachlaw10_Awake.mono _)
      | (with_reducible exact quorum_Covered.mono _ _ _ _ _)
      | (with_reducible exact quorum_Enough.mono _ _ _ _ _ _)
      | (with_reducible exact LeO.refl _)
      | (with_reducible exact LeO.none _)
      | (with_reducible refine LeO.ite ?_ ?_)
      | (with_reducible refine LeO.bind ?_ (fun _ => ?_))
      | exact ih0 _ _ _ _ _ _ _ _ _
      | exact ih1 _ _ _ _ _ _
      | exact mailcoachlaw10_Awake.mono _
      | exact quorum_Covered.mono _ _ _ _ _
      | exact quorum_Enough.mono _ _ _ _ _ _
      | exact LeO.none _
      | refine LeO.ite ?_ ?_
      | refine LeO.bind ?_ (fun _ => ?_)
def mailcoachlaw10_QuorumOthers.T4 : Bool × List (List Nat × List Nat) := (true, [([], []), ([0], [0]), ([1, 1], [1]), ([], []), ([3], [3]), ([4, 4], [4]), ([2, 0, 1, 2], [2]), ([5, 6, 0, 1, 2, 3, 4, 5, 6], [5])])
def mailcoachlaw10_QuorumOthers.B4 : List Nat := [0, 1, 3, 0, 8, 24, 7, 127]
theorem mailcoachlaw10_QuorumOthers.tab4 : rtab .any (opsOf Try.f6 4) = mailcoachlaw10_QuorumOthers.T4 := by kernel_rfl
theorem mailcoachlaw10_QuorumOthers.bits4 : waitsOk mailcoachlaw10_QuorumOthers.T4.2 mailcoachlaw10_QuorumOthers.B4 = true := by kernel_rfl
def mailcoachlaw10_QuorumOthers.T8 : Bool × List (List Nat × List Nat) := (true, [([], []), ([], []), ([], []), ([], []), ([], []), ([], []), ([4, 5], [4, 5]), ([6], [6]), ([7], [7]), ([], []), ([], []), ([9, 10], [9, 10]), ([11], [11]), ([12], [12]), ([0, 1, 0, 1, 4, 5, 6, 7, 8], [0, 1]), ([14, 8, 0, 1, 4, 5, 6, 7, 8], [8, 14]), ([2, 3, 0, 1, 2, 3, 4, 5, 6, 7, 8, 9, 10, 11, 12, 13, 14, 15], [2, 3]), ([16, 13, 15, 0, 1, 2, 3, 4, 5, 6, 7, 8, 9, 10, 11, 12, 13, 14, 15], [13, 16])])
def mailcoachlaw10_QuorumOthers.B8 : List Nat := [0, 0, 0, 0, 0, 0, 48, 112, 240, 0, 0, 1536, 3584, 7680, 499, 16883, 65535, 131071]
theorem mailcoachlaw10_QuorumOthers.tab8 : rtab .any (opsOf Try.f6 8) = mailcoachlaw10_QuorumOthers.T8 := by kernel_rfl
theorem mailcoachlaw10_QuorumOthers.bits8 : waitsOk mailcoachlaw10_QuorumOthers.T8.2 mailcoachlaw10_QuorumOthers.B8 = true := by kernel_rfl
set_option maxHeartbeats 8000000 in
set_option maxRecDepth 100000 in
theorem mailcoachlaw10_QuorumOthers.calls (k : Nat) (a0 : Int) (a1 : Int) (a2 : Int) (r : Bool) (w : World) (h : mailcoachlaw10_QuorumOthers.f k a0 a1 a2 = some r) :
    Calls Try.prog 6 #[.int .u16 a0, .int .u8 a1, .int .u64 a2] w fun e w' => e = .returned (.bool r) ∧ Below w.heap.size w w' := by
  have hu26 := Try.underlying26
  have HB := Aside0.mk (Below.refl w.heap.size w)
  have H : ((mailcoachlaw10_Awake.f k).bind fun t134 => (if t134 = true then ((mailcoachlaw10_Quorum.f a0).bind fun bt135 => (if 0 ≤ bt135.1 then (if (bt135.1 : Int).toNat ≤ 281474976710656 then (mailcoachlaw10_QuorumOthers.l0 k a1 a2 (List.replicate (bt135.1 : Int).toNat false) (List.replicate (bt135.1 : Int).toNat false) bt135.1 0 bt135.1 bt135.2.1 bt135.2.2) else (none)) else (none))) else (some false))) = some r := h
  clear h
  replace H := Option.bind_eq_some_iff.mp H
  obtain ⟨t134, A40, H⟩ := H
  replace H : (if t134 = true then ((mailcoachlaw10_Quorum.f a0).bind fun bt135 => (if 0 ≤ bt135.1 then (if (bt135.1 : Int).toNat ≤ 281474976710656 then (mailcoachlaw10_QuorumOthers.l0 k a1 a2 (List.replicate (bt135.1 : Int).toNat false) (List.replicate (bt135.1 : Int).toNat false) bt135.1 0 bt135.1 bt135.2.1 bt135.2.2) else (none)) else (none))) else (some false)) = some r := H
  have A4 := Aside0.mk A40
  clear A40
  by_cases c5 : t134 = true
  · subst c5
    have H1 : ((mailcoachlaw10_Quorum.f a0).bind fun bt135 => (if 0 ≤ bt135.1 then (if (bt135.1 : Int).toNat ≤ 281474976710656 then (mailcoachlaw10_QuorumOthers.l0 k a1 a2 (List.replicate (bt135.1 : Int).toNat false) (List.replicate (bt135.1 : Int).toNat false) bt135.1 0 bt135.1 bt135.2.1 bt135.2.2) else (none)) else (none))) = some r := by rw [if_pos rfl] at H; exact H
    clear H
    have H := H1
    clear H1
    replace H := Option.bind_eq_some_iff.mp H
    obtain ⟨⟨t135, t136, t137⟩, A60, H⟩ := H
    replace H : (if 0 ≤ t135 then (if (t135 : Int).toNat ≤ 281474976710656 then (mailcoachlaw10_QuorumOthers.l0 k a1 a2 (List.replicate (t135 : Int).toNat false) (List.replicate (t135 : Int).toNat false) t135 0 t135 t136 t137) else (none)) else (none)) = some r := H
    have A6 := Aside0.mk A60
    clear A60
    by_cases c7 : 0 ≤ t135
    · rw [if_pos c7] at H
      have c7b0 := eq_true c7
      have c7b1 : decide (0 ≤ t135) = true := decide_eq_true c7
      clear c7
      by_cases c8 : (t135 : Int).toNat ≤ 281474976710656
      · rw [if_pos c8] at H
        have c8b0 := eq_true c8
        have c8b1 : decide ((t135 : Int).toNat ≤ 281474976710656) = true := decide_eq_true c8
        clear c8
        obtain ⟨y139, hy139⟩ : ∃ y_ : List Bool, y_ = (List.replicate (t135 : Int).toNat false) := ⟨_, rfl⟩
        replace H : (mailcoachlaw10_QuorumOthers.l0 k a1 a2 y139 (List.replicate (t135 : Int).toNat false) t135 0 t135 t136 t137) = some r := by first | (rw [hy139]; with_reducible exact H) | (have H2_ := (Option.bind_some _ _).symm.trans H; rw [hy139]; with_reducible exact H2_) | (have H2_ := (Option.bind_some _ _).symm.trans H; with_reducible exact H2_) | with_reducible exact H | (rw [hy139]; exact H) | exact H
        have Ny139 := Aside0.mk hy139
        clear hy139
        obtain ⟨y142, hy142⟩ : ∃ y_ : List Bool, y_ = (List.replicate (t135 : Int).toNat false) := ⟨_, rfl⟩
        replace H : (mailcoachlaw10_QuorumOthers.l0 k a1 a2 y139 y142 t135 0 t135 t136 t137) = some r := by first | (rw [hy142]; with_reducible exact H) | (have H2_ := (Option.bind_some _ _).symm.trans H; rw [hy142]; with_reducible exact H2_) | (have H2_ := (Option.bind_some _ _).symm.trans H; with_reducible exact H2_) | with_reducible exact H | (rw [hy142]; exact H) | exact H
        have Ny142 := Aside0.mk hy142
        clear hy142
        have H' := Aside0.mk H
        clear H
        go_enter Try.func6, Try.ntmps6
        try go_wp2_with (first | ((with_reducible refine gate_callee (f := 8) rfl ?_); refine goesL_ (some 12) rfl rfl Try.func8 (by kernel_rfl) rfl #[] rfl (by (try simp only [List.map_toArray, List.map_cons, List.map_nil]); first | done | rfl | (simp only [List.length_drop, List.length_take]; rfl)) ?_; (with_reducible refine (mailcoachlaw10_Awake.calls k  true _ A4.out).mono ?_); rintro e w9 ⟨rfl, hb⟩; refine ⟨_, rfl, ?_⟩; have n0_ := Aside0.mk (below_step (by repeat (first | (with_reducible first | exact HB.out | apply below_alloc | apply pw_below_drewN | apply below_drew1) | exact HB.out)) hb); clear HB; have HB := n0_; clear n0_; (try clear hb); (try clear hb2); (try clear hk); (try clear hi)) | ((with_reducible refine gate_callee (f := 9) rfl ?_); refine goesL_ (some 15) rfl rfl Try.func9 (by kernel_rfl) rfl #[.int .u16 a0] rfl (by (try simp only [List.map_toArray, List.map_cons, List.map_nil]); first | done | rfl | (simp only [List.length_drop, List.length_take]; rfl)) ?_; (with_reducible refine (mailcoachlaw10_Quorum.calls a0 t135 t136 t137 _ A6.out).mono ?_); rintro e w10 ⟨rfl, hb⟩; refine ⟨_, rfl, ?_⟩; have n0_ := Aside0.mk (below_step (by repeat (first | (with_reducible first | exact HB.out | apply below_alloc | apply pw_below_drewN | apply below_drew1) | exact HB.out)) hb); clear HB; have HB := n0_; clear n0_; (try clear hb); (try clear hb2); (try clear hk); (try clear hi)) | ((with_reducible refine gate_dst (N := 7) rfl ?_); refine box_event ?hg (N := 7) ?hd (cs := #[.int .i64 0, .int .i64 0, .int .i64 0]) (t := 26) ?hr ?_; (case hd => rfl); (case hg => rfl); (case hr => first | (go_simp; done) | (go_simp; rfl)); intro gb138 hg w11 hbox hb; have n0_ := Aside0.mk (below_step (by repeat (first | (with_reducible first | exact HB.out | apply below_alloc | apply pw_below_drewN | apply below_drew1) | exact HB.out)) hb); have n1_ := Aside0.mk (hbox); have n2_ := Aside0.mk ((by rw [hg]; exact (below_size (by repeat (first | (with_reducible first | exact HB.out | apply below_alloc | apply pw_below_drewN | apply below_drew1) | exact HB.out))) : w.heap.size ≤ gb138)); have n3_ := Aside0.mk ((by rw [hg]; exact (below_size (by repeat (first | (with_reducible first | exact HB.out | apply below_alloc | apply pw_below_drewN | apply below_drew1) | exact HB.out))) : w.heap.size ≤ gb138)); clear HB; have HB := n0_; have BK138 := n1_; have GW138 := n2_; have GE138 := n3_; clear n0_ n1_ n2_ n3_; clear hb hbox hg; have hcz12_0 : w11.cell? ⟨gb138, 0, none⟩ = some (.int .i64 0) := (blk_cell BK138.out 0).trans rfl; have hcz12_1 : w11.cell? ⟨gb138, 1, none⟩ = some (.int .i64 0) := (blk_cell BK138.out 1).trans rfl; have hcz12_2 : w11.cell? ⟨gb138, 2, none⟩ = some (.int .i64 0) := (blk_cell BK138.out 2).trans rfl; have hfz12_0 := blk_frozen BK138.out 0; have hfz12_1 := blk_frozen BK138.out 1; have hfz12_2 := blk_frozen BK138.out 2))
        have n0_ : Aside0 ((((w11.setCell ⟨gb138, 0, none⟩ (.int .i64 t135)).setCell ⟨gb138, 1, none⟩ (.int .i64 t136)).setCell ⟨gb138, 2, none⟩ (.int .i64 t137)).heap[gb138]? = some (.cells #[.int .i64 t135, .int .i64 t136, .int .i64 t137] 26 (0, 0))) := ⟨by (with_reducible repeat (first | refine blk_drewN ?_ _ | refine blk_drew ?_ | refine blk_alloc ?_ _)); refine blk_put (cs := #[.int .i64 t135, .int .i64 t136, .int .i64 0]) ?_ 2 _ rfl; (with_reducible repeat (first | refine blk_drewN ?_ _ | refine blk_drew ?_ | refine blk_alloc ?_ _)); refine blk_put (cs := #[.int .i64 t135, .int .i64 0, .int .i64 0]) ?_ 1 _ rfl; (with_reducible repeat (first | refine blk_drewN ?_ _ | refine blk_drew ?_ | refine blk_alloc ?_ _)); refine blk_put (cs := #[.int .i64 0, .int .i64 0, .int .i64 0]) ?_ 0 _ rfl; (with_reducible repeat (first | refine blk_drewN ?_ _ | refine blk_drew ?_ | refine blk_alloc ?_ _)); exact BK138.out⟩
        have n1_ : Aside0 (Below w.heap.size w (((w11.setCell ⟨gb138, 0, none⟩ (.int .i64 t135)).setCell ⟨gb138, 1, none⟩ (.int .i64 t136)).setCell ⟨gb138, 2, none⟩ (.int .i64 t137))) := ⟨by repeat (first | (with_reducible first | exact HB.out | apply below_alloc | apply pw_below_drewN | apply below_drew1 | refine below_set ?_ GE138.out) | exact HB.out)⟩
        (try clear BK138)
        (try clear HB)
        generalize (((w11.setCell ⟨gb138, 0, none⟩ (.int .i64 t135)).setCell ⟨gb138, 1, none⟩ (.int .i64 t136)).setCell ⟨gb138, 2, none⟩ (.int .i64 t137)) = w13 at n0_ n1_ ⊢
        have BK138 := n0_
        have HB := n1_
        clear n0_ n1_
        have n0_ := Aside0.mk (blk_drew BK138.out)
        have n1_ := Aside0.mk (below_drew1 HB.out)
        clear BK138
        clear HB
        have BK138 := n0_
        have HB := n1_
        clear n0_ n1_
        refine start_ (n := 8) (S := fun w' => w'.cell? ⟨gb138, 0, none⟩ = some (.int .i64 t135) ∧ w'.cell? ⟨gb138, 1, none⟩ = some (.int .i64 t136) ∧ w'.cell? ⟨gb138, 2, none⟩ = some (.int .i64 t137)) (ds := []) #[false, false, false, false, false, false, false, false] (by kernel_rfl) rfl rfl ⟨(blk_cell BK138.out 0).trans rfl, (blk_cell BK138.out 1).trans rfl, (blk_cell BK138.out 2).trans rfl⟩ (fun hHeld => ?_); refine with_tabW mailcoachlaw10_QuorumOthers.tab4 mailcoachlaw10_QuorumOthers.bits4 (fun HT_ HW_ => ?_)
        generalize w13.drew = w14 at BK138 HB hHeld ⊢
        refine pure_ (i := 0) (N := some 16) (v := ?_) (a' := ?_) #[true, false, false, false, false, false, false, false] rfl rfl (any_of HT_.out (by kernel_rfl)) (fun _ _ _ h => h) (Or.inl ⟨by rfl, ?_⟩) ?_ ?_
        rotate_left
        · intro w'
          go_simp
          with_reducible rfl
        rotate_left
        · simp only [Act.put, List.setIfInBounds_toArray, List.set_cons_zero, List.set_cons_succ, i64_w, i32_w]
          rfl
        refine pure_ (i := 3) (N := some 19) (v := ?_) (a' := ?_) #[true, false, false, true, false, false, false, false] rfl rfl (any_of HT_.out (by kernel_rfl)) (fun _ _ _ h => h) (Or.inl ⟨by rfl, ?_⟩) ?_ ?_
        rotate_left
        · intro w'
          go_simp
          with_reducible rfl
        rotate_left
        · simp only [Act.put, List.setIfInBounds_toArray, List.set_cons_zero, List.set_cons_succ, i64_w, i32_w]
          rfl
        refine take_ (i := 1) (N := some 17) (v := ?_) (a' := ?_) #[true, true, false, true, false, false, false, false] rfl rfl (take_ofW HT_.out HW_.out (by kernel_rfl)) (fun _ _ _ h => h) (Or.inl ⟨by rfl, ?_⟩) hHeld ?_ ?_
        rotate_left
        · rintro w' ⟨s0, s1, s2⟩
          go_simp
          with_reducible rfl
        rotate_left
        · simp only [Act.put, List.setIfInBounds_toArray, List.set_cons_zero, List.set_cons_succ, i64_w, i32_w]
          rfl
        refine take_ (i := 4) (N := some 20) (v := ?_) (a' := ?_) #[true, true, false, true, true, false, false, false] rfl rfl (take_ofW HT_.out HW_.out (by kernel_rfl)) (fun _ _ _ h => h) (Or.inl ⟨by rfl, ?_⟩) hHeld ?_ ?_
        rotate_left
        · rintro w' ⟨s0, s1, s2⟩
          go_simp
          with_reducible rfl
        rotate_left
        · simp only [Act.put, List.setIfInBounds_toArray, List.set_cons_zero, List.set_cons_succ, i64_w, i32_w]
          rfl
        refine join_ (σ := Value × Value) 1 #[true, true, true, true, true, true, true, false] (fun s_ => [(18, s_.1), (21, s_.2), (8, s_.1)]) (fun s_ w' => (w'.cell? ⟨gb138, 0, none⟩ = some (.int .i64 t135) ∧ w'.cell? ⟨gb138, 1, none⟩ = some (.int .i64 t136) ∧ w'.cell? ⟨gb138, 2, none⟩ = some (.int .i64 t137)) ∧ (Kd.R Kd.bool 4 w' w.heap.size (fun k_ => some k_ ≠ (s_.2 : Value).ownBlock) s_.1 y139) ∧ (Kd.R Kd.bool 4 w' w.heap.size (fun k_ => some k_ ≠ (s_.1 : Value).ownBlock) s_.2 y142) ∧ (w'.heap[gb138]? = some (.cells #[.int .i64 t135, .int .i64 t136, .int .i64 t137] 26 (0, 0))) ∧ (Below w.heap.size w w')) ?_ ?_
        rotate_left
        · intro hCont
          refine two_ (i := 2) (j := 5) (Ni := some 18) (Nj := some 21) #[true, true, true, true, true, false, false, false] #[true, true, false, true, true, true, false, false] rfl rfl rfl rfl (two_of HT_.out (by kernel_rfl)) (by decide) (by decide) (fun K hK => ?_) (fun K hK => ?_)
          · skip
            refine Kd.R_make_step Kd.bool _ 4 (by rfl) (N := 18) rfl 29 _ _ rfl t135 rfl rfl Try.underlying29 (.bool false) 1 info4 rfl (by decide) (by omega) false (ok := fun _ => True) (okp := fun _ => True) rfl (fun _ hk => hk) trivial (of_decide_eq_true (by first | (with_reducible assumption) | assumption)) (Nat.le_trans (Nat.mul_le_mul_right _ (of_decide_eq_true (by first | (with_reducible assumption) | assumption) : t135.toNat ≤ 281474976710656)) (by omega)) (Below.refl _ _) (Nat.le_refl _) ?_
            intro v140 w15 ho16 hb hg_ hnew_
            clear hg_ hnew_
            (first | rw [← Ny139.out] at ho16 | (simp only [Int.reduceToNat] at ho16; rw [← Ny139.out] at ho16))
            have n0_ := Aside0.mk (Kd.R_lower ho16 (below_size (by repeat (first | (with_reducible first | exact HB.out | apply below_alloc | apply pw_below_drewN | apply below_drew1 | refine below_set ?_ GE138.out) | exact HB.out))))
            have n1_ := Aside0.mk (blk_below (g := gb138) (o := .cells #[.int .i64 t135, .int .i64 t136, .int .i64 t137] 26 (0, 0)) (by (with_reducible repeat (first | refine blk_drewN ?_ _ | refine blk_drew ?_ | refine blk_alloc ?_ _)); exact BK138.out) hb)
            have n2_ := Aside0.mk (below_step (by repeat (first | (with_reducible first | exact HB.out | apply below_alloc | apply pw_below_drewN | apply below_drew1 | refine below_set ?_ GE138.out) | exact HB.out)) hb)
            clear BK138
            clear HB
            have HO141 := n0_
            have BK138 := n1_
            have HB := n2_
            clear n0_ n1_ n2_
            clear hb ho16
            refine hK.out _ _ ⟨(blk_cell BK138.out 0).trans rfl, (blk_cell BK138.out 1).trans rfl, (blk_cell BK138.out 2).trans rfl⟩ (fun hHeld => ?_)
            clear hK K
            refine norm_ (a' := ?_) ?_ ?_
            rotate_left
            · show Act.put _ (some 18) _ = _
              simp only [Act.put, List.setIfInBounds_toArray, List.set_cons_zero, List.set_cons_succ, i64_w, i32_w]
              rfl
            refine pure_ (i := 6) (N := some 8) (v := ?_) (a' := ?_) #[true, true, true, true, true, false, true, false] rfl rfl (any_of HT_.out (by kernel_rfl)) (fun _ _ _ h => h) (Or.inl ⟨by rfl, ?_⟩) ?_ ?_
            rotate_left
            · intro w'
              go_simp
              with_reducible rfl
            rotate_left
            · simp only [Act.put, List.setIfInBounds_toArray, List.set_cons_zero, List.set_cons_succ, i64_w, i32_w]
              rfl
            refine one_ (i := 5) (N := some 21) #[true, true, true, true, true, true, true, false] rfl rfl (one_of HT_.out (by kernel_rfl)) (by decide) (fun K hK => ?_)
            refine Kd.R_make_step Kd.bool _ 4 (by rfl) (N := 21) rfl 29 _ _ rfl t135 rfl rfl Try.underlying29 (.bool false) 1 info4 rfl (by decide) (by omega) false (ok := fun _ => True) (okp := fun _ => True) rfl (fun _ hk => hk) trivial (of_decide_eq_true (by first | (with_reducible assumption) | assumption)) (Nat.le_trans (Nat.mul_le_mul_right _ (of_decide_eq_true (by first | (with_reducible assumption) | assumption) : t135.toNat ≤ 281474976710656)) (by omega)) (Below.refl _ _) (Nat.le_refl _) ?_
            intro v143 w17 ho18 hb hg_ hnew_
            clear hg_ hnew_
            (first | rw [← Ny142.out] at ho18 | (simp only [Int.reduceToNat] at ho18; rw [← Ny142.out] at ho18))
            have n0_ := Aside0.mk (Kd.R_elder' (by (with_reducible repeat (first | apply Kd.R_alloc | apply Kd.R_drewN | apply Kd.R_drew)); exact HO141.out) (Kd.R_base ho18) hb)
            have n1_ := Aside0.mk (Kd.R_lower (Kd.R_new' ho18 (Kd.R_lt (by (with_reducible repeat (first | apply Kd.R_alloc | apply Kd.R_drewN | apply Kd.R_drew)); exact HO141.out))) (below_size (by repeat (first | (with_reducible first | exact HB.out | apply below_alloc | apply pw_below_drewN | apply below_drew1 | refine below_set ?_ GE138.out) | exact HB.out))))
            have n2_ := Aside0.mk (blk_below (g := gb138) (o := .cells #[.int .i64 t135, .int .i64 t136, .int .i64 t137] 26 (0, 0)) (by (with_reducible repeat (first | refine blk_drewN ?_ _ | refine blk_drew ?_ | refine blk_alloc ?_ _)); exact BK138.out) hb)
            have n3_ := Aside0.mk (below_step (by repeat (first | (with_reducible first | exact HB.out | apply below_alloc | apply pw_below_drewN | apply below_drew1 | refine below_set ?_ GE138.out) | exact HB.out)) hb)
            clear HO141
            clear BK138
            clear HB
            have HO141 := n0_
            have HO144 := n1_
            have BK138 := n2_
            have HB := n3_
            clear n0_ n1_ n2_ n3_
            clear hb ho18
            refine hK.out _ _ ⟨(blk_cell BK138.out 0).trans rfl, (blk_cell BK138.out 1).trans rfl, (blk_cell BK138.out 2).trans rfl⟩ (fun hHeld => ?_)
            clear hK K
            refine norm_ (a' := ?_) ?_ ?_
            rotate_left
            · show Act.put _ (some 21) _ = _
              simp only [Act.put, List.setIfInBounds_toArray, List.set_cons_zero, List.set_cons_succ, i64_w, i32_w]
              rfl
            exact norm_ (by simp only [putAll, Act.put, List.setIfInBounds_toArray, List.set_cons_zero, List.set_cons_succ]) (hCont (v140, v143) _ ⟨hHeld, (by (with_reducible repeat (first | apply Kd.R_alloc | apply Kd.R_drewN | apply Kd.R_drew)); exact Kd.R_mono HO141.out (fun _ hk => hk.2)), (by (with_reducible repeat (first | apply Kd.R_alloc | apply Kd.R_drewN | apply Kd.R_drew)); exact Kd.R_mono HO144.out (fun _ hk => hk.2)), (by (with_reducible repeat (first | refine blk_drewN ?_ _ | refine blk_drew ?_ | refine blk_alloc ?_ _)); exact BK138.out), (by repeat (first | (with_reducible first | exact HB.out | apply below_alloc | apply pw_below_drewN | apply below_drew1 | refine below_set ?_ GE138.out) | exact HB.out))⟩)
          · skip
            refine Kd.R_make_step Kd.bool _ 4 (by rfl) (N := 21) rfl 29 _ _ rfl t135 rfl rfl Try.underlying29 (.bool false) 1 info4 rfl (by decide) (by omega) false (ok := fun _ => True) (okp := fun _ => True) rfl (fun _ hk => hk) trivial (of_decide_eq_true (by first | (with_reducible assumption) | assumption)) (Nat.le_trans (Nat.mul_le_mul_right _ (of_decide_eq_true (by first | (with_reducible assumption) | assumption) : t135.toNat ≤ 281474976710656)) (by omega)) (Below.refl _ _) (Nat.le_refl _) ?_
            intro v143 w15 ho16 hb hg_ hnew_
            clear hg_ hnew_
            (first | rw [← Ny142.out] at ho16 | (simp only [Int.reduceToNat] at ho16; rw [← Ny142.out] at ho16))
            have n0_ := Aside0.mk (Kd.R_lower ho16 (below_size (by repeat (first | (with_reducible first | exact HB.out | apply below_alloc | apply pw_below_drewN | apply below_drew1 | refine below_set ?_ GE138.out) | exact HB.out))))
            have n1_ := Aside0.mk (blk_below (g := gb138) (o := .cells #[.int .i64 t135, .int .i64 t136, .int .i64 t137] 26 (0, 0)) (by (with_reducible repeat (first | refine blk_drewN ?_ _ | refine blk_drew ?_ | refine blk_alloc ?_ _)); exact BK138.out) hb)
            have n2_ := Aside0.mk (below_step (by repeat (first | (with_reducible first | exact HB.out | apply below_alloc | apply pw_below_drewN | apply below_drew1 | refine below_set ?_ GE138.out) | exact HB.out)) hb)
            clear BK138
            clear HB
            have HO144 := n0_
            have BK138 := n1_
            have HB := n2_
            clear n0_ n1_ n2_
            clear hb ho16
            refine hK.out _ _ ⟨(blk_cell BK138.out 0).trans rfl, (blk_cell BK138.out 1).trans rfl, (blk_cell BK138.out 2).trans rfl⟩ (fun hHeld => ?_)
            clear hK K
            refine norm_ (a' := ?_) ?_ ?_
            rotate_left
            · show Act.put _ (some 21) _ = _
              simp only [Act.put, List.setIfInBounds_toArray, List.set_cons_zero, List.set_cons_succ, i64_w, i32_w]
              rfl
            refine one_ (i := 2) (N := some 18) #[true, true, true, true, true, true, false, false] rfl rfl (one_of HT_.out (by kernel_rfl)) (by decide) (fun K hK => ?_)
            refine Kd.R_make_step Kd.bool _ 4 (by rfl) (N := 18) rfl 29 _ _ rfl t135 rfl rfl Try.underlying29 (.bool false) 1 info4 rfl (by decide) (by omega) false (ok := fun _ => True) (okp := fun _ => True) rfl (fun _ hk => hk) trivial (of_decide_eq_true (by first | (with_reducible assumption) | assumption)) (Nat.le_trans (Nat.mul_le_mul_right _ (of_decide_eq_true (by first | (with_reducible assumption) | assumption) : t135.toNat ≤ 281474976710656)) (by omega)) (Below.refl _ _) (Nat.le_refl _) ?_
            intro v140 w17 ho18 hb hg_ hnew_
            clear hg_ hnew_
            (first | rw [← Ny139.out] at ho18 | (simp only [Int.reduceToNat] at ho18; rw [← Ny139.out] at ho18))
            have n0_ := Aside0.mk (Kd.R_elder' (by (with_reducible repeat (first | apply Kd.R_alloc | apply Kd.R_drewN | apply Kd.R_drew)); exact HO144.out) (Kd.R_base ho18) hb)
            have n1_ := Aside0.mk (Kd.R_lower (Kd.R_new' ho18 (Kd.R_lt (by (with_reducible repeat (first | apply Kd.R_alloc | apply Kd.R_drewN | apply Kd.R_drew)); exact HO144.out))) (below_size (by repeat (first | (with_reducible first | exact HB.out | apply below_alloc | apply pw_below_drewN | apply below_drew1 | refine below_set ?_ GE138.out) | exact HB.out))))
            have n2_ := Aside0.mk (blk_below (g := gb138) (o := .cells #[.int .i64 t135, .int .i64 t136, .int .i64 t137] 26 (0, 0)) (by (with_reducible repeat (first | refine blk_drewN ?_ _ | refine blk_drew ?_ | refine blk_alloc ?_ _)); exact BK138.out) hb)
            have n3_ := Aside0.mk (below_step (by repeat (first | (with_reducible first | exact HB.out | apply below_alloc | apply pw_below_drewN | apply below_drew1 | refine below_set ?_ GE138.out) | exact HB.out)) hb)
            clear HO144
            clear BK138
            clear HB
            have HO144 := n0_
            have HO141 := n1_
            have BK138 := n2_
            have HB := n3_
            clear n0_ n1_ n2_ n3_
            clear hb ho18
            refine hK.out _ _ ⟨(blk_cell BK138.out 0).trans rfl, (blk_cell BK138.out 1).trans rfl, (blk_cell BK138.out 2).trans rfl⟩ (fun hHeld => ?_)
            clear hK K
            refine norm_ (a' := ?_) ?_ ?_
            rotate_left
            · show Act.put _ (some 18) _ = _
              simp only [Act.put, List.setIfInBounds_toArray, List.set_cons_zero, List.set_cons_succ, i64_w, i32_w]
              rfl
            refine pure_ (i := 6) (N := some 8) (v := ?_) (a' := ?_) #[true, true, true, true, true, true, true, false] rfl rfl (any_of HT_.out (by kernel_rfl)) (fun _ _ _ h => h) (Or.inl ⟨by rfl, ?_⟩) ?_ ?_
            rotate_left
            · intro w'
              go_simp
              with_reducible rfl
            rotate_left
            · simp only [Act.put, List.setIfInBounds_toArray, List.set_cons_zero, List.set_cons_succ, i64_w, i32_w]
              rfl
            exact norm_ (by simp only [putAll, Act.put, List.setIfInBounds_toArray, List.set_cons_zero, List.set_cons_succ]) (hCont (v140, v143) _ ⟨hHeld, (by (with_reducible repeat (first | apply Kd.R_alloc | apply Kd.R_drewN | apply Kd.R_drew)); exact Kd.R_mono HO141.out (fun _ hk => hk.2)), (by (with_reducible repeat (first | apply Kd.R_alloc | apply Kd.R_drewN | apply Kd.R_drew)); exact Kd.R_mono HO144.out (fun _ hk => hk.2)), (by (with_reducible repeat (first | refine blk_drewN ?_ _ | refine blk_drew ?_ | refine blk_alloc ?_ _)); exact BK138.out), (by repeat (first | (with_reducible first | exact HB.out | apply below_alloc | apply pw_below_drewN | apply below_drew1 | refine below_set ?_ GE138.out) | exact HB.out))⟩)
        rintro ⟨v140, v143⟩ w19 ⟨hS_, h0_, h1_, h2_, h3_⟩
        have n0_ : Aside0 (Kd.R Kd.bool 4 w19 w.heap.size (fun k_ => some k_ ≠ (v143 : Value).ownBlock) v140 y139) := ⟨h0_⟩
        have n1_ : Aside0 (Kd.R Kd.bool 4 w19 w.heap.size (fun k_ => some k_ ≠ (v140 : Value).ownBlock) v143 y142) := ⟨h1_⟩
        have n2_ : Aside0 (w19.heap[gb138]? = some (.cells #[.int .i64 t135, .int .i64 t136, .int .i64 t137] 26 (0, 0))) := ⟨h2_⟩
        have n3_ : Aside0 (Below w.heap.size w w19) := ⟨h3_⟩
        clear BK138
        clear HB
        clear h0_ h1_ h2_ h3_
        have HO141 := n0_
        have HO144 := n1_
        have BK138 := n2_
        have HB := n3_
        clear n0_ n1_ n2_ n3_
        have hHeld : w19.cell? ⟨gb138, 0, none⟩ = some (.int .i64 t135) ∧ w19.cell? ⟨gb138, 1, none⟩ = some (.int .i64 t136) ∧ w19.cell? ⟨gb138, 2, none⟩ = some (.int .i64 t137) := hS_
        refine norm_ (a' := ?_) ?_ ?_
        rotate_left
        · simp only [putAll, Act.put, List.setIfInBounds_toArray, List.set_cons_zero, List.set_cons_succ]
          rfl
        refine pure_ (i := 7) (N := some 9) (v := ?_) (a' := ?_) #[true, true, true, true, true, true, true, true] rfl rfl (any_of HT_.out (by kernel_rfl)) (fun _ _ _ h => h) (Or.inl ⟨by rfl, ?_⟩) ?_ ?_
        rotate_left
        · intro w'
          go_simp
          with_reducible rfl
        rotate_left
        · simp only [Act.put, List.setIfInBounds_toArray, List.set_cons_zero, List.set_cons_succ, i64_w, i32_w]
          rfl
        refine done_ (done_of HT_.out (by kernel_rfl)) ?_
        have hcz20_0 : w19.cell? ⟨gb138, 0, none⟩ = some (.int .i64 t135) := (blk_cell BK138.out 0).trans rfl
        have hcz20_1 : w19.cell? ⟨gb138, 1, none⟩ = some (.int .i64 t136) := (blk_cell BK138.out 1).trans rfl
        have hcz20_2 : w19.cell? ⟨gb138, 2, none⟩ = some (.int .i64 t137) := (blk_cell BK138.out 2).trans rfl
        have hfz20_0 := blk_frozen BK138.out 0
        have hfz20_1 := blk_frozen BK138.out 1
        have hfz20_2 := blk_frozen BK138.out 2
        try go_wp2
        go_loopg [24] k (fun kq v24 w' => ∃ (x8_1 : List Bool) (x9_1 : List Bool) (x24_1 : Int), v24 = .int .i64 x24_1 ∧ Aside0 (mailcoachlaw10_QuorumOthers.l0 kq a1 a2 x8_1 x9_1 t135 x24_1 t135 t136 t137 = some r) ∧ Aside0 (kq ≤ k) ∧ Aside0 (Kd.R Kd.bool 4 w' w.heap.size (fun k_ => some k_ ≠ (v143 : Value).ownBlock) v140 x8_1) ∧ Aside0 (Kd.R Kd.bool 4 w' w.heap.size (fun k_ => some k_ ≠ (v140 : Value).ownBlock) v143 x9_1) ∧ Aside0 (w'.heap[gb138]? = some (.cells #[.int .i64 t135, .int .i64 t136, .int .i64 t137] 26 (0, 0))) ∧ Aside0 (Below w.heap.size w w'))
        case atStart => exact ⟨(y139), (y142), (0), (by first | rfl | (simp; done) | (simp [*]; done)), H', ⟨Nat.le_refl _⟩, ⟨by (with_reducible repeat (first | apply Kd.R_alloc | apply Kd.R_drewN | apply Kd.R_drew)); exact HO141.out⟩, ⟨by (with_reducible repeat (first | apply Kd.R_alloc | apply Kd.R_drewN | apply Kd.R_drew)); exact HO144.out⟩, ⟨by (with_reducible repeat (first | refine blk_drewN ?_ _ | refine blk_drew ?_ | refine blk_alloc ?_ _)); exact BK138.out⟩, ⟨by repeat (first | (with_reducible first | exact HB.out | apply below_alloc | apply pw_below_drewN | apply below_drew1 | refine below_set ?_ GE138.out) | exact HB.out)⟩⟩
        case round =>
          clear H'
          try clear p2
          try clear c5
          try clear c6
          try clear c7
          try clear c7b0
          try clear c7b1
          try clear c8
          try clear c8b0
          try clear c8b1
          try clear c9
          try clear hcz12_0
          try clear hcz12_1
          try clear hcz12_2
          try clear hcz20_0
          try clear hcz20_1
          try clear hcz20_2
          try clear hfz12_0
          try clear hfz12_1
          try clear hfz12_2
          try clear hfz20_0
          try clear hfz20_1
          try clear hfz20_2
          obtain ⟨x8_1, x9_1, x24_1, rfl, HA, HK1, HO_8, HO_9, BK138, HB⟩ := hrel
          cases gk with
          | zero => exact absurd HA.out (by simp [mailcoachlaw10_QuorumOthers.l0])
          | succ k1 =>
            have H := HA.out
            clear HA
            simp only [mailcoachlaw10_QuorumOthers.l0] at H
            by_cases c21 : x24_1 < t135
            · rw [if_pos c21] at H
              have c21b0 : decide (x24_1 < t135) = true := decide_eq_true c21
              clear c21
              by_cases c22 : 0 ≤ x24_1
              · rw [if_pos c22] at H
                have c22b0 := eq_true c22
                have c22b1 : decide (0 ≤ x24_1) = true := decide_eq_true c22
                clear c22
                obtain ⟨ji23, hji23⟩ : ∃ j_ : Int, (shr .u8 a1 x24_1) = j_ := ⟨_, rfl⟩
                replace H : (if x24_1 < (x8_1.length : Int) then (if x24_1 < (x9_1.length : Int) then (mailcoachlaw10_QuorumOthers.l0 k1 a1 a2 (x8_1.set (x24_1 : Int).toNat ((Go.bits .and .u8 (ji23) 1) == 1)) (x9_1.set (x24_1 : Int).toNat ((Go.bits .and .u8 (ji23) 1) == 0)) t135 (wrap64 (x24_1 + 1)) t135 t136 t137) else (none)) else (none)) = some r := by first | (rw [hji23] at H; exact H) | (simp only [hji23] at H ⊢; exact H)
                have hji23_ : (a1 / 2 ^ min x24_1.toNat 8) = ji23 := hji23
                have hji23z : x24_1 ≤ 8 → (a1 / 2 ^ x24_1.toNat) = ji23 := shr_small hji23
                have c24b0 := eq_true (of_decide_eq_true (by first | (with_reducible assumption) | assumption) : 0 ≤ x24_1)
                by_cases c26 : x24_1 < (x8_1.length : Int)
                · rw [if_pos c26] at H
                  have c26b0 : decide (x24_1 < (x8_1.length : Int)) = true := decide_eq_true c26
                  clear c26
                  obtain ⟨y145, hy145⟩ : ∃ y_ : List Bool, y_ = (x8_1.set (x24_1 : Int).toNat ((Go.bits .and .u8 (ji23) 1) == 1)) := ⟨_, rfl⟩
                  replace H : (if x24_1 < (x9_1.length : Int) then (mailcoachlaw10_QuorumOthers.l0 k1 a1 a2 y145 (x9_1.set (x24_1 : Int).toNat ((Go.bits .and .u8 (ji23) 1) == 0)) t135 (wrap64 (x24_1 + 1)) t135 t136 t137) else (none)) = some r := by first | (rw [hy145]; with_reducible exact H) | (have H2_ := (Option.bind_some _ _).symm.trans H; rw [hy145]; with_reducible exact H2_) | (have H2_ := (Option.bind_some _ _).symm.trans H; with_reducible exact H2_) | with_reducible exact H | (rw [hy145]; exact H) | exact H
                  have Ny145 := Aside0.mk hy145
                  clear hy145
                  by_cases c28 : x24_1 < (x9_1.length : Int)
                  · rw [if_pos c28] at H
                    have c28b0 : decide (x24_1 < (x9_1.length : Int)) = true := decide_eq_true c28
                    clear c28
                    obtain ⟨y146, hy146⟩ : ∃ y_ : List Bool, y_ = (x9_1.set (x24_1 : Int).toNat ((Go.bits .and .u8 (ji23) 1) == 0)) := ⟨_, rfl⟩
                    replace H : (mailcoachlaw10_QuorumOthers.l0 k1 a1 a2 y145 y146 t135 (wrap64 (x24_1 + 1)) t135 t136 t137) = some r := by first | (rw [hy146]; with_reducible exact H) | (have H2_ := (Option.bind_some _ _).symm.trans H; rw [hy146]; with_reducible exact H2_) | (have H2_ := (Option.bind_some _ _).symm.trans H; with_reducible exact H2_) | with_reducible exact H | (rw [hy146]; exact H) | exact H
                    have Ny146 := Aside0.mk hy146
                    clear hy146
                    have H' := Aside0.mk H
                    clear H
                    try go_wp2
                    have n0_ := Aside0.mk (Kd.R_drew HO_8.out)
                    have n1_ := Aside0.mk (Kd.R_drew HO_9.out)
                    have n2_ := Aside0.mk (blk_drew BK138.out)
                    have n3_ := Aside0.mk (below_drew1 HB.out)
                    clear HO_8
                    clear HO_9
                    clear BK138
                    clear HB
                    have HO_8 := n0_
                    have HO_9 := n1_
                    have BK138 := n2_
                    have HB := n3_
                    clear n0_ n1_ n2_ n3_
                    have p27 : 0 ≤ (x24_1 : Int) := of_decide_eq_true (by first | (with_reducible assumption) | assumption)
                    have q27 : (x24_1 : Int) < ((x8_1.length : Int) : Int) := of_decide_eq_true (by first | (with_reducible assumption) | assumption)
                    obtain ⟨go27, co27, eo27, gb27, gl27, cl27, HG27⟩ := Kd.R_form HO_8.out (by omega)
                    (first | cases eo27 | (injection eo27 with ea_ en_ ec_; (first | subst ea_ | (injection ea_ with ea_; subst ea_)); subst ec_; clear en_))
                    have GB27 := Aside0.mk gb27
                    have GG27 := Aside0.mk HG27
                    clear gb27 gl27 HG27
                    obtain ⟨hx27_0, hf27_0⟩ := Kd.R_celln false HO_8.out (x24_1 : Int) p27 q27
                    replace p27 := eq_true p27
                    replace q27 := eq_true q27
                    have HP31 := Kd.R_putn HO_8.out (x24_1 : Int) ((Go.bits .and .u8 (ji23) 1) == 1)
                    rw [← Ny145.out] at HP31
                    have HQ31 := Aside0.mk HP31
                    clear HP31
                    have p29 : 0 ≤ (x24_1 : Int) := of_decide_eq_true (by first | (with_reducible assumption) | assumption)
                    have q29 : (x24_1 : Int) < ((x9_1.length : Int) : Int) := of_decide_eq_true (by first | (with_reducible assumption) | assumption)
                    obtain ⟨go29, co29, eo29, gb29, gl29, cl29, HG29⟩ := Kd.R_form HO_9.out (by omega)
                    (first | cases eo29 | (injection eo29 with ea_ en_ ec_; (first | subst ea_ | (injection ea_ with ea_; subst ea_)); subst ec_; clear en_))
                    have GB29 := Aside0.mk gb29
                    have GG29 := Aside0.mk HG29
                    clear gb29 gl29 HG29
                    obtain ⟨hx29_0, hf29_0⟩ := Kd.R_celln false (Kd.R_far (p := ⟨go27, (x24_1 : Int).toNat, none⟩) (Kd.R_mono HO_9.out (fun k_ hk => (⟨hk, fun e_ => hk (by rw [e_]; rfl)⟩ : _ ∧ k_ ≠ go27))) (fun _ hk => hk.2) (.bool ((Go.bits .and .u8 (ji23) 1) == 1))) (x24_1 : Int) p29 q29
                    replace p29 := eq_true p29
                    replace q29 := eq_true q29
                    have HP32 := Kd.R_putn (Kd.R_far (p := ⟨go27, (x24_1 : Int).toNat, none⟩) (Kd.R_mono HO_9.out (fun k_ hk => (⟨hk, fun e_ => hk (by rw [e_]; rfl)⟩ : _ ∧ k_ ≠ go27))) (fun _ hk => hk.2) (.bool ((Go.bits .and .u8 (ji23) 1) == 1))) (x24_1 : Int) ((Go.bits .and .u8 (ji23) 1) == 0)
                    rw [← Ny146.out] at HP32
                    have HQ32 := Aside0.mk HP32
                    clear HP32
                    refine start_ (n := 18) (S := fun w' => True) (ds := [15, 17]) #[false, false, false, false, false, false, false, false, false, false, false, false, false, false, false, false, false, false] (by kernel_rfl) rfl rfl trivial (fun hHeld => ?_); refine with_tabW mailcoachlaw10_QuorumOthers.tab8 mailcoachlaw10_QuorumOthers.bits8 (fun HT_ HW_ => ?_)
                    generalize wr.drew = w30 at HO_8 HO_9 BK138 HB GG27 GG29 HQ31 HQ32 hf27_0 hf29_0 hx27_0 hx29_0 hHeld ⊢
                    refine pure_ (i := 0) (N := some 27) (v := ?_) (a' := ?_) #[true, false, false, false, false, false, false, false, false, false, false, false, false, false, false, false, false, false] rfl rfl (any_of HT_.out (by kernel_rfl)) (fun _ _ _ h => h) (Or.inl ⟨by rfl, ?_⟩) ?_ ?_
                    rotate_left
                    · intro w'
                      go_simp
                      with_reducible rfl
                    rotate_left
                    · simp only [Act.put, List.setIfInBounds_toArray, List.set_cons_zero, List.set_cons_succ, i64_w, i32_w]
                      rfl
                    refine pure_ (i := 1) (N := some 28) (v := ?_) (a' := ?_) #[true, true, false, false, false, false, false, false, false, false, false, false, false, false, false, false, false, false] rfl rfl (any_of HT_.out (by kernel_rfl)) (fun _ _ _ h => h) (Or.inl ⟨by rfl, ?_⟩) ?_ ?_
                    rotate_left
                    · intro w'
                      go_simp
                      with_reducible rfl
                    rotate_left
                    · simp only [Act.put, List.setIfInBounds_toArray, List.set_cons_zero, List.set_cons_succ, i64_w, i32_w]
                      rfl
                    refine pure_ (i := 2) (N := some 29) (v := ?_) (a' := ?_) #[true, true, true, false, false, false, false, false, false, false, false, false, false, false, false, false, false, false] rfl rfl (any_of HT_.out (by kernel_rfl)) (fun _ _ _ h => h) (Or.inl ⟨by rfl, ?_⟩) ?_ ?_
                    rotate_left
                    · intro w'
                      go_simp
                      with_reducible rfl
                    rotate_left
                    · simp only [Act.put, List.setIfInBounds_toArray, List.set_cons_zero, List.set_cons_succ, i64_w, i32_w]
                      rfl
                    refine pure_ (i := 3) (N := some 30) (v := ?_) (a' := ?_) #[true, true, true, true, false, false, false, false, false, false, false, false, false, false, false, false, false, false] rfl rfl (any_of HT_.out (by kernel_rfl)) (fun _ _ _ h => h) (Or.inl ⟨by rfl, ?_⟩) ?_ ?_
                    rotate_left
                    · intro w'
                      go_simp
                      with_reducible rfl
                    rotate_left
                    · simp only [Act.put, List.setIfInBounds_toArray, List.set_cons_zero, List.set_cons_succ, i64_w, i32_w]
                      rfl
                    refine pure_ (i := 4) (N := some 31) (v := ?_) (a' := ?_) #[true, true, true, true, true, false, false, false, false, false, false, false, false, false, false, false, false, false] rfl rfl (any_of HT_.out (by kernel_rfl)) (fun _ _ _ h => h) (Or.inl ⟨by rfl, ?_⟩) ?_ ?_
                    rotate_left
                    · intro w'
                      go_simp
                      with_reducible rfl
                    rotate_left
                    · simp only [Act.put, List.setIfInBounds_toArray, List.set_cons_zero, List.set_cons_succ, i64_w, i32_w]
                      rfl
                    refine pure_ (i := 5) (N := some 32) (v := ?_) (a' := ?_) #[true, true, true, true, true, true, false, false, false, false, false, false, false, false, false, false, false, false] rfl rfl (any_of HT_.out (by kernel_rfl)) (fun _ _ _ h => h) (Or.inl ⟨by rfl, ?_⟩) ?_ ?_
                    rotate_left
                    · intro w'
                      go_simp
                      with_reducible rfl
                    rotate_left
                    · simp only [Act.put, List.setIfInBounds_toArray, List.set_cons_zero, List.set_cons_succ, i64_w, i32_w]
                      rfl
                    refine pure_ (i := 6) (N := some 33) (v := ?_) (a' := ?_) #[true, true, true, true, true, true, true, false, false, false, false, false, false, false, false, false, false, false] rfl rfl (any_of HT_.out (by kernel_rfl)) (fun _ _ _ h => h) (Or.inl ⟨by rfl, ?_⟩) ?_ ?_
                    rotate_left
                    · intro w'
                      go_simp
                      with_reducible rfl
                    rotate_left
                    · simp only [Act.put, List.setIfInBounds_toArray, List.set_cons_zero, List.set_cons_succ, i64_w, i32_w]
                      rfl
                    refine pure_ (i := 7) (N := some 34) (v := ?_) (a' := ?_) #[true, true, true, true, true, true, true, true, false, false, false, false, false, false, false, false, false, false] rfl rfl (any_of HT_.out (by kernel_rfl)) (fun _ _ _ h => h) (Or.inl ⟨by rfl, ?_⟩) ?_ ?_
                    rotate_left
                    · intro w'
                      go_simp
                      with_reducible rfl
                    rotate_left
                    · simp only [Act.put, List.setIfInBounds_toArray, List.set_cons_zero, List.set_cons_succ, i64_w, i32_w]
                      rfl
                    refine pure_ (i := 8) (N := some 35) (v := ?_) (a' := ?_) #[true, true, true, true, true, true, true, true, true, false, false, false, false, false, false, false, false, false] rfl rfl (any_of HT_.out (by kernel_rfl)) (fun _ _ _ h => h) (Or.inl ⟨by rfl, ?_⟩) ?_ ?_
                    rotate_left
                    · intro w'
                      go_simp
                      with_reducible rfl
                    rotate_left
                    · simp only [Act.put, List.setIfInBounds_toArray, List.set_cons_zero, List.set_cons_succ, i64_w, i32_w]
                      rfl
                    refine pure_ (i := 9) (N := some 36) (v := ?_) (a' := ?_) #[true, true, true, true, true, true, true, true, true, true, false, false, false, false, false, false, false, false] rfl rfl (any_of HT_.out (by kernel_rfl)) (fun _ _ _ h => h) (Or.inl ⟨by rfl, ?_⟩) ?_ ?_
                    rotate_left
                    · intro w'
                      go_simp
                      with_reducible rfl
                    rotate_left
                    · simp only [Act.put, List.setIfInBounds_toArray, List.set_cons_zero, List.set_cons_succ, i64_w, i32_w]
                      rfl
                    refine pure_ (i := 10) (N := some 37) (v := ?_) (a' := ?_) #[true, true, true, true, true, true, true, true, true, true, true, false, false, false, false, false, false, false] rfl rfl (any_of HT_.out (by kernel_rfl)) (fun _ _ _ h => h) (Or.inl ⟨by rfl, ?_⟩) ?_ ?_
                    rotate_left
                    · intro w'
                      go_simp
                      with_reducible rfl
                    rotate_left
                    · simp only [Act.put, List.setIfInBounds_toArray, List.set_cons_zero, List.set_cons_succ, i64_w, i32_w]
                      rfl
                    refine pure_ (i := 11) (N := some 38) (v := ?_) (a' := ?_) #[true, true, true, true, true, true, true, true, true, true, true, true, false, false, false, false, false, false] rfl rfl (any_of HT_.out (by kernel_rfl)) (fun _ _ _ h => h) (Or.inl ⟨by rfl, ?_⟩) ?_ ?_
                    rotate_left
                    · intro w'
                      go_simp
                      with_reducible rfl
                    rotate_left
                    · simp only [Act.put, List.setIfInBounds_toArray, List.set_cons_zero, List.set_cons_succ, i64_w, i32_w]
                      rfl
                    refine pure_ (i := 12) (N := some 39) (v := ?_) (a' := ?_) #[true, true, true, true, true, true, true, true, true, true, true, true, true, false, false, false, false, false] rfl rfl (any_of HT_.out (by kernel_rfl)) (fun _ _ _ h => h) (Or.inl ⟨by rfl, ?_⟩) ?_ ?_
                    rotate_left
                    · intro w'
                      go_simp
                      with_reducible rfl
                    rotate_left
                    · simp only [Act.put, List.setIfInBounds_toArray, List.set_cons_zero, List.set_cons_succ, i64_w, i32_w]
                      rfl
                    refine pure_ (i := 13) (N := some 40) (v := ?_) (a' := ?_) #[true, true, true, true, true, true, true, true, true, true, true, true, true, true, false, false, false, false] rfl rfl (any_of HT_.out (by kernel_rfl)) (fun _ _ _ h => h) (Or.inl ⟨by rfl, ?_⟩) ?_ ?_
                    rotate_left
                    · intro w'
                      go_simp
                      with_reducible rfl
                    rotate_left
                    · simp only [Act.put, List.setIfInBounds_toArray, List.set_cons_zero, List.set_cons_succ, i64_w, i32_w]
                      rfl
                    refine pure_ (i := 14) (N := some 41) (v := ?_) (a' := ?_) #[true, true, true, true, true, true, true, true, true, true, true, true, true, true, true, false, false, false] rfl rfl (any_of HT_.out (by kernel_rfl)) (fun _ _ _ h => h) (Or.inl ⟨by rfl, ?_⟩) ?_ ?_
                    rotate_left
                    · intro w'
                      go_simp
                      with_reducible rfl
                    rotate_left
                    · simp only [Act.put, List.setIfInBounds_toArray, List.set_cons_zero, List.set_cons_succ, i64_w, i32_w]
                      rfl
                    refine last_ (i := 15) (N := none) #[true, true, true, true, true, true, true, true, true, true, true, true, true, true, true, true, false, false] rfl rfl (one_of HT_.out (by kernel_rfl)) (by decide) (fun K hK => ?_)
                    refine skip_ (w1 := ?_) (by rfl) rfl ?_ ?_
                    rotate_left
                    · go_simp
                      rfl
                    refine hK.out _ _ ?_
                    clear hK K
                    refine pure_ (i := 16) (N := some 42) (v := ?_) (a' := ?_) #[true, true, true, true, true, true, true, true, true, true, true, true, true, true, true, true, true, false] rfl rfl (any_of HT_.out (by kernel_rfl)) (fun _ _ _ h => h) (Or.inl ⟨by rfl, ?_⟩) ?_ ?_
                    rotate_left
                    · intro w'
                      go_simp
                      with_reducible rfl
                    rotate_left
                    · simp only [Act.put, List.setIfInBounds_toArray, List.set_cons_zero, List.set_cons_succ, i64_w, i32_w]
                      rfl
                    refine last_ (i := 17) (N := none) #[true, true, true, true, true, true, true, true, true, true, true, true, true, true, true, true, true, true] rfl rfl (one_of HT_.out (by kernel_rfl)) (by decide) (fun K hK => ?_)
                    refine skip_ (w1 := ?_) (by rfl) rfl ?_ ?_
                    rotate_left
                    · go_simp
                      rfl
                    refine hK.out _ _ ?_
                    clear hK K
                    refine done_ (done_of HT_.out (by kernel_rfl)) ?_
                    try go_wp2
                    go_roundg k1
                    case measure => have := HK1.out; omega
                    case rel => exact ⟨(y145), (y146), (wrap64 (x24_1 + 1)), (by first | rfl | (simp; done) | (simp [*]; done)), H', ⟨by have := HK1.out; omega⟩, ⟨by (with_reducible repeat (first | apply Kd.R_alloc | apply Kd.R_drewN | apply Kd.R_drew)); exact Kd.R_mono (Kd.R_far (p := ⟨go29, (x24_1 : Int).toNat, none⟩) (Kd.R_mono HQ31.out (fun k_ hk => (⟨hk, fun e_ => hk (by rw [e_]; rfl)⟩ : _ ∧ k_ ≠ go29))) (fun _ hk => hk.2) (.bool ((Go.bits .and .u8 (ji23) 1) == 0))) (fun _ hk => hk.1)⟩, ⟨by (with_reducible repeat (first | apply Kd.R_alloc | apply Kd.R_drewN | apply Kd.R_drew)); exact Kd.R_mono HQ32.out (fun _ hk => hk.1)⟩, ⟨by (with_reducible repeat (first | refine blk_drewN ?_ _ | refine blk_drew ?_ | refine blk_alloc ?_ _)); refine blk_far ?_ (by have h_ := Kd.R_ne HO_9.out BK138.out (by decide); intro e_; exact h_ (by rw [e_]; rfl)) _; (with_reducible repeat (first | refine blk_drewN ?_ _ | refine blk_drew ?_ | refine blk_alloc ?_ _)); refine blk_far ?_ (by have h_ := Kd.R_ne HO_8.out BK138.out (by decide); intro e_; exact h_ (by rw [e_]; rfl)) _; (with_reducible repeat (first | refine blk_drewN ?_ _ | refine blk_drew ?_ | refine blk_alloc ?_ _)); exact BK138.out⟩, ⟨by repeat (first | (with_reducible first | exact HB.out | apply below_alloc | apply pw_below_drewN | apply below_drew1 | refine below_set ?_ GB27.out | refine below_set ?_ GB29.out | refine below_set ?_ GE138.out) | exact HB.out)⟩⟩
                  · rw [if_neg c28] at H
                    exact absurd H (by simp)
                · rw [if_neg c26] at H
                  exact absurd H (by simp)
              · rw [if_neg c22] at H
                exact absurd H (by simp)
            · rw [if_neg c21] at H
              have c21b0 : decide (x24_1 < t135) = false := decide_eq_false c21
              clear c21
              replace H := Option.bind_eq_some_iff.mp H
              obtain ⟨t147, A330, H⟩ := H
              replace H : (if t147 = true then ((quorum_Enough.f k1 t135 t136 t137 a2 x9_1).bind fun t148 => (some (!t148))) else (mailcoachlaw10_QuorumOthers.l1 k1 x9_1 t135 0 t135 t136 t137)) = some r := H
              have A33 := Aside0.mk A330
              clear A330
              by_cases c34 : t147 = true
              · subst c34
                have H1 : ((quorum_Enough.f k1 t135 t136 t137 a2 x9_1).bind fun t148 => (some (!t148))) = some r := by rw [if_pos rfl] at H; exact H
                clear H
                have H := H1
                clear H1
                replace H := Option.bind_eq_some_iff.mp H
                obtain ⟨t148, A350, H⟩ := H
                replace H : (some (!t148)) = some r := H
                have A35 := Aside0.mk A350
                clear A350
                obtain rfl := Option.some.inj H
                have hcz36_0 : wr.cell? ⟨gb138, 0, none⟩ = some (.int .i64 t135) := (blk_cell BK138.out 0).trans rfl
                have hcz36_1 : wr.cell? ⟨gb138, 1, none⟩ = some (.int .i64 t136) := (blk_cell BK138.out 1).trans rfl
                have hcz36_2 : wr.cell? ⟨gb138, 2, none⟩ = some (.int .i64 t137) := (blk_cell BK138.out 2).trans rfl
                have hfz36_0 := blk_frozen BK138.out 0
                have hfz36_1 := blk_frozen BK138.out 1
                have hfz36_2 := blk_frozen BK138.out 2
                obtain ⟨Ao37, co37, eo37⟩ := Kd.R_slice HO_8.out
                subst eo37
                go_wp2_with (first | ((with_reducible refine gate_callee (f := 17) rfl ?_); refine goesL_ (some 46) rfl rfl Try.func17 (by kernel_rfl) rfl #[.agg #[.int .i64 t135, .int .i64 t136, .int .i64 t137], .slice Ao37 x8_1.length co37] rfl (by (try simp only [List.map_toArray, List.map_cons, List.map_nil]); first | done | rfl | (simp only [List.length_drop, List.length_take]; rfl)) ?_; (with_reducible refine (quorum_Covered.calls k1 t135 t136 t137 _ _ x8_1 true _ ?side1 ?side2 A33.out).mono ?_); (case side1 => repeat (first | exact (Kd.R_reads' HO_8.out).2.2 | (with_reducible refine Kd.C_alloc ?_ _) | (with_reducible refine Kd.C_drewN ?_ _) | (with_reducible refine Kd.C_drew ?_))); (case side2 => exact (Kd.R_reads' HO_8.out).2.1); rintro e w38 ⟨rfl, hb⟩; refine ⟨_, rfl, ?_⟩; have n0_ := Aside0.mk (Kd.R_below (by (with_reducible repeat (first | apply Kd.R_alloc | apply Kd.R_drewN | apply Kd.R_drew)); exact HO_8.out) hb); have n1_ := Aside0.mk (Kd.R_below (by (with_reducible repeat (first | apply Kd.R_alloc | apply Kd.R_drewN | apply Kd.R_drew)); exact HO_9.out) hb); have n2_ := Aside0.mk (blk_below (g := gb138) (o := .cells #[.int .i64 t135, .int .i64 t136, .int .i64 t137] 26 (0, 0)) (by (with_reducible repeat (first | refine blk_drewN ?_ _ | refine blk_drew ?_ | refine blk_alloc ?_ _)); exact BK138.out) hb); have n3_ := Aside0.mk (below_step (by repeat (first | (with_reducible first | exact HB.out | apply below_alloc | apply pw_below_drewN | apply below_drew1 | refine below_set ?_ GE138.out) | exact HB.out)) hb); clear HO_8; clear HO_9; clear BK138; clear HB; have HO_8 := n0_; have HO_9 := n1_; have BK138 := n2_; have HB := n3_; clear n0_ n1_ n2_ n3_; (try clear hb); (try clear hb2); (try clear hk); (try clear hi); have hcz39_0 : w38.cell? ⟨gb138, 0, none⟩ = some (.int .i64 t135) := (blk_cell BK138.out 0).trans rfl; have hcz39_1 : w38.cell? ⟨gb138, 1, none⟩ = some (.int .i64 t136) := (blk_cell BK138.out 1).trans rfl; have hcz39_2 : w38.cell? ⟨gb138, 2, none⟩ = some (.int .i64 t137) := (blk_cell BK138.out 2).trans rfl; have hfz39_0 := blk_frozen BK138.out 0; have hfz39_1 := blk_frozen BK138.out 1; have hfz39_2 := blk_frozen BK138.out 2; obtain ⟨Ao40, co40, eo40⟩ := Kd.R_slice HO_9.out; subst eo40) | ((with_reducible refine gate_callee (f := 15) rfl ?_); refine goesL_ (some 50) rfl rfl Try.func15 (by kernel_rfl) rfl #[.agg #[.int .i64 t135, .int .i64 t136, .int .i64 t137], .int .u64 a2, .slice Ao40 x9_1.length co40] rfl (by (try simp only [List.map_toArray, List.map_cons, List.map_nil]); first | done | rfl | (simp only [List.length_drop, List.length_take]; rfl)) ?_; (with_reducible refine (quorum_Enough.calls k1 t135 t136 t137 a2 _ _ x9_1 t148 _ ?side1 ?side2 A35.out).mono ?_); (case side1 => repeat (first | exact (Kd.R_reads' HO_9.out).2.2 | (with_reducible refine Kd.C_alloc ?_ _) | (with_reducible refine Kd.C_drewN ?_ _) | (with_reducible refine Kd.C_drew ?_))); (case side2 => exact (Kd.R_reads' HO_9.out).2.1); rintro e w41 ⟨rfl, hb⟩; refine ⟨_, rfl, ?_⟩; have n0_ := Aside0.mk (Kd.R_below (by (with_reducible repeat (first | apply Kd.R_alloc | apply Kd.R_drewN | apply Kd.R_drew)); exact HO_8.out) hb); have n1_ := Aside0.mk (Kd.R_below (by (with_reducible repeat (first | apply Kd.R_alloc | apply Kd.R_drewN | apply Kd.R_drew)); exact HO_9.out) hb); have n2_ := Aside0.mk (blk_below (g := gb138) (o := .cells #[.int .i64 t135, .int .i64 t136, .int .i64 t137] 26 (0, 0)) (by (with_reducible repeat (first | refine blk_drewN ?_ _ | refine blk_drew ?_ | refine blk_alloc ?_ _)); exact BK138.out) hb); have n3_ := Aside0.mk (below_step (by repeat (first | (with_reducible first | exact HB.out | apply below_alloc | apply pw_below_drewN | apply below_drew1 | refine below_set ?_ GE138.out) | exact HB.out)) hb); clear HO_8; clear HO_9; clear BK138; clear HB; have HO_8 := n0_; have HO_9 := n1_; have BK138 := n2_; have HB := n3_; clear n0_ n1_ n2_ n3_; (try clear hb); (try clear hb2); (try clear hk); (try clear hi)))
                go_ret
                exact ⟨by first | rfl | (simp [errW_none, errW_some] <;> rfl) | (simp [*, errW_none, errW_some] <;> rfl), by repeat (first | (with_reducible first | exact HB.out | apply below_alloc | apply pw_below_drewN | apply below_drew1 | refine below_set ?_ GE138.out) | exact HB.out)⟩
              · replace c34 := Bool.eq_false_iff.mpr c34
                subst c34
                have H1 : (mailcoachlaw10_QuorumOthers.l1 k1 x9_1 t135 0 t135 t136 t137) = some r := by rw [if_neg (show ¬ (false = true) by decide)] at H; exact H
                clear H
                have H := H1
                clear H1
                have H' := Aside0.mk H
                clear H
                have hcz42_0 : wr.cell? ⟨gb138, 0, none⟩ = some (.int .i64 t135) := (blk_cell BK138.out 0).trans rfl
                have hcz42_1 : wr.cell? ⟨gb138, 1, none⟩ = some (.int .i64 t136) := (blk_cell BK138.out 1).trans rfl
                have hcz42_2 : wr.cell? ⟨gb138, 2, none⟩ = some (.int .i64 t137) := (blk_cell BK138.out 2).trans rfl
                have hfz42_0 := blk_frozen BK138.out 0
                have hfz42_1 := blk_frozen BK138.out 1
                have hfz42_2 := blk_frozen BK138.out 2
                obtain ⟨Ao43, co43, eo43⟩ := Kd.R_slice HO_8.out
                subst eo43
                go_wp2_with (first | ((with_reducible refine gate_callee (f := 17) rfl ?_); refine goesL_ (some 46) rfl rfl Try.func17 (by kernel_rfl) rfl #[.agg #[.int .i64 t135, .int .i64 t136, .int .i64 t137], .slice Ao43 x8_1.length co43] rfl (by (try simp only [List.map_toArray, List.map_cons, List.map_nil]); first | done | rfl | (simp only [List.length_drop, List.length_take]; rfl)) ?_; (with_reducible refine (quorum_Covered.calls k1 t135 t136 t137 _ _ x8_1 false _ ?side1 ?side2 A33.out).mono ?_); (case side1 => repeat (first | exact (Kd.R_reads' HO_8.out).2.2 | (with_reducible refine Kd.C_alloc ?_ _) | (with_reducible refine Kd.C_drewN ?_ _) | (with_reducible refine Kd.C_drew ?_))); (case side2 => exact (Kd.R_reads' HO_8.out).2.1); rintro e w44 ⟨rfl, hb⟩; refine ⟨_, rfl, ?_⟩; have n0_ := Aside0.mk (Kd.R_below (by (with_reducible repeat (first | apply Kd.R_alloc | apply Kd.R_drewN | apply Kd.R_drew)); exact HO_8.out) hb); have n1_ := Aside0.mk (Kd.R_below (by (with_reducible repeat (first | apply Kd.R_alloc | apply Kd.R_drewN | apply Kd.R_drew)); exact HO_9.out) hb); have n2_ := Aside0.mk (blk_below (g := gb138) (o := .cells #[.int .i64 t135, .int .i64 t136, .int .i64 t137] 26 (0, 0)) (by (with_reducible repeat (first | refine blk_drewN ?_ _ | refine blk_drew ?_ | refine blk_alloc ?_ _)); exact BK138.out) hb); have n3_ := Aside0.mk (below_step (by repeat (first | (with_reducible first | exact HB.out | apply below_alloc | apply pw_below_drewN | apply below_drew1 | refine below_set ?_ GE138.out) | exact HB.out)) hb); clear HO_8; clear HO_9; clear BK138; clear HB; have HO_8 := n0_; have HO_9 := n1_; have BK138 := n2_; have HB := n3_; clear n0_ n1_ n2_ n3_; (try clear hb); (try clear hb2); (try clear hk); (try clear hi); have hcz45_0 : w44.cell? ⟨gb138, 0, none⟩ = some (.int .i64 t135) := (blk_cell BK138.out 0).trans rfl; have hcz45_1 : w44.cell? ⟨gb138, 1, none⟩ = some (.int .i64 t136) := (blk_cell BK138.out 1).trans rfl; have hcz45_2 : w44.cell? ⟨gb138, 2, none⟩ = some (.int .i64 t137) := (blk_cell BK138.out 2).trans rfl; have hfz45_0 := blk_frozen BK138.out 0; have hfz45_1 := blk_frozen BK138.out 1; have hfz45_2 := blk_frozen BK138.out 2))
                go_loopg [54] k1 (fun kq v54 w' => ∃ (x54_2 : Int), v54 = .int .i64 x54_2 ∧ Aside0 (mailcoachlaw10_QuorumOthers.l1 kq x9_1 t135 x54_2 t135 t136 t137 = some r) ∧ Aside0 (kq ≤ k1) ∧ Aside0 (Kd.R Kd.bool 4 w' w.heap.size (fun _ => True) v143 x9_1) ∧ Aside0 (w'.heap[gb138]? = some (.cells #[.int .i64 t135, .int .i64 t136, .int .i64 t137] 26 (0, 0))) ∧ Aside0 (Below w.heap.size w w'))
                case atStart => exact ⟨(0), (by first | rfl | (simp; done) | (simp [*]; done)), H', ⟨Nat.le_refl _⟩, ⟨by (with_reducible repeat (first | apply Kd.R_alloc | apply Kd.R_drewN | apply Kd.R_drew)); exact Kd.R_mono HO_9.out (fun _ hk => trivial)⟩, ⟨by (with_reducible repeat (first | refine blk_drewN ?_ _ | refine blk_drew ?_ | refine blk_alloc ?_ _)); exact BK138.out⟩, ⟨by repeat (first | (with_reducible first | exact HB.out | apply below_alloc | apply pw_below_drewN | apply below_drew1 | refine below_set ?_ GE138.out) | exact HB.out)⟩⟩
                case round =>
                  clear H'
                  try clear c1
                  try clear c2
                  try clear p2
                  try clear q2
                  try clear hx2
                  try clear c3
                  try clear c5
                  try clear c6
                  try clear p6
                  try clear c7
                  try clear c7b0
                  try clear c7b1
                  try clear c8
                  try clear c8b0
                  try clear c8b1
                  try clear c9
                  try clear c15
                  try clear c17
                  try clear c21
                  try clear c21b0
                  try clear c22
                  try clear c22b0
                  try clear c22b1
                  try clear c24
                  try clear c24b0
                  try clear c25
                  try clear c25b0
                  try clear c26
                  try clear c26b0
                  try clear p27
                  try clear q27
                  try clear hx27
                  try clear hf27
                  try clear c28
                  try clear c28b0
                  try clear p29
                  try clear q29
                  try clear hx29
                  try clear hf29
                  try clear c34
                  try clear hcz12_0
                  try clear hcz12_1
                  try clear hcz12_2
                  try clear hcz20_0
                  try clear hcz20_1
                  try clear hcz20_2
                  try clear hcz36_0
                  try clear hcz36_1
                  try clear hcz36_2
                  try clear hcz39_0
                  try clear hcz39_1
                  try clear hcz39_2
                  try clear hcz42_0
                  try clear hcz42_1
                  try clear hcz42_2
                  try clear hcz45_0
                  try clear hcz45_1
                  try clear hcz45_2
                  try clear hfz12_0
                  try clear hfz12_1
                  try clear hfz12_2
                  try clear hfz20_0
                  try clear hfz20_1
                  try clear hfz20_2
                  try clear hfz36_0
                  try clear hfz36_1
                  try clear hfz36_2
                  try clear hfz39_0
                  try clear hfz39_1
                  try clear hfz39_2
                  try clear hfz42_0
                  try clear hfz42_1
                  try clear hfz42_2
                  try clear hfz45_0
                  try clear hfz45_1
                  try clear hfz45_2
                  try clear hx27_0
                  try clear hx29_0
                  try clear p2
                  try clear p27
                  try clear p29
                  try clear q27
                  try clear q29
                  obtain ⟨x54_2, rfl, HA, HK2, HO_9, BK138, HB⟩ := hrel
                  cases gk with
                  | zero => exact absurd HA.out (by simp [mailcoachlaw10_QuorumOthers.l1])
                  | succ k2 =>
                    have H := HA.out
                    clear HA
                    simp only [mailcoachlaw10_QuorumOthers.l1] at H
                    by_cases c46 : x54_2 < t135
                    · rw [if_pos c46] at H
                      have c46b0 : decide (x54_2 < t135) = true := decide_eq_true c46
                      clear c46
                      replace H := Option.bind_eq_some_iff.mp H
                      obtain ⟨t149, A470, H⟩ := H
                      replace H : (if t149 = true then (some true) else (mailcoachlaw10_QuorumOthers.l1 k2 x9_1 t135 (wrap64 (x54_2 + 1)) t135 t136 t137)) = some r := H
                      have A47 := Aside0.mk A470
                      clear A470
                      by_cases c48 : t149 = true
                      · subst c48
                        have H1 : (some true) = some r := by rw [if_pos rfl] at H; exact H
                        clear H
                        have H := H1
                        clear H1
                        obtain rfl := Option.some.inj H
                        have hcz49_0 : wr.cell? ⟨gb138, 0, none⟩ = some (.int .i64 t135) := (blk_cell BK138.out 0).trans rfl
                        have hcz49_1 : wr.cell? ⟨gb138, 1, none⟩ = some (.int .i64 t136) := (blk_cell BK138.out 1).trans rfl
                        have hcz49_2 : wr.cell? ⟨gb138, 2, none⟩ = some (.int .i64 t137) := (blk_cell BK138.out 2).trans rfl
                        have hfz49_0 := blk_frozen BK138.out 0
                        have hfz49_1 := blk_frozen BK138.out 1
                        have hfz49_2 := blk_frozen BK138.out 2
                        obtain ⟨Ao50, co50, eo50⟩ := Kd.R_slice HO_9.out
                        subst eo50
                        go_wp2_with (first | ((with_reducible refine gate_callee (f := 15) rfl ?_); refine goesL_ (some 61) rfl rfl Try.func15 (by kernel_rfl) rfl #[.agg #[.int .i64 t135, .int .i64 t136, .int .i64 t137], .int .u64 (IntKind.u64.wrap (x54_2)), .slice Ao50 x9_1.length co50] rfl (by (try simp only [List.map_toArray, List.map_cons, List.map_nil]); first | done | rfl | (simp only [List.length_drop, List.length_take]; rfl)) ?_; (with_reducible refine (quorum_Enough.calls k2 t135 t136 t137 (IntKind.u64.wrap (x54_2)) _ _ x9_1 true _ ?side1 ?side2 A47.out).mono ?_); (case side1 => repeat (first | exact (Kd.R_reads' HO_9.out).2.2 | (with_reducible refine Kd.C_alloc ?_ _) | (with_reducible refine Kd.C_drewN ?_ _) | (with_reducible refine Kd.C_drew ?_))); (case side2 => exact (Kd.R_reads' HO_9.out).2.1); rintro e w51 ⟨rfl, hb⟩; refine ⟨_, rfl, ?_⟩; have n0_ := Aside0.mk (Kd.R_below (by (with_reducible repeat (first | apply Kd.R_alloc | apply Kd.R_drewN | apply Kd.R_drew)); exact HO_9.out) hb); have n1_ := Aside0.mk (blk_below (g := gb138) (o := .cells #[.int .i64 t135, .int .i64 t136, .int .i64 t137] 26 (0, 0)) (by (with_reducible repeat (first | refine blk_drewN ?_ _ | refine blk_drew ?_ | refine blk_alloc ?_ _)); exact BK138.out) hb); have n2_ := Aside0.mk (below_step (by repeat (first | (with_reducible first | exact HB.out | apply below_alloc | apply pw_below_drewN | apply below_drew1 | refine below_set ?_ GE138.out) | exact HB.out)) hb); clear HO_9; clear BK138; clear HB; have HO_9 := n0_; have BK138 := n1_; have HB := n2_; clear n0_ n1_ n2_; (try clear hb); (try clear hb2); (try clear hk); (try clear hi)))
                        go_ret
                        exact ⟨by first | rfl | (simp [errW_none, errW_some] <;> rfl) | (simp [*, errW_none, errW_some] <;> rfl), by repeat (first | (with_reducible first | exact HB.out | apply below_alloc | apply pw_below_drewN | apply below_drew1 | refine below_set ?_ GE138.out) | exact HB.out)⟩
                      · replace c48 := Bool.eq_false_iff.mpr c48
                        subst c48
                        have H1 : (mailcoachlaw10_QuorumOthers.l1 k2 x9_1 t135 (wrap64 (x54_2 + 1)) t135 t136 t137) = some r := by rw [if_neg (show ¬ (false = true) by decide)] at H; exact H
                        clear H
                        have H := H1
                        clear H1
                        have H' := Aside0.mk H
                        clear H
                        have hcz52_0 : wr.cell? ⟨gb138, 0, none⟩ = some (.int .i64 t135) := (blk_cell BK138.out 0).trans rfl
                        have hcz52_1 : wr.cell? ⟨gb138, 1, none⟩ = some (.int .i64 t136) := (blk_cell BK138.out 1).trans rfl
                        have hcz52_2 : wr.cell? ⟨gb138, 2, none⟩ = some (.int .i64 t137) := (blk_cell BK138.out 2).trans rfl
                        have hfz52_0 := blk_frozen BK138.out 0
                        have hfz52_1 := blk_frozen BK138.out 1
                        have hfz52_2 := blk_frozen BK138.out 2
                        obtain ⟨Ao53, co53, eo53⟩ := Kd.R_slice HO_9.out
                        subst eo53
                        go_wp2_with (first | ((with_reducible refine gate_callee (f := 15) rfl ?_); refine goesL_ (some 61) rfl rfl Try.func15 (by kernel_rfl) rfl #[.agg #[.int .i64 t135, .int .i64 t136, .int .i64 t137], .int .u64 (IntKind.u64.wrap (x54_2)), .slice Ao53 x9_1.length co53] rfl (by (try simp only [List.map_toArray, List.map_cons, List.map_nil]); first | done | rfl | (simp only [List.length_drop, List.length_take]; rfl)) ?_; (with_reducible refine (quorum_Enough.calls k2 t135 t136 t137 (IntKind.u64.wrap (x54_2)) _ _ x9_1 false _ ?side1 ?side2 A47.out).mono ?_); (case side1 => repeat (first | exact (Kd.R_reads' HO_9.out).2.2 | (with_reducible refine Kd.C_alloc ?_ _) | (with_reducible refine Kd.C_drewN ?_ _) | (with_reducible refine Kd.C_drew ?_))); (case side2 => exact (Kd.R_reads' HO_9.out).2.1); rintro e w54 ⟨rfl, hb⟩; refine ⟨_, rfl, ?_⟩; have n0_ := Aside0.mk (Kd.R_below (by (with_reducible repeat (first | apply Kd.R_alloc | apply Kd.R_drewN | apply Kd.R_drew)); exact HO_9.out) hb); have n1_ := Aside0.mk (blk_below (g := gb138) (o := .cells #[.int .i64 t135, .int .i64 t136, .int .i64 t137] 26 (0, 0)) (by (with_reducible repeat (first | refine blk_drewN ?_ _ | refine blk_drew ?_ | refine blk_alloc ?_ _)); exact BK138.out) hb); have n2_ := Aside0.mk (below_step (by repeat (first | (with_reducible first | exact HB.out | apply below_alloc | apply pw_below_drewN | apply below_drew1 | refine below_set ?_ GE138.out) | exact HB.out)) hb); clear HO_9; clear BK138; clear HB; have HO_9 := n0_; have BK138 := n1_; have HB := n2_; clear n0_ n1_ n2_; (try clear hb); (try clear hb2); (try clear hk); (try clear hi)))
                        go_roundg k2
                        case measure => have := HK1.out; have := HK2.out; omega
                        case rel => exact ⟨(wrap64 (x54_2 + 1)), (by first | rfl | (simp; done) | (simp [*]; done)), H', ⟨by have := HK1.out; have := HK2.out; omega⟩, ⟨by (with_reducible repeat (first | apply Kd.R_alloc | apply Kd.R_drewN | apply Kd.R_drew)); exact HO_9.out⟩, ⟨by (with_reducible repeat (first | refine blk_drewN ?_ _ | refine blk_drew ?_ | refine blk_alloc ?_ _)); exact BK138.out⟩, ⟨by repeat (first | (with_reducible first | exact HB.out | apply below_alloc | apply pw_below_drewN | apply below_drew1 | refine below_set ?_ GE138.out) | exact HB.out)⟩⟩
                    · rw [if_neg c46] at H
                      have c46b0 : decide (x54_2 < t135) = false := decide_eq_false c46
                      clear c46
                      obtain rfl := Option.some.inj H
                      go_wp2
                      go_ret
                      exact ⟨by first | rfl | (simp [errW_none, errW_some] <;> rfl) | (simp [*, errW_none, errW_some] <;> rfl), by repeat (first | (with_reducible first | exact HB.out | apply below_alloc | apply pw_below_drewN | apply below_drew1 | refine below_set ?_ GE138.out) | exact HB.out)⟩
      · rw [if_neg c8] at H
        exact absurd H (by simp)
    · rw [if_neg c7] at H
      exact absurd H (by simp)
  · replace c5 := Bool.eq_false_iff.mpr c5
    subst c5
    have H1 : (some false) = some r := by rw [if_neg (show ¬ (false = true) by decide)] at H; exact H
    clear H
    have H := H1
    clear H1
    obtain rfl := Option.some.inj H
    go_enter Try.func6, Try.ntmps6
    go_wp2_with (first | ((with_reducible refine gate_callee (f := 8) rfl ?_); refine goesL_ (some 12) rfl rfl Try.func8 (by kernel_rfl) rfl #[] rfl (by (try simp only [List.map_toArray, List.map_cons, List.map_nil]); first | done | rfl | (simp only [List.length_drop, List.length_take]; rfl)) ?_; (with_reducible refine (mailcoachlaw10_Awake.calls k  false _ A4.out).mono ?_); rintro e w55 ⟨rfl, hb⟩; refine ⟨_, rfl, ?_⟩; have n0_ := Aside0.mk (below_step (by repeat (first | (with_reducible first | exact HB.out | apply below_alloc | apply pw_below_drewN | apply below_drew1) | exact HB.out)) hb); clear HB; have HB := n0_; clear n0_; (try clear hb); (try clear hb2); (try clear hk); (try clear hi)))
    go_ret
    exact ⟨by first | rfl | (simp [errW_none, errW_some] <;> rfl) | (simp [*, errW_none, errW_some] <;> rfl), by repeat (first | (with_reducible first | exact HB.out | apply below_alloc | apply pw_below_drewN | apply below_drew1) | exact HB.out)⟩

/-- THE ONE PURE STATEMENT of mailcoachlaw10_QuorumOthers: yours. -/
def mailcoachlaw10_QuorumOthers.Pure : Prop := ∀ (a0 : Int) (a1 : Int) (a2 : Int), (Lit.int .u16 a0).wf = true → (Lit.int .u8 a1).wf = true → (Lit.int .u64 a2).wf = true → ∃ k, mailcoachlaw10_QuorumOthers.f k a0 a1 a2 = some true
theorem mailcoachlaw10_QuorumOthers.walk (P : mailcoachlaw10_QuorumOthers.Pure) (a0 : Int) (a1 : Int) (a2 : Int) (w : World) (w0 : (Lit.int .u16 a0).wf = true) (w1 : (Lit.int .u8 a1).wf = true) (w2 : (Lit.int .u64 a2).wf = true) :
    Calls Try.prog 6 #[.int .u16 a0, .int .u8 a1, .int .u64 a2] w fun e w' => e = .returned (.bool true) ∧ Below w.heap.size w w' := by
  obtain ⟨k, h⟩ := P a0 a1 a2 w0 w1 w2
  refine (mailcoachlaw10_QuorumOthers.calls k a0 a1 a2 true w h).mono ?_
  rintro e w' ⟨rfl, hd⟩
  exact ⟨rfl, hd⟩

end Go.Proofs.Ytcjndpmknachhaa.PQuorumOthers
