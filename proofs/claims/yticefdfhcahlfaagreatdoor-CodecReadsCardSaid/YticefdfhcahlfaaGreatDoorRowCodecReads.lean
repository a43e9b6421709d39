/- Any bytes, and a right topic's bytes, turned, cut or with more behind them, are read as the document reads them. -/
import Derived.Test.YticefdfhcahlfaaGreatDoorRows
import Derived.Test.YticefdfhcahlfaaGreatDoorAm3
import Derived.Test.YticefdfhcahlfaaGreatDoorOkCodecReads
import Derived.Test.YticefdfhcahlfaaGreatDoorKCodecReads
import Derived.WalkKit
import Derived.ProofKit
import Derived.OpenShut
import Derived.ChangeOld
import Derived.Below
import Derived.SizedLaws
import Derived.Carry
import Derived.Test.YticefdfhcahlfaaGreatDoorTie
import Derived.Test.YticefdfhcahlfaaGreatDoorCards
import Derived.LaidMore
import Derived.Lay
import Derived.MakeChecks
import Derived.Handed
import Derived.SevenTiedAt
import Derived.Stop.Joined
import Derived.ChangeArms
import Derived.Test.YticefdfhcahlfaaGreatDoorCtxx221
namespace Go.Proofs.YticefdfhcahlfaaGreatDoor.codecReads
open Go.ChangeShapes Go.WideShapes Go.ChangeAt Go.RowKit Go.Proofs.YticefdfhcahlfaaGreatDoor.AM Go.Proofs.YticefdfhcahlfaaGreatDoor.AM.OkCodecReads
set_option linter.unusedVariables false
set_option linter.unusedSimpArgs false
theorem own : ownKnob Tryz.prog.godebug = none := by kernel_rfl
theorem laidOut : laidOutB Tryz.prog = true := by kernel_rfl
theorem tab_cells {W : World} (h : laidMetH Tryz.prog Rows.codecReadsRow.laid W) : (∀ r, r < 256 → W.cell? ⟨0, r, none⟩ = some (.int .u8 ((Go.Pinned.utf8FirstZ.getD r 0 : Nat) : Int))) ∧ ∀ r, r < 32 → W.cell? ⟨1, r, none⟩ = some (.int .u8 ((utf8Acc.getD r 0 : Nat) : Int)) := by
  rw [MakeChecks.laidMetH_plain _ _ _ (by kernel_rfl)] at h
  have h5 : Tryz.prog.cellsOf 5 = 1 := by kernel_rfl
  have ha2 : Tryz.prog.cellsOf 165 = 2 := by kernel_rfl
  obtain ⟨ps, ⟨g1, t1, cs1, fuel1, p1, q1, hg1, ht1, hv1, hd1, ⟨g0, t0, cs0, fuel0, p0, q0, hg0, ht0, hv0, hd0, _, _⟩, _⟩, _, _⟩ := h
  obtain rfl := Option.some.inj ((show Tryz.prog.globalNamed "unicode/utf8.first" = some 0 by kernel_rfl).symm.trans hg0)
  obtain rfl := Option.some.inj ((show Tryz.prog.globalNamed "unicode/utf8.acceptRanges" = some 1 by kernel_rfl).symm.trans hg1)
  obtain rfl := Option.some.inj ((show (Tryz.prog.globals[0]?).map (·.type) = some 163 by kernel_rfl).symm.trans ht0)
  obtain rfl := Option.some.inj ((show (Tryz.prog.globals[1]?).map (·.type) = some 166 by kernel_rfl).symm.trans ht1)
  constructor
  · intro r hr
    obtain ⟨xs, m, _, ex, _, hl, hel⟩ := DataW.trod_array Tryz.underlying163 hd0
    have hE := hel r hr
    rw [h5, Nat.mul_one, List.getElem?_eq_getElem (by omega)] at hE
    obtain ⟨z, e1, e2, _⟩ := DataW.trod_int Tryz.underlying5 hE
    have hlen : Go.Pinned.utf8FirstZ.length = 256 := first_len
    have e3 : (xs.map (·.1)) = Go.Pinned.utf8FirstZ.map fun (n : Nat) => (DataW.lit (.int .u8 (n : Int)) : DataW Unit) := (DataW.agg.inj (Prod.mk.inj ex).1).symm
    have e4 : (xs.map (·.1))[r]? = (Go.Pinned.utf8FirstZ.map fun (n : Nat) => (DataW.lit (.int .u8 (n : Int)) : DataW Unit))[r]? := by rw [e3]
    rw [List.getElem?_map, List.getElem?_map, List.getElem?_eq_getElem (by omega : r < xs.length), List.getElem?_eq_getElem (by omega : r < Go.Pinned.utf8FirstZ.length), e2] at e4
    have hz : z = ((Go.Pinned.utf8FirstZ.getD r 0 : Nat) : Int) := by
      simp only [Option.map_some, Option.some.injEq, DataW.lit.injEq, Lit.int.injEq, true_and] at e4
      rw [e4, List.getD, List.getElem?_eq_getElem (by omega : r < Go.Pinned.utf8FirstZ.length)]; rfl
    rw [World.var?_cell hg0 hv0 r, ← hz]
    have : cs0.toList[r]? = some (.int .u8 z) := by
      have h0 : ((cs0.toList.drop r).take 1)[0]? = some (.int .u8 z) := by rw [e1]; rfl
      simpa using h0
    simpa using this
  · have pair : ∀ i, i < 16 → cs1.toList[i * 2]? = some (.int .u8 ((utf8Acc.getD (i * 2) 0 : Nat) : Int)) ∧ cs1.toList[i * 2 + 1]? = some (.int .u8 ((utf8Acc.getD (i * 2 + 1) 0 : Nat) : Int)) := by
      intro i hi
      obtain ⟨xs, m, _, ex, _, hl, hel⟩ := DataW.trod_array Tryz.underlying166 hd1
      have hE := hel i hi
      rw [ha2, List.getElem?_eq_getElem (by omega)] at hE
      obtain ⟨ys, k, _, ey, _, hly, hey⟩ := DataW.trod_struct Tryz.underlying165 hE
      have f0 := hey 0 _ rfl
      have f1 := hey 1 _ rfl
      have hly2 : ys.length = 2 := hly
      rw [List.getElem?_eq_getElem (by omega)] at f0 f1
      obtain ⟨z0, a0, b0, _⟩ := DataW.trod_int Tryz.underlying5 f0
      obtain ⟨z1, a1, b1, _⟩ := DataW.trod_int Tryz.underlying5 f1
      have e3 : (xs.map (·.1)) = (List.range 16).map fun i => (DataW.agg [.lit (.int .u8 ((utf8Acc.getD (i * 2) 0 : Nat) : Int)), .lit (.int .u8 ((utf8Acc.getD (i * 2 + 1) 0 : Nat) : Int))] : DataW Unit) := (DataW.agg.inj (Prod.mk.inj ex).1).symm
      have e4 : (xs.map (·.1))[i]? = some (DataW.agg [.lit (.int .u8 ((utf8Acc.getD (i * 2) 0 : Nat) : Int)), .lit (.int .u8 ((utf8Acc.getD (i * 2 + 1) 0 : Nat) : Int))]) := by
        rw [e3, List.getElem?_map, List.getElem?_range hi]; rfl
      rw [List.getElem?_map, List.getElem?_eq_getElem (by omega : i < xs.length), ey] at e4
      simp only [Option.map_some, Option.some.injEq, DataW.agg.injEq] at e4
      have q0 : (ys.map (·.1))[0]? = some (DataW.lit (.int .u8 ((utf8Acc.getD (i * 2) 0 : Nat) : Int))) := by rw [e4]; rfl
      have q1 : (ys.map (·.1))[1]? = some (DataW.lit (.int .u8 ((utf8Acc.getD (i * 2 + 1) 0 : Nat) : Int))) := by rw [e4]; rfl
      rw [List.getElem?_map, List.getElem?_eq_getElem (by omega), b0] at q0
      rw [List.getElem?_map, List.getElem?_eq_getElem (by omega), b1] at q1
      simp only [Option.map_some, Option.some.injEq, DataW.lit.injEq, Lit.int.injEq, true_and] at q0 q1
      subst q0 q1
      have a0' : List.take (Tryz.prog.cellsOf 5) (List.drop 0 (List.take 2 (List.drop (i * 2) cs1.toList))) = [_] := a0
      have a1' : List.take (Tryz.prog.cellsOf 5) (List.drop 1 (List.take 2 (List.drop (i * 2) cs1.toList))) = [_] := a1
      rw [h5] at a0' a1'
      have c0 := congrArg (·[0]?) a0'
      have c1 := congrArg (·[0]?) a1'
      simp [List.getElem?_take, List.getElem?_drop] at c0 c1
      exact ⟨by simpa using c0, by simpa using c1⟩
    intro r hr
    rw [World.var?_cell hg1 hv1 r]
    obtain ⟨i, b, hi, hb, rfl⟩ : ∃ i b, i < 16 ∧ b < 2 ∧ r = i * 2 + b := ⟨r / 2, r % 2, by omega, by omega, by omega⟩
    obtain ⟨p0, p1⟩ := pair i hi
    rcases (by omega : b = 0 ∨ b = 1) with rfl | rfl
    · simpa using p0
    · simpa using p1
set_option maxRecDepth 100000 in
theorem lifted (os : Os) (started : os.Started) (H : Type) (enc : TypeId × Value → H) :
    ReturnsInHanded {} Tryz.checked os 3 .any (fun w args => (Rows.codecReadsSpec.pre enc Tryz.prog Tryz.f3 Rows.codecReadsRow.domain false w args ∧ laidMetH Tryz.prog Rows.codecReadsRow.laid w) ∧ sizedMet enc Tryz.prog Tryz.f3 (OpenSpec.ofChange Rows.codecReadsSpec) false w args) (Rows.codecReadsSpec.post enc Tryz.prog Tryz.f3 false true false false) := by
  refine returnsInHanded_of_change_and (C := Tryz.checked) (X := fun w _ => laidMetH Tryz.prog Rows.codecReadsRow.laid w) (fun _ _ _ hh h => h.of_heap hh) own started (by kernel_rfl) Tryz.func3
    (ChangeSpec.witness_shaped (enc := enc) (C := Tryz.checked) (os := os) (X := fun w _ => laidMetH Tryz.prog Rows.codecReadsRow.laid w) false (World.laidAll Tryz.prog os Rows.codecReadsRow.laid) #[.slice none 0 0, .agg #[.int .u64 0, .int .u64 0, .slice none 0 0, .slice none 0 0, .slice none 0 0], .slice none 0 0, .bool false, .slice none 0 0, .slice none 0 0] 8 (World.laidAll_os _ _ _)
      (World.shaped_of_ZipB (by kernel_rfl) (by kernel_rfl)) (by kernel_rfl) (by kernel_rfl) (by kernel_rfl)
      (by rw [MakeChecks.laidMetH_plain _ _ _ (by kernel_rfl)]; exact laidMet_laidAll _ (by kernel_rfl) (by kernel_rfl))) ?_
  intro W base args ds gs before hval0 hW hcnd hsz0 hL _
  have hG : GOk (immOf W) := gok_of (tab_cells hL).1 (tab_cells hL).2
  have hsz : (DataW.weightsEach Tryz.prog (Tryz.f3.params.toList ++ Rows.codecReadsSpec.plain.varTypes Tryz.prog) (ds ++ gs)).all (· ≤ reachBytes) = true := hsz0
  have hval : ∀ (j : Nat) t v, Tryz.f3.params[j]? = some t → args[j]? = some v → Value.okWide Tryz.prog W .any base t v := hval0
  have hW' := hW
  obtain ⟨p, q, hA0, hV, rfl, hfz, hnd⟩ := hW
  have hA : DataW.TrodAll enc Tryz.prog W 0 (fun _ => true) true Tryz.f3.params.toList args.toList ds p := hA0
  rw [Tryz.params3] at hA hval hsz
  obtain ⟨v0, vs0, d0, ds0, p0, q0, hargs, rfl, rfl, h0, r0⟩ := trodAll_cons hA
  obtain ⟨v1, vs1, d1, ds1, p1, q1, rfl, rfl, rfl, h1, r1⟩ := trodAll_cons r0
  obtain ⟨v2, vs2, d2, ds2, p2, q2, rfl, rfl, rfl, h2, r2⟩ := trodAll_cons r1
  obtain ⟨v3, vs3, d3, ds3, p3, q3, rfl, rfl, rfl, h3, r3⟩ := trodAll_cons r2
  obtain ⟨v4, vs4, d4, ds4, p4, q4, rfl, rfl, rfl, h4, r4⟩ := trodAll_cons r3
  obtain ⟨v5, vs5, d5, ds5, p5, q5, rfl, rfl, rfl, h5, r5⟩ := trodAll_cons r4
  obtain ⟨rfl, rfl, rfl⟩ := trodAll_nil r5
  obtain rfl : args = #[v0, v1, v2, v3, v4, v5] := by cases args; simp_all
  obtain ⟨rfl, rfl⟩ := trodVars_none hV
  have k0 := h0
  have lt0 : ∀ x ∈ p0, x.block < W.heap.size := by obtain ⟨m, hm⟩ := k0; exact DataW.trod_lt m _ _ _ hm
  have wk0 := wok_of hsz (j := 0) rfl rfl
  obtain ⟨A0, n0, c0, rfl⟩ := okWide_slice Tryz.underlying22 (hval 0 22 v0 rfl rfl)
  obtain ⟨a0, o0, rel0⟩ := top_one opens22 rfl h0 wk0
  have k1 := h1
  have lt1 : ∀ x ∈ p1, x.block < W.heap.size := by obtain ⟨m, hm⟩ := k1; exact DataW.trod_lt m _ _ _ hm
  have wk1 := wok_of hsz (j := 1) rfl rfl
  obtain ⟨cs1, rfl, _⟩ := okWide_struct Tryz.underlying28 (hval 1 28 v1 rfl rfl)
  obtain ⟨us1, o1, rel1⟩ := top_agg opens28 h1 wk1
  have k2 := h2
  have lt2 : ∀ x ∈ p2, x.block < W.heap.size := by obtain ⟨m, hm⟩ := k2; exact DataW.trod_lt m _ _ _ hm
  have wk2 := wok_of hsz (j := 2) rfl rfl
  obtain ⟨A2, n2, c2, rfl⟩ := okWide_slice Tryz.underlying22 (hval 2 22 v2 rfl rfl)
  obtain ⟨a2, o2, rel2⟩ := top_one opens22 rfl h2 wk2
  have k3 := h3
  have lt3 : ∀ x ∈ p3, x.block < W.heap.size := by obtain ⟨m, hm⟩ := k3; exact DataW.trod_lt m _ _ _ hm
  have wk3 := wok_of hsz (j := 3) rfl rfl
  obtain ⟨n3, rfl⟩ := okWide_bool Tryz.underlying4 (hval 3 4 v3 rfl rfl)
  obtain ⟨a3, o3, rel3⟩ := top_one opens4 rfl h3 wk3
  have k4 := h4
  have lt4 : ∀ x ∈ p4, x.block < W.heap.size := by obtain ⟨m, hm⟩ := k4; exact DataW.trod_lt m _ _ _ hm
  have wk4 := wok_of hsz (j := 4) rfl rfl
  obtain ⟨A4, n4, c4, rfl⟩ := okWide_slice Tryz.underlying29 (hval 4 29 v4 rfl rfl)
  obtain ⟨a4, o4, rel4⟩ := top_one opens29 rfl h4 wk4
  have k5 := h5
  have lt5 : ∀ x ∈ p5, x.block < W.heap.size := by obtain ⟨m, hm⟩ := k5; exact DataW.trod_lt m _ _ _ hm
  have wk5 := wok_of hsz (j := 5) rfl rfl
  obtain ⟨A5, n5, c5, rfl⟩ := okWide_slice Tryz.underlying22 (hval 5 22 v5 rfl rfl)
  obtain ⟨a5, o5, rel5⟩ := top_one opens22 rfl h5 wk5
  clear hA0 hval0 hsz0 hsz
  refine (law_of_acall (lawCodecReads a0 o0 us1 o1 a2 o2 a3 o3 a4 o4 a5 o5) rfl (by simp only [CRel]; exact ⟨⟨_, rfl, rel0⟩, ⟨⟨_, rfl, rel1⟩, ⟨⟨_, rfl, rel2⟩, ⟨⟨_, rfl, rel3⟩, ⟨⟨_, rfl, rel4⟩, ⟨⟨_, rfl, rel5⟩, trivial⟩⟩⟩⟩⟩⟩) hG).mono fun e W' ⟨he, bel0⟩ => ?_
  have bel : Below W.heap.size W W' := bel0
  subst he
  exact ⟨_, rfl, _, _, _, [], _, [], hW', trodAll_mk1 (shut_bool Tryz.underlying4 _), (trodAll_cons_mk (Below.trod laidOut (by kernel_rfl) (of_decide_eq_true (by kernel_rfl)) k0 bel lt0) (trodAll_cons_mk (Below.trod laidOut (by kernel_rfl) (of_decide_eq_true (by kernel_rfl)) k1 bel lt1) (trodAll_cons_mk (Below.trod laidOut (by kernel_rfl) (of_decide_eq_true (by kernel_rfl)) k2 bel lt2) (trodAll_cons_mk (Below.trod laidOut (by kernel_rfl) (of_decide_eq_true (by kernel_rfl)) k3 bel lt3) (trodAll_cons_mk (Below.trod laidOut (by kernel_rfl) (of_decide_eq_true (by kernel_rfl)) k4 bel lt4) (trodAll_cons_mk (Below.trod laidOut (by kernel_rfl) (of_decide_eq_true (by kernel_rfl)) k5 bel lt5) trodAll_mk0)))))), rfl, bel.frame _, fun h => by cases h⟩
theorem over : Rows.codecReadsRow.holds Tryz.pinned (OpenSpec.ofChange Rows.codecReadsSpec) :=
  OpenClaim.holds_of_wide 3 Tryz.f3 rfl rfl rfl rfl rfl rfl rfl ⟨rfl, rfl, rfl, rfl, rfl⟩ rfl rfl rfl rfl rfl (by kernel_rfl) Tryz.func3 (by kernel_rfl)
    (of_decide_eq_true (by kernel_rfl)) (by unfold Func.isWrapper; first | (rw [if_pos (by decide +kernel)]; kernel_rfl) | (rw [if_neg (by decide +kernel)]; exact ⟨rfl, rfl⟩))
    (fun os started H enc _ => lifted os started H enc)
theorem proved : Rows.CodecReadsSaid := over
theorem card_holds : Rows.CodecReadsCardSaid :=
  Claim7.holds_tied_plain_at .later [] [.data, .pinned] true (true, "a3b568774b0ef2f2dcd6768c7fd558c7acc1c5c0c690bc4fed3017d4566be82f") true proved (fun _ h => by cases h) (by kernel_rfl) (fun _ h => by cases h) codecReads_row_tie rfl ⟨rfl, rfl⟩ (by kernel_rfl) rfl
    (fun f fn hf hfn => by
      obtain rfl : f = 3 := Option.some.inj ((show Tryz.prog.funcNamed "mailcoach/mailcoachlaw21.CodecReads" = some 3 by kernel_rfl).symm.trans hf) |>.symm
      obtain rfl : fn = Tryz.f3 := (Option.some.inj (Tryz.func3.symm.trans hfn)).symm
      exact ⟨by kernel_rfl, fun j t ht => by
        rw [Tryz.params3] at ht
        have hm : t ∈ [22, 28, 22, 4, 29, 22] := by simpa using Array.mem_of_getElem? ht
        have hall : ([22, 28, 22, 4, 29, 22].all fun u => !Tryz.prog.wantsStandIn u) = true := by kernel_rfl
        exact (show Tryz.prog.wantsStandIn t = false by simpa using List.all_eq_true.1 hall t hm)⟩)
    (by kernel_rfl)
#print axioms card_holds
end Go.Proofs.YticefdfhcahlfaaGreatDoor.codecReads
namespace Go.Proofs.YticefdfhcahlfaaGreatDoor
/-- The card, under a short name, for the claim. -/
theorem codecReads_holds : Rows.CodecReadsCardSaid := codecReads.card_holds
end Go.Proofs.YticefdfhcahlfaaGreatDoor
