/- LedgersPlaces: places among ledgers of few entries, and any places, are as the reference tells; for all arguments, without further conditions. -/
import Derived.Test.YtmbealldhndeoaaRows
import Derived.Test.YtmbealldhndeoaaYLedgersPlaces12
import Derived.Test.YtmbealldhndeoaaOkLedgersPlaces
import Derived.Test.YtmbealldhndeoaaPureLedgersPlaces
import Derived.WalkKit
import Derived.ProofKit
import Derived.OpenShut
import Derived.ShutString
import Derived.ChangeOld
import Derived.Below
import Derived.SizedLaws
import Derived.Carry
namespace Go.Proofs.Ytmbealldhndeoaa.ledgersPlaces
open Go.ChangeShapes Go.WideShapes Go.ChangeAt Go.RowKit Go.Proofs.YtmbealldhndeoaaW.PrintWords Go.Proofs.Ytmbealldhndeoaa.OpenKd Go.Proofs.Ytmbealldhndeoaa.PLedgersPlaces Go.Proofs.Ytmbealldhndeoaa.OkLedgersPlaces
open Go.ChangeMaps (open_string shut_string)
set_option linter.unusedVariables false
theorem own : ownKnob Try.prog.godebug = none := by kernel_rfl
theorem laidOut : laidOutB Try.prog = true := by kernel_rfl
set_option maxRecDepth 100000 in
theorem lifted (os : Os) (started : os.Started) (H : Type) (enc : TypeId × Value → H) :
    ReturnsInHanded {} Try.checked os 7 .any (Rows.ledgersPlacesSpec.pre6 enc Try.prog Try.f7 Rows.ledgersPlacesRow.domain false) (Rows.ledgersPlacesSpec.post enc Try.prog Try.f7 false true false false) := by
  refine returnsInHanded_of_change_sized (C := Try.checked) own started (by kernel_rfl) Try.func7
    (ChangeSpec.witness6 (enc := enc) (C := Try.checked) false ⟨#[], #[.slice none 0 0, .bool false, .int .u8 0, .agg #[.int .u64 0, .int .u64 0], .agg #[.int .u64 0, .int .u64 0], .bool false], []⟩ 8 (by kernel_rfl) (by kernel_rfl) (by kernel_rfl) (by kernel_rfl)) ?_
  intro W base args ds gs before hval0 hW hcnd hsz0 _
  have hsz : (DataW.weightsEach Try.prog (Try.f7.params.toList ++ Rows.ledgersPlacesSpec.plain.varTypes Try.prog) (ds ++ gs)).all (· ≤ reachBytes) = true := hsz0
  have hval : ∀ (j : Nat) t v, Try.f7.params[j]? = some t → args[j]? = some v → Value.okWide Try.prog W .any base t v := hval0
  have hW' := hW
  obtain ⟨p, q, hA0, hV, rfl, hfz, hnd⟩ := hW
  have hA : DataW.TrodAll enc Try.prog W 0 (fun _ => true) true Try.f7.params.toList args.toList ds p := hA0
  rw [Try.params7] at hA hval hsz
  obtain ⟨v0, vs0, d0, ds0, p0, q0, hargs, rfl, rfl, h0, r0⟩ := trodAll_cons hA
  obtain ⟨v1, vs1, d1, ds1, p1, q1, rfl, rfl, rfl, h1, r1⟩ := trodAll_cons r0
  obtain ⟨v2, vs2, d2, ds2, p2, q2, rfl, rfl, rfl, h2, r2⟩ := trodAll_cons r1
  obtain ⟨v3, vs3, d3, ds3, p3, q3, rfl, rfl, rfl, h3, r3⟩ := trodAll_cons r2
  obtain ⟨v4, vs4, d4, ds4, p4, q4, rfl, rfl, rfl, h4, r4⟩ := trodAll_cons r3
  obtain ⟨v5, vs5, d5, ds5, p5, q5, rfl, rfl, rfl, h5, r5⟩ := trodAll_cons r4
  obtain ⟨rfl, rfl, rfl⟩ := trodAll_nil r5
  obtain rfl : args = #[v0, v1, v2, v3, v4, v5] := by cases args; simp_all
  obtain ⟨rfl, rfl⟩ := trodVars_none hV
  have k0 := h0
  have lt0 : ∀ x ∈ p0, x.block < W.heap.size := by obtain ⟨m, hm⟩ := k0; exact DataW.trod_lt m _ _ _ hm
  have wk0 := wok_of hsz (j := 0) rfl rfl
  obtain ⟨A0, n0, c0, rfl⟩ := okWide_slice Try.underlying23 (hval 0 23 v0 rfl rfl)
  obtain ⟨l0, rfl, hc0, hr0, w0⟩ := top_slice (opens_slice Try.underlying23 (by kernel_rfl) (opens_int Try.underlying5)) h0 wk0
  obtain ⟨a1, rfl, rfl, rfl⟩ := open_bool Try.underlying4 (hval 1 4 v1 rfl rfl) h1
  obtain ⟨a2, rfl, rfl, rfl, w2⟩ := open_int Try.underlying5 (hval 2 5 v2 rfl rfl) h2
  have k3 := h3
  have lt3 : ∀ x ∈ p3, x.block < W.heap.size := by obtain ⟨m, hm⟩ := k3; exact DataW.trod_lt m _ _ _ hm
  have wk3 := wok_of hsz (j := 3) rfl rfl
  obtain ⟨cs3, rfl, _⟩ := okWide_struct Try.underlying36 (hval 3 36 v3 rfl rfl)
  obtain ⟨a3, hk3, w3⟩ := top_agg opens36 h3 wk3
  obtain rfl : cs3 = #[.int .u64 a3.f0, .int .u64 a3.f1] := by have := k36_open hk3; cases cs3; simpa using this
  have k4 := h4
  have lt4 : ∀ x ∈ p4, x.block < W.heap.size := by obtain ⟨m, hm⟩ := k4; exact DataW.trod_lt m _ _ _ hm
  have wk4 := wok_of hsz (j := 4) rfl rfl
  obtain ⟨cs4, rfl, _⟩ := okWide_struct Try.underlying36 (hval 4 36 v4 rfl rfl)
  obtain ⟨a4, hk4, w4⟩ := top_agg opens36 h4 wk4
  obtain rfl : cs4 = #[.int .u64 a4.f0, .int .u64 a4.f1] := by have := k36_open hk4; cases cs4; simpa using this
  obtain ⟨a5, rfl, rfl, rfl⟩ := open_bool Try.underlying4 (hval 5 4 v5 rfl rfl) h5
  clear hA0 hval0 hsz0 hsz
  obtain ⟨k, hf⟩ := Pure.LedgersPlaces l0 a1 a2 a3 a4 a5 w0 w2 w3 w4
  refine (mailcoachlaw13_LedgersPlaces.calls k A0 c0 l0 a1 a2 a3.f0 a3.f1 a4.f0 a4.f1 a5 true W hr0 hc0 rfl hf).mono fun e W' ⟨he, bel0⟩ => ?_
  have bel : Below W.heap.size W W' := bel0
  subst he
  exact ⟨_, rfl, _, _, _, [], _, [], hW', trodAll_mk1 (shut_bool Try.underlying4 _), (trodAll_cons_mk (Below.trod laidOut (by kernel_rfl) (of_decide_eq_true (by kernel_rfl)) k0 bel lt0) (trodAll_cons_mk (shut_bool Try.underlying4 _) (trodAll_cons_mk (shut_int Try.underlying5 w2) (trodAll_cons_mk (Below.trod laidOut (by kernel_rfl) (of_decide_eq_true (by kernel_rfl)) k3 bel lt3) (trodAll_cons_mk (Below.trod laidOut (by kernel_rfl) (of_decide_eq_true (by kernel_rfl)) k4 bel lt4) (trodAll_cons_mk (shut_bool Try.underlying4 _) trodAll_mk0)))))), rfl, bel.frame _, fun h => by cases h⟩
theorem over : Rows.ledgersPlacesRow.holds Try.pinned (OpenSpec.ofChange Rows.ledgersPlacesSpec) :=
  OpenClaim.holds_of_wide 7 Try.f7 rfl rfl rfl rfl rfl rfl rfl ⟨rfl, rfl, rfl, rfl, rfl⟩ rfl rfl rfl rfl rfl (by kernel_rfl) Try.func7 (by kernel_rfl)
    (of_decide_eq_true (by kernel_rfl)) (by unfold Func.isWrapper; first | (rw [if_pos (by decide +kernel)]; kernel_rfl) | (rw [if_neg (by decide +kernel)]; exact ⟨rfl, rfl⟩))
    (fun os started H enc _ => lifted os started H enc)
theorem proved : Rows.LedgersPlacesSaid := over
#print axioms proved
end Go.Proofs.Ytmbealldhndeoaa.ledgersPlaces
namespace Go.Proofs.Ytmbealldhndeoaa
/-- The row, under a short name, for the claim. -/
theorem ledgersPlaces_holds : Rows.LedgersPlacesSaid := ledgersPlaces.proved
end Go.Proofs.Ytmbealldhndeoaa
