/- A writer that is nil: what each of its calls gives. -/
import Derived.Test.YtkfofdeceicfkaaC11
import Derived.Test.YtkfofdeceicfkaaOkWriterNil
import Derived.IntWalk
import Derived.Test.YtkfofdeceicfkaaAm2
namespace Go.Proofs.Ytkfofdeceicfkaa.AM
set_option maxRecDepth 100000
set_option linter.unusedVariables false
set_option linter.unusedSimpArgs false
open OkWriterNil

theorem add_nil (d : AVal) (σ : St) (Q : AVal → St → Prop) (h : Q (.tup [.int .u64 0, .int .i64 1]) σ) : ACall Try.prog 11 [.nilp, d] σ Q := by
  refine ACall.of_compF hmx (fun a w => Try.call11 a w) Try.func11 cf11 (n := 2) (by decide) rfl ?_
  simp [ac11, rs11, lk_cons, h]
theorem ack_nil (p n : AVal) (σ : St) (Q : AVal → St → Prop) (h : Q .nilsl σ) : ACall Try.prog 12 [.nilp, p, n] σ Q := by
  refine ACall.of_compF hmx (fun a w => Try.call12 a w) Try.func12 cf12 (n := 3) (by decide) rfl ?_
  simp [ac12, rs12, lk_cons, h]
theorem sure_nil (σ : St) (Q : AVal → St → Prop) (h : Q (.int .u64 0) σ) : ACall Try.prog 16 [.nilp] σ Q := by
  refine ACall.of_compF hmx (fun a w => Try.call16 a w) Try.func16 cf16 (n := 1) (by decide) rfl ?_
  simp [ac16, rs16, lk_cons, h]
theorem count_nil (σ : St) (Q : AVal → St → Prop) (h : Q (.int .u64 0) σ) : ACall Try.prog 17 [.nilp] σ Q := by
  refine ACall.of_compF hmx (fun a w => Try.call17 a w) Try.func17 cf17 (n := 1) (by decide) rfl ?_
  simp [ac17, rs17, lk_cons, h]
theorem close_nil (σ : St) (Q : AVal → St → Prop) (h : Q (.tup [.int .u64 0, .int .i64 1]) σ) : ACall Try.prog 18 [.nilp] σ Q := by
  refine ACall.of_compF hmx (fun a w => Try.call18 a w) Try.func18 cf18 (n := 1) (by decide) rfl ?_
  simp [ac18, rs18, lk_cons, h]
theorem waiting_nil (σ : St) (Q : AVal → St → Prop) (h : Q (.tup [.nilsl, .nilsl]) σ) : ACall Try.prog 19 [.nilp] σ Q := by
  refine ACall.of_compF hmx (fun a w => Try.call19 a w) Try.func19 cf19 (n := 1) (by decide) rfl ?_
  simp [ac19, rs19, lk_cons, h]
theorem replace_nil (p : AVal) (σ : St) (Q : AVal → St → Prop) (h : Q .nilsl σ) : ACall Try.prog 20 [.nilp, p] σ Q := by
  refine ACall.of_compF hmx (fun a w => Try.call20 a w) Try.func20 cf20 (n := 2) (by decide) rfl ?_
  simp [ac20, rs20, lk_cons, h]
def tabL : TabL := [(8, ac8, rs8, 0), (10, ac10, rs10, 1), (11, ac11, rs11, 2), (12, ac12, rs12, 3), (17, ac17, rs17, 1), (24, ac24, rs24, 1), (25, ac25, rs25, 1), (26, ac26, rs26, 2), (27, ac27, rs27, 2), (28, ac28, rs28, 3), (36, ac36, rs36, 2), (37, ac37, rs37, 3)]
theorem tabOk : TabOk Try.prog (look tabL) := by
  unfold tabL
  refine tab_cons ?_ (fun a w => Try.call8 a w) Try.func8 cf8 (by decide)
  refine tab_cons ?_ (fun a w => Try.call10 a w) Try.func10 cf10 (by decide)
  refine tab_cons ?_ (fun a w => Try.call11 a w) Try.func11 cf11 (by decide)
  refine tab_cons ?_ (fun a w => Try.call12 a w) Try.func12 cf12 (by decide)
  refine tab_cons ?_ (fun a w => Try.call17 a w) Try.func17 cf17 (by decide)
  refine tab_cons ?_ (fun a w => Try.call24 a w) Try.func24 cf24 (by decide)
  refine tab_cons ?_ (fun a w => Try.call25 a w) Try.func25 cf25 (by decide)
  refine tab_cons ?_ (fun a w => Try.call26 a w) Try.func26 cf26 (by decide)
  refine tab_cons ?_ (fun a w => Try.call27 a w) Try.func27 cf27 (by decide)
  refine tab_cons ?_ (fun a w => Try.call28 a w) Try.func28 cf28 (by decide)
  refine tab_cons ?_ (fun a w => Try.call36 a w) Try.func36 cf36 (by decide)
  refine tab_cons ?_ (fun a w => Try.call37 a w) Try.func37 cf37 (by decide)
  exact tab_nil hmx
def runOk (x : Option (AVal × St)) : Bool := match x with
  | some (.bool true, _) => true
  | _ => false
theorem awake_run : runOk (callT (look tabL) 300 20 8 [] σ0) = true := by kernel_rfl
theorem awake (σ : St) (Q : AVal → St → Prop) (hq : Q (.bool true) σ) : ACall Try.prog 8 [] σ Q := by
  refine ACall.frame ?_ rfl
  have h := awake_run
  unfold runOk at h
  split at h
  · rename_i σ hs; exact ACall.of_run tabOk 300 20 hs ⟨rfl, hq⟩
  · cases h

theorem lawWriterNil (us : List AVal) (h : ok63 us) : ACall Try.prog 7 [.agg us] σ0 fun v _ => v = .bool true := by
  have h2 : ∃ k d p n r, us = [k, d, p, n, r] ∧ us.all AVal.one = true := by
    simp only [ok63, ok5, ok33, ok3, ok34, ok4] at h
    obtain ⟨_, _, rfl, ⟨k, rfl, _⟩, _, _, rfl, hd, _, _, rfl, ⟨p, rfl, _⟩, _, _, rfl, ⟨n, rfl, _⟩, r, rfl⟩ := h
    rcases hd with rfl | ⟨xs, rfl, _⟩ <;> exact ⟨_, _, _, _, _, rfl, rfl⟩
  obtain ⟨k, d, p, n, r, rfl, h2⟩ := h2
  refine ACall.of_compF hmx (fun a w => Try.call7 a w) Try.func7 cf7 (n := 1) (by decide) rfl ?_
  simp only [List.all_cons, List.all_nil, Bool.and_true, Bool.and_eq_true] at h2
  simp [ac7, rs7, lk_cons, h2]
  refine awake _ _ ?_
  simp [lk_cons]
  refine add_nil _ _ _ ?_
  simp [lk_cons]
  refine close_nil _ _ ?_
  simp [lk_cons]
  refine waiting_nil _ _ ?_
  simp [lk_cons]
  refine ack_nil _ _ _ _ ?_
  simp [lk_cons]
  refine replace_nil _ _ _ ?_
  simp [lk_cons]
  simp (disch := omega) only [IntWalk.i64_in, IntWalk.u64_in]
  simp [lk_cons]
  refine count_nil _ _ ?_
  simp [lk_cons]
  refine sure_nil _ _ ?_
  simp [lk_cons]
  simp (disch := omega) only [IntWalk.i64_in, IntWalk.u64_in]
end Go.Proofs.Ytkfofdeceicfkaa.AM
