/- A nil desk. -/
import Derived.Test.YtiikaajopgjliaaC18
import Derived.Test.YtiikaajopgjliaaCt18
import Derived.Test.YtiikaajopgjliaaAm3
import Derived.Test.YtiikaajopgjliaaOkDispatchNil
namespace Go.Proofs.Ytiikaajopgjliaa.AM
open Go.RowKit
set_option maxRecDepth 100000
set_option linter.unusedVariables false
set_option linter.unusedSimpArgs false

theorem leave_nil (c : AVal) (σ : St) (Q : AVal → St → Prop) (h : Q (.tup [.nilsl, .int .i64 1]) ⟨(σ.mem.set σ.next (.cells 1 [.nilp])).set (σ.next + 1) (.cells 1 [c]), σ.next + 1 + 1⟩) (hc : c.one = true) (hc2 : cellsOf c = [c]) : ACall Try.prog 26 [.nilp, c] σ Q := by
  refine ACall.of_compF hmx (fun a w => Try.call26 a w) Try.func26 cf26 (n := 2) (by decide) rfl ?_
  simp [ac26, rs26, lk_cons, hc, hc2]
  exact h
theorem offer_nil (a b : Int) (k : AVal) (σ : St) (Q : AVal → St → Prop) (h : Q (.tup [.int .u64 0, .int .i64 1]) ⟨σ.mem.set σ.next (.cells 2 [.int .u64 a, .int .u64 b]), σ.next + 1⟩) : ACall Try.prog 14 [.nilp, .agg [.int .u64 a, .int .u64 b], k] σ Q := by
  refine ACall.of_compF hmx (fun a w => Try.call14 a w) Try.func14 cf14 (n := 3) (by decide) rfl ?_
  simp [ac14, rs14, lk_cons]
  exact h
theorem join_nil (c : AVal) (σ : St) (Q : AVal → St → Prop) (h : Q (.int .i64 1) σ) : ACall Try.prog 12 [.nilp, c] σ Q := by
  refine ACall.of_compF hmx (fun a w => Try.call12 a w) Try.func12 cf12 (n := 2) (by decide) rfl ?_
  simp [ac12, rs12, lk_cons]
  exact h
theorem flow_nil (c n : AVal) (σ : St) (Q : AVal → St → Prop) (h : Q (.int .i64 1) σ) : ACall Try.prog 13 [.nilp, c, n] σ Q := by
  refine ACall.of_compF hmx (fun a w => Try.call13 a w) Try.func13 cf13 (n := 3) (by decide) rfl ?_
  simp [ac13, rs13, lk_cons]
  exact h
theorem ddone_nil (c : AVal) (a b : Int) (σ : St) (Q : AVal → St → Prop) (h : Q (.int .i64 1) ⟨σ.mem.set σ.next (.cells 2 [.int .u64 a, .int .u64 b]), σ.next + 1⟩) : ACall Try.prog 27 [.nilp, c, .agg [.int .u64 a, .int .u64 b]] σ Q := by
  refine ACall.of_compF hmx (fun a w => Try.call27 a w) Try.func27 cf27 (n := 3) (by decide) rfl ?_
  simp [ac27, rs27, lk_cons]
  exact h
theorem all_nil (σ : St) (Q : AVal → St → Prop) (h : Q .nilsl σ) : ACall Try.prog 18 [.nilp] σ Q := by
  refine ACall.of_compF hmx (fun a w => Try.call18 a w) Try.func18 cf18 (n := 1) (by decide) rfl ?_
  simp [ac18, rs18, lk_cons]
  exact h
theorem cons_nil (σ : St) (Q : AVal → St → Prop) (h : Q .nilsl σ) : ACall Try.prog 20 [.nilp] σ Q := by
  refine ACall.of_compF hmx (fun a w => Try.call20 a w) Try.func20 cf20 (n := 1) (by decide) rfl ?_
  simp [ac20, rs20, lk_cons]
  exact h

open OkDispatchNil in
theorem lawDispatchNil (us : List AVal) (o : ok45 us) : ACall Try.prog 8 [.agg us] σ0 fun v _ => v = .bool true := by
  obtain ⟨_, _, rfl, ⟨k, rfl, _⟩, _, _, rfl, ⟨c, rfl, _⟩, _, _, rfl, ⟨n, rfl, _⟩, _, _, rfl, ⟨_, _, rfl, ⟨l, rfl, _⟩, e, rfl, _⟩, _, _, rfl, ⟨s, rfl, _⟩, raw, rfl⟩ := o
  refine ACall.of_compF hmx (fun a w => Try.call8 a w) Try.func8 cf8 (n := 1) (by decide) rfl ?_
  simp [ac8, rs8, lk_cons]
  refine awake _ _ ?_
  simp [lk_cons]
  refine leave_nil _ _ _ ?_ rfl rfl
  simp [lk_cons]
  refine offer_nil _ _ _ _ _ ?_
  simp [lk_cons]
  refine join_nil _ _ _ ?_
  simp [lk_cons]
  refine flow_nil _ _ _ _ ?_
  simp [lk_cons]
  refine ddone_nil _ _ _ _ _ ?_
  simp [lk_cons]
  refine all_nil _ _ ?_
  simp [lk_cons]
  refine cons_nil _ _ ?_
  have w0 : IntKind.i64.wrap 0 = 0 := by rw [IntWalk.i64_in]; omega
  simp [lk_cons, w0]
end Go.Proofs.Ytiikaajopgjliaa.AM
