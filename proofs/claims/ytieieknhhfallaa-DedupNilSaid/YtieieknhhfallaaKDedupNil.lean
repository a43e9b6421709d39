/- A nil table. -/
import Derived.Test.YtieieknhhfallaaCt15
import Derived.Test.YtieieknhhfallaaAm3
import Derived.Test.YtieieknhhfallaaOkDedupNil
namespace Go.Proofs.Ytieieknhhfallaa.AM
open Go.RowKit
set_option maxRecDepth 100000
set_option linter.unusedVariables false
set_option linter.unusedSimpArgs false

theorem wdone_nil (σ : St) (b : Nat) (hb : σ.mem.get b = some (.cells 1 [.nilsl])) (Q : AVal → St → Prop) (h : Q .nilsl σ) : ACall Try.prog 13 [.ptr b 0] σ Q := by
  refine ACall.of_compF hmx (fun a w => Try.call13 a w) Try.func13 cf13 (n := 1) (by decide) rfl ?_
  simp [ac13, rs13, lk_cons, hb]
  refine ACall.of_compF hmx (fun a w => Try.call27 a w) Try.func27 cf27 (n := 1) (by decide) rfl ?_
  simp [ac27, rs27, lk_cons, h]

theorem dnil_c (k : Int) (s : ByteArray) (q l e : Int) (raw : Bool) : ACall Try.prog 4 [.agg [.int .u8 k, .str s, u64 q, u64 l, u64 e, .bool raw]] σ0 fun v _ => v = .bool true := by
  refine ACall.of_compF hmx (fun a w => Try.call4 a w) Try.func4 cf4 (n := 1) (by decide) rfl ?_
  simp [ac4, rs4, lk_cons]
  refine awake _ _ ?_
  simp [lk_cons]
  refine last_nil _ _ _ fun σ1 hk1 hn1 => ?_
  have h0 := hk1 0 (by simp)
  simp at h0 hn1
  have z1 : ¬ 0 = σ1.next := by omega
  have z2 : ¬ 0 = σ1.next + 1 := by omega
  have z3 : ¬ σ1.next = σ1.next + 1 := by omega
  simp [lk_cons, lnV, storeL]
  refine forget_nil _ _ ?_
  simp [lk_cons, fillL, storeL, h0, z1, z2]
  refine begin_nil _ _ _ _ ?_
  simp [lk_cons, h0, z1, z2]
  refine done_nil _ _ _ _ _ _ fun σ2 hk2 hn2 => ?_
  have g1 := hk2 σ1.next (by simp; omega)
  have g2 := hk2 (σ1.next + 1) (by simp)
  simp [z3] at g1 g2
  have ke : keysEq [AVal.str ⟨#[]⟩, u64 0, u64 0, u64 0, u64 0] [AVal.str ⟨#[]⟩, AVal.int .u64 0, AVal.int .u64 0, AVal.int .u64 0, AVal.int .u64 0] = some true := by rfl
  simp [lk_cons, g1, fillL, shapeOk, kShape, ke]
  refine all_nil _ _ ?_
  simp [lk_cons]
  refine wdone_nil _ _ g2 _ ?_
  simp [lk_cons]

open OkDedupNil in
theorem lawDedupNil (us : List AVal) (o : ok35 us) : ACall Try.prog 4 [.agg us] σ0 fun v _ => v = .bool true := by
  obtain ⟨_, _, rfl, ⟨k, rfl, _⟩, _, _, rfl, ⟨s, rfl, _⟩, _, _, rfl, ⟨q, rfl, _⟩, _, _, rfl, ⟨_, _, rfl, ⟨l, rfl, _⟩, e, rfl, _⟩, raw, rfl⟩ := o
  exact dnil_c k s q l e raw
end Go.Proofs.Ytieieknhhfallaa.AM
