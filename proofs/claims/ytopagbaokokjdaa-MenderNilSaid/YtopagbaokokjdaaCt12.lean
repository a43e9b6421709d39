/- What the functions of this chapter give: their contracts over the machine. -/
import Derived.Test.YtopagbaokokjdaaC12
import Derived.Test.YtopagbaokokjdaaAm3
/- The example of chapter 12 is as it should be. -/
namespace Go.Proofs.Ytopagbaokokjdaa.AM
set_option maxRecDepth 100000
set_option linter.unusedVariables false
set_option linter.unusedSimpArgs false

def tabL : TabL := [(8, ac8, rs8, 0), (9, ac9, rs9, 1), (13, ac13, rs13, 4), (15, ac15, rs15, 1), (17, ac17, rs17, 1), (26, ac26, rs26, 1), (27, ac27, rs27, 2), (28, ac28, rs28, 2), (29, ac29, rs29, 2), (30, ac30, rs30, 1), (32, ac32, rs32, 2), (36, ac36, rs36, 2), (38, ac38, rs38, 2), (39, ac39, rs39, 3)]
theorem tabOk : TabOk Try.prog (look tabL) := by
  unfold tabL
  refine tab_cons ?_ (fun a w => Try.call8 a w) Try.func8 cf8 (by decide)
  refine tab_cons ?_ (fun a w => Try.call9 a w) Try.func9 cf9 (by decide)
  refine tab_cons ?_ (fun a w => Try.call13 a w) Try.func13 cf13 (by decide)
  refine tab_cons ?_ (fun a w => Try.call15 a w) Try.func15 cf15 (by decide)
  refine tab_cons ?_ (fun a w => Try.call17 a w) Try.func17 cf17 (by decide)
  refine tab_cons ?_ (fun a w => Try.call26 a w) Try.func26 cf26 (by decide)
  refine tab_cons ?_ (fun a w => Try.call27 a w) Try.func27 cf27 (by decide)
  refine tab_cons ?_ (fun a w => Try.call28 a w) Try.func28 cf28 (by decide)
  refine tab_cons ?_ (fun a w => Try.call29 a w) Try.func29 cf29 (by decide)
  refine tab_cons ?_ (fun a w => Try.call30 a w) Try.func30 cf30 (by decide)
  refine tab_cons ?_ (fun a w => Try.call32 a w) Try.func32 cf32 (by decide)
  refine tab_cons ?_ (fun a w => Try.call36 a w) Try.func36 cf36 (by decide)
  refine tab_cons ?_ (fun a w => Try.call38 a w) Try.func38 cf38 (by decide)
  refine tab_cons ?_ (fun a w => Try.call39 a w) Try.func39 cf39 (by decide)
  exact tab_nil hmx

def runOk (x : Option (AVal × St)) : Bool := match x with
  | some (.bool true, _) => true
  | _ => false
theorem awake_run : runOk (callT (look tabL) 300 20 8 [] σ0) = true := by kernel_rfl
theorem awake (σ : St) (Q : AVal → St → Prop) (hq : Q (.bool true) σ) : ACall Try.prog 8 [] σ Q := by
  refine ACall.frame ?_ rfl
  have h := awake_run
  unfold runOk at h
  split at h
  · rename_i σ hs; exact ACall.of_run tabOk 300 20 hs ⟨rfl, hq⟩
  · cases h
end Go.Proofs.Ytopagbaokokjdaa.AM
