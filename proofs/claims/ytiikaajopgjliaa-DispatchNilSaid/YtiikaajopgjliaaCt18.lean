/- What the functions of this chapter give: their contracts over the machine. -/
import Derived.Test.YtiikaajopgjliaaC18
import Derived.Test.YtiikaajopgjliaaAm3
/- The example of chapter 18 is as it should be. -/
namespace Go.Proofs.Ytiikaajopgjliaa.AM
set_option maxRecDepth 100000
set_option linter.unusedVariables false
set_option linter.unusedSimpArgs false

def tabL : TabL := [(10, ac10, rs10, 0), (11, ac11, rs11, 1), (12, ac12, rs12, 2), (13, ac13, rs13, 3), (14, ac14, rs14, 3), (29, ac29, rs29, 2), (30, ac30, rs30, 2), (44, ac44, rs44, 2), (45, ac45, rs45, 1), (46, ac46, rs46, 2), (53, ac53, rs53, 1), (56, ac56, rs56, 1), (57, ac57, rs57, 1), (58, ac58, rs58, 1), (59, ac59, rs59, 1), (63, ac63, rs63, 1), (64, ac64, rs64, 2), (65, ac65, rs65, 1), (66, ac66, rs66, 1), (67, ac67, rs67, 2), (68, ac68, rs68, 2), (77, ac77, rs77, 1), (78, ac78, rs78, 1), (80, ac80, rs80, 4), (82, ac82, rs82, 1), (83, ac83, rs83, 1), (86, ac86, rs86, 3), (87, ac87, rs87, 3), (88, ac88, rs88, 3), (89, ac89, rs89, 3), (90, ac90, rs90, 3), (91, ac91, rs91, 3), (92, ac92, rs92, 2), (93, ac93, rs93, 4), (94, ac94, rs94, 4), (96, ac96, rs96, 4), (97, ac97, rs97, 3), (98, ac98, rs98, 5), (99, ac99, rs99, 4)]
theorem tabOk : TabOk Try.prog (look tabL) := by
  unfold tabL
  refine tab_cons ?_ (fun a w => Try.call10 a w) Try.func10 cf10 (by decide)
  refine tab_cons ?_ (fun a w => Try.call11 a w) Try.func11 cf11 (by decide)
  refine tab_cons ?_ (fun a w => Try.call12 a w) Try.func12 cf12 (by decide)
  refine tab_cons ?_ (fun a w => Try.call13 a w) Try.func13 cf13 (by decide)
  refine tab_cons ?_ (fun a w => Try.call14 a w) Try.func14 cf14 (by decide)
  refine tab_cons ?_ (fun a w => Try.call29 a w) Try.func29 cf29 (by decide)
  refine tab_cons ?_ (fun a w => Try.call30 a w) Try.func30 cf30 (by decide)
  refine tab_cons ?_ (fun a w => Try.call44 a w) Try.func44 cf44 (by decide)
  refine tab_cons ?_ (fun a w => Try.call45 a w) Try.func45 cf45 (by decide)
  refine tab_cons ?_ (fun a w => Try.call46 a w) Try.func46 cf46 (by decide)
  refine tab_cons ?_ (fun a w => Try.call53 a w) Try.func53 cf53 (by decide)
  refine tab_cons ?_ (fun a w => Try.call56 a w) Try.func56 cf56 (by decide)
  refine tab_cons ?_ (fun a w => Try.call57 a w) Try.func57 cf57 (by decide)
  refine tab_cons ?_ (fun a w => Try.call58 a w) Try.func58 cf58 (by decide)
  refine tab_cons ?_ (fun a w => Try.call59 a w) Try.func59 cf59 (by decide)
  refine tab_cons ?_ (fun a w => Try.call63 a w) Try.func63 cf63 (by decide)
  refine tab_cons ?_ (fun a w => Try.call64 a w) Try.func64 cf64 (by decide)
  refine tab_cons ?_ (fun a w => Try.call65 a w) Try.func65 cf65 (by decide)
  refine tab_cons ?_ (fun a w => Try.call66 a w) Try.func66 cf66 (by decide)
  refine tab_cons ?_ (fun a w => Try.call67 a w) Try.func67 cf67 (by decide)
  refine tab_cons ?_ (fun a w => Try.call68 a w) Try.func68 cf68 (by decide)
  refine tab_cons ?_ (fun a w => Try.call77 a w) Try.func77 cf77 (by decide)
  refine tab_cons ?_ (fun a w => Try.call78 a w) Try.func78 cf78 (by decide)
  refine tab_cons ?_ (fun a w => Try.call80 a w) Try.func80 cf80 (by decide)
  refine tab_cons ?_ (fun a w => Try.call82 a w) Try.func82 cf82 (by decide)
  refine tab_cons ?_ (fun a w => Try.call83 a w) Try.func83 cf83 (by decide)
  refine tab_cons ?_ (fun a w => Try.call86 a w) Try.func86 cf86 (by decide)
  refine tab_cons ?_ (fun a w => Try.call87 a w) Try.func87 cf87 (by decide)
  refine tab_cons ?_ (fun a w => Try.call88 a w) Try.func88 cf88 (by decide)
  refine tab_cons ?_ (fun a w => Try.call89 a w) Try.func89 cf89 (by decide)
  refine tab_cons ?_ (fun a w => Try.call90 a w) Try.func90 cf90 (by decide)
  refine tab_cons ?_ (fun a w => Try.call91 a w) Try.func91 cf91 (by decide)
  refine tab_cons ?_ (fun a w => Try.call92 a w) Try.func92 cf92 (by decide)
  refine tab_cons ?_ (fun a w => Try.call93 a w) Try.func93 cf93 (by decide)
  refine tab_cons ?_ (fun a w => Try.call94 a w) Try.func94 cf94 (by decide)
  refine tab_cons ?_ (fun a w => Try.call96 a w) Try.func96 cf96 (by decide)
  refine tab_cons ?_ (fun a w => Try.call97 a w) Try.func97 cf97 (by decide)
  refine tab_cons ?_ (fun a w => Try.call98 a w) Try.func98 cf98 (by decide)
  refine tab_cons ?_ (fun a w => Try.call99 a w) Try.func99 cf99 (by decide)
  exact tab_nil hmx

def runOk (x : Option (AVal × St)) : Bool := match x with
  | some (.bool true, _) => true
  | _ => false
theorem awake_run : runOk (callT (look tabL) 300 20 10 [] σ0) = true := by kernel_rfl
theorem awake (σ : St) (Q : AVal → St → Prop) (hq : Q (.bool true) σ) : ACall Try.prog 10 [] σ Q := by
  refine ACall.frame ?_ rfl
  have h := awake_run
  unfold runOk at h
  split at h
  · rename_i σ hs; exact ACall.of_run tabOk 300 20 hs ⟨rfl, hq⟩
  · cases h
end Go.Proofs.Ytiikaajopgjliaa.AM
