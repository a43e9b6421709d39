/-
  No cell of these rows narrows 'for every input' (looked for: loops, veiled, ifaces, maps, wideKeys, modest, calm, conditions, laid).
  DERIVED. THE GIVEN ROWS OF THIS SEAT. 7 by the template 'for every input the law returns true; each argument reads behind the call as it read before'; 0 by the template 'total and deterministic' (their statements: YtiikaajopgjliaaTotals.lean).
  GIVEN WITH THE SEED: the statements are not yours to turn. If you find one false, say at which input.
  Laid BY PROGRAM, IN A SANDBOX (cutbox-rows.mjs): the forced cells as the released guide's own fill.sh prints them over the translation 1b2ec5e78cc92a46… (all of the seat's roots in one cut). By AI agents, Wed Nov 11 2026. No macro, syntax, notation, axiom, sorry.
-/
import Derived.Test.YtiikaajopgjliaaChecked
import GoSem.Claim
import GoSem.ClaimJoined
import GoSem.ClaimMapViews
import Derived.JoinedTies
import Derived.KernelRfl
namespace Go.Proofs.Ytiikaajopgjliaa
/- THE CELL 'sum', in the pinned program and in every row, IS THE sha256 OF THE DUMP (.gsa) THAT YtiikaajopgjliaaProg.lean LOADS. Nothing in Lean hashes anything: it is a label: what it is worth is what the hold of that sum in a sandbox is worth. -/
noncomputable def Try.pinned : Pinned := { name := "ytiikaajopgjliaa", sum := "1b2ec5e78cc92a46e3a775f1d9c59cf4615c33d4f04533d5551760720fe329a2", checked := Try.checked }
namespace Rows
def none {H : Type} : Left H := { results := [], args := [] }

/-- 'mailcoachlaw18.DispatchTurns': WHATEVER THE INPUT: true; the input reads as it did. -/
def dispatchTurnsSpec : ChangeSpec := { name := "dispatchTurns", fn := fun _ => fun
  | [d1, d2] => { results := [.lit (.bool true)], args := [d1, d2] }
  | _ => none }
def dispatchTurnsRow : OpenClaim := { program := "ytiikaajopgjliaa", sum := "1b2ec5e78cc92a46e3a775f1d9c59cf4615c33d4f04533d5551760720fe329a2", func := "mailcoach/mailcoachlaw18.DispatchTurns", spec := "dispatchTurns", unfollowed := true, recurses := true, plainKeys := false, apart := false }
def DispatchTurnsSaid : Prop := dispatchTurnsRow.holds Try.pinned (OpenSpec.ofChange dispatchTurnsSpec)

/-- ITS FALSE NEIGHBOUR: 'it returns false'. Refute it at one input. -/
def dispatchTurnsWrong : ChangeSpec := { name := "dispatchTurns", fn := fun _ => fun
  | [d1, d2] => { results := [.lit (.bool false)], args := [d1, d2] }
  | _ => none }
def DispatchTurnsWrongFalsely : Prop := dispatchTurnsRow.holds Try.pinned (OpenSpec.ofChange dispatchTurnsWrong)

/-- 'mailcoachlaw18.DispatchPlays': WHATEVER THE INPUT: true; the input reads as it did. -/
def dispatchPlaysSpec : ChangeSpec := { name := "dispatchPlays", fn := fun _ => fun
  | [d1, d2] => { results := [.lit (.bool true)], args := [d1, d2] }
  | _ => none }
def dispatchPlaysRow : OpenClaim := { program := "ytiikaajopgjliaa", sum := "1b2ec5e78cc92a46e3a775f1d9c59cf4615c33d4f04533d5551760720fe329a2", func := "mailcoach/mailcoachlaw18.DispatchPlays", spec := "dispatchPlays", unfollowed := true, recurses := true, plainKeys := false, apart := false }
def DispatchPlaysSaid : Prop := dispatchPlaysRow.holds Try.pinned (OpenSpec.ofChange dispatchPlaysSpec)

/-- ITS FALSE NEIGHBOUR: 'it returns false'. Refute it at one input. -/
def dispatchPlaysWrong : ChangeSpec := { name := "dispatchPlays", fn := fun _ => fun
  | [d1, d2] => { results := [.lit (.bool false)], args := [d1, d2] }
  | _ => none }
def DispatchPlaysWrongFalsely : Prop := dispatchPlaysRow.holds Try.pinned (OpenSpec.ofChange dispatchPlaysWrong)

/-- 'mailcoachlaw18.DispatchFirst': WHATEVER THE INPUT: true; the input reads as it did. -/
def dispatchFirstSpec : ChangeSpec := { name := "dispatchFirst", fn := fun _ => fun
  | [d1, d2] => { results := [.lit (.bool true)], args := [d1, d2] }
  | _ => none }
def dispatchFirstRow : OpenClaim := { program := "ytiikaajopgjliaa", sum := "1b2ec5e78cc92a46e3a775f1d9c59cf4615c33d4f04533d5551760720fe329a2", func := "mailcoach/mailcoachlaw18.DispatchFirst", spec := "dispatchFirst", unfollowed := true, recurses := true, plainKeys := false, apart := false }
def DispatchFirstSaid : Prop := dispatchFirstRow.holds Try.pinned (OpenSpec.ofChange dispatchFirstSpec)

/-- ITS FALSE NEIGHBOUR: 'it returns false'. Refute it at one input. -/
def dispatchFirstWrong : ChangeSpec := { name := "dispatchFirst", fn := fun _ => fun
  | [d1, d2] => { results := [.lit (.bool false)], args := [d1, d2] }
  | _ => none }
def DispatchFirstWrongFalsely : Prop := dispatchFirstRow.holds Try.pinned (OpenSpec.ofChange dispatchFirstWrong)

/-- 'mailcoachlaw18.DispatchKeys': WHATEVER THE INPUT: true; the input reads as it did. -/
def dispatchKeysSpec : ChangeSpec := { name := "dispatchKeys", fn := fun _ => fun
  | [d] => { results := [.lit (.bool true)], args := [d] }
  | _ => none }
def dispatchKeysRow : OpenClaim := { program := "ytiikaajopgjliaa", sum := "1b2ec5e78cc92a46e3a775f1d9c59cf4615c33d4f04533d5551760720fe329a2", func := "mailcoach/mailcoachlaw18.DispatchKeys", spec := "dispatchKeys", unfollowed := true, recurses := true, plainKeys := false, apart := false }
def DispatchKeysSaid : Prop := dispatchKeysRow.holds Try.pinned (OpenSpec.ofChange dispatchKeysSpec)

/-- ITS FALSE NEIGHBOUR: 'it returns false'. Refute it at one input. -/
def dispatchKeysWrong : ChangeSpec := { name := "dispatchKeys", fn := fun _ => fun
  | [d] => { results := [.lit (.bool false)], args := [d] }
  | _ => none }
def DispatchKeysWrongFalsely : Prop := dispatchKeysRow.holds Try.pinned (OpenSpec.ofChange dispatchKeysWrong)

/-- 'mailcoachlaw18.DispatchPermits': WHATEVER THE INPUT: true; the input reads as it did. -/
def dispatchPermitsSpec : ChangeSpec := { name := "dispatchPermits", fn := fun _ => fun
  | [d1, d2] => { results := [.lit (.bool true)], args := [d1, d2] }
  | _ => none }
def dispatchPermitsRow : OpenClaim := { program := "ytiikaajopgjliaa", sum := "1b2ec5e78cc92a46e3a775f1d9c59cf4615c33d4f04533d5551760720fe329a2", func := "mailcoach/mailcoachlaw18.DispatchPermits", spec := "dispatchPermits", unfollowed := true, recurses := true, plainKeys := false, apart := false }
def DispatchPermitsSaid : Prop := dispatchPermitsRow.holds Try.pinned (OpenSpec.ofChange dispatchPermitsSpec)

/-- ITS FALSE NEIGHBOUR: 'it returns false'. Refute it at one input. -/
def dispatchPermitsWrong : ChangeSpec := { name := "dispatchPermits", fn := fun _ => fun
  | [d1, d2] => { results := [.lit (.bool false)], args := [d1, d2] }
  | _ => none }
def DispatchPermitsWrongFalsely : Prop := dispatchPermitsRow.holds Try.pinned (OpenSpec.ofChange dispatchPermitsWrong)

/-- 'mailcoachlaw18.DispatchNil': WHATEVER THE INPUT: true; the input reads as it did. -/
def dispatchNilSpec : ChangeSpec := { name := "dispatchNil", fn := fun _ => fun
  | [d] => { results := [.lit (.bool true)], args := [d] }
  | _ => none }
def dispatchNilRow : OpenClaim := { program := "ytiikaajopgjliaa", sum := "1b2ec5e78cc92a46e3a775f1d9c59cf4615c33d4f04533d5551760720fe329a2", func := "mailcoach/mailcoachlaw18.DispatchNil", spec := "dispatchNil", unfollowed := true, recurses := true, plainKeys := false, apart := false }
def DispatchNilSaid : Prop := dispatchNilRow.holds Try.pinned (OpenSpec.ofChange dispatchNilSpec)

/-- ITS FALSE NEIGHBOUR: 'it returns false'. Refute it at one input. -/
def dispatchNilWrong : ChangeSpec := { name := "dispatchNil", fn := fun _ => fun
  | [d] => { results := [.lit (.bool false)], args := [d] }
  | _ => none }
def DispatchNilWrongFalsely : Prop := dispatchNilRow.holds Try.pinned (OpenSpec.ofChange dispatchNilWrong)

/-- 'mailcoachlaw18.DispatchBack': WHATEVER THE INPUT: true; the input reads as it did. -/
def dispatchBackSpec : ChangeSpec := { name := "dispatchBack", fn := fun _ => fun
  | [d1, d2, d3] => { results := [.lit (.bool true)], args := [d1, d2, d3] }
  | _ => none }
def dispatchBackRow : OpenClaim := { program := "ytiikaajopgjliaa", sum := "1b2ec5e78cc92a46e3a775f1d9c59cf4615c33d4f04533d5551760720fe329a2", func := "mailcoach/mailcoachlaw18.DispatchBack", spec := "dispatchBack", unfollowed := true, recurses := true, plainKeys := false, apart := false }
def DispatchBackSaid : Prop := dispatchBackRow.holds Try.pinned (OpenSpec.ofChange dispatchBackSpec)

/-- ITS FALSE NEIGHBOUR: 'it returns false'. Refute it at one input. -/
def dispatchBackWrong : ChangeSpec := { name := "dispatchBack", fn := fun _ => fun
  | [d1, d2, d3] => { results := [.lit (.bool false)], args := [d1, d2, d3] }
  | _ => none }
def DispatchBackWrongFalsely : Prop := dispatchBackRow.holds Try.pinned (OpenSpec.ofChange dispatchBackWrong)

/- THE SECOND FORM. 'bulk': how many values and letters a reading holds, each counted each time it is reached (what is shared counts as often as it is met; a slice's spare places count too). A statement '..UptoSaid' is the law's where the arguments, and the package variables that the reading takes, are together of bulk at most 1048576: NARROWER than '..Said'. Prove '..Said' where nothing that the law and all that it calls make is longer than what came in: it says more and counts as full. Else prove '..UptoSaid'. A law counts once. -/
mutual
def uptoBulk {H : Type} : DataW H → Nat
  | .lit (.string bytes) => bytes.length + 1
  | .lit _ => 1
  | .nil => 1
  | .ptr d => uptoBulk d + 1
  | .slice elems spare => uptoBulkAll elems + uptoBulkAll spare + 1
  | .agg parts => uptoBulkAll parts + 1
  | .iface _ d => uptoBulk d + 1
  | .map entries => uptoBulkEntries entries + 1
  | .held _ => 1
def uptoBulkAll {H : Type} : List (DataW H) → Nat
  | [] => 0
  | d :: r => uptoBulk d + uptoBulkAll r
def uptoBulkEntries {H : Type} : List (Lit × DataW H) → Nat
  | [] => 0
  | x :: r => uptoBulkEntry x + uptoBulkEntries r
def uptoBulkEntry {H : Type} : Lit × DataW H → Nat
  | (.string bytes, d) => bytes.length + uptoBulk d + 1
  | (_, d) => uptoBulk d + 1
 end
def uptoSmall : (H : Type) → List (DataW H) → Bool := fun _ ds => decide (uptoBulkAll ds ≤ 1048576)
def OpenSpec.upto (s : _root_.Go.ChangeSpec) : _root_.Go.OpenSpec := { _root_.Go.OpenSpec.ofChange s with cond := some uptoSmall }

/-- 'mailcoachlaw18.DispatchTurns', WHERE WHAT IT READS IS OF BULK AT MOST 1048576: true; the input reads as it did. -/
def dispatchTurnsUptoRow : OpenClaim := { program := "ytiikaajopgjliaa", sum := "1b2ec5e78cc92a46e3a775f1d9c59cf4615c33d4f04533d5551760720fe329a2", func := "mailcoach/mailcoachlaw18.DispatchTurns", spec := "dispatchTurns", unfollowed := true, recurses := true, plainKeys := false, apart := false, narrowed := true }
def DispatchTurnsUptoSaid : Prop := dispatchTurnsUptoRow.holds Try.pinned (OpenSpec.upto dispatchTurnsSpec)

/-- 'mailcoachlaw18.DispatchPlays', WHERE WHAT IT READS IS OF BULK AT MOST 1048576: true; the input reads as it did. -/
def dispatchPlaysUptoRow : OpenClaim := { program := "ytiikaajopgjliaa", sum := "1b2ec5e78cc92a46e3a775f1d9c59cf4615c33d4f04533d5551760720fe329a2", func := "mailcoach/mailcoachlaw18.DispatchPlays", spec := "dispatchPlays", unfollowed := true, recurses := true, plainKeys := false, apart := false, narrowed := true }
def DispatchPlaysUptoSaid : Prop := dispatchPlaysUptoRow.holds Try.pinned (OpenSpec.upto dispatchPlaysSpec)

/-- 'mailcoachlaw18.DispatchFirst', WHERE WHAT IT READS IS OF BULK AT MOST 1048576: true; the input reads as it did. -/
def dispatchFirstUptoRow : OpenClaim := { program := "ytiikaajopgjliaa", sum := "1b2ec5e78cc92a46e3a775f1d9c59cf4615c33d4f04533d5551760720fe329a2", func := "mailcoach/mailcoachlaw18.DispatchFirst", spec := "dispatchFirst", unfollowed := true, recurses := true, plainKeys := false, apart := false, narrowed := true }
def DispatchFirstUptoSaid : Prop := dispatchFirstUptoRow.holds Try.pinned (OpenSpec.upto dispatchFirstSpec)

/-- 'mailcoachlaw18.DispatchKeys', WHERE WHAT IT READS IS OF BULK AT MOST 1048576: true; the input reads as it did. -/
def dispatchKeysUptoRow : OpenClaim := { program := "ytiikaajopgjliaa", sum := "1b2ec5e78cc92a46e3a775f1d9c59cf4615c33d4f04533d5551760720fe329a2", func := "mailcoach/mailcoachlaw18.DispatchKeys", spec := "dispatchKeys", unfollowed := true, recurses := true, plainKeys := false, apart := false, narrowed := true }
def DispatchKeysUptoSaid : Prop := dispatchKeysUptoRow.holds Try.pinned (OpenSpec.upto dispatchKeysSpec)

/-- 'mailcoachlaw18.DispatchPermits', WHERE WHAT IT READS IS OF BULK AT MOST 1048576: true; the input reads as it did. -/
def dispatchPermitsUptoRow : OpenClaim := { program := "ytiikaajopgjliaa", sum := "1b2ec5e78cc92a46e3a775f1d9c59cf4615c33d4f04533d5551760720fe329a2", func := "mailcoach/mailcoachlaw18.DispatchPermits", spec := "dispatchPermits", unfollowed := true, recurses := true, plainKeys := false, apart := false, narrowed := true }
def DispatchPermitsUptoSaid : Prop := dispatchPermitsUptoRow.holds Try.pinned (OpenSpec.upto dispatchPermitsSpec)

/-- 'mailcoachlaw18.DispatchNil', WHERE WHAT IT READS IS OF BULK AT MOST 1048576: true; the input reads as it did. -/
def dispatchNilUptoRow : OpenClaim := { program := "ytiikaajopgjliaa", sum := "1b2ec5e78cc92a46e3a775f1d9c59cf4615c33d4f04533d5551760720fe329a2", func := "mailcoach/mailcoachlaw18.DispatchNil", spec := "dispatchNil", unfollowed := true, recurses := true, plainKeys := false, apart := false, narrowed := true }
def DispatchNilUptoSaid : Prop := dispatchNilUptoRow.holds Try.pinned (OpenSpec.upto dispatchNilSpec)

/-- 'mailcoachlaw18.DispatchBack', WHERE WHAT IT READS IS OF BULK AT MOST 1048576: true; the input reads as it did. -/
def dispatchBackUptoRow : OpenClaim := { program := "ytiikaajopgjliaa", sum := "1b2ec5e78cc92a46e3a775f1d9c59cf4615c33d4f04533d5551760720fe329a2", func := "mailcoach/mailcoachlaw18.DispatchBack", spec := "dispatchBack", unfollowed := true, recurses := true, plainKeys := false, apart := false, narrowed := true }
def DispatchBackUptoSaid : Prop := dispatchBackUptoRow.holds Try.pinned (OpenSpec.upto dispatchBackSpec)

end Rows
end Go.Proofs.Ytiikaajopgjliaa
