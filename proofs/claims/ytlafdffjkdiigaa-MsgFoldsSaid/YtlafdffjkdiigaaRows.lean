/-
  No cell of these rows narrows 'for every input' (looked for: loops, veiled, ifaces, maps, wideKeys, modest, calm, conditions, laid).
  DERIVED. THE GIVEN ROWS OF THIS SEAT. 5 by the template 'for every input the law returns true; each argument reads behind the call as it read before'; 0 by the template 'total and deterministic' (their statements: YtlafdffjkdiigaaTotals.lean).
  GIVEN WITH THE SEED: the statements are not yours to turn. If you find one false, say at which input.
  Laid BY PROGRAM, IN A SANDBOX (cutbox-rows.mjs): the forced cells as the released guide's own fill.sh prints them over the translation dd5ca1cdc7f3c4b4… (all of the seat's roots in one cut). By AI agents, Wed Nov 11 2026. No macro, syntax, notation, axiom, sorry.
-/
import Derived.Test.YtlafdffjkdiigaaChecked
import GoSem.Claim
import GoSem.ClaimJoined
import GoSem.ClaimMapViews
import Derived.JoinedTies
import Derived.KernelRfl
namespace Go.Proofs.Ytlafdffjkdiigaa
/- THE CELL 'sum', in the pinned program and in every row, IS THE sha256 OF THE DUMP (.gsa) THAT YtlafdffjkdiigaaProg.lean LOADS. Nothing in Lean hashes anything: it is a label: what it is worth is what the hold of that sum in a sandbox is worth. -/
noncomputable def Try.pinned : Pinned := { name := "ytlafdffjkdiigaa", sum := "dd5ca1cdc7f3c4b4efa946a8af07f6bf2655d7d2326793e570d0d1eef7b1e0df", checked := Try.checked }
namespace Rows
def none {H : Type} : Left H := { results := [], args := [] }

/-- 'granarylaw09.MsgEnds': WHATEVER THE INPUT: true; the input reads as it did. -/
def msgEndsSpec : ChangeSpec := { name := "msgEnds", fn := fun _ => fun
  | [d1, d2, d3, d4] => { results := [.lit (.bool true)], args := [d1, d2, d3, d4] }
  | _ => none }
def msgEndsRow : OpenClaim := { program := "ytlafdffjkdiigaa", sum := "dd5ca1cdc7f3c4b4efa946a8af07f6bf2655d7d2326793e570d0d1eef7b1e0df", func := "granary/granarylaw09.MsgEnds", spec := "msgEnds", unfollowed := true, recurses := true, apart := false }
def MsgEndsSaid : Prop := msgEndsRow.holds Try.pinned (OpenSpec.ofChange msgEndsSpec)

/-- ITS FALSE NEIGHBOUR: 'it returns false'. Refute it at one input. -/
def msgEndsWrong : ChangeSpec := { name := "msgEnds", fn := fun _ => fun
  | [d1, d2, d3, d4] => { results := [.lit (.bool false)], args := [d1, d2, d3, d4] }
  | _ => none }
def MsgEndsWrongFalsely : Prop := msgEndsRow.holds Try.pinned (OpenSpec.ofChange msgEndsWrong)

/-- 'granarylaw09.MsgGrows': WHATEVER THE INPUT: true; the input reads as it did. -/
def msgGrowsSpec : ChangeSpec := { name := "msgGrows", fn := fun _ => fun
  | [d1, d2, d3, d4, d5] => { results := [.lit (.bool true)], args := [d1, d2, d3, d4, d5] }
  | _ => none }
def msgGrowsRow : OpenClaim := { program := "ytlafdffjkdiigaa", sum := "dd5ca1cdc7f3c4b4efa946a8af07f6bf2655d7d2326793e570d0d1eef7b1e0df", func := "granary/granarylaw09.MsgGrows", spec := "msgGrows", unfollowed := true, recurses := true, apart := false }
def MsgGrowsSaid : Prop := msgGrowsRow.holds Try.pinned (OpenSpec.ofChange msgGrowsSpec)

/-- ITS FALSE NEIGHBOUR: 'it returns false'. Refute it at one input. -/
def msgGrowsWrong : ChangeSpec := { name := "msgGrows", fn := fun _ => fun
  | [d1, d2, d3, d4, d5] => { results := [.lit (.bool false)], args := [d1, d2, d3, d4, d5] }
  | _ => none }
def MsgGrowsWrongFalsely : Prop := msgGrowsRow.holds Try.pinned (OpenSpec.ofChange msgGrowsWrong)

/-- 'granarylaw09.MsgViews': WHATEVER THE INPUT: true; the input reads as it did. -/
def msgViewsSpec : ChangeSpec := { name := "msgViews", fn := fun _ => fun
  | [d1, d2, d3] => { results := [.lit (.bool true)], args := [d1, d2, d3] }
  | _ => none }
def msgViewsRow : OpenClaim := { program := "ytlafdffjkdiigaa", sum := "dd5ca1cdc7f3c4b4efa946a8af07f6bf2655d7d2326793e570d0d1eef7b1e0df", func := "granary/granarylaw09.MsgViews", spec := "msgViews", unfollowed := true, recurses := true, apart := false }
def MsgViewsSaid : Prop := msgViewsRow.holds Try.pinned (OpenSpec.ofChange msgViewsSpec)

/-- ITS FALSE NEIGHBOUR: 'it returns false'. Refute it at one input. -/
def msgViewsWrong : ChangeSpec := { name := "msgViews", fn := fun _ => fun
  | [d1, d2, d3] => { results := [.lit (.bool false)], args := [d1, d2, d3] }
  | _ => none }
def MsgViewsWrongFalsely : Prop := msgViewsRow.holds Try.pinned (OpenSpec.ofChange msgViewsWrong)

/-- 'granarylaw09.MsgLast': WHATEVER THE INPUT: true; the input reads as it did. -/
def msgLastSpec : ChangeSpec := { name := "msgLast", fn := fun _ => fun
  | [d1, d2, d3] => { results := [.lit (.bool true)], args := [d1, d2, d3] }
  | _ => none }
def msgLastRow : OpenClaim := { program := "ytlafdffjkdiigaa", sum := "dd5ca1cdc7f3c4b4efa946a8af07f6bf2655d7d2326793e570d0d1eef7b1e0df", func := "granary/granarylaw09.MsgLast", spec := "msgLast", unfollowed := true, recurses := true, apart := false }
def MsgLastSaid : Prop := msgLastRow.holds Try.pinned (OpenSpec.ofChange msgLastSpec)

/-- ITS FALSE NEIGHBOUR: 'it returns false'. Refute it at one input. -/
def msgLastWrong : ChangeSpec := { name := "msgLast", fn := fun _ => fun
  | [d1, d2, d3] => { results := [.lit (.bool false)], args := [d1, d2, d3] }
  | _ => none }
def MsgLastWrongFalsely : Prop := msgLastRow.holds Try.pinned (OpenSpec.ofChange msgLastWrong)

/-- 'granarylaw09.MsgFolds': WHATEVER THE INPUT: true; the input reads as it did. -/
def msgFoldsSpec : ChangeSpec := { name := "msgFolds", fn := fun _ => fun
  | [d1, d2, d3] => { results := [.lit (.bool true)], args := [d1, d2, d3] }
  | _ => none }
def msgFoldsRow : OpenClaim := { program := "ytlafdffjkdiigaa", sum := "dd5ca1cdc7f3c4b4efa946a8af07f6bf2655d7d2326793e570d0d1eef7b1e0df", func := "granary/granarylaw09.MsgFolds", spec := "msgFolds", unfollowed := true, recurses := true, apart := false }
def MsgFoldsSaid : Prop := msgFoldsRow.holds Try.pinned (OpenSpec.ofChange msgFoldsSpec)

/-- ITS FALSE NEIGHBOUR: 'it returns false'. Refute it at one input. -/
def msgFoldsWrong : ChangeSpec := { name := "msgFolds", fn := fun _ => fun
  | [d1, d2, d3] => { results := [.lit (.bool false)], args := [d1, d2, d3] }
  | _ => none }
def MsgFoldsWrongFalsely : Prop := msgFoldsRow.holds Try.pinned (OpenSpec.ofChange msgFoldsWrong)

/- THE SECOND FORM. 'bulk': how many values and letters a reading holds, each counted each time it is reached (what is shared counts as often as it is met; a slice's spare places count too). A statement '..UptoSaid' is the law's where the arguments, and the package variables that the reading takes, are together of bulk at most 1048576: NARROWER than '..Said'. Prove '..Said' where nothing that the law and all that it calls make is longer than what came in: it says more and counts as full. Else prove '..UptoSaid'. A law counts once. -/
mutual
def uptoBulk {H : Type} : DataW H → Nat
  | .lit (.string bytes) => bytes.length + 1
  | .lit _ => 1
  | .nil => 1
  | .ptr d => uptoBulk d + 1
  | .slice elems spare => uptoBulkAll elems + uptoBulkAll spare + 1
  | .agg parts => uptoBulkAll parts + 1
  | .iface _ d => uptoBulk d + 1
  | .map entries => uptoBulkEntries entries + 1
  | .held _ => 1
def uptoBulkAll {H : Type} : List (DataW H) → Nat
  | [] => 0
  | d :: r => uptoBulk d + uptoBulkAll r
def uptoBulkEntries {H : Type} : List (Lit × DataW H) → Nat
  | [] => 0
  | x :: r => uptoBulkEntry x + uptoBulkEntries r
def uptoBulkEntry {H : Type} : Lit × DataW H → Nat
  | (.string bytes, d) => bytes.length + uptoBulk d + 1
  | (_, d) => uptoBulk d + 1
 end
def uptoSmall : (H : Type) → List (DataW H) → Bool := fun _ ds => decide (uptoBulkAll ds ≤ 1048576)
def OpenSpec.upto (s : _root_.Go.ChangeSpec) : _root_.Go.OpenSpec := { _root_.Go.OpenSpec.ofChange s with cond := some uptoSmall }

/-- 'granarylaw09.MsgEnds', WHERE WHAT IT READS IS OF BULK AT MOST 1048576: true; the input reads as it did. -/
def msgEndsUptoRow : OpenClaim := { program := "ytlafdffjkdiigaa", sum := "dd5ca1cdc7f3c4b4efa946a8af07f6bf2655d7d2326793e570d0d1eef7b1e0df", func := "granary/granarylaw09.MsgEnds", spec := "msgEnds", unfollowed := true, recurses := true, apart := false, narrowed := true }
def MsgEndsUptoSaid : Prop := msgEndsUptoRow.holds Try.pinned (OpenSpec.upto msgEndsSpec)

/-- 'granarylaw09.MsgGrows', WHERE WHAT IT READS IS OF BULK AT MOST 1048576: true; the input reads as it did. -/
def msgGrowsUptoRow : OpenClaim := { program := "ytlafdffjkdiigaa", sum := "dd5ca1cdc7f3c4b4efa946a8af07f6bf2655d7d2326793e570d0d1eef7b1e0df", func := "granary/granarylaw09.MsgGrows", spec := "msgGrows", unfollowed := true, recurses := true, apart := false, narrowed := true }
def MsgGrowsUptoSaid : Prop := msgGrowsUptoRow.holds Try.pinned (OpenSpec.upto msgGrowsSpec)

/-- 'granarylaw09.MsgViews', WHERE WHAT IT READS IS OF BULK AT MOST 1048576: true; the input reads as it did. -/
def msgViewsUptoRow : OpenClaim := { program := "ytlafdffjkdiigaa", sum := "dd5ca1cdc7f3c4b4efa946a8af07f6bf2655d7d2326793e570d0d1eef7b1e0df", func := "granary/granarylaw09.MsgViews", spec := "msgViews", unfollowed := true, recurses := true, apart := false, narrowed := true }
def MsgViewsUptoSaid : Prop := msgViewsUptoRow.holds Try.pinned (OpenSpec.upto msgViewsSpec)

/-- 'granarylaw09.MsgLast', WHERE WHAT IT READS IS OF BULK AT MOST 1048576: true; the input reads as it did. -/
def msgLastUptoRow : OpenClaim := { program := "ytlafdffjkdiigaa", sum := "dd5ca1cdc7f3c4b4efa946a8af07f6bf2655d7d2326793e570d0d1eef7b1e0df", func := "granary/granarylaw09.MsgLast", spec := "msgLast", unfollowed := true, recurses := true, apart := false, narrowed := true }
def MsgLastUptoSaid : Prop := msgLastUptoRow.holds Try.pinned (OpenSpec.upto msgLastSpec)

/-- 'granarylaw09.MsgFolds', WHERE WHAT IT READS IS OF BULK AT MOST 1048576: true; the input reads as it did. -/
def msgFoldsUptoRow : OpenClaim := { program := "ytlafdffjkdiigaa", sum := "dd5ca1cdc7f3c4b4efa946a8af07f6bf2655d7d2326793e570d0d1eef7b1e0df", func := "granary/granarylaw09.MsgFolds", spec := "msgFolds", unfollowed := true, recurses := true, apart := false, narrowed := true }
def MsgFoldsUptoSaid : Prop := msgFoldsUptoRow.holds Try.pinned (OpenSpec.upto msgFoldsSpec)

end Rows
end Go.Proofs.Ytlafdffjkdiigaa
