/-
  No cell of these rows narrows 'for every input' (looked for: loops, veiled, ifaces, maps, wideKeys, modest, calm, conditions, laid).
  DERIVED. THE GIVEN ROWS OF THIS SEAT. 4 by the template 'for every input the law returns true; each argument reads behind the call as it read before'; 0 by the template 'total and deterministic' (their statements: YtgapgpknghnemaaTotals.lean).
  GIVEN WITH THE SEED: the statements are not yours to turn. If you find one false, say at which input.
  Laid BY PROGRAM, IN A SANDBOX (cutbox-rows.mjs): the forced cells as the released guide's own fill.sh prints them over the translation b7913610566d7287… (all of the seat's roots in one cut). By AI agents, Wed Nov 11 2026. No macro, syntax, notation, axiom, sorry.
-/
import Derived.Test.YtgapgpknghnemaaChecked
import GoSem.Claim
import GoSem.ClaimJoined
import GoSem.ClaimMapViews
import Derived.JoinedTies
import Derived.KernelRfl
namespace Go.Proofs.Ytgapgpknghnemaa
/- THE CELL 'sum', in the pinned program and in every row, IS THE sha256 OF THE DUMP (.gsa) THAT YtgapgpknghnemaaProg.lean LOADS. Nothing in Lean hashes anything: it is a label: what it is worth is what the hold of that sum in a sandbox is worth. -/
noncomputable def Try.pinned : Pinned := { name := "ytgapgpknghnemaa", sum := "b7913610566d7287470fafdf7232e8bb9325a144574faeeb539bf70e5659cc1c", checked := Try.checked }
namespace Rows
def none {H : Type} : Left H := { results := [], args := [] }

/-- 'granarylaw15.LockBoth': WHATEVER THE INPUT: true; the input reads as it did. -/
def lockBothSpec : ChangeSpec := { name := "lockBoth", fn := fun _ => fun
  | [d1, d2, d3, d4] => { results := [.lit (.bool true)], args := [d1, d2, d3, d4] }
  | _ => none }
def lockBothRow : OpenClaim := { program := "ytgapgpknghnemaa", sum := "b7913610566d7287470fafdf7232e8bb9325a144574faeeb539bf70e5659cc1c", func := "granary/granarylaw15.LockBoth", spec := "lockBoth", unfollowed := true, recurses := true, apart := false }
def LockBothSaid : Prop := lockBothRow.holds Try.pinned (OpenSpec.ofChange lockBothSpec)

/-- ITS FALSE NEIGHBOUR: 'it returns false'. Refute it at one input. -/
def lockBothWrong : ChangeSpec := { name := "lockBoth", fn := fun _ => fun
  | [d1, d2, d3, d4] => { results := [.lit (.bool false)], args := [d1, d2, d3, d4] }
  | _ => none }
def LockBothWrongFalsely : Prop := lockBothRow.holds Try.pinned (OpenSpec.ofChange lockBothWrong)

/-- 'granarylaw15.LockTurns': WHATEVER THE INPUT: true; the input reads as it did. -/
def lockTurnsSpec : ChangeSpec := { name := "lockTurns", fn := fun _ => fun
  | [d1, d2, d3, d4] => { results := [.lit (.bool true)], args := [d1, d2, d3, d4] }
  | _ => none }
def lockTurnsRow : OpenClaim := { program := "ytgapgpknghnemaa", sum := "b7913610566d7287470fafdf7232e8bb9325a144574faeeb539bf70e5659cc1c", func := "granary/granarylaw15.LockTurns", spec := "lockTurns", unfollowed := true, recurses := true, apart := false }
def LockTurnsSaid : Prop := lockTurnsRow.holds Try.pinned (OpenSpec.ofChange lockTurnsSpec)

/-- ITS FALSE NEIGHBOUR: 'it returns false'. Refute it at one input. -/
def lockTurnsWrong : ChangeSpec := { name := "lockTurns", fn := fun _ => fun
  | [d1, d2, d3, d4] => { results := [.lit (.bool false)], args := [d1, d2, d3, d4] }
  | _ => none }
def LockTurnsWrongFalsely : Prop := lockTurnsRow.holds Try.pinned (OpenSpec.ofChange lockTurnsWrong)

/-- 'granarylaw15.LockPlays': WHATEVER THE INPUT: true; the input reads as it did. -/
def lockPlaysSpec : ChangeSpec := { name := "lockPlays", fn := fun _ => fun
  | [d] => { results := [.lit (.bool true)], args := [d] }
  | _ => none }
def lockPlaysRow : OpenClaim := { program := "ytgapgpknghnemaa", sum := "b7913610566d7287470fafdf7232e8bb9325a144574faeeb539bf70e5659cc1c", func := "granary/granarylaw15.LockPlays", spec := "lockPlays", unfollowed := true, recurses := true, apart := false }
def LockPlaysSaid : Prop := lockPlaysRow.holds Try.pinned (OpenSpec.ofChange lockPlaysSpec)

/-- ITS FALSE NEIGHBOUR: 'it returns false'. Refute it at one input. -/
def lockPlaysWrong : ChangeSpec := { name := "lockPlays", fn := fun _ => fun
  | [d] => { results := [.lit (.bool false)], args := [d] }
  | _ => none }
def LockPlaysWrongFalsely : Prop := lockPlaysRow.holds Try.pinned (OpenSpec.ofChange lockPlaysWrong)

/-- 'granarylaw15.LockClash': WHATEVER THE INPUT: true; the input reads as it did. -/
def lockClashSpec : ChangeSpec := { name := "lockClash", fn := fun _ => fun
  | [d1, d2] => { results := [.lit (.bool true)], args := [d1, d2] }
  | _ => none }
def lockClashRow : OpenClaim := { program := "ytgapgpknghnemaa", sum := "b7913610566d7287470fafdf7232e8bb9325a144574faeeb539bf70e5659cc1c", func := "granary/granarylaw15.LockClash", spec := "lockClash", unfollowed := true, recurses := true, apart := false }
def LockClashSaid : Prop := lockClashRow.holds Try.pinned (OpenSpec.ofChange lockClashSpec)

/-- ITS FALSE NEIGHBOUR: 'it returns false'. Refute it at one input. -/
def lockClashWrong : ChangeSpec := { name := "lockClash", fn := fun _ => fun
  | [d1, d2] => { results := [.lit (.bool false)], args := [d1, d2] }
  | _ => none }
def LockClashWrongFalsely : Prop := lockClashRow.holds Try.pinned (OpenSpec.ofChange lockClashWrong)

/- THE SECOND FORM. 'bulk': how many values and letters a reading holds, each counted each time it is reached (what is shared counts as often as it is met; a slice's spare places count too). A statement '..UptoSaid' is the law's where the arguments, and the package variables that the reading takes, are together of bulk at most 1048576: NARROWER than '..Said'. Prove '..Said' where nothing that the law and all that it calls make is longer than what came in: it says more and counts as full. Else prove '..UptoSaid'. A law counts once. -/
mutual
def uptoBulk {H : Type} : DataW H → Nat
  | .lit (.string bytes) => bytes.length + 1
  | .lit _ => 1
  | .nil => 1
  | .ptr d => uptoBulk d + 1
  | .slice elems spare => uptoBulkAll elems + uptoBulkAll spare + 1
  | .agg parts => uptoBulkAll parts + 1
  | .iface _ d => uptoBulk d + 1
  | .map entries => uptoBulkEntries entries + 1
  | .held _ => 1
def uptoBulkAll {H : Type} : List (DataW H) → Nat
  | [] => 0
  | d :: r => uptoBulk d + uptoBulkAll r
def uptoBulkEntries {H : Type} : List (Lit × DataW H) → Nat
  | [] => 0
  | x :: r => uptoBulkEntry x + uptoBulkEntries r
def uptoBulkEntry {H : Type} : Lit × DataW H → Nat
  | (.string bytes, d) => bytes.length + uptoBulk d + 1
  | (_, d) => uptoBulk d + 1
 end
def uptoSmall : (H : Type) → List (DataW H) → Bool := fun _ ds => decide (uptoBulkAll ds ≤ 1048576)
def OpenSpec.upto (s : _root_.Go.ChangeSpec) : _root_.Go.OpenSpec := { _root_.Go.OpenSpec.ofChange s with cond := some uptoSmall }

/-- 'granarylaw15.LockBoth', WHERE WHAT IT READS IS OF BULK AT MOST 1048576: true; the input reads as it did. -/
def lockBothUptoRow : OpenClaim := { program := "ytgapgpknghnemaa", sum := "b7913610566d7287470fafdf7232e8bb9325a144574faeeb539bf70e5659cc1c", func := "granary/granarylaw15.LockBoth", spec := "lockBoth", unfollowed := true, recurses := true, apart := false, narrowed := true }
def LockBothUptoSaid : Prop := lockBothUptoRow.holds Try.pinned (OpenSpec.upto lockBothSpec)

/-- 'granarylaw15.LockTurns', WHERE WHAT IT READS IS OF BULK AT MOST 1048576: true; the input reads as it did. -/
def lockTurnsUptoRow : OpenClaim := { program := "ytgapgpknghnemaa", sum := "b7913610566d7287470fafdf7232e8bb9325a144574faeeb539bf70e5659cc1c", func := "granary/granarylaw15.LockTurns", spec := "lockTurns", unfollowed := true, recurses := true, apart := false, narrowed := true }
def LockTurnsUptoSaid : Prop := lockTurnsUptoRow.holds Try.pinned (OpenSpec.upto lockTurnsSpec)

/-- 'granarylaw15.LockPlays', WHERE WHAT IT READS IS OF BULK AT MOST 1048576: true; the input reads as it did. -/
def lockPlaysUptoRow : OpenClaim := { program := "ytgapgpknghnemaa", sum := "b7913610566d7287470fafdf7232e8bb9325a144574faeeb539bf70e5659cc1c", func := "granary/granarylaw15.LockPlays", spec := "lockPlays", unfollowed := true, recurses := true, apart := false, narrowed := true }
def LockPlaysUptoSaid : Prop := lockPlaysUptoRow.holds Try.pinned (OpenSpec.upto lockPlaysSpec)

/-- 'granarylaw15.LockClash', WHERE WHAT IT READS IS OF BULK AT MOST 1048576: true; the input reads as it did. -/
def lockClashUptoRow : OpenClaim := { program := "ytgapgpknghnemaa", sum := "b7913610566d7287470fafdf7232e8bb9325a144574faeeb539bf70e5659cc1c", func := "granary/granarylaw15.LockClash", spec := "lockClash", unfollowed := true, recurses := true, apart := false, narrowed := true }
def LockClashUptoSaid : Prop := lockClashUptoRow.holds Try.pinned (OpenSpec.upto lockClashSpec)

end Rows
end Go.Proofs.Ytgapgpknghnemaa
