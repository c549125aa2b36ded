/-
  No cell of these rows narrows 'for every input' (looked for: loops, veiled, ifaces, maps, wideKeys, modest, calm, conditions, laid).
  DERIVED. THE GIVEN ROWS OF THIS SEAT. 7 by the template 'for every input the law returns true; each argument reads behind the call as it read before'; 0 by the template 'total and deterministic' (their statements: YtdehkdmnddflhaaTotals.lean).
  GIVEN WITH THE SEED: the statements are not yours to turn. If you find one false, say at which input.
  Laid BY PROGRAM, IN A SANDBOX (cutbox-rows.mjs): the forced cells as the released guide's own fill.sh prints them over the translation 8d4bc89a59e169b0… (all of the seat's roots in one cut). By AI agents, Wed Nov 11 2026. No macro, syntax, notation, axiom, sorry.
-/
import Derived.Test.YtdehkdmnddflhaaChecked
import GoSem.Claim
import GoSem.ClaimJoined
import GoSem.ClaimMapViews
import Derived.JoinedTies
import Derived.KernelRfl
namespace Go.Proofs.Ytdehkdmnddflhaa
/- THE CELL 'sum', in the pinned program and in every row, IS THE sha256 OF THE DUMP (.gsa) THAT YtdehkdmnddflhaaProg.lean LOADS. Nothing in Lean hashes anything: it is a label: what it is worth is what the hold of that sum in a sandbox is worth. -/
noncomputable def Try.pinned : Pinned := { name := "ytdehkdmnddflhaa", sum := "8d4bc89a59e169b07838912612f2d722ef3fcfbbdb47f151283e3cd6ed5794ce", checked := Try.checked }
namespace Rows
def none {H : Type} : Left H := { results := [], args := [] }

/-- 'granarylaw05.WalApart': WHATEVER THE INPUT: true; the input reads as it did. -/
def walApartSpec : ChangeSpec := { name := "walApart", fn := fun _ => fun
  | [d1, d2] => { results := [.lit (.bool true)], args := [d1, d2] }
  | _ => none }
def walApartRow : OpenClaim := { program := "ytdehkdmnddflhaa", sum := "8d4bc89a59e169b07838912612f2d722ef3fcfbbdb47f151283e3cd6ed5794ce", func := "granary/granarylaw05.WalApart", spec := "walApart", apart := false }
def WalApartSaid : Prop := walApartRow.holds Try.pinned (OpenSpec.ofChange walApartSpec)

/-- ITS FALSE NEIGHBOUR: 'it returns false'. Refute it at one input. -/
def walApartWrong : ChangeSpec := { name := "walApart", fn := fun _ => fun
  | [d1, d2] => { results := [.lit (.bool false)], args := [d1, d2] }
  | _ => none }
def WalApartWrongFalsely : Prop := walApartRow.holds Try.pinned (OpenSpec.ofChange walApartWrong)

/-- 'granarylaw05.WalRing': WHATEVER THE INPUT: true; the input reads as it did. -/
def walRingSpec : ChangeSpec := { name := "walRing", fn := fun _ => fun
  | [d1, d2] => { results := [.lit (.bool true)], args := [d1, d2] }
  | _ => none }
def walRingRow : OpenClaim := { program := "ytdehkdmnddflhaa", sum := "8d4bc89a59e169b07838912612f2d722ef3fcfbbdb47f151283e3cd6ed5794ce", func := "granary/granarylaw05.WalRing", spec := "walRing", apart := false }
def WalRingSaid : Prop := walRingRow.holds Try.pinned (OpenSpec.ofChange walRingSpec)

/-- ITS FALSE NEIGHBOUR: 'it returns false'. Refute it at one input. -/
def walRingWrong : ChangeSpec := { name := "walRing", fn := fun _ => fun
  | [d1, d2] => { results := [.lit (.bool false)], args := [d1, d2] }
  | _ => none }
def WalRingWrongFalsely : Prop := walRingRow.holds Try.pinned (OpenSpec.ofChange walRingWrong)

/-- 'granarylaw05.WalRooms': WHATEVER THE INPUT: true; the input reads as it did. -/
def walRoomsSpec : ChangeSpec := { name := "walRooms", fn := fun _ => fun
  | [d1, d2] => { results := [.lit (.bool true)], args := [d1, d2] }
  | _ => none }
def walRoomsRow : OpenClaim := { program := "ytdehkdmnddflhaa", sum := "8d4bc89a59e169b07838912612f2d722ef3fcfbbdb47f151283e3cd6ed5794ce", func := "granary/granarylaw05.WalRooms", spec := "walRooms", apart := false }
def WalRoomsSaid : Prop := walRoomsRow.holds Try.pinned (OpenSpec.ofChange walRoomsSpec)

/-- ITS FALSE NEIGHBOUR: 'it returns false'. Refute it at one input. -/
def walRoomsWrong : ChangeSpec := { name := "walRooms", fn := fun _ => fun
  | [d1, d2] => { results := [.lit (.bool false)], args := [d1, d2] }
  | _ => none }
def WalRoomsWrongFalsely : Prop := walRoomsRow.holds Try.pinned (OpenSpec.ofChange walRoomsWrong)

/-- 'granarylaw05.WalHeads': WHATEVER THE INPUT: true; the input reads as it did. -/
def walHeadsSpec : ChangeSpec := { name := "walHeads", fn := fun _ => fun
  | [d1, d2] => { results := [.lit (.bool true)], args := [d1, d2] }
  | _ => none }
def walHeadsRow : OpenClaim := { program := "ytdehkdmnddflhaa", sum := "8d4bc89a59e169b07838912612f2d722ef3fcfbbdb47f151283e3cd6ed5794ce", func := "granary/granarylaw05.WalHeads", spec := "walHeads", apart := false }
def WalHeadsSaid : Prop := walHeadsRow.holds Try.pinned (OpenSpec.ofChange walHeadsSpec)

/-- ITS FALSE NEIGHBOUR: 'it returns false'. Refute it at one input. -/
def walHeadsWrong : ChangeSpec := { name := "walHeads", fn := fun _ => fun
  | [d1, d2] => { results := [.lit (.bool false)], args := [d1, d2] }
  | _ => none }
def WalHeadsWrongFalsely : Prop := walHeadsRow.holds Try.pinned (OpenSpec.ofChange walHeadsWrong)

/-- 'granarylaw05.WalPrefix': WHATEVER THE INPUT: true; the input reads as it did. -/
def walPrefixSpec : ChangeSpec := { name := "walPrefix", fn := fun _ => fun
  | [d] => { results := [.lit (.bool true)], args := [d] }
  | _ => none }
def walPrefixRow : OpenClaim := { program := "ytdehkdmnddflhaa", sum := "8d4bc89a59e169b07838912612f2d722ef3fcfbbdb47f151283e3cd6ed5794ce", func := "granary/granarylaw05.WalPrefix", spec := "walPrefix", apart := false }
def WalPrefixSaid : Prop := walPrefixRow.holds Try.pinned (OpenSpec.ofChange walPrefixSpec)

/-- ITS FALSE NEIGHBOUR: 'it returns false'. Refute it at one input. -/
def walPrefixWrong : ChangeSpec := { name := "walPrefix", fn := fun _ => fun
  | [d] => { results := [.lit (.bool false)], args := [d] }
  | _ => none }
def WalPrefixWrongFalsely : Prop := walPrefixRow.holds Try.pinned (OpenSpec.ofChange walPrefixWrong)

/-- 'granarylaw05.WalTrims': WHATEVER THE INPUT: true; the input reads as it did. -/
def walTrimsSpec : ChangeSpec := { name := "walTrims", fn := fun _ => fun
  | [d] => { results := [.lit (.bool true)], args := [d] }
  | _ => none }
def walTrimsRow : OpenClaim := { program := "ytdehkdmnddflhaa", sum := "8d4bc89a59e169b07838912612f2d722ef3fcfbbdb47f151283e3cd6ed5794ce", func := "granary/granarylaw05.WalTrims", spec := "walTrims", apart := false }
def WalTrimsSaid : Prop := walTrimsRow.holds Try.pinned (OpenSpec.ofChange walTrimsSpec)

/-- ITS FALSE NEIGHBOUR: 'it returns false'. Refute it at one input. -/
def walTrimsWrong : ChangeSpec := { name := "walTrims", fn := fun _ => fun
  | [d] => { results := [.lit (.bool false)], args := [d] }
  | _ => none }
def WalTrimsWrongFalsely : Prop := walTrimsRow.holds Try.pinned (OpenSpec.ofChange walTrimsWrong)

/-- 'granarylaw05.WalPlays': WHATEVER THE INPUT: true; the input reads as it did. -/
def walPlaysSpec : ChangeSpec := { name := "walPlays", fn := fun _ => fun
  | [d1, d2, d3, d4, d5, d6] => { results := [.lit (.bool true)], args := [d1, d2, d3, d4, d5, d6] }
  | _ => none }
def walPlaysRow : OpenClaim := { program := "ytdehkdmnddflhaa", sum := "8d4bc89a59e169b07838912612f2d722ef3fcfbbdb47f151283e3cd6ed5794ce", func := "granary/granarylaw05.WalPlays", spec := "walPlays", apart := false }
def WalPlaysSaid : Prop := walPlaysRow.holds Try.pinned (OpenSpec.ofChange walPlaysSpec)

/-- ITS FALSE NEIGHBOUR: 'it returns false'. Refute it at one input. -/
def walPlaysWrong : ChangeSpec := { name := "walPlays", fn := fun _ => fun
  | [d1, d2, d3, d4, d5, d6] => { results := [.lit (.bool false)], args := [d1, d2, d3, d4, d5, d6] }
  | _ => none }
def WalPlaysWrongFalsely : Prop := walPlaysRow.holds Try.pinned (OpenSpec.ofChange walPlaysWrong)

/- THE SECOND FORM. 'bulk': how many values and letters a reading holds, each counted each time it is reached (what is shared counts as often as it is met; a slice's spare places count too). A statement '..UptoSaid' is the law's where the arguments, and the package variables that the reading takes, are together of bulk at most 1048576: NARROWER than '..Said'. Prove '..Said' where nothing that the law and all that it calls make is longer than what came in: it says more and counts as full. Else prove '..UptoSaid'. A law counts once. -/
mutual
def uptoBulk {H : Type} : DataW H → Nat
  | .lit (.string bytes) => bytes.length + 1
  | .lit _ => 1
  | .nil => 1
  | .ptr d => uptoBulk d + 1
  | .slice elems spare => uptoBulkAll elems + uptoBulkAll spare + 1
  | .agg parts => uptoBulkAll parts + 1
  | .iface _ d => uptoBulk d + 1
  | .map entries => uptoBulkEntries entries + 1
  | .held _ => 1
def uptoBulkAll {H : Type} : List (DataW H) → Nat
  | [] => 0
  | d :: r => uptoBulk d + uptoBulkAll r
def uptoBulkEntries {H : Type} : List (Lit × DataW H) → Nat
  | [] => 0
  | x :: r => uptoBulkEntry x + uptoBulkEntries r
def uptoBulkEntry {H : Type} : Lit × DataW H → Nat
  | (.string bytes, d) => bytes.length + uptoBulk d + 1
  | (_, d) => uptoBulk d + 1
 end
def uptoSmall : (H : Type) → List (DataW H) → Bool := fun _ ds => decide (uptoBulkAll ds ≤ 1048576)
def OpenSpec.upto (s : _root_.Go.ChangeSpec) : _root_.Go.OpenSpec := { _root_.Go.OpenSpec.ofChange s with cond := some uptoSmall }

/-- 'granarylaw05.WalApart', WHERE WHAT IT READS IS OF BULK AT MOST 1048576: true; the input reads as it did. -/
def walApartUptoRow : OpenClaim := { program := "ytdehkdmnddflhaa", sum := "8d4bc89a59e169b07838912612f2d722ef3fcfbbdb47f151283e3cd6ed5794ce", func := "granary/granarylaw05.WalApart", spec := "walApart", apart := false, narrowed := true }
def WalApartUptoSaid : Prop := walApartUptoRow.holds Try.pinned (OpenSpec.upto walApartSpec)

/-- 'granarylaw05.WalRing', WHERE WHAT IT READS IS OF BULK AT MOST 1048576: true; the input reads as it did. -/
def walRingUptoRow : OpenClaim := { program := "ytdehkdmnddflhaa", sum := "8d4bc89a59e169b07838912612f2d722ef3fcfbbdb47f151283e3cd6ed5794ce", func := "granary/granarylaw05.WalRing", spec := "walRing", apart := false, narrowed := true }
def WalRingUptoSaid : Prop := walRingUptoRow.holds Try.pinned (OpenSpec.upto walRingSpec)

/-- 'granarylaw05.WalRooms', WHERE WHAT IT READS IS OF BULK AT MOST 1048576: true; the input reads as it did. -/
def walRoomsUptoRow : OpenClaim := { program := "ytdehkdmnddflhaa", sum := "8d4bc89a59e169b07838912612f2d722ef3fcfbbdb47f151283e3cd6ed5794ce", func := "granary/granarylaw05.WalRooms", spec := "walRooms", apart := false, narrowed := true }
def WalRoomsUptoSaid : Prop := walRoomsUptoRow.holds Try.pinned (OpenSpec.upto walRoomsSpec)

/-- 'granarylaw05.WalHeads', WHERE WHAT IT READS IS OF BULK AT MOST 1048576: true; the input reads as it did. -/
def walHeadsUptoRow : OpenClaim := { program := "ytdehkdmnddflhaa", sum := "8d4bc89a59e169b07838912612f2d722ef3fcfbbdb47f151283e3cd6ed5794ce", func := "granary/granarylaw05.WalHeads", spec := "walHeads", apart := false, narrowed := true }
def WalHeadsUptoSaid : Prop := walHeadsUptoRow.holds Try.pinned (OpenSpec.upto walHeadsSpec)

/-- 'granarylaw05.WalPrefix', WHERE WHAT IT READS IS OF BULK AT MOST 1048576: true; the input reads as it did. -/
def walPrefixUptoRow : OpenClaim := { program := "ytdehkdmnddflhaa", sum := "8d4bc89a59e169b07838912612f2d722ef3fcfbbdb47f151283e3cd6ed5794ce", func := "granary/granarylaw05.WalPrefix", spec := "walPrefix", apart := false, narrowed := true }
def WalPrefixUptoSaid : Prop := walPrefixUptoRow.holds Try.pinned (OpenSpec.upto walPrefixSpec)

/-- 'granarylaw05.WalTrims', WHERE WHAT IT READS IS OF BULK AT MOST 1048576: true; the input reads as it did. -/
def walTrimsUptoRow : OpenClaim := { program := "ytdehkdmnddflhaa", sum := "8d4bc89a59e169b07838912612f2d722ef3fcfbbdb47f151283e3cd6ed5794ce", func := "granary/granarylaw05.WalTrims", spec := "walTrims", apart := false, narrowed := true }
def WalTrimsUptoSaid : Prop := walTrimsUptoRow.holds Try.pinned (OpenSpec.upto walTrimsSpec)

/-- 'granarylaw05.WalPlays', WHERE WHAT IT READS IS OF BULK AT MOST 1048576: true; the input reads as it did. -/
def walPlaysUptoRow : OpenClaim := { program := "ytdehkdmnddflhaa", sum := "8d4bc89a59e169b07838912612f2d722ef3fcfbbdb47f151283e3cd6ed5794ce", func := "granary/granarylaw05.WalPlays", spec := "walPlays", apart := false, narrowed := true }
def WalPlaysUptoSaid : Prop := walPlaysUptoRow.holds Try.pinned (OpenSpec.upto walPlaysSpec)

end Rows
end Go.Proofs.Ytdehkdmnddflhaa
