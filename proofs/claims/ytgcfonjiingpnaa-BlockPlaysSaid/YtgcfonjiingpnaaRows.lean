/-
  No cell of these rows narrows 'for every input' (looked for: loops, veiled, ifaces, maps, wideKeys, modest, calm, conditions, laid).
  DERIVED. THE GIVEN ROWS OF THIS SEAT. 5 by the template 'for every input the law returns true; each argument reads behind the call as it read before'; 0 by the template 'total and deterministic' (their statements: YtgcfonjiingpnaaTotals.lean).
  GIVEN WITH THE SEED: the statements are not yours to turn. If you find one false, say at which input.
  Laid BY PROGRAM, IN A SANDBOX (cutbox-rows.mjs): the forced cells as the released guide's own fill.sh prints them over the translation 82c46660ab7b8564… (all of the seat's roots in one cut). By AI agents, Wed Nov 11 2026. No macro, syntax, notation, axiom, sorry.
-/
import Derived.Test.YtgcfonjiingpnaaChecked
import GoSem.Claim
import GoSem.ClaimJoined
import GoSem.ClaimMapViews
import Derived.JoinedTies
import Derived.KernelRfl
namespace Go.Proofs.Ytgcfonjiingpnaa
/- THE CELL 'sum', in the pinned program and in every row, IS THE sha256 OF THE DUMP (.gsa) THAT YtgcfonjiingpnaaProg.lean LOADS. Nothing in Lean hashes anything: it is a label: what it is worth is what the hold of that sum in a sandbox is worth. -/
noncomputable def Try.pinned : Pinned := { name := "ytgcfonjiingpnaa", sum := "82c46660ab7b856482ada24ff209352968465dbd70f874b9b630f89c1de4cb7b", checked := Try.checked }
namespace Rows
def none {H : Type} : Left H := { results := [], args := [] }

/-- 'granarylaw03.BlockAlone': WHATEVER THE INPUT: true; the input reads as it did. -/
def blockAloneSpec : ChangeSpec := { name := "blockAlone", fn := fun _ => fun
  | [d1, d2, d3] => { results := [.lit (.bool true)], args := [d1, d2, d3] }
  | _ => none }
def blockAloneRow : OpenClaim := { program := "ytgcfonjiingpnaa", sum := "82c46660ab7b856482ada24ff209352968465dbd70f874b9b630f89c1de4cb7b", func := "granary/granarylaw03.BlockAlone", spec := "blockAlone", apart := false }
def BlockAloneSaid : Prop := blockAloneRow.holds Try.pinned (OpenSpec.ofChange blockAloneSpec)

/-- ITS FALSE NEIGHBOUR: 'it returns false'. Refute it at one input. -/
def blockAloneWrong : ChangeSpec := { name := "blockAlone", fn := fun _ => fun
  | [d1, d2, d3] => { results := [.lit (.bool false)], args := [d1, d2, d3] }
  | _ => none }
def BlockAloneWrongFalsely : Prop := blockAloneRow.holds Try.pinned (OpenSpec.ofChange blockAloneWrong)

/-- 'granarylaw03.BlockCounts': WHATEVER THE INPUT: true; the input reads as it did. -/
def blockCountsSpec : ChangeSpec := { name := "blockCounts", fn := fun _ => fun
  | [d] => { results := [.lit (.bool true)], args := [d] }
  | _ => none }
def blockCountsRow : OpenClaim := { program := "ytgcfonjiingpnaa", sum := "82c46660ab7b856482ada24ff209352968465dbd70f874b9b630f89c1de4cb7b", func := "granary/granarylaw03.BlockCounts", spec := "blockCounts", apart := false }
def BlockCountsSaid : Prop := blockCountsRow.holds Try.pinned (OpenSpec.ofChange blockCountsSpec)

/-- ITS FALSE NEIGHBOUR: 'it returns false'. Refute it at one input. -/
def blockCountsWrong : ChangeSpec := { name := "blockCounts", fn := fun _ => fun
  | [d] => { results := [.lit (.bool false)], args := [d] }
  | _ => none }
def BlockCountsWrongFalsely : Prop := blockCountsRow.holds Try.pinned (OpenSpec.ofChange blockCountsWrong)

/-- 'granarylaw03.BlockBack': WHATEVER THE INPUT: true; the input reads as it did. -/
def blockBackSpec : ChangeSpec := { name := "blockBack", fn := fun _ => fun
  | [d1, d2, d3, d4] => { results := [.lit (.bool true)], args := [d1, d2, d3, d4] }
  | _ => none }
def blockBackRow : OpenClaim := { program := "ytgcfonjiingpnaa", sum := "82c46660ab7b856482ada24ff209352968465dbd70f874b9b630f89c1de4cb7b", func := "granary/granarylaw03.BlockBack", spec := "blockBack", apart := false }
def BlockBackSaid : Prop := blockBackRow.holds Try.pinned (OpenSpec.ofChange blockBackSpec)

/-- ITS FALSE NEIGHBOUR: 'it returns false'. Refute it at one input. -/
def blockBackWrong : ChangeSpec := { name := "blockBack", fn := fun _ => fun
  | [d1, d2, d3, d4] => { results := [.lit (.bool false)], args := [d1, d2, d3, d4] }
  | _ => none }
def BlockBackWrongFalsely : Prop := blockBackRow.holds Try.pinned (OpenSpec.ofChange blockBackWrong)

/-- 'granarylaw03.BlockPlays': WHATEVER THE INPUT: true; the input reads as it did. -/
def blockPlaysSpec : ChangeSpec := { name := "blockPlays", fn := fun _ => fun
  | [d1, d2] => { results := [.lit (.bool true)], args := [d1, d2] }
  | _ => none }
def blockPlaysRow : OpenClaim := { program := "ytgcfonjiingpnaa", sum := "82c46660ab7b856482ada24ff209352968465dbd70f874b9b630f89c1de4cb7b", func := "granary/granarylaw03.BlockPlays", spec := "blockPlays", apart := false }
def BlockPlaysSaid : Prop := blockPlaysRow.holds Try.pinned (OpenSpec.ofChange blockPlaysSpec)

/-- ITS FALSE NEIGHBOUR: 'it returns false'. Refute it at one input. -/
def blockPlaysWrong : ChangeSpec := { name := "blockPlays", fn := fun _ => fun
  | [d1, d2] => { results := [.lit (.bool false)], args := [d1, d2] }
  | _ => none }
def BlockPlaysWrongFalsely : Prop := blockPlaysRow.holds Try.pinned (OpenSpec.ofChange blockPlaysWrong)

/-- 'granarylaw03.BlockTorn': WHATEVER THE INPUT: true; the input reads as it did. -/
def blockTornSpec : ChangeSpec := { name := "blockTorn", fn := fun _ => fun
  | [d1, d2, d3, d4] => { results := [.lit (.bool true)], args := [d1, d2, d3, d4] }
  | _ => none }
def blockTornRow : OpenClaim := { program := "ytgcfonjiingpnaa", sum := "82c46660ab7b856482ada24ff209352968465dbd70f874b9b630f89c1de4cb7b", func := "granary/granarylaw03.BlockTorn", spec := "blockTorn", apart := false }
def BlockTornSaid : Prop := blockTornRow.holds Try.pinned (OpenSpec.ofChange blockTornSpec)

/-- ITS FALSE NEIGHBOUR: 'it returns false'. Refute it at one input. -/
def blockTornWrong : ChangeSpec := { name := "blockTorn", fn := fun _ => fun
  | [d1, d2, d3, d4] => { results := [.lit (.bool false)], args := [d1, d2, d3, d4] }
  | _ => none }
def BlockTornWrongFalsely : Prop := blockTornRow.holds Try.pinned (OpenSpec.ofChange blockTornWrong)

/- THE SECOND FORM. 'bulk': how many values and letters a reading holds, each counted each time it is reached (what is shared counts as often as it is met; a slice's spare places count too). A statement '..UptoSaid' is the law's where the arguments, and the package variables that the reading takes, are together of bulk at most 1048576: NARROWER than '..Said'. Prove '..Said' where nothing that the law and all that it calls make is longer than what came in: it says more and counts as full. Else prove '..UptoSaid'. A law counts once. -/
mutual
def uptoBulk {H : Type} : DataW H → Nat
  | .lit (.string bytes) => bytes.length + 1
  | .lit _ => 1
  | .nil => 1
  | .ptr d => uptoBulk d + 1
  | .slice elems spare => uptoBulkAll elems + uptoBulkAll spare + 1
  | .agg parts => uptoBulkAll parts + 1
  | .iface _ d => uptoBulk d + 1
  | .map entries => uptoBulkEntries entries + 1
  | .held _ => 1
def uptoBulkAll {H : Type} : List (DataW H) → Nat
  | [] => 0
  | d :: r => uptoBulk d + uptoBulkAll r
def uptoBulkEntries {H : Type} : List (Lit × DataW H) → Nat
  | [] => 0
  | x :: r => uptoBulkEntry x + uptoBulkEntries r
def uptoBulkEntry {H : Type} : Lit × DataW H → Nat
  | (.string bytes, d) => bytes.length + uptoBulk d + 1
  | (_, d) => uptoBulk d + 1
 end
def uptoSmall : (H : Type) → List (DataW H) → Bool := fun _ ds => decide (uptoBulkAll ds ≤ 1048576)
def OpenSpec.upto (s : _root_.Go.ChangeSpec) : _root_.Go.OpenSpec := { _root_.Go.OpenSpec.ofChange s with cond := some uptoSmall }

/-- 'granarylaw03.BlockAlone', WHERE WHAT IT READS IS OF BULK AT MOST 1048576: true; the input reads as it did. -/
def blockAloneUptoRow : OpenClaim := { program := "ytgcfonjiingpnaa", sum := "82c46660ab7b856482ada24ff209352968465dbd70f874b9b630f89c1de4cb7b", func := "granary/granarylaw03.BlockAlone", spec := "blockAlone", apart := false, narrowed := true }
def BlockAloneUptoSaid : Prop := blockAloneUptoRow.holds Try.pinned (OpenSpec.upto blockAloneSpec)

/-- 'granarylaw03.BlockCounts', WHERE WHAT IT READS IS OF BULK AT MOST 1048576: true; the input reads as it did. -/
def blockCountsUptoRow : OpenClaim := { program := "ytgcfonjiingpnaa", sum := "82c46660ab7b856482ada24ff209352968465dbd70f874b9b630f89c1de4cb7b", func := "granary/granarylaw03.BlockCounts", spec := "blockCounts", apart := false, narrowed := true }
def BlockCountsUptoSaid : Prop := blockCountsUptoRow.holds Try.pinned (OpenSpec.upto blockCountsSpec)

/-- 'granarylaw03.BlockBack', WHERE WHAT IT READS IS OF BULK AT MOST 1048576: true; the input reads as it did. -/
def blockBackUptoRow : OpenClaim := { program := "ytgcfonjiingpnaa", sum := "82c46660ab7b856482ada24ff209352968465dbd70f874b9b630f89c1de4cb7b", func := "granary/granarylaw03.BlockBack", spec := "blockBack", apart := false, narrowed := true }
def BlockBackUptoSaid : Prop := blockBackUptoRow.holds Try.pinned (OpenSpec.upto blockBackSpec)

/-- 'granarylaw03.BlockPlays', WHERE WHAT IT READS IS OF BULK AT MOST 1048576: true; the input reads as it did. -/
def blockPlaysUptoRow : OpenClaim := { program := "ytgcfonjiingpnaa", sum := "82c46660ab7b856482ada24ff209352968465dbd70f874b9b630f89c1de4cb7b", func := "granary/granarylaw03.BlockPlays", spec := "blockPlays", apart := false, narrowed := true }
def BlockPlaysUptoSaid : Prop := blockPlaysUptoRow.holds Try.pinned (OpenSpec.upto blockPlaysSpec)

/-- 'granarylaw03.BlockTorn', WHERE WHAT IT READS IS OF BULK AT MOST 1048576: true; the input reads as it did. -/
def blockTornUptoRow : OpenClaim := { program := "ytgcfonjiingpnaa", sum := "82c46660ab7b856482ada24ff209352968465dbd70f874b9b630f89c1de4cb7b", func := "granary/granarylaw03.BlockTorn", spec := "blockTorn", apart := false, narrowed := true }
def BlockTornUptoSaid : Prop := blockTornUptoRow.holds Try.pinned (OpenSpec.upto blockTornSpec)

end Rows
end Go.Proofs.Ytgcfonjiingpnaa
