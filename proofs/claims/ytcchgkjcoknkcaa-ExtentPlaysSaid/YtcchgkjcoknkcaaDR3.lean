/- Bytes to a string in a region that draws its order, calls behind. -/
import Derived.Test.YtcchgkjcoknkcaaDR2
namespace Go.Proofs.Ytcchgkjcoknkcaa
set_option linter.unusedVariables false
set_option linter.unusedSimpArgs false
set_option linter.unusedSectionVars false
set_option linter.unnecessarySimpa false
open Go
section
variable {P : Program} [BS P] {W : World} {n : Nat} {F : Fr} {L LR : List HP} {Q : Exit → Act → World → Prop} {l : List Oper} {π : List Nat} {i : Nat}
variable {d : Nat} {ty : TypeId} {pos : String} {af : Array Edge}
end
end Go.Proofs.Ytcchgkjcoknkcaa
