/- Shifts. -/
import Derived.Test.YtclehoaeppbmpaaOP
namespace Go.Proofs.Ytclehoaeppbmpaa
set_option linter.unusedVariables false
set_option linter.unusedSimpArgs false
set_option linter.unusedSectionVars false
set_option linter.unnecessarySimpa false
open Go
variable {P : Program} {n : Nat} {F : Fr} {ty : TypeId}
theorem ps_shl {x y : Operand} {t u : TypeId} {k k2 : IntKind} {a b : Int} {m : Nat} (hx : ev F x = some (.int k a)) (hy : ev F y = some (.int k2 b)) (hb : 0 ≤ b) (hm : min b.toNat k.bits = m) :
    PS P n F (.binOp .shl t x y u) ty (.int k (k.wrap (a * 2 ^ m))) := by
  subst hm
  intro ac ha w dst pos af g
  simp [execOp, ha.ev hx, ha.ev hy, eqGuard, binOp, Op.shift, Int.not_lt.2 hb]
theorem ps_shr {x y : Operand} {t u : TypeId} {k k2 : IntKind} {a b : Int} {m : Nat} (hx : ev F x = some (.int k a)) (hy : ev F y = some (.int k2 b)) (hb : 0 ≤ b) (hm : min b.toNat k.bits = m) :
    PS P n F (.binOp .shr t x y u) ty (.int k (a.fdiv (2 ^ m))) := by
  subst hm
  intro ac ha w dst pos af g
  simp [execOp, ha.ev hx, ha.ev hy, eqGuard, binOp, Op.shift, Int.not_lt.2 hb]
end Go.Proofs.Ytclehoaeppbmpaa
