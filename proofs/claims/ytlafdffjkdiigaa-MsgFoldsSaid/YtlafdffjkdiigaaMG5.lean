/- Package msg: Apply as a whole. -/
import Derived.Test.YtlafdffjkdiigaaMG4
import Derived.Test.YtlafdffjkdiigaaMEQ
namespace Go.Proofs.Ytlafdffjkdiigaa
set_option linter.unusedVariables false
set_option linter.unusedSimpArgs false
set_option linter.unusedSectionVars false
set_option linter.unnecessarySimpa false
open Go Go.Proofs
set_option maxRecDepth 20000
set_option maxHeartbeats 4000000
attribute [local irreducible] SG WC WO W1 WD WK PS Rd Tri Exit.then Exit.inBlock bodyPost calmQ Mid sadd
variable {W : World} {n : Nat} {F : Fr} {L : List HP} {G : Act → World → Prop}
structure MS.ok (m : MS) : Prop where
  k : m.key.length ≤ big
  v : m.val.length ≤ big
  t : 0 ≤ m.txn ∧ m.txn ≤ 18446744073709551615
  o : m.off ≤ 9223372036854775807
def EN.apply (e : EN) (m : MS) : EN :=
  if m.kind = 1 then applyW e m (fun _ => ⟨true, m.val⟩)
  else if m.kind = 2 then applyW e m (fun _ => ⟨false, []⟩)
  else if m.kind = 3 ∧ 0 ≤ m.off then applyW e m (fun s => s.add m)
  else if m.kind = 4 then applyW e m (fun s => s.grow m)
  else applyN e m
theorem apply_tri (e : EN) (m : MS) (he : e.ok) (hm : m.ok) (R : List HP) : Tri Try.prog W 9 [e.v, m.v] R (X := Unit) (fun _ => (e.apply m).v) (fun _ => True) (fun _ => R) := by
  by_cases k1 : m.kind = 1
  · have e' : e.apply m = _ := if_pos k1
    rw [e']
    exact apply_work _ _ e m he.v he.nv (worker_put m k1) (fun s _ R => put_tri s m R) R
  by_cases k2 : m.kind = 2
  · have e' : e.apply m = applyW e m (fun _ => ⟨false, []⟩) := by unfold EN.apply; rw [if_neg k1, if_pos k2]
    rw [e']
    exact apply_work _ _ e m he.v he.nv (worker_del m k2) (fun s _ R => del_tri s m R) R
  by_cases k3 : m.kind = 3 ∧ 0 ≤ m.off
  · have e' : e.apply m = applyW e m (fun s => s.add m) := by unfold EN.apply; rw [if_neg k1, if_neg k2, if_pos k3]
    rw [e']
    exact apply_work _ _ e m he.v he.nv (worker_add m k3.1 k3.2) (fun s hs R => add_tri s m hs hm.o R) R
  by_cases k4 : m.kind = 4
  · have e' : e.apply m = applyW e m (fun s => s.grow m) := by unfold EN.apply; rw [if_neg k1, if_neg k2, if_neg k3, if_pos k4]
    rw [e']
    exact apply_work _ _ e m he.v he.nv (worker_grow m k4) (fun s hs R => grow_tri s m hs hm.v R) R
  · have e' : e.apply m = applyN e m := by unfold EN.apply; rw [if_neg k1, if_neg k2, if_neg k3, if_neg k4]
    rw [e']
    exact apply_none e m (by rintro (h | h | h | h); exact k1 h; exact k2 h; exact k3 h; exact k4 h) R
end Go.Proofs.Ytlafdffjkdiigaa
