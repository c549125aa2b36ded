/- Guards that are not known in a region that draws its order: both ways. -/
import Derived.Test.YtclehoaeppbmpaaDR3
namespace Go.Proofs.Ytclehoaeppbmpaa
set_option linter.unusedVariables false
set_option linter.unusedSimpArgs false
set_option linter.unusedSectionVars false
set_option linter.unnecessarySimpa false
open Go Go.Proofs
section
variable {P : Program} [BS P] {W : World} {n : Nat} {F : Fr} {L LR : List HP} {Q : Exit → Act → World → Prop} {l : List Oper} {π : List Nat} {i : Nat}
omit [BS P] in
theorem sk_dec {R : World → Prop} {o : Oper} {j t : Nat} {b : Bool} {p : Prop} [Decidable p] (hi : l[i]? = some o) (hg : o.guard = some (j, b)) (hj : (l[j]?).bind (·.dst) = some t) (ht : look F t = some (.bool (decide p)))
    (h1 : p → SG W n ((t, .bool true) :: F) L (WK P l.toArray Q R (i :: π))) (h2 : ¬ p → SG W n ((t, .bool false) :: F) L (WK P l.toArray Q R (i :: π))) : SG W n F L (WK P l.toArray Q R (i :: π)) :=
  sg_know t ht (fun h => h1 (of_decide_eq_true h)) (fun h => h2 (of_decide_eq_false h))
omit [BS P] in
theorem sk_ndec {R : World → Prop} {o : Oper} {j t : Nat} {b : Bool} {p : Prop} [Decidable p] (hi : l[i]? = some o) (hg : o.guard = some (j, b)) (hj : (l[j]?).bind (·.dst) = some t) (ht : look F t = some (.bool (!decide p)))
    (h1 : ¬ p → SG W n ((t, .bool true) :: F) L (WK P l.toArray Q R (i :: π))) (h2 : p → SG W n ((t, .bool false) :: F) L (WK P l.toArray Q R (i :: π))) : SG W n F L (WK P l.toArray Q R (i :: π)) :=
  sg_know t ht (fun h => h1 (by simpa using h)) (fun h => h2 (by simpa using h))
omit [BS P] in
theorem sk_nu {d : Nat} {ty : TypeId} {pos : String} {af : Array Edge} {R : World → Prop} {op : Op} {j t : Nat} {b : Bool} (hi : l[i]? = some ⟨some d, op, ty, pos, af, some (j, b)⟩) (hk : Nat.blt (kindOf op) 2 = true) (hj : (l[j]?).bind (·.dst) = some t) (ht : look F t = some undef) (hd : Nat.blt d n = true) (h : SG W n ((d, undef) :: F) L (WK P l.toArray Q R π)) :
    SG W n F L (WK P l.toArray Q R (i :: π)) := by
  intro w hO a ha
  simp only [WK, List.getElem?_toArray, hi]
  have hy : yielded l.toArray a.tmps j = none := by simp [yielded, hj, ha.get t _ ht, undef]
  have hn : Region.wanted ⟨some d, op, ty, pos, af, some (j, b)⟩ (yielded l.toArray a.tmps) = false := by cases b <;> simp [Region.wanted, hy]
  have hk' : kindOf op < 2 := by simpa [Nat.blt_eq] using hk
  by_cases h0 : kindOf op = 0
  · rw [if_pos h0]; exact ⟨undef, .inr ⟨hn, rfl⟩, h w hO _ (ha.put hd _)⟩
  · rw [if_neg h0, if_pos (by omega)]
    exact ⟨undef, [], .inr ⟨hn, rfl⟩, (by intro w' _ p hp; cases hp), h w hO _ (ha.put hd _)⟩
end
instance (priority := high) instBneq (P : Program) (t : TypeId) (p q : Prop) [Decidable p] [Decidable q] [h : IsT P t .bool] : BinR P .neq t (.bool (!decide p)) (.bool (decide q)) (.bool (!decide (¬ p ↔ q))) := ⟨fun w _ _ => by
  have hu := run_underlying h.h
  simp [eqGuard, binOp, Op.equal, Op.maxDepth]; rw [Op.equalIn]; simp [hu]⟩
end Go.Proofs.Ytclehoaeppbmpaa
