/- MsgFolds, plain: messages folded one behind the other. -/
import Derived.Test.YtlafdffjkdiigaaMGQ
namespace Go.Proofs.Ytlafdffjkdiigaa
set_option linter.unusedVariables false
set_option linter.unusedSimpArgs false
set_option linter.unusedSectionVars false
set_option linter.unnecessarySimpa false
open Go Go.Proofs
def EN.step (e : EN) (m : MS) : EN := if m.kind = 4 ∨ m.key = e.key then e.apply m else e
def EN.fold (e : EN) (l : List MS) : EN := l.foldl EN.step e
theorem step_yes {e : EN} {m : MS} (h : m.kind = 4 ∨ m.key = e.key) : e.step m = e.apply m := if_pos h
theorem step_no {e : EN} {m : MS} (h : ¬ (m.kind = 4 ∨ m.key = e.key)) : e.step m = e := if_neg h
theorem step_key (e : EN) (m : MS) : (e.step m).key = e.key := by
  unfold EN.step
  split
  · exact apply_key e m
  · rfl
theorem step_ok {e : EN} {m : MS} (he : e.ok) (hm : m.ok) : (e.step m).ok := by
  unfold EN.step
  split
  · exact apply_ok he hm
  · exact he
theorem fold_nil (e : EN) : e.fold [] = e := rfl
theorem fold_cons (e : EN) (m : MS) (l : List MS) : e.fold (m :: l) = (e.step m).fold l := rfl
theorem fold_append (e : EN) (l r : List MS) : e.fold (l ++ r) = (e.fold l).fold r := List.foldl_append
theorem fold_key : ∀ (l : List MS) (e : EN), (e.fold l).key = e.key
  | [], _ => rfl
  | m :: l, e => by rw [fold_cons, fold_key l, step_key]
theorem fold_ok : ∀ (l : List MS) (e : EN), e.ok → (∀ m ∈ l, m.ok) → (e.fold l).ok
  | [], _, h, _ => h
  | m :: l, e, h, hm => fold_ok l (e.step m) (step_ok h (hm m List.mem_cons_self)) (fun x hx => hm x (List.mem_cons_of_mem _ hx))
/-- Which messages speak of this key. -/
def mine (k : List UInt8) (m : MS) : Bool := decide (m.kind = 4 ∨ m.key = k)
theorem fold_mine : ∀ (l : List MS) (e : EN), e.fold (l.filter (mine e.key)) = e.fold l
  | [], _ => rfl
  | m :: l, e => by
    by_cases h : m.kind = 4 ∨ m.key = e.key
    · rw [List.filter_cons_of_pos (by unfold mine; exact decide_eq_true h), fold_cons, fold_cons, ← fold_mine l (e.step m), step_key]
    · rw [List.filter_cons_of_neg (by unfold mine; simp only [decide_eq_true_eq]; exact h), fold_cons, step_no h, fold_mine l e]
theorem fold_cut (e : EN) (l : List MS) (n : Nat) : (e.fold (l.take n)).fold (l.drop n) = e.fold l := by rw [← fold_append, List.take_append_drop]
theorem flat_drop7 : ∀ (l : List MS) (k : Nat), (l.flatMap MS.cells).drop (k * 7) = (l.drop k).flatMap MS.cells
  | [], k => by simp
  | m :: l, 0 => by simp
  | m :: l, k + 1 => by
    rw [List.flatMap_cons, List.drop_succ_cons, ← flat_drop7 l k, show (k + 1) * 7 = 7 + k * 7 by omega, ← List.drop_drop]
    congr 1
theorem flat_take7 : ∀ (l : List MS) (k : Nat), (l.flatMap MS.cells).take (k * 7) = (l.take k).flatMap MS.cells
  | [], k => by simp
  | m :: l, 0 => by simp
  | m :: l, k + 1 => by
    rw [List.flatMap_cons, List.take_succ_cons, List.flatMap_cons, ← flat_take7 l k, show (k + 1) * 7 = m.cells.length + k * 7 by show _ = 7 + _; omega]
    rw [List.take_length_add_append]
theorem rd_take7 {W : World} {L : List HP} {l : List MS} {a : Option Addr} (hr : Rd W L a (l.flatMap MS.cells)) (k : Nat) : Rd W L a ((l.take k).flatMap MS.cells) := by
  rw [← flat_take7]; exact hr.take (k * 7)
theorem rd_drop7 {W : World} {L : List HP} {l : List MS} {a : Option Addr} (hr : Rd W L a (l.flatMap MS.cells)) {k c : Nat} (hk : k ≤ l.length) (hc : l.length ≤ c) : Rd W L (if c = k then a else a.map (·.add (k * 7))) ((l.drop k).flatMap MS.cells) := by
  by_cases hck : c = k
  · rw [List.drop_of_length_le (by omega)]; exact rd_nil
  · rw [if_neg hck]
    by_cases hkl : k = l.length
    · rw [List.drop_of_length_le (by omega)]; exact rd_nil
    · intro w hO
      rcases hr w hO with h | ⟨b, o, rfl, h⟩
      · left
        rw [← flat_drop7, h, List.drop_nil]
      · refine .inr ⟨b, o + k * 7, by simp [addr_add], fun j u hj => ?_⟩
        rw [← flat_drop7, List.getElem?_drop] at hj
        have h9 := h _ u hj
        rw [← Nat.add_assoc] at h9
        exact h9
end Go.Proofs.Ytlafdffjkdiigaa
