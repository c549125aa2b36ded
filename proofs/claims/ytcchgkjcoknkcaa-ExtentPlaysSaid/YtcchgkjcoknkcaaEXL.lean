/- Plain law of the spaces, for the statements: what calls do to the count, calls that undo each other, spaces that lie elsewhere. -/
import Derived.Test.YtcchgkjcoknkcaaEX7
namespace Go.Proofs.Ytcchgkjcoknkcaa
set_option linter.unusedVariables false
set_option linter.unusedSimpArgs false
set_option linter.unusedSectionVars false
set_option linter.unnecessarySimpa false
open Go Go.Proofs
theorem setr_parts {o : List Bool} {k n : Nat} {b : Bool} (h : allB o k n (!b) = true) (hk : k + n ≤ o.length) :
    o = o.take k ++ List.replicate n (!b) ++ o.drop (k + n) ∧ setr o k n b = o.take k ++ List.replicate n b ++ o.drop (k + n) := by
  rw [allB_iff] at h
  have key : ∀ (u : List Bool) (c : Bool), u.length = o.length → (∀ i, u[i]? = if k ≤ i ∧ i < k + n then some c else o[i]?) → u = o.take k ++ List.replicate n c ++ o.drop (k + n) := by
    intro u c hul hu
    apply List.ext_getElem?
    intro i
    rw [hu]
    by_cases h1 : i < k
    · rw [if_neg (by omega), List.append_assoc, List.getElem?_append_left (by simp; omega), List.getElem?_take, if_pos h1]
    · by_cases h2 : i < k + n
      · rw [if_pos ⟨by omega, h2⟩, List.append_assoc, List.getElem?_append_right (by simp; omega), List.length_take, Nat.min_eq_left (by omega), List.getElem?_append_left (by simp; omega), List.getElem?_replicate, if_pos (by omega)]
      · rw [if_neg (by omega), List.getElem?_append_right (by simp; omega), List.length_append, List.length_take, List.length_replicate, Nat.min_eq_left (by omega), List.getElem?_drop]
        congr 1; omega
  constructor
  · refine key o (!b) rfl (fun i => ?_)
    split
    · rename_i hi; exact h i hi.1 hi.2
    · rfl
  · refine key _ b (setr_len _ _ _ _) (fun i => ?_)
    rw [setr_get]
    split
    · rename_i hi; rw [h i hi.1 hi.2]; rfl
    · cases o[i]? <;> rfl
theorem setr_count {o : List Bool} {k n : Nat} (h : allB o k n true = true) (hk : k + n ≤ o.length) : (setr o k n false).count true + n = o.count true := by
  obtain ⟨e1, e2⟩ := setr_parts (b := false) h hk
  rw [e2]
  conv => rhs; rw [e1]
  simp only [List.count_append, List.count_replicate, Bool.not_false]
  simp
  omega
theorem setr_count_on {o : List Bool} {k n : Nat} (h : allB o k n false = true) (hk : k + n ≤ o.length) : (setr o k n true).count true = o.count true + n := by
  obtain ⟨e1, e2⟩ := setr_parts (b := true) h hk
  rw [e2]
  conv => rhs; rw [e1]
  simp only [List.count_append, List.count_replicate, Bool.not_true]
  simp
  omega
theorem setr_back {o : List Bool} {k n : Nat} {b : Bool} (h : allB o k n (!b) = true) (hk : k + n ≤ o.length) : setr (setr o k n b) k n (!b) = o ∧ allB (setr o k n b) k n b = true := by
  have hb : allB (setr o k n b) k n b = true := by
    rw [allB_iff]
    intro i h1 h2
    exact (setr_mem o k n b i b).2 (.inl ⟨h1, h2, by omega, rfl⟩)
  refine ⟨?_, hb⟩
  obtain ⟨e1, e2⟩ := setr_parts h hk
  have hb' : allB (setr o k n b) k n (!!b) = true := by rw [Bool.not_not]; exact hb
  obtain ⟨e3, e4⟩ := setr_parts (b := !b) hb' (by rw [setr_len]; exact hk)
  have ht : (setr o k n b).take k = o.take k := by
    rw [e2, List.append_assoc, List.take_append_of_le_length (by simp; omega), List.take_take, Nat.min_self]
  have hd : (setr o k n b).drop (k + n) = o.drop (k + n) := by
    rw [e2, List.drop_append]
    have hl : (o.take k ++ List.replicate n b).length = k + n := by simp; omega
    rw [hl, Nat.sub_self, List.drop_zero, List.drop_eq_nil_of_le (by omega), List.nil_append]
  rw [e4, ht, hd]; exact e1.symm
/-- Every list has a first element of a kind, or none. -/
theorem split_first {α : Type} (pr : α → Prop) : ∀ l : List α, (∃ A h B, l = A ++ h :: B ∧ pr h ∧ ∀ a ∈ A, ¬ pr a) ∨ ∀ a ∈ l, ¬ pr a
  | [] => .inr (by simp)
  | x :: l => by
    by_cases h : pr x
    · exact .inl ⟨[], x, l, rfl, h, by simp⟩
    · rcases split_first pr l with ⟨A, y, B, rfl, h1, h2⟩ | h1
      · exact .inl ⟨x :: A, y, B, rfl, h1, fun a ha => by
          rcases List.mem_cons.1 ha with rfl | ha
          · exact h
          · exact h2 a ha⟩
      · exact .inr fun a ha => by
          rcases List.mem_cons.1 ha with rfl | ha
          · exact h
          · exact h1 a ha
theorem cut_bits {X : XS} {h : Nat × Nat} {m : Nat} (hm : h ∈ X.runs) (h1 : 1 ≤ m) (h2 : m ≤ h.2) :
    X.lo ≤ h.1 ∧ h.1 - X.lo + m ≤ X.o.length ∧ allB X.o (h.1 - X.lo) m true = true := by
  have hlo := runs_lo (o := X.o) (p := X.lo) hm
  exact ⟨hlo.1, by omega, take_yes (p := X.lo) (o := X.o) (s := h.1) (l := h.2) hm (Nat.le_refl _) (by omega)⟩
/-- What was cut out cannot be taken. -/
theorem cut_twice {X : XS} {h : Nat × Nat} {m : Nat} (hm : h ∈ X.runs) (h1 : 1 ≤ m) (h2 : m ≤ h.2) : (X.cut h.1 m).turn (h.1 : Int) 1 false = (6, X.cut h.1 m) := by
  obtain ⟨a, b, c⟩ := cut_bits hm h1 h2
  have hl : (X.cut h.1 m).o.length = X.o.length := setr_len _ _ _ _
  unfold XS.turn
  rw [if_neg (by rw [hl]; show ¬ ¬ (_ ∧ _ ∧ (X.lo : Int) ≤ _ ∧ _ ≤ (X.lo : Int) + _); omega)]
  have hn : allB (X.cut h.1 m).o ((h.1 : Int) - (X.cut h.1 m).lo).toNat (1 : Int).toNat (!false) = false := by
    cases e : allB (X.cut h.1 m).o ((h.1 : Int) - (X.cut h.1 m).lo).toNat (1 : Int).toNat (!false) with
    | false => rfl
    | true =>
      rw [show ((h.1 : Int) - (X.cut h.1 m).lo).toNat = h.1 - X.lo by show ((h.1 : Int) - X.lo).toNat = _; omega] at e
      have e1 := allB_iff.1 e (h.1 - X.lo) (Nat.le_refl _) (by show _ < _ + 1; omega)
      have e2 : (setr X.o (h.1 - X.lo) m false)[h.1 - X.lo]? = some true := e1
      rw [setr_mem] at e2
      simp at e2
      omega
  rw [hn]; rfl
/-- What was cut out can be freed, and then all is as it was. -/
theorem cut_free {X : XS} {h : Nat × Nat} {m : Nat} (hm : h ∈ X.runs) (h1 : 1 ≤ m) (h2 : m ≤ h.2) : (X.cut h.1 m).turn (h.1 : Int) (m : Int) true = (0, X) := by
  obtain ⟨a, b, c⟩ := cut_bits hm h1 h2
  have hl : (X.cut h.1 m).o.length = X.o.length := setr_len _ _ _ _
  obtain ⟨e1, e2⟩ := setr_back (b := false) c b
  unfold XS.turn
  rw [if_neg (by rw [hl]; show ¬ ¬ (_ ∧ _ ∧ (X.lo : Int) ≤ _ ∧ _ ≤ (X.lo : Int) + _); omega), show ((h.1 : Int) - (X.cut h.1 m).lo).toNat = h.1 - X.lo by show ((h.1 : Int) - X.lo).toNat = _; omega, Int.toNat_natCast, Bool.not_true]
  have e3 : allB (X.cut h.1 m).o (h.1 - X.lo) m false = true := e2
  rw [if_pos e3]
  show (0, XS.mk X.lo (setr (setr X.o (h.1 - X.lo) m false) (h.1 - X.lo) m true)) = (0, X)
  rw [show setr (setr X.o (h.1 - X.lo) m false) (h.1 - X.lo) m true = X.o from e1]
/- elsewhere -/
theorem turn_shift (o : List Bool) (by_ : Nat) (s m : Int) (to : Bool) : (XS.mk by_ o).turn (s + by_) m to = (((XS.mk 0 o).turn s m to).1, ⟨by_, ((XS.mk 0 o).turn s m to).2.o⟩) := by
  unfold XS.turn
  simp only
  rw [show (s + (by_ : Int) - (by_ : Int)).toNat = (s - ((0 : Nat) : Int)).toNat by omega]
  by_cases h : 1 ≤ m ∧ m ≤ o.length ∧ ((0 : Nat) : Int) ≤ s ∧ s + m ≤ ((0 : Nat) : Int) + o.length
  · have c1 : ¬ ¬ (1 ≤ m ∧ m ≤ o.length ∧ (by_ : Int) ≤ s + by_ ∧ s + by_ + m ≤ by_ + o.length) := fun g => g (by omega)
    have c2 : ¬ ¬ (1 ≤ m ∧ m ≤ o.length ∧ ((0 : Nat) : Int) ≤ s ∧ s + m ≤ ((0 : Nat) : Int) + o.length) := fun g => g h
    rw [if_neg c1, if_neg c2]
    by_cases hb : allB o (s - ((0 : Nat) : Int)).toNat m.toNat (!to) = true
    · rw [if_pos hb, if_pos hb]
    · rw [if_neg hb, if_neg hb]
  · have c1 : ¬ (1 ≤ m ∧ m ≤ o.length ∧ (by_ : Int) ≤ s + by_ ∧ s + by_ + m ≤ by_ + o.length) := fun g => h (by omega)
    rw [if_pos c1, if_pos h]
theorem alloc_shift (o : List Bool) (by_ : Nat) (m : Int) : (XS.mk by_ o).alloc m = ((if ((XS.mk 0 o).alloc m).2.1 = 0 then ((XS.mk 0 o).alloc m).1 + by_ else 0), ((XS.mk 0 o).alloc m).2.1, ⟨by_, ((XS.mk 0 o).alloc m).2.2.o⟩) := by
  unfold XS.alloc
  by_cases h : m < 1
  · rw [if_pos h, if_pos h]; rfl
  · rw [if_neg h, if_neg h]
    cases hf : firstK o m.toNat with
    | none => rfl
    | some k =>
      simp only [Nat.zero_add, if_true]
      rw [show ((by_ + k : Nat) : Int) = (k : Int) + by_ by omega]
theorem turn_lo (X : XS) (s m : Int) (to : Bool) : (X.turn s m to).2.lo = X.lo ∧ (X.turn s m to).2.o.length = X.o.length := by
  unfold XS.turn
  split
  · exact ⟨rfl, rfl⟩
  · split
    · exact ⟨rfl, setr_len _ _ _ _⟩
    · exact ⟨rfl, rfl⟩
theorem alloc_lo (X : XS) (m : Int) : (X.alloc m).2.2.lo = X.lo ∧ (X.alloc m).2.2.o.length = X.o.length := by
  unfold XS.alloc
  split
  · exact ⟨rfl, rfl⟩
  · split
    · exact ⟨rfl, rfl⟩
    · exact ⟨rfl, setr_len _ _ _ _⟩
/-- What is granted changes the count, what is refused changes nothing. -/
theorem turn_cases (X : XS) (s m : Int) (to : Bool) : ((X.turn s m to).1 = 0 ∧ (X.turn s m to).2.o.count true ≠ X.o.count true) ∨ (((X.turn s m to).1 = 1 ∨ (X.turn s m to).1 = 6) ∧ (X.turn s m to).2 = X) := by
  unfold XS.turn
  split
  · exact .inr ⟨.inl rfl, rfl⟩
  · rename_i h
    have hh : 1 ≤ m ∧ m ≤ X.o.length ∧ (X.lo : Int) ≤ s ∧ s + m ≤ X.lo + X.o.length := Classical.not_not.1 h
    split
    · rename_i ha
      left
      refine ⟨rfl, ?_⟩
      have hk : (s - X.lo).toNat + m.toNat ≤ X.o.length := by omega
      cases to with
      | false => have := setr_count ha hk; show (setr _ _ _ _).count true ≠ _; omega
      | true => have := setr_count_on ha hk; show (setr _ _ _ _).count true ≠ _; omega
    · exact .inr ⟨.inr rfl, rfl⟩
theorem firstK_spec {o : List Bool} {n k : Nat} (h : firstK o n = some k) : k < o.length ∧ allB o k n true = true := by
  unfold firstK at h
  rw [List.find?_eq_some_iff_getElem] at h
  obtain ⟨h1, i, hi, e, _⟩ := h
  simp at hi e
  subst e
  exact ⟨hi, h1⟩
theorem allB_room {o : List Bool} {n k : Nat} {b : Bool} (h : allB o k n b = true) (hn : 1 ≤ n) : k + n ≤ o.length := by
  have := allB_iff.1 h (k + n - 1) (by omega) (by omega)
  have := (List.getElem?_eq_some_iff.1 this).1
  omega
theorem alloc_cases (X : XS) (m : Int) : ((X.alloc m).2.1 = 0 ∧ (X.alloc m).2.2.o.count true ≠ X.o.count true ∧ (X.lo : Int) ≤ (X.alloc m).1 ∧ (X.alloc m).1 < X.lo + X.o.length) ∨ (((X.alloc m).2.1 = 1 ∨ (X.alloc m).2.1 = 3) ∧ (X.alloc m).2.2 = X ∧ (X.alloc m).1 = 0) := by
  unfold XS.alloc
  split
  · exact .inr ⟨.inl rfl, rfl, rfl⟩
  · rename_i hm
    split
    · exact .inr ⟨.inr rfl, rfl, rfl⟩
    · rename_i k hk
      obtain ⟨h1, h2⟩ := firstK_spec hk
      have h3 := allB_room h2 (by omega)
      have := setr_count h2 h3
      refine .inl ⟨rfl, ?_, ?_, ?_⟩
      · show (setr _ _ _ _).count true ≠ _; omega
      · show (X.lo : Int) ≤ ((X.lo + k : Nat) : Int); omega
      · show ((X.lo + k : Nat) : Int) < _; omega
end Go.Proofs.Ytcchgkjcoknkcaa
