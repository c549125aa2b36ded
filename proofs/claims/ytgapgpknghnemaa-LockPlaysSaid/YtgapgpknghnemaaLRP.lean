/- The reference table of locks as a flat list, told by the same state (plain). -/
import Derived.Test.YtgapgpknghnemaaLCP
namespace Go.Proofs.Ytgapgpknghnemaa
set_option linter.unusedVariables false
set_option linter.unusedSimpArgs false
set_option linter.unusedSectionVars false
set_option linter.unnecessarySimpa false
open Go Go.Proofs
abbrev RL := List (Int × Lk)
def ofO (R : RL) (o : Int) : List Lk := (R.filter fun e => decide (e.1 = o)).map (·.2)
structure LRel (S : TS) (R : RL) : Prop where
  held : ∀ o, heldS S o = ofO R o
  no : (S.map (·.1)).Nodup
  ne : ∀ e ∈ S, e.2 ≠ []
  pos : ∀ e ∈ S, 0 < e.1
def rfreeS (R : RL) (o : Int) (l : List Lk) : Bool := l.all fun a => R.all fun e => decide (e.1 = o) || !(cl a e.2)
theorem heldS_get {S : TS} (h : (S.map (·.1)).Nodup) {e : Int × List Lk} (he : e ∈ S) : heldS S e.1 = e.2 := by
  induction S with
  | nil => simp at he
  | cons x S ih =>
    rw [List.map_cons, List.nodup_cons] at h
    unfold heldS
    rcases List.mem_cons.1 he with rfl | he
    · rw [if_pos rfl]
    · rw [if_neg (fun hx => h.1 (by rw [hx]; exact List.mem_map_of_mem he)), ih h.2 he]
theorem mem_ofO {R : RL} {o : Int} {x : Lk} : x ∈ ofO R o ↔ (o, x) ∈ R := by
  unfold ofO
  simp only [List.mem_map, List.mem_filter, decide_eq_true_eq]
  constructor
  · rintro ⟨⟨o', x'⟩, ⟨h1, rfl⟩, rfl⟩; exact h1
  · intro h; exact ⟨(o, x), ⟨h, rfl⟩, rfl⟩
theorem LRel.free {S : TS} {R : RL} (h : LRel S R) (o : Int) (l : List Lk) : rfreeS R o l = freeS S o l := by
  rw [Bool.eq_iff_iff]
  simp only [rfreeS, freeS, okS, List.all_eq_true, Bool.or_eq_true, decide_eq_true_eq, Bool.not_eq_true', List.any_eq_false]
  constructor
  · intro h1 e he
    by_cases ho : e.1 = o
    · exact .inl ho
    refine .inr fun a ha b hb => ?_
    rcases h1 a ha (e.1, b) (mem_ofO.1 (by rw [← h.held, heldS_get h.no he]; exact hb)) with h2 | h2
    · exact absurd h2 ho
    · rw [h2]; exact Bool.false_ne_true
  · rintro h1 a ha ⟨o', b⟩ hb
    by_cases ho : o' = o
    · exact .inl ho
    have hb' := mem_ofO.2 hb
    rw [← h.held] at hb'
    obtain ⟨e, he, rfl, hb2⟩ := heldS_mem hb'
    rcases h1 e he with h2 | h2
    · exact absurd h2 ho
    · exact .inr (by have h3 := h2 a ha b hb2; revert h3; cases cl a b <;> simp)
theorem heldS_add (o : Int) (l : List Lk) (o' : Int) : ∀ S : TS, heldS (addS S o l) o' = if o' = o then heldS S o ++ l else heldS S o'
  | [] => by
    by_cases h : o' = o
    · subst h; simp [addS, heldS]
    · have h2 : ¬ o = o' := fun h' => h h'.symm
      simp [addS, heldS, h, h2]
  | e :: S => by
    have ih := heldS_add o l o' S
    unfold addS
    by_cases he : e.1 = o
    · rw [if_pos he]
      by_cases h : o' = o
      · subst h; simp [heldS, he]
      · have h2 : ¬ o = o' := fun h' => h h'.symm
        simp [heldS, h, he, h2]
    · rw [if_neg he]
      by_cases h : o' = o
      · subst h; simp only [heldS, if_neg he, ih, if_true]
      · rw [if_neg h] at ih ⊢
        simp only [heldS, ih]
theorem heldS_rel (o o' : Int) : ∀ S : TS, (S.map (·.1)).Nodup → heldS (relS S o) o' = if o' = o then [] else heldS S o'
  | [], _ => by simp [relS, heldS]
  | e :: S, h => by
    rw [List.map_cons, List.nodup_cons] at h
    have ih := heldS_rel o o' S h.2
    unfold relS
    by_cases he : e.1 = o
    · rw [if_pos he]
      by_cases ho : o' = o
      · rw [if_pos ho]
        exact heldS_no fun x hx hx' => h.1 (by rw [he, ← ho, ← hx']; exact List.mem_map_of_mem hx)
      · have h2 : ¬ o = o' := fun h' => ho h'.symm
        rw [if_neg ho]
        simp [heldS, he, h2]
    · rw [if_neg he]
      by_cases ho : o' = o
      · subst ho
        rw [if_pos rfl] at ih ⊢
        simp only [heldS, ih, if_neg he]
      · rw [if_neg ho] at ih ⊢
        simp only [heldS, ih]
theorem LRel.nil : LRel [] [] := ⟨fun _ => rfl, List.nodup_nil, by simp, by simp⟩
theorem ofO_app (R : RL) (l : List Lk) (o o' : Int) : ofO (R ++ l.map fun x => (o, x)) o' = if o' = o then ofO R o ++ l else ofO R o' := by
  unfold ofO
  rw [List.filter_append, List.map_append]
  by_cases h : o' = o
  · subst h
    rw [if_pos rfl]
    congr 1
    rw [List.filter_eq_self.2 (by intro x hx; obtain ⟨y, _, rfl⟩ := List.mem_map.1 hx; simp), List.map_map]
    exact List.map_id l
  · have h2 : ¬ o = o' := fun h' => h h'.symm
    have h3 : (l.map fun x => (o, x)).filter (fun e => decide (e.1 = o')) = [] := by
      rw [List.filter_eq_nil_iff]
      intro x hx
      obtain ⟨y, _, rfl⟩ := List.mem_map.1 hx
      simp [h2]
    rw [if_neg h, h3, List.map_nil, List.append_nil]
theorem LRel.add {S : TS} {R : RL} (h : LRel S R) {o : Int} {l : List Lk} (ho : 0 < o) (hl : l ≠ []) : LRel (addS S o l) (R ++ l.map fun x => (o, x)) where
  held o' := by rw [heldS_add, ofO_app, h.held, h.held]
  no := by
    rcases addS_owners (o := o) (l := l) S with h1 | ⟨h1, h2⟩
    · rw [h1]; exact h.no
    · rw [h2]
      exact List.nodup_append.2 ⟨h.no, by simp, fun a ha b hb => by
        simp only [List.mem_singleton] at hb
        subst hb; rintro rfl; exact h1 ha⟩
  ne e he := by
    rcases addS_mem he with he | ⟨_, old, h2, _⟩
    · exact h.ne e he
    · rw [h2]; simp [hl]
  pos e he := by
    rcases addS_mem he with he | ⟨h1, _⟩
    · exact h.pos e he
    · rw [h1]; exact ho
def rrelS (R : RL) (o : Int) : RL := R.filter fun e => !decide (e.1 = o)
theorem ofO_rel (R : RL) (o o' : Int) : ofO (rrelS R o) o' = if o' = o then [] else ofO R o' := by
  unfold ofO rrelS
  rw [List.filter_filter]
  by_cases h : o' = o
  · subst h
    rw [if_pos rfl, List.filter_eq_nil_iff.2 (by simp), List.map_nil]
  · rw [if_neg h]
    congr 1
    apply List.filter_congr
    intro x _
    by_cases hx : x.1 = o'
    · simp [hx, h]
    · simp [hx]
theorem LRel.rel {S : TS} {R : RL} (h : LRel S R) (o : Int) : LRel (relS S o) (rrelS R o) where
  held o' := by rw [heldS_rel _ _ _ h.no, ofO_rel, h.held]
  no := h.no.sublist ((relS_sub S o).map _)
  ne e he := h.ne e ((relS_sub S o).mem he)
  pos e he := h.pos e ((relS_sub S o).mem he)
/-- The reference's owners: the least above the last, until there is none. -/
theorem LRel.owner {S : TS} {R : RL} (h : LRel S R) (o : Int) : o ∈ S.map (·.1) ↔ ∃ x, (o, x) ∈ R := by
  constructor
  · intro ho
    obtain ⟨e, he, rfl⟩ := List.mem_map.1 ho
    have h1 := h.ne e he
    obtain ⟨x, l, hx⟩ : ∃ x l, e.2 = x :: l := by
      cases h2 : e.2 with
      | nil => exact absurd h2 h1
      | cons x l => exact ⟨x, l, rfl⟩
    refine ⟨x, mem_ofO.1 ?_⟩
    rw [← h.held, heldS_get h.no he, hx]
    exact List.mem_cons_self
  · rintro ⟨x, hx⟩
    have h1 := mem_ofO.2 hx
    rw [← h.held] at h1
    obtain ⟨e, he, rfl, _⟩ := heldS_mem h1
    exact List.mem_map_of_mem he
def bstep (last b o : Int) : Int := if last < o ∧ (b = 0 ∨ o < b) then o else b
def lastO (O : List Int) (j : Nat) : Int := if j = 0 then 0 else O[j - 1]?.getD 0
theorem bfold_spec {last : Int} (hl : 0 ≤ last) : ∀ (l : List Int) (b : Int), (b = 0 ∨ last < b) →
    (l.foldl (bstep last) b = 0 ∧ b = 0 ∧ ∀ o ∈ l, ¬ last < o) ∨ (last < l.foldl (bstep last) b ∧ (l.foldl (bstep last) b = b ∨ l.foldl (bstep last) b ∈ l) ∧ (b ≠ 0 → l.foldl (bstep last) b ≤ b) ∧ ∀ o ∈ l, last < o → l.foldl (bstep last) b ≤ o)
  | [], b, hb => by
    rcases hb with rfl | hb
    · exact .inl ⟨rfl, rfl, by simp⟩
    · exact .inr ⟨hb, .inl rfl, fun _ => Int.le_refl _, by simp⟩
  | o :: l, b, hb => by
    rw [List.foldl_cons]
    have hs : (bstep last b o = o ∧ last < o ∧ (b = 0 ∨ o < b)) ∨ (bstep last b o = b ∧ ¬ (last < o ∧ (b = 0 ∨ o < b))) := by
      unfold bstep
      split
      · rename_i h; exact .inl ⟨rfl, h.1, h.2⟩
      · rename_i h; exact .inr ⟨rfl, h⟩
    have ih := bfold_spec hl l (bstep last b o) (by omega)
    generalize l.foldl (bstep last) (bstep last b o) = r at ih ⊢
    rcases ih with ⟨h1, h2, h3⟩ | ⟨h1, h2, h3, h4⟩
    · left
      have hb0 : b = 0 := by omega
      refine ⟨h1, hb0, fun x hx => ?_⟩
      rcases List.mem_cons.1 hx with rfl | hx
      · omega
      · exact h3 x hx
    · right
      refine ⟨h1, ?_, by omega, fun x hx => ?_⟩
      · rcases h2 with h2 | h2
        · rcases hs with hs | hs
          · right; rw [h2, hs.1]; exact List.mem_cons_self
          · left; omega
        · right; exact List.mem_cons_of_mem _ h2
      · rcases List.mem_cons.1 hx with rfl | hx
        · intro hx; omega
        · exact h4 x hx
theorem best_of {O : List Int} (hO : O.Pairwise (· < ·)) (hpos : ∀ o ∈ O, 0 < o) {l : List Int} (hm : ∀ o, o ∈ O ↔ o ∈ l) {j : Nat} (hj : j ≤ O.length) : l.foldl (bstep (lastO O j)) 0 = O[j]?.getD 0 := by
  have hlt : ∀ (a b : Nat) (ha : a < O.length) (hb : b < O.length), a < b → O[a] < O[b] := fun a b ha hb h => List.pairwise_iff_getElem.1 hO a b ha hb h
  have hl0 : 0 ≤ lastO O j := by
    unfold lastO
    split
    · exact Int.le_refl _
    · rw [List.getElem?_eq_getElem (by omega)]
      exact Int.le_of_lt (hpos _ (List.getElem_mem _))
  have hlast : ∀ (i : Nat) (hi : i < O.length), lastO O j < O[i] ↔ j ≤ i := by
    intro i hi
    unfold lastO
    split
    · exact ⟨fun _ => by omega, fun _ => hpos _ (List.getElem_mem hi)⟩
    · rw [List.getElem?_eq_getElem (by omega)]
      show O[j - 1] < O[i] ↔ _
      constructor
      · intro h
        by_cases h1 : j ≤ i
        · exact h1
        · exfalso
          by_cases h2 : i = j - 1
          · subst h2; omega
          · have := hlt i (j - 1) hi (by omega) (by omega); omega
      · intro h; exact hlt _ _ _ _ (by omega)
  rcases bfold_spec hl0 l 0 (.inl rfl) with ⟨h1, _, h3⟩ | ⟨h1, h2, _, h4⟩
  · rw [h1]
    by_cases hjl : j < O.length
    · exact absurd ((hlast j hjl).2 (Nat.le_refl _)) (h3 _ ((hm _).1 (List.getElem_mem hjl)))
    · rw [List.getElem?_eq_none (by omega)]; rfl
  · generalize l.foldl (bstep (lastO O j)) 0 = r at h1 h2 h4 ⊢
    have hr : r ∈ l := by
      rcases h2 with h2 | h2
      · omega
      · exact h2
    obtain ⟨i, hi, rfl⟩ := List.getElem_of_mem ((hm _).2 hr)
    have hji := (hlast i hi).1 h1
    rw [List.getElem?_eq_getElem (by omega)]
    show O[i] = O[j]
    have h5 := h4 O[j] ((hm _).1 (List.getElem_mem (by omega))) ((hlast j (by omega)).2 (Nat.le_refl _))
    by_cases h6 : i = j
    · subst h6; rfl
    · have := hlt j i (by omega) hi (by omega); omega
end Go.Proofs.Ytgapgpknghnemaa
