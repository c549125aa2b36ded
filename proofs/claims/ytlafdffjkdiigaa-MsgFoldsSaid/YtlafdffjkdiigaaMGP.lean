/- Messages: plain facts on what Apply makes. -/
import Derived.Test.YtlafdffjkdiigaaMG5
namespace Go.Proofs.Ytlafdffjkdiigaa
set_option linter.unusedVariables false
set_option linter.unusedSimpArgs false
set_option linter.unusedSectionVars false
set_option linter.unnecessarySimpa false
open Go Go.Proofs
/-- A slot's value lies within the bound. -/
def ST.fit (s : ST) : Prop := s.val.length ≤ 140737488355328
theorem addAt_length (bs : List UInt8) (o x : Nat) (h : o + 8 ≤ bs.length) : (addAt bs o x).length = bs.length := by
  unfold addAt; simp; omega
theorem add_len (s : ST) (m : MS) : (s.add m).val.length = s.val.length := by
  unfold ST.add
  split
  · rfl
  · rename_i h
    exact addAt_length _ _ _ (by omega)
theorem bump_length (l : List UInt8) : (bump l).length = l.length := by cases l <;> rfl
theorem grow_fit (s : ST) (m : MS) (h : s.fit) : (s.grow m).fit := by
  unfold ST.grow
  split
  · exact h
  · rename_i h2
    show (bump (s.val ++ m.val)).length ≤ _
    rw [bump_length, List.length_append]
    have : ¬ 512 < s.val.length + m.val.length := fun h => h2 (.inr (.inr (.inr h)))
    omega
theorem mkE_ok {key : List UInt8} {old own : ST} {txn : Int} (hk : key.length ≤ 140737488355328) (h1 : old.fit) (h2 : own.fit) (ht : 0 ≤ txn ∧ txn ≤ 18446744073709551615) : (mkE key old own txn).ok := by
  refine ⟨hk, ?_, ?_, ht⟩
  · show (if old.has = true then old.val else []).length ≤ _
    split
    · exact h1
    · simp
  · show (if txn ≠ 0 ∧ own.has = true then own.val else []).length ≤ _
    split
    · exact h2
    · simp
theorem applyW_ok {e : EN} {m : MS} {wk : ST → ST} (he : e.ok) (hm : m.ok) (hw : ∀ s : ST, s.fit → (wk s).fit) : (applyW e m wk).ok := by
  have h1 : e.old.fit := he.v
  have h2 : e.own.fit := he.nv
  unfold applyW
  split
  · exact mkE_ok he.k (hw _ h1) (hw _ h2) he.t
  split
  · exact mkE_ok he.k (hw _ h1) h2 he.t
  split
  · exact mkE_ok he.k h1 (hw _ h1) hm.t
  split
  · exact mkE_ok he.k h1 (hw _ h2) he.t
  · exact mkE_ok he.k h1 h2 he.t
theorem apply_ok {e : EN} {m : MS} (he : e.ok) (hm : m.ok) : (e.apply m).ok := by
  have h1 : e.old.fit := he.v
  have h2 : e.own.fit := he.nv
  unfold EN.apply
  split
  · exact applyW_ok he hm (fun s _ => hm.v)
  split
  · exact applyW_ok he hm (fun s _ => by show ([] : List UInt8).length ≤ _; simp)
  split
  · exact applyW_ok he hm (fun s hs => by show (s.add m).val.length ≤ _; rw [add_len]; exact hs)
  split
  · exact applyW_ok he hm (fun s hs => grow_fit s m hs)
  · unfold applyN
    split
    · split
      · exact mkE_ok he.k h2 h2 ⟨by omega, by omega⟩
      split
      · exact mkE_ok he.k h1 h2 ⟨by omega, by omega⟩
      · exact mkE_ok he.k h1 h2 he.t
    · exact mkE_ok he.k h1 h2 he.t
/-- An entry as Apply leaves them: nothing stands where nothing is said to stand. -/
structure EN.neat (e : EN) : Prop where
  v : e.has = false → e.val = []
  n : e.txn = 0 ∨ e.new = false → e.nval = []
  w : e.txn = 0 → e.new = false
theorem mkE_neat (key : List UInt8) (old own : ST) (txn : Int) : (mkE key old own txn).neat := by
  refine ⟨fun h => ?_, fun h => ?_, fun h => ?_⟩
  · have h : old.has = false := h
    simp [mkE, h]
  · have h : txn = 0 ∨ (if txn ≠ 0 ∧ own.has = true then true else false) = false := h
    rcases h with h | h
    · simp [mkE, h]
    · have h2 : ¬ (txn ≠ 0 ∧ own.has = true) := by intro h3; rw [if_pos h3] at h; cases h
      show (if txn ≠ 0 ∧ own.has = true then own.val else []) = []
      rw [if_neg h2]
  · have h : txn = 0 := h
    simp [mkE, h]
theorem apply_neat (e : EN) (m : MS) : (e.apply m).neat := by
  unfold EN.apply applyW applyN
  repeat' (first | exact mkE_neat _ _ _ _ | split)
theorem apply_key (e : EN) (m : MS) : (e.apply m).key = e.key := by
  unfold EN.apply applyW applyN
  repeat' (first | rfl | split)
/-- Put together again a neat entry is itself. -/
theorem neat_mkE {e : EN} (h : e.neat) : mkE e.key e.old e.own e.txn = e := by
  rw [EN.ext']
  refine ⟨rfl, rfl, ?_, rfl, ?_, ?_⟩
  · show (if e.has = true then e.val else []) = e.val
    split
    · rfl
    · rename_i h1; exact (h.v (by simpa using h1)).symm
  · show (if e.txn ≠ 0 ∧ e.new = true then true else false) = e.new
    split
    · rename_i h1; exact h1.2.symm
    · rename_i h1
      by_cases h2 : e.txn = 0
      · exact (h.w h2).symm
      · cases h3 : e.new with
        | false => rfl
        | true => exact absurd ⟨h2, h3⟩ h1
  · show (if e.txn ≠ 0 ∧ e.new = true then e.nval else []) = e.nval
    split
    · rfl
    · rename_i h1
      refine (h.n ?_).symm
      by_cases h2 : e.txn = 0
      · exact .inl h2
      · right
        cases h3 : e.new with
        | false => rfl
        | true => exact absurd ⟨h2, h3⟩ h1
end Go.Proofs.Ytlafdffjkdiigaa
