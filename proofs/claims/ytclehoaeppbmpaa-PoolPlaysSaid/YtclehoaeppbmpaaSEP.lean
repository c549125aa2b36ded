/- Chunks that stand in a list of chunks: one is taken out, put in, read. -/
import Derived.Test.YtclehoaeppbmpaaEX0
namespace Go.Proofs.Ytclehoaeppbmpaa
set_option linter.unusedVariables false
set_option linter.unusedSimpArgs false
set_option linter.unusedSectionVars false
set_option linter.unnecessarySimpa false
open Go Go.Proofs
section
variable {W : World} {n : Nat} {F : Fr} {L : List HP} {G : Act → World → Prop}
theorem Own.sepOut {w : World} {A B : List HP} {p : HP} (hO : Own W w (sepL (A ++ p :: B) :: L)) : Own W w (p :: sepL (A ++ B) :: L) := by
  have h1 := hO.split
  rw [List.append_assoc, List.cons_append] at h1
  have h2 := Own.front h1
  rw [← List.append_assoc] at h2
  exact (Own.join (Own.back h2)).front1
theorem Own.sepIn {w : World} {A B : List HP} {p : HP} (hO : Own W w (p :: sepL (A ++ B) :: L)) : Own W w (sepL (A ++ p :: B) :: L) := by
  have h1 := Own.front (hO.front1.split)
  rw [List.append_assoc] at h1
  have h2 := Own.back h1
  refine Own.join ?_
  rw [List.append_assoc, List.cons_append]; exact h2
theorem rd_sep {Ls : List HP} {a : Option Addr} {k c sz : Nat} {xs : List Value} (i j : Nat) (hL : L[i]? = some (sepL Ls)) (hj : Ls[j]? = some (sown a k c sz xs)) : Rd W L a xs := by
  intro w hO
  obtain ⟨L', hO'⟩ := hO.nth hL
  have h1 := hO'.split
  have hlt := (List.getElem?_eq_some_iff.1 hj).1
  exact rd_sown (W := W) (vs := xs) j (by rw [List.getElem?_append_left hlt]; exact hj) (fun _ _ h => h) w h1
theorem sg_sepcap {Ls : List HP} {a : Option Addr} {k c sz : Nat} {xs : List Value} (i j : Nat) (hL : L[i]? = some (sepL Ls)) (hj : Ls[j]? = some (sown a k c sz xs)) (h : k ≤ 9223372036854775807 → (a = none → c = 0 ∧ k = 0) → SG W n F L G) : SG W n F L G := by
  intro w hO ac ha
  obtain ⟨L', hO'⟩ := hO.nth hL
  have hlt := (List.getElem?_eq_some_iff.1 hj).1
  obtain ⟨L2, hO2⟩ := hO'.split.nth (i := j) (p := sown a k c sz xs) (by rw [List.getElem?_append_left hlt]; exact hj)
  obtain ⟨_, ⟨h1, h2, h3⟩ | ⟨g, h1, h2, h3, _⟩⟩ := hO2.sownCells
  · exact h (by omega) (fun _ => ⟨h3, h2⟩) w hO ac ha
  · exact h (by simp only [maxLen] at h3; omega) (fun h4 => by rw [h1] at h4; cases h4) w hO ac ha
theorem sg_sepOut {A B : List HP} {p : HP} (h : SG W n F (p :: sepL (A ++ B) :: L) G) : SG W n F (sepL (A ++ p :: B) :: L) G := fun w hO => h w hO.sepOut
end
end Go.Proofs.Ytclehoaeppbmpaa
