/- Package wal, plain: a crash, whatever the order of the sectors that wait. -/
import Derived.Test.YtdehkdmnddflhaaWAQ
namespace Go.Proofs.Ytdehkdmnddflhaa
set_option linter.unusedVariables false
set_option linter.unusedSimpArgs false
set_option linter.unusedSectionVars false
set_option linter.unnecessarySimpa false
open Go Go.Proofs
theorem getD_set_ne {l : List (List UInt8)} {p q : Nat} {s : List UInt8} (h : p ≠ q) : (l.set p s).getD q [] = l.getD q [] := by
  simp only [List.getD_eq_getElem?_getD, List.getElem?_set_ne h]
theorem getD_set_self {l : List (List UInt8)} {p : Nat} {s : List UInt8} (h : p < l.length) : (l.set p s).getD p [] = s := by
  simp only [List.getD_eq_getElem?_getD, List.getElem?_set_self h, Option.getD_some]
theorem fore_away (keep : List Int) : ∀ (w : List (Nat × List UInt8 × List UInt8)) (k : Nat) (seen : List (List UInt8)) (q : Nat), (∀ x ∈ w, x.1 ≠ q) → (fore seen keep k w).getD q [] = seen.getD q []
  | [], _, _, _, _ => rfl
  | p :: w, k, seen, q, h => by
    simp only [fore]
    rw [fore_away keep w (k + 1) _ q (fun x hx => h x (List.mem_cons_of_mem _ hx))]
    split
    · exact getD_set_ne (h p List.mem_cons_self)
    · rfl
theorem back_away : ∀ (w : List (Nat × List UInt8 × List UInt8)) (seen : List (List UInt8)) (q : Nat), (∀ x ∈ w, x.1 ≠ q) → (back seen w).getD q [] = seen.getD q []
  | [], _, _, _ => rfl
  | p :: w, seen, q, h => by
    simp only [back]
    rw [getD_set_ne (h p List.mem_cons_self), back_away w seen q (fun x hx => h x (List.mem_cons_of_mem _ hx))]
theorem back_len : ∀ (w : List (Nat × List UInt8 × List UInt8)) (seen : List (List UInt8)), (back seen w).length = seen.length
  | [], _ => rfl
  | p :: w, seen => by simp only [back, List.length_set]; exact back_len w seen
theorem fore_here (keep : List Int) : ∀ (w : List (Nat × List UInt8 × List UInt8)) (k : Nat) (seen : List (List UInt8)) (j : Nat) (x : Nat × List UInt8 × List UInt8), (w.map (·.1)).Nodup → w[j]? = some x → x.1 < seen.length →
    (fore seen keep k w).getD x.1 [] = if keepOf keep (k + j) = true then x.2.2 else seen.getD x.1 []
  | [], _, _, _, _, _, h, _ => by simp at h
  | p :: w, k, seen, 0, x, hn, h, hl => by
    simp only [List.getElem?_cons_zero, Option.some.injEq] at h
    subst h
    rw [List.map_cons, List.nodup_cons] at hn
    simp only [fore]
    rw [fore_away keep w (k + 1) _ p.1 (fun x hx e => hn.1 (by rw [← e]; exact List.mem_map_of_mem hx)), Nat.add_zero]
    split
    · exact getD_set_self hl
    · rfl
  | p :: w, k, seen, j + 1, x, hn, h, hl => by
    rw [List.getElem?_cons_succ] at h
    rw [List.map_cons, List.nodup_cons] at hn
    simp only [fore]
    have hne : p.1 ≠ x.1 := fun e => hn.1 (by rw [e]; exact List.mem_map_of_mem (List.mem_of_getElem? h))
    rw [fore_here keep w (k + 1) _ j x hn.2 h (by split <;> simpa using hl), show k + 1 + j = k + (j + 1) by omega]
    split
    · rfl
    · split
      · exact getD_set_ne hne
      · rfl
theorem back_here : ∀ (w : List (Nat × List UInt8 × List UInt8)) (seen : List (List UInt8)) (j : Nat) (x : Nat × List UInt8 × List UInt8), (w.map (·.1)).Nodup → w[j]? = some x → x.1 < seen.length → (back seen w).getD x.1 [] = x.2.1
  | [], _, _, _, _, h, _ => by simp at h
  | p :: w, seen, 0, x, hn, h, hl => by
    simp only [List.getElem?_cons_zero, Option.some.injEq] at h
    subst h
    simp only [back]
    exact getD_set_self (by rw [back_len]; exact hl)
  | p :: w, seen, j + 1, x, hn, h, hl => by
    rw [List.getElem?_cons_succ] at h
    rw [List.map_cons, List.nodup_cons] at hn
    have hne : p.1 ≠ x.1 := fun e => hn.1 (by rw [e]; exact List.mem_map_of_mem (List.mem_of_getElem? h))
    simp only [back]
    rw [getD_set_ne hne]
    exact back_here w seen j x hn.2 h hl
/-- A crash: what waits goes back, and comes again where keep says so. -/
theorem crash_here {D : DS} {keep : List Int} {j : Nat} {x : Nat × List UInt8 × List UInt8} (hn : (D.wait.map (·.1)).Nodup) (h : D.wait[j]? = some x) (hl : x.1 < D.seen.length) : (D.crash keep).at x.1 = if keepOf keep j = true then x.2.2 else x.2.1 := by
  show (fore (back D.seen D.wait) keep 0 D.wait).getD x.1 [] = _
  rw [fore_here keep D.wait 0 _ j x hn h (by rw [back_len]; exact hl), back_here D.wait D.seen j x hn h hl, Nat.zero_add]
theorem crash_away {D : DS} {keep : List Int} {q : Nat} (h : ∀ x ∈ D.wait, x.1 ≠ q) : (D.crash keep).at q = D.at q := by
  show (fore (back D.seen D.wait) keep 0 D.wait).getD q [] = _
  rw [fore_away keep D.wait 0 _ q h, back_away D.wait D.seen q h]
  rfl
end Go.Proofs.Ytdehkdmnddflhaa
