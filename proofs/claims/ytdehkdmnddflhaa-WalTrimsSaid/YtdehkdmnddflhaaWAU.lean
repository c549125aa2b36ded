/- Package wal, plain: after a crash the first ones of what was appended are found. -/
import Derived.Test.YtdehkdmnddflhaaWAS
namespace Go.Proofs.Ytdehkdmnddflhaa
set_option linter.unusedVariables false
set_option linter.unusedSimpArgs false
set_option linter.unusedSectionVars false
set_option linter.unnecessarySimpa false
open Go Go.Proofs
theorem least_of {p : Nat → Prop} : ∀ n, p n → ∃ i, i ≤ n ∧ p i ∧ ∀ j, j < i → ¬ p j := by
  intro n
  induction n using Nat.strongRecOn with
  | _ n ih =>
    intro h
    by_cases hx : ∃ j, j < n ∧ p j
    · obtain ⟨j, h1, h2⟩ := hx
      obtain ⟨i, g1, g2, g3⟩ := ih j h1 h2
      exact ⟨i, by omega, g2, g3⟩
    · exact ⟨n, Nat.le_refl _, h, fun j hj hp => hx ⟨j, hj, hp⟩⟩
/-- Piece i of the record d at s, by mount M. -/
def pcs (M s : Nat) (d : List UInt8) (i : Nat) : List UInt8 := pad (wpiece M (s + i) i (cnt d.length) (partAt d i))
/-- From s on: the old content, or pieces of the records ys, of which some are there; and of one more that is not whole. -/
def Torn (bt et : Nat → List UInt8) (M : Nat) : Nat → List (List UInt8) → Option (List UInt8) → Prop
  | s, [], none => ∀ p, s ≤ p → et p = bt p
  | s, [], some d => d.length ≤ 32768 ∧ (∀ i, i < cnt d.length → et (s + i) = bt (s + i) ∨ et (s + i) = pcs M s d i) ∧ (∃ i, i < cnt d.length ∧ et (s + i) = bt (s + i)) ∧ ∀ p, s + cnt d.length ≤ p → et p = bt p
  | s, d :: ys, part => d.length ≤ 32768 ∧ (∀ i, i < cnt d.length → et (s + i) = bt (s + i) ∨ et (s + i) = pcs M s d i) ∧ Torn bt et M (s + cnt d.length) ys part
def byM (M : Nat) (ys : List (List UInt8)) : List (Nat × List UInt8) := ys.map fun d => (M, d)
theorem pcs_look {M s : Nat} {d : List UInt8} {i : Nat} (hd : d.length ≤ 32768) (hs : s + i < 18446744073709551616) (hm : M < 4294967296) (hi : i < cnt d.length) : (lookA (pcs M s d i) (s + i)).ok = true ∧ (lookA (pcs M s d i) (s + i)).mount = M := by
  have hc := cnt_spec hd
  have hp := partAt_length d i
  unfold pcs
  rw [look_piece hs hm (by omega) (by omega) (by omega)]
  exact ⟨rfl, rfl⟩
theorem torn_mixed {bt et : Nat → List UInt8} {M : Nat} (hm : M < 4294967296) {part : Option (List UInt8)} : ∀ (ys : List (List UInt8)) (s : Nat), Torn bt et M s ys part → s + total (byM M ys) + 1400 < 18446744073709551616 → Mixed bt et M s
  | [], s, h, hs => by
    cases part with
    | none => exact fun p hp => .inl (h p hp)
    | some d =>
      obtain ⟨h0, h1, _, h2⟩ := h
      have hc := cnt_spec h0
      have ht : total (byM M []) = 0 := rfl
      intro p hp
      by_cases hq : s + cnt d.length ≤ p
      · exact .inl (h2 p hq)
      · obtain ⟨i, rfl⟩ : ∃ i, p = s + i := ⟨p - s, by omega⟩
        rcases h1 i (by omega) with e | e
        · exact .inl e
        · rw [e]; exact .inr (pcs_look h0 (by omega) hm (by omega))
  | d :: ys, s, h, hs => by
    obtain ⟨h0, h1, h2⟩ := h
    have hc := cnt_spec h0
    have ht : total (byM M (d :: ys)) = cnt d.length + total (byM M ys) := rfl
    intro p hp
    by_cases hq : s + cnt d.length ≤ p
    · exact torn_mixed hm ys _ h2 (by omega) p hq
    · obtain ⟨i, rfl⟩ : ∃ i, p = s + i := ⟨p - s, by omega⟩
      rcases h1 i (by omega) with e | e
      · exact .inl e
      · rw [e]; exact .inr (pcs_look h0 (by omega) hm (by omega))
/-- What find does where the record d was to stand, if a piece of it is missing. -/
theorem stuck_torn {bt et : Nat → List UInt8} {M top top2 s μ : Nat} {d : List UInt8} (ho : Older bt M) (hx : Mixed bt et M s) (hd : d.length ≤ 32768) (hs : s + 656 < 18446744073709551616) (hm : M < 4294967296) (ht : M ≤ top) (ht2 : M ≤ top2) (hμ : μ ≤ M)
    (h : ∀ i, i < cnt d.length → et (s + i) = bt (s + i) ∨ et (s + i) = pcs M s d i) (hmiss : ∃ i, i < cnt d.length ∧ et (s + i) = bt (s + i)) (K : Nat) (hst : μ = M ∨ ∀ R, wfind bt top K s μ [] s R = (R, s)) (R : List (Nat × Nat × List UInt8)) : wfind et top2 K s μ [] s R = (R, s) := by
  obtain ⟨n, hn, hn2⟩ := hmiss
  obtain ⟨i0, g1, g2, g3⟩ := least_of (p := fun i => et (s + i) = bt (s + i)) n hn2
  by_cases h0 : i0 = 0
  · subst h0
    have he : et s = bt s := g2
    rcases hst with e | e
    · subst e; exact stuck_old ho he K R
    · exact stuck_same ho hx ht ht2 he R K (e R)
  · exact stuck_mid ho hd hs hm ht2 (by omega) (by omega) (fun i hi => (h i (by omega)).resolve_left (g3 i hi)) g2 μ hμ R K
/-- After a crash. -/
theorem find_torn {bt et : Nat → List UInt8} {M top top2 : Nat} (ho : Older bt M) (hm : M < 4294967296) (ht : M ≤ top) (ht2 : M ≤ top2) {part : Option (List UInt8)} : ∀ (ys : List (List UInt8)) (s μ K : Nat), Torn bt et M s ys part → s + total (byM M ys) + 1400 < 18446744073709551616 → μ ≤ M →
    (μ = M ∨ ∀ R, wfind bt top K s μ [] s R = (R, s)) →
    ∃ j, j ≤ ys.length ∧ HasAll et M s μ (byM M (ys.take j)) ∧ (∀ R, wfind et top2 (K - total (byM M (ys.take j))) (s + total (byM M (ys.take j))) (lastM μ (byM M (ys.take j))) [] (s + total (byM M (ys.take j))) R = (R, s + total (byM M (ys.take j)))) ∧
      ∀ j0, j0 ≤ ys.length → HasAll et M s μ (byM M (ys.take j0)) → j0 ≤ j
  | [], s, μ, K, h, hs, hμ, hst => by
    have hx := torn_mixed hm [] s h hs
    refine ⟨0, Nat.le_refl _, trivial, fun R => ?_, fun j0 h0 _ => h0⟩
    show wfind et top2 K s μ [] s R = (R, s)
    cases part with
    | none =>
      have he : et s = bt s := h s (Nat.le_refl _)
      rcases hst with e | e
      · subst e; exact stuck_old ho he K R
      · exact stuck_same ho hx ht ht2 he R K (e R)
    | some d =>
      obtain ⟨h0, h1, h2, _⟩ := h
      exact stuck_torn ho hx h0 (by have ht : total (byM M []) = 0 := rfl; omega) hm ht ht2 hμ h1 h2 K hst R
  | d :: ys, s, μ, K, h, hs, hμ, hst => by
    have hx := torn_mixed hm (d :: ys) s h hs
    obtain ⟨h0, h1, h2⟩ := h
    have htot : total (byM M (d :: ys)) = cnt d.length + total (byM M ys) := rfl
    by_cases hr : HasRec et M s d
    · obtain ⟨j, g1, g2, g3, g4⟩ := find_torn ho hm ht ht2 ys (s + cnt d.length) M (K - cnt d.length) h2 (by omega) (Nat.le_refl _) (.inl rfl)
      refine ⟨j + 1, by rw [List.length_cons]; omega, ⟨hr, h0, hμ, Nat.le_refl _, hm, g2⟩, fun R => ?_, fun j0 hj hh => ?_⟩
      · have e := g3 R
        have et1 : total (byM M ((d :: ys).take (j + 1))) = cnt d.length + total (byM M (ys.take j)) := rfl
        have el : lastM μ (byM M ((d :: ys).take (j + 1))) = lastM M (byM M (ys.take j)) := rfl
        rw [et1, el, ← Nat.add_assoc, ← Nat.sub_sub]
        exact e
      · cases j0 with
        | zero => exact Nat.zero_le _
        | succ j0 =>
          have := g4 j0 (by rw [List.length_cons] at hj; omega) hh.2.2.2.2.2
          omega
    · refine ⟨0, Nat.zero_le _, trivial, fun R => ?_, fun j0 hj hh => ?_⟩
      · show wfind et top2 K s μ [] s R = (R, s)
        refine stuck_torn ho hx h0 (by omega) hm ht ht2 hμ h1 ?_ K hst R
        by_cases hq : ∃ i, i < cnt d.length ∧ et (s + i) = bt (s + i)
        · exact hq
        · exact absurd (fun i hi => (h1 i hi).resolve_left (fun e => hq ⟨i, hi, e⟩)) hr
      · cases j0 with
        | zero => exact Nat.zero_le _
        | succ j0 => exact absurd hh.1 hr
end Go.Proofs.Ytdehkdmnddflhaa
