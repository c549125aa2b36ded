/- Package wal, plain: a mount that makes its next piece the head, and itself the least mount, with all synced. -/
import Derived.Test.YtdehkdmnddflhaaWAZ
namespace Go.Proofs.Ytdehkdmnddflhaa
set_option linter.unusedVariables false
set_option linter.unusedSimpArgs false
set_option linter.unusedSectionVars false
set_option linter.unnecessarySimpa false
open Go Go.Proofs
theorem look_own {b : List UInt8} {p : Nat} (h : (lookA b p).ok = true) : lown b = p := by
  unfold lookA at h
  split at h
  · rename_i g; exact g.1
  · cases h
theorem pcs_low {M s : Nat} {d : List UInt8} {i : Nat} (hs : s + i < 18446744073709551616) : lown (pcs M s d i) = s + i := by
  have hp := partAt_length d i
  exact lown_piece (by omega) hs
theorem hasAll_low {at_ : Nat → List UInt8} {top : Nat} : ∀ (l : List (Nat × List UInt8)) (s μ q : Nat), HasAll at_ top s μ l → s ≤ q → q < s + total l → q < 18446744073709551616 → lown (at_ q) = q
  | [], s, _, q, _, h1, h2, _ => by have : total [] = 0 := rfl; omega
  | r :: l, s, μ, q, ⟨g1, _, _, _, _, g6⟩, h1, h2, h3 => by
    have ht : total (r :: l) = cnt r.2.length + total l := rfl
    by_cases hq : q < s + cnt r.2.length
    · obtain ⟨i, rfl⟩ : ∃ i, q = s + i := ⟨q - s, by omega⟩
      rw [g1 i (by omega)]
      exact pcs_low h3
    · exact hasAll_low l _ _ q g6 (by omega) (by omega) h3
theorem newp_low {M : Nat} : ∀ (zs : List (List UInt8)) (s q : Nat), s ≤ q → q < s + total (byM M zs) → q < 18446744073709551616 → lown (newp M s zs q) = q
  | [], s, q, h1, h2, _ => by have : total (byM M []) = 0 := rfl; omega
  | d :: zs, s, q, h1, h2, h3 => by
    have ht : total (byM M (d :: zs)) = cnt d.length + total (byM M zs) := rfl
    by_cases hq : q < s + cnt d.length
    · have e : newp M s (d :: zs) q = pcs M s d (q - s) := if_pos hq
      rw [e, pcs_low (by omega)]; omega
    · have e : newp M s (d :: zs) q = newp M (s + cnt d.length) zs q := if_neg hq
      rw [e]
      exact newp_low zs _ q (by omega) (by omega) h3
theorem PI.trim {S : LS} {least : Nat} {bt : Nat → List UInt8} {l : List (Nat × List UInt8)} {ys : List (List UInt8)} {sf a e : Nat} {D E : DS} (h : PI S least bt l ys none sf a e D) (hb : S.next + S.size + 3000 < 9223372036854775808) (hE : E.seen = D.seen) (hw : E.wait = []) (hm : 1 ≤ S.mount) :
    PI ⟨S.base, S.size, S.mount, S.next, S.next⟩ S.mount (win ⟨S.base, S.size, S.mount, S.next, S.next⟩ E) [] [] none 0 S.next S.next E := by
  have hn := h.next
  have hr := h.room
  have he := h.nopart rfl
  have hat : ∀ q, E.at q = D.at q := fun q => by unfold DS.at; rw [hE]
  have hh := h.head
  exact {
    size := h.size
    fits := by rw [hE]; exact h.fits
    bound := hb
    head := by show 1 ≤ S.next; omega
    mount := h.mount
    found := trivial
    len := fun d hd => by simp at hd
    plen := fun d hd => by simp at hd
    next := rfl
    room := Nat.le_add_right _ _
    nopart := fun _ => rfl
    cut := fun d hd => by simp at hd
    old := by
      intro p hp
      by_cases hw : S.next ≤ p ∧ p < S.next + S.size
      · have e1 : win ⟨S.base, S.size, S.mount, S.next, S.next⟩ E p = D.at (S.pos p) := (win_in (S := ⟨S.base, S.size, S.mount, S.next, S.next⟩) hw.1 hw.2).trans (hat _)
        rw [e1] at hp ⊢
        by_cases hin : p < S.head + S.size
        · rw [h.cur p (by omega) hin, if_neg (by omega)] at hp ⊢
          exact h.old p hp
        · exfalso
          obtain ⟨q, rfl⟩ : ∃ q, p = q + S.size := ⟨p - S.size, by have := h.size; omega⟩
          have epos : S.pos (q + S.size) = S.pos q := by unfold LS.pos; rw [Nat.add_mod_right]
          have ho := look_own hp
          rw [epos, h.cur q (by omega) (by omega)] at ho
          have hz := h.size
          by_cases hq : S.head + total l ≤ q
          · rw [if_pos ⟨hq, by omega⟩, Option.toList_none, List.append_nil, newp_low ys _ q hq (by omega) (by omega)] at ho
            omega
          · rw [if_neg (by omega), hasAll_low l _ _ q h.found (by omega) (by omega) (by omega)] at ho
            omega
      · have e1 : win ⟨S.base, S.size, S.mount, S.next, S.next⟩ E p = [] := win_out (S := ⟨S.base, S.size, S.mount, S.next, S.next⟩) hw
        rw [e1]
        unfold lookA
        split
        · show lmount [] < S.mount
          have : lmount [] = 0 := by decide
          omega
        · show 0 < S.mount; omega
    last := Nat.le_refl _
    stuck := .inl rfl
    out := fun p hp => win_out (S := ⟨S.base, S.size, S.mount, S.next, S.next⟩) hp
    cur := fun p g1 g2 => by
      show E.at _ = if S.next + 0 ≤ p ∧ p < S.next then _ else _
      have g1' : S.next ≤ p := g1
      rw [if_neg (by omega)]
      exact (win_in (S := ⟨S.base, S.size, S.mount, S.next, S.next⟩) g1 g2).symm
    from_ := Nat.le_refl _
    wait := ⟨by rw [hw]; rfl, fun m x hx => by rw [hw] at hx; simp at hx⟩
    safe := ⟨Nat.le_refl _, Nat.le_refl _⟩ }
end Go.Proofs.Ytdehkdmnddflhaa
