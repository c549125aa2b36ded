/- Package wal, plain: each call between two mounts keeps the state. -/
import Derived.Test.YtdehkdmnddflhaaWAY
namespace Go.Proofs.Ytdehkdmnddflhaa
set_option linter.unusedVariables false
set_option linter.unusedSimpArgs false
set_option linter.unusedSectionVars false
set_option linter.unnecessarySimpa false
open Go Go.Proofs
theorem wrs_sizes (S : LS) (n : Nat) (data : List UInt8) : ∀ (k i : Nat) (D : DS), (wrs S n data D i k).2.writes ≤ D.writes + k ∧ (wrs S n data D i k).2.wait.length ≤ D.wait.length + k
  | 0, _, _ => ⟨Nat.le_refl _, Nat.le_refl _⟩
  | k + 1, i, D => by
    obtain ⟨_, g2, g3⟩ := write_sizes D ((S.pos (S.next + i) : Nat) : Int) (wpiece S.mount (S.next + i) i n (partAt data i))
    simp only [wrs]
    split
    · obtain ⟨q1, q2⟩ := wrs_sizes S n data k (i + 1) (D.write ((S.pos (S.next + i) : Nat) : Int) (wpiece S.mount (S.next + i) i n (partAt data i))).2
      exact ⟨by omega, by omega⟩
    · exact ⟨by omega, by omega⟩
theorem wrs_down {S : LS} {n : Nat} {data : List UInt8} {k i : Nat} {D : DS} (hs : 0 < S.size) (hl : S.base + S.size ≤ D.seen.length) (hd : D.down = true) : wrs S n data D i (k + 1) = (4, D) := by
  have hpl : (partAt data i).length ≤ 50 := by rw [partAt_length]; omega
  have hsl := wpiece_length S.mount (S.next + i) i n (partAt data i)
  have hpos : S.pos (S.next + i) < D.seen.length := by
    have := Nat.mod_lt (S.next + i) hs
    unfold LS.pos; omega
  have hw : D.write ((S.pos (S.next + i) : Nat) : Int) (wpiece S.mount (S.next + i) i n (partAt data i)) = (4, D) := by
    unfold DS.write
    rw [if_neg (by omega), if_pos hd]
  simp only [wrs]
  rw [hw, if_neg (show ¬ ((4 : Int) = 0) by decide)]
section
variable {S : LS} {least : Nat} {bt : Nat → List UInt8} {l : List (Nat × List UInt8)} {ys : List (List UInt8)} {part : Option (List UInt8)} {sf a e : Nat} {D : DS} {data : List UInt8}
theorem PI.append (h : PI S least bt l ys part sf a e D) (hd : data.length ≤ 32768) :
    (wappend S D data = ⟨0, 3, S, D⟩) ∨
    (∃ E e2, wappend S D data = ⟨S.next, 0, { S with next := S.next + cnt data.length }, E⟩ ∧ PI { S with next := S.next + cnt data.length } least bt l (ys ++ [data]) none sf a e2 E ∧ E.down = D.down) ∨
    (∃ E part2 e2, wappend S D data = ⟨0, 4, S, E⟩ ∧ PI S least bt l ys part2 sf a e2 E ∧ E.down = true) := by
  have hc := cnt_spec hd
  have hh : S.head ≤ S.next := by have := h.next; omega
  unfold wappend
  rw [if_neg (by omega)]
  by_cases hroom : (cnt data.length : Int) > (S.size : Int) - ((S.next - S.head : Nat) : Int)
  · rw [if_pos hroom]; exact .inl rfl
  rw [if_neg hroom]
  right
  cases part with
  | some x =>
    have hdn := (h.cut x rfl).2.2.2
    have e1 : wrs S (cnt data.length) data D 0 (cnt data.length) = (4, D) := by
      obtain ⟨k, hk⟩ : ∃ k, cnt data.length = k + 1 := ⟨cnt data.length - 1, by omega⟩
      rw [hk]
      exact wrs_down h.size h.fits hdn
    rw [e1, if_neg (show ¬ ((4 : Int) = 0) by decide)]
    exact .inr ⟨D, _, _, rfl, h, hdn⟩
  | none =>
    obtain ⟨m, hm, hW, hres⟩ := wrs_some (S := S) (n := cnt data.length) (data := data) h.size (cnt data.length) 0 D h.fits (by omega)
    rcases hres with ⟨q1, q2, q3⟩ | ⟨q1, q2, q3⟩
    · rw [if_pos q1]
      exact .inl ⟨_, e + m, rfl, h.grow (ys2 := ys ++ [data]) (part2 := none) hd hW hm (by omega) (by simp) (.inl ⟨rfl, rfl, q2, rfl⟩), q3⟩
    · rw [if_neg (by rw [q1]; decide), q1]
      exact .inr ⟨_, some data, e + m, rfl, h.grow (ys2 := ys) (part2 := some data) hd hW hm (by omega) (by simp) (.inr ⟨rfl, rfl, q2, rfl, q3⟩), q3⟩
/-- Nothing of what PI looks at has changed. -/
theorem PI.same (h : PI S least bt l ys part sf a e D) {E : DS} (h1 : E.seen = D.seen) (h2 : E.wait = D.wait) (h3 : E.down = D.down) : PI S least bt l ys part sf a e E :=
  { size := h.size, fits := by rw [h1]; exact h.fits, bound := h.bound, head := h.head, mount := h.mount, found := h.found, len := h.len, plen := h.plen, next := h.next, room := h.room, nopart := h.nopart,
    cut := by rw [h3]; exact h.cut
    old := h.old, last := h.last, stuck := h.stuck, out := h.out
    cur := fun p g1 g2 => by have := h.cur p g1 g2; unfold DS.at at this ⊢; rw [h1]; exact this
    from_ := h.from_
    wait := ⟨by rw [h2]; exact h.wait.len, fun m x hx => h.wait.get m x (by rw [← h2]; exact hx)⟩
    safe := h.safe }
theorem PI.fuse (h : PI S least bt l ys part sf a e D) (n : Int) : PI S least bt l ys part sf a e (D.setFuse n) := by
  unfold DS.setFuse
  split
  · exact h
  · exact h.same rfl rfl rfl
/-- Synced: all that is whole is safe. -/
theorem PI.sync (h : PI S least bt l ys part sf a e D) (hd : ¬ D.down = true) : PI S least bt l ys part ys.length e e { D with wait := [], syncs := D.syncs + 1 } := by
  cases part with
  | some x => exact absurd (h.cut x rfl).2.2.2 hd
  | none =>
  have he := h.nopart rfl
  have hn := h.next
  exact {
    size := h.size, fits := h.fits, bound := h.bound, head := h.head, mount := h.mount, found := h.found, len := h.len, plen := h.plen, next := h.next, room := h.room, nopart := h.nopart,
    cut := fun x hx => by cases hx
    old := h.old, last := h.last, stuck := h.stuck, out := h.out
    cur := h.cur
    from_ := by have := h.from_; have := h.wait.len; omega
    wait := ⟨rfl, fun m x hx => by have hx' : ([] : List (Nat × List UInt8 × List UInt8))[m]? = some x := hx; simp at hx'⟩
    safe := ⟨Nat.le_refl _, by rw [List.take_length]; omega⟩ }
end
/-- A new disk, opened at piece 1. -/
theorem PI.new {k size least : Nat} (hs : 0 < size) (hk : size ≤ k) (hk2 : k ≤ 4096) (hl : least = 1) : PI ⟨0, size, 1, 1, 1⟩ least (win ⟨0, size, 1, 1, 1⟩ (DS.new k)) [] [] none 0 1 1 (DS.new k) where
  size := hs
  fits := by rw [new_seen]; show 0 + size ≤ k; omega
  bound := by show 1 + size + 3000 < _; omega
  head := Nat.le_refl _
  mount := by show 1 < 4294967296; decide
  found := trivial
  len := fun d hd => by simp at hd
  plen := fun d hd => by simp at hd
  next := rfl
  room := by show 1 ≤ 1 + size; omega
  nopart := fun _ => rfl
  cut := fun d hd => by simp at hd
  old := by
    intro p hp
    by_cases hw : 1 ≤ p ∧ p < 1 + size
    · have e : win ⟨0, size, 1, 1, 1⟩ (DS.new k) p = (DS.new k).at (LS.pos ⟨0, size, 1, 1, 1⟩ p) := win_in (S := ⟨0, size, 1, 1, 1⟩) hw.1 hw.2
      have hz : (DS.new k).at (LS.pos ⟨0, size, 1, 1, 1⟩ p) = List.replicate 64 0 ∨ (DS.new k).at (LS.pos ⟨0, size, 1, 1, 1⟩ p) = [] := by
        unfold DS.at DS.new
        simp only [List.getD_eq_getElem?_getD, List.getElem?_replicate]
        split
        · exact .inl rfl
        · exact .inr rfl
      rw [e] at hp
      exfalso
      have hg : ∀ b : List UInt8, lown b = 0 → (lookA b p).ok = true → False := by
        intro b h0 h1
        unfold lookA at h1
        split at h1
        · rename_i g
          have := g.1
          omega
        · cases h1
      rcases hz with g | g
      · rw [g] at hp; exact hg _ lown_zero hp
      · rw [g] at hp; exact hg _ lown_nil hp
    · have e : win ⟨0, size, 1, 1, 1⟩ (DS.new k) p = [] := win_out (S := ⟨0, size, 1, 1, 1⟩) hw
      rw [e]
      unfold lookA
      split
      · show lmount [] < 1
        decide
      · exact Nat.zero_lt_one
  last := by show least ≤ 1; omega
  stuck := .inl hl
  out := fun p hp => win_out (S := ⟨0, size, 1, 1, 1⟩) hp
  cur := fun p g1 g2 => by
    have g1' : 1 ≤ p := g1
    show (DS.new k).at _ = if 1 + 0 ≤ p ∧ p < 1 then _ else _
    rw [if_neg (by omega)]
    exact (win_in (S := ⟨0, size, 1, 1, 1⟩) g1 g2).symm
  from_ := Nat.le_refl _
  wait := ⟨rfl, fun m x hx => by have hx' : ([] : List (Nat × List UInt8 × List UInt8))[m]? = some x := hx; simp at hx'⟩
  safe := ⟨Nat.le_refl _, Nat.le_refl _⟩
end Go.Proofs.Ytdehkdmnddflhaa
