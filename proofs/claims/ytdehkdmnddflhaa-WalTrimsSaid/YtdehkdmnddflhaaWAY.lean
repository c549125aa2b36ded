/- Package wal, plain: Append, Sync and Fuse between two mounts, the power cut off or not. -/
import Derived.Test.YtdehkdmnddflhaaWAX
namespace Go.Proofs.Ytdehkdmnddflhaa
set_option linter.unusedVariables false
set_option linter.unusedSimpArgs false
set_option linter.unusedSectionVars false
set_option linter.unnecessarySimpa false
open Go Go.Proofs
/-- The first m pieces from number i on are written. -/
structure WSome (S : LS) (n : Nat) (data : List UInt8) (D E : DS) (i m : Nat) : Prop where
  len : E.seen.length = D.seen.length
  get : ∀ j, i ≤ j → j < i + m → E.at (S.pos (S.next + j)) = pad (wpiece S.mount (S.next + j) j n (partAt data j))
  other : ∀ q, (∀ j, i ≤ j → j < i + m → q ≠ S.pos (S.next + j)) → E.at q = D.at q
  wait : ∃ w : List (Nat × List UInt8 × List UInt8), E.wait = D.wait ++ w ∧ w.length = m ∧ ∀ t x, w[t]? = some x → x = (S.pos (S.next + (i + t)), D.at (S.pos (S.next + (i + t))), pad (wpiece S.mount (S.next + (i + t)) (i + t) n (partAt data (i + t))))
theorem WSome.nothing {S : LS} {n : Nat} {data : List UInt8} {D E : DS} {i : Nat} (h1 : E.seen = D.seen) (h2 : E.wait = D.wait) : WSome S n data D E i 0 :=
  ⟨by rw [h1], fun j _ _ => by omega, fun q _ => by unfold DS.at; rw [h1], ⟨[], by simp [h2], rfl, by simp⟩⟩
theorem wrs_some {S : LS} {n : Nat} {data : List UInt8} (hs : 0 < S.size) : ∀ (k i : Nat) (D : DS), S.base + S.size ≤ D.seen.length → k ≤ S.size →
    ∃ m, m ≤ k ∧ WSome S n data D (wrs S n data D i k).2 i m ∧ (((wrs S n data D i k).1 = 0 ∧ m = k ∧ (wrs S n data D i k).2.down = D.down) ∨ ((wrs S n data D i k).1 = 4 ∧ m < k ∧ (wrs S n data D i k).2.down = true))
  | 0, i, D, _, _ => ⟨0, Nat.le_refl _, WSome.nothing rfl rfl, .inl ⟨rfl, rfl, rfl⟩⟩
  | k + 1, i, D, hl, hk => by
    have hpl : (partAt data i).length ≤ 50 := by rw [partAt_length]; omega
    have hsl := wpiece_length S.mount (S.next + i) i n (partAt data i)
    have hpos : S.pos (S.next + i) < D.seen.length := by
      have := Nat.mod_lt (S.next + i) hs
      unfold LS.pos; omega
    have hw : D.write ((S.pos (S.next + i) : Nat) : Int) (wpiece S.mount (S.next + i) i n (partAt data i)) = if D.down = true then (4, D) else if D.fuse = 0 then (4, { D with down := true }) else (0, { D with seen := D.seen.set (S.pos (S.next + i)) (pad (wpiece S.mount (S.next + i) i n (partAt data i))), wait := D.wait ++ [(S.pos (S.next + i), D.seen.getD (S.pos (S.next + i)) [], pad (wpiece S.mount (S.next + i) i n (partAt data i)))], fuse := if 0 < D.fuse then D.fuse - 1 else D.fuse, writes := D.writes + 1 }) := by
      unfold DS.write
      rw [if_neg (by omega), Int.toNat_natCast]
    simp only [wrs]
    rw [hw]
    by_cases hd : D.down = true
    · rw [if_pos hd, if_neg (show ¬ ((4 : Int) = 0) by decide)]
      exact ⟨0, Nat.zero_le _, WSome.nothing rfl rfl, .inr ⟨rfl, Nat.zero_lt_succ _, hd⟩⟩
    rw [if_neg hd]
    by_cases hf : D.fuse = 0
    · rw [if_pos hf, if_neg (show ¬ ((4 : Int) = 0) by decide)]
      exact ⟨0, Nat.zero_le _, WSome.nothing rfl rfl, .inr ⟨rfl, Nat.zero_lt_succ _, rfl⟩⟩
    rw [if_neg hf, if_pos rfl]
    obtain ⟨E0, hE0⟩ : ∃ E0 : DS, E0 = { D with seen := D.seen.set (S.pos (S.next + i)) (pad (wpiece S.mount (S.next + i) i n (partAt data i))), wait := D.wait ++ [(S.pos (S.next + i), D.seen.getD (S.pos (S.next + i)) [], pad (wpiece S.mount (S.next + i) i n (partAt data i)))], fuse := if 0 < D.fuse then D.fuse - 1 else D.fuse, writes := D.writes + 1 } := ⟨_, rfl⟩
    rw [← hE0]
    have eat : ∀ q, E0.at q = if q = S.pos (S.next + i) then pad (wpiece S.mount (S.next + i) i n (partAt data i)) else D.at q := by
      intro q; rw [hE0]; exact at_set hpos
    obtain ⟨m, hm, hW, hres⟩ := wrs_some (n := n) (data := data) hs k (i + 1) E0 (by rw [hE0]; simpa using hl) (by omega)
    generalize wrs S n data E0 (i + 1) k = r at hW hres
    have hne : ∀ j, i + 1 ≤ j → j < i + 1 + k → S.pos (S.next + i) ≠ S.pos (S.next + j) := fun j h1 h2 => pos_ne S (by omega) (by omega)
    obtain ⟨w, hw1, hw2, hw3⟩ := hW.wait
    refine ⟨m + 1, by omega, ⟨by rw [hW.len, hE0]; simp, ?_, ?_, ⟨(S.pos (S.next + i), D.seen.getD (S.pos (S.next + i)) [], pad (wpiece S.mount (S.next + i) i n (partAt data i))) :: w, by rw [hw1, hE0]; simp, by simp [hw2], ?_⟩⟩, ?_⟩
    · intro j h1 h2
      by_cases hj : j = i
      · subst hj
        rw [hW.other _ (fun j h3 h4 => hne j h3 (by omega)), eat, if_pos rfl]
      · exact hW.get j (by omega) (by omega)
    · intro q hq
      rw [hW.other q (fun j h3 h4 => hq j (by omega) (by omega)), eat, if_neg (hq i (Nat.le_refl _) (by omega))]
    · intro t x hx
      cases t with
      | zero =>
        simp only [List.getElem?_cons_zero, Option.some.injEq] at hx
        exact hx.symm
      | succ t =>
        rw [List.getElem?_cons_succ] at hx
        have h1 := hw3 t x hx
        have ht := (List.getElem?_eq_some_iff.1 hx).1
        rw [show i + 1 + t = i + (t + 1) by omega] at h1
        rw [h1, eat, if_neg]
        intro e
        exact hne (i + (t + 1)) (by omega) (by omega) e.symm
    · rcases hres with ⟨q1, q2, q3⟩ | ⟨q1, q2, q3⟩
      · exact .inl ⟨q1, by omega, by rw [q3, hE0]⟩
      · exact .inr ⟨q1, by omega, q3⟩
theorem newp_snoc (M : Nat) (d : List UInt8) : ∀ (ys : List (List UInt8)) (s p : Nat), s ≤ p → newp M s (ys ++ [d]) p = if p < s + total (byM M ys) then newp M s ys p else if p < s + total (byM M ys) + cnt d.length then pcs M (s + total (byM M ys)) d (p - (s + total (byM M ys))) else []
  | [], s, p, hp => by
    have ht : total (byM M []) = 0 := rfl
    show (if p < s + cnt d.length then pcs M s d (p - s) else []) = _
    rw [ht, Nat.add_zero, if_neg (show ¬ p < s by omega)]
  | y :: ys, s, p, hp => by
    have ht : total (byM M (y :: ys)) = cnt y.length + total (byM M ys) := rfl
    show (if p < s + cnt y.length then pcs M s y (p - s) else newp M (s + cnt y.length) (ys ++ [d]) p) = if _ then (if p < s + cnt y.length then pcs M s y (p - s) else newp M (s + cnt y.length) ys p) else _
    by_cases h : p < s + cnt y.length
    · rw [if_pos h, if_pos (by omega), if_pos h]
    · rw [if_neg h, if_neg h, newp_snoc M d ys _ p (by omega), ht, Nat.add_assoc s]
/-- An append that is tried: m pieces are written, all or not. -/
theorem PI.grow {S : LS} {least : Nat} {bt : Nat → List UInt8} {l : List (Nat × List UInt8)} {ys ys2 : List (List UInt8)} {part2 : Option (List UInt8)} {sf a e nx2 m : Nat} {D E : DS} {data : List UInt8} (h : PI S least bt l ys none sf a e D) (hd : data.length ≤ 32768)
    (hw : WSome S (cnt data.length) data D E 0 m) (hm : m ≤ cnt data.length) (hroom : S.next + cnt data.length ≤ S.head + S.size) (hy : ys2 ++ part2.toList = ys ++ [data])
    (hcase : (ys2 = ys ++ [data] ∧ part2 = none ∧ m = cnt data.length ∧ nx2 = S.next + cnt data.length) ∨ (ys2 = ys ∧ part2 = some data ∧ m < cnt data.length ∧ nx2 = S.next ∧ E.down = true)) :
    PI { S with next := nx2 } least bt l ys2 part2 sf a (e + m) E := by
  have hb := h.bound
  have hnext := h.next
  have he : e = S.next := h.nopart rfl
  have hfrom := h.from_
  have hwl := h.wait.len
  have htb : total (byM S.mount (ys ++ [data])) = total (byM S.mount ys) + cnt data.length := by
    unfold byM; rw [List.map_append]; exact total_snoc _ _
  have hnp : ∀ p, S.head + total l ≤ p → newp S.mount (S.head + total l) (ys2 ++ part2.toList) p = if p < e then newp S.mount (S.head + total l) (ys ++ (none : Option (List UInt8)).toList) p else if p < S.next + cnt data.length then pcs S.mount S.next data (p - S.next) else [] := by
    intro p hp
    rw [hy, newp_snoc S.mount data ys _ p hp, hnext, ← he]
    simp only [Option.toList_none, List.append_nil]
  have hoth : ∀ p, S.head ≤ p → p < S.head + S.size → ¬ (e ≤ p ∧ p < e + m) → E.at (S.pos p) = D.at (S.pos p) := by
    intro p g1 g2 g3
    refine hw.other _ (fun j _ h2 => ?_)
    rcases Nat.lt_or_ge p (S.next + j) with g | g
    · exact pos_ne S g (by omega)
    · exact (pos_ne S (by omega) (by omega)).symm
  exact {
    size := h.size
    fits := by show S.base + S.size ≤ _; rw [hw.len]; exact h.fits
    bound := h.bound
    head := h.head
    mount := h.mount
    found := h.found
    len := by
      rcases hcase with ⟨q, _⟩ | ⟨q, _⟩
      · subst q
        intro x hx
        rcases List.mem_append.1 hx with g | g
        · exact h.len x g
        · rw [List.mem_singleton.1 g]; exact hd
      · subst q; exact h.len
    plen := by
      rcases hcase with ⟨_, q, _⟩ | ⟨_, q, _⟩
      · subst q; intro x hx; simp at hx
      · subst q; intro x hx; simp at hx; subst hx; exact hd
    next := by
      show S.head + total l + total (byM S.mount ys2) = nx2
      rcases hcase with ⟨q, _, _, q2⟩ | ⟨q, _, _, q2, _⟩
      · rw [q, q2, htb]; omega
      · rw [q, q2]; exact hnext
    room := by
      show nx2 ≤ S.head + S.size
      rcases hcase with ⟨_, _, _, q2⟩ | ⟨_, _, _, q2, _⟩ <;> omega
    nopart := by
      intro hp
      show e + m = nx2
      rcases hcase with ⟨_, _, q, q2⟩ | ⟨_, q, _⟩
      · omega
      · rw [q] at hp; cases hp
    cut := by
      intro x hx
      show nx2 ≤ e + m ∧ e + m < nx2 + cnt x.length ∧ nx2 + cnt x.length ≤ S.head + S.size ∧ E.down = true
      rcases hcase with ⟨_, q, _⟩ | ⟨_, q, q1, q2, q3⟩
      · rw [q] at hx; cases hx
      · rw [q] at hx
        simp only [Option.some.injEq] at hx
        subst hx
        exact ⟨by omega, by omega, by omega, q3⟩
    old := h.old
    last := h.last
    stuck := h.stuck
    out := h.out
    cur := by
      intro p g1 g2
      show E.at (S.pos p) = if S.head + total l ≤ p ∧ p < e + m then newp S.mount (S.head + total l) (ys2 ++ part2.toList) p else bt p
      by_cases hn : e ≤ p ∧ p < e + m
      · rw [if_pos ⟨by omega, hn.2⟩, hnp p (by omega), if_neg (by omega), if_pos (by omega)]
        have := hw.get (p - S.next) (Nat.zero_le _) (by omega)
        rw [show S.next + (p - S.next) = p by omega] at this
        rw [this]
        unfold pcs
        rw [show S.next + (p - S.next) = p by omega]
      · rw [hoth p g1 g2 hn, h.cur p g1 g2]
        by_cases hq : S.head + total l ≤ p ∧ p < e
        · rw [if_pos hq, if_pos ⟨hq.1, by omega⟩, hnp p hq.1, if_pos hq.2]
        · rw [if_neg hq, if_neg (by omega)]
    from_ := h.from_
    wait := by
      obtain ⟨w, w1, w2, w3⟩ := hw.wait
      refine ⟨by rw [w1, List.length_append, w2]; omega, fun t x hx => ?_⟩
      show x = (S.pos (a + t), bt (a + t), newp S.mount (S.head + total l) (ys2 ++ part2.toList) (a + t))
      rw [w1] at hx
      by_cases ht : t < D.wait.length
      · rw [List.getElem?_append_left ht] at hx
        rw [h.wait.get t x hx, hnp (a + t) (by omega), if_pos (by omega)]
      · rw [List.getElem?_append_right (by omega)] at hx
        have hlt := (List.getElem?_eq_some_iff.1 hx).1
        have e1 := w3 _ x hx
        rw [Nat.zero_add, show S.next + (t - D.wait.length) = a + t by omega] at e1
        rw [e1, h.cur (a + t) (by omega) (by omega), if_neg (by omega), hnp (a + t) (by omega), if_neg (by omega), if_pos (by omega)]
        unfold pcs
        rw [show S.next + (a + t - S.next) = a + t by omega, show a + t - S.next = t - D.wait.length by omega]
    safe := by
      have h1 := h.safe
      rcases hcase with ⟨q, _⟩ | ⟨q, _⟩
      · rw [q, List.length_append, List.take_append_of_le_length h1.1]
        exact ⟨by omega, h1.2⟩
      · rw [q]; exact h1 }
end Go.Proofs.Ytdehkdmnddflhaa
