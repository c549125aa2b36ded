/- Package wal, plain: what Append does to a ring. -/
import Derived.Test.YtdehkdmnddflhaaWAP
namespace Go.Proofs.Ytdehkdmnddflhaa
set_option linter.unusedVariables false
set_option linter.unusedSimpArgs false
set_option linter.unusedSectionVars false
set_option linter.unnecessarySimpa false
open Go Go.Proofs
theorem mod_inj {n s t : Nat} (hst : s ≤ t) (ht : t < s + n) (h : s % n = t % n) : s = t := by
  have h1 := Nat.div_add_mod s n
  have h2 := Nat.div_add_mod t n
  rcases Nat.lt_or_ge (s / n) (t / n) with h3 | h3
  · have := Nat.mul_le_mul_left n (show s / n + 1 ≤ t / n from h3)
    rw [Nat.mul_add, Nat.mul_one] at this
    omega
  · have := Nat.mul_le_mul_left n h3
    omega
theorem pos_ne (S : LS) {s t : Nat} (hst : s < t) (ht : t < s + S.size) : S.pos s ≠ S.pos t := by
  intro h
  unfold LS.pos at h
  have := mod_inj (n := S.size) (Nat.le_of_lt hst) ht (by omega)
  omega
/-- A disk that takes writes. -/
structure Fine (T : DS) (n k : Nat) : Prop where
  fuse : T.fuse < 0
  down : T.down = false
  len : T.seen.length = n
  writes : T.writes ≤ k
  wait : T.wait.length ≤ k
theorem new_seen (k : Nat) : (DS.new k).seen.length = k := by simp [DS.new]
theorem Fine.new (n : Nat) : Fine (DS.new n) n 0 := ⟨by simp [DS.new], rfl, new_seen n, by simp [DS.new], by simp [DS.new]⟩
/-- What pieces from number i on, k of them, have done. -/
structure WWr (S : LS) (n : Nat) (data : List UInt8) (D E : DS) (i k : Nat) : Prop where
  len : E.seen.length = D.seen.length
  get : ∀ j, i ≤ j → j < i + k → E.at (S.pos (S.next + j)) = pad (wpiece S.mount (S.next + j) j n (partAt data j))
  other : ∀ q, (∀ j, i ≤ j → j < i + k → q ≠ S.pos (S.next + j)) → E.at q = D.at q
  wait : ∃ w : List (Nat × List UInt8 × List UInt8), E.wait = D.wait ++ w ∧ w.length = k ∧ ∀ m x, w[m]? = some x → x.1 = S.pos (S.next + (i + m)) ∧ x.2.1 = D.at (S.pos (S.next + (i + m))) ∧ x.2.2 = pad (wpiece S.mount (S.next + (i + m)) (i + m) n (partAt data (i + m)))
  fuse : E.fuse = D.fuse
  down : E.down = D.down
  writes : E.writes = D.writes + k
  syncs : E.syncs = D.syncs
theorem at_set {seen : List (List UInt8)} {q p : Nat} {s : List UInt8} (hp : p < seen.length) : (seen.set p s).getD q [] = if q = p then s else seen.getD q [] := by
  simp only [List.getD_eq_getElem?_getD, List.getElem?_set]
  by_cases h : p = q
  · subst h; simp [hp]
  · rw [if_neg h, if_neg (fun e => h e.symm)]
theorem wrs_wrote {S : LS} {n : Nat} {data : List UInt8} (hs : 0 < S.size) : ∀ (k i : Nat) (D : DS), D.fuse < 0 → D.down = false → S.base + S.size ≤ D.seen.length → k ≤ S.size →
    (wrs S n data D i k).1 = 0 ∧ WWr S n data D (wrs S n data D i k).2 i k
  | 0, i, D, _, _, _, _ => ⟨rfl, rfl, fun j _ _ => by omega, fun q _ => rfl, ⟨[], by simp [wrs], rfl, by simp⟩, rfl, rfl, rfl, rfl⟩
  | k + 1, i, D, hf, hd, hl, hk => by
    have hpl : (partAt data i).length ≤ 50 := by rw [partAt_length]; omega
    have hsl := wpiece_length S.mount (S.next + i) i n (partAt data i)
    have hpos : S.pos (S.next + i) < D.seen.length := by
      have := Nat.mod_lt (S.next + i) hs
      unfold LS.pos; omega
    have hw : D.write ((S.pos (S.next + i) : Nat) : Int) (wpiece S.mount (S.next + i) i n (partAt data i)) = (0, { D with seen := D.seen.set (S.pos (S.next + i)) (pad (wpiece S.mount (S.next + i) i n (partAt data i))), wait := D.wait ++ [(S.pos (S.next + i), D.seen.getD (S.pos (S.next + i)) [], pad (wpiece S.mount (S.next + i) i n (partAt data i)))], fuse := D.fuse, writes := D.writes + 1 }) := by
      unfold DS.write
      rw [if_neg (by omega), if_neg (by rw [hd]; simp), if_neg (by omega), if_neg (by omega), Int.toNat_natCast]
    simp only [wrs]
    rw [hw, if_pos rfl]
    obtain ⟨E0, hE0⟩ : ∃ E0 : DS, E0 = { D with seen := D.seen.set (S.pos (S.next + i)) (pad (wpiece S.mount (S.next + i) i n (partAt data i))), wait := D.wait ++ [(S.pos (S.next + i), D.seen.getD (S.pos (S.next + i)) [], pad (wpiece S.mount (S.next + i) i n (partAt data i)))], fuse := D.fuse, writes := D.writes + 1 } := ⟨_, rfl⟩
    rw [← hE0]
    have eat : ∀ q, E0.at q = if q = S.pos (S.next + i) then pad (wpiece S.mount (S.next + i) i n (partAt data i)) else D.at q := by
      intro q; rw [hE0]; exact at_set hpos
    obtain ⟨h0, hW⟩ := wrs_wrote (n := n) (data := data) hs k (i + 1) E0 (by rw [hE0]; exact hf) (by rw [hE0]; exact hd) (by rw [hE0]; simpa using hl) (by omega)
    refine ⟨h0, ?_⟩
    generalize (wrs S n data E0 (i + 1) k).2 = E at hW
    have hne : ∀ j, i + 1 ≤ j → j < i + 1 + k → S.pos (S.next + i) ≠ S.pos (S.next + j) := fun j h1 h2 => pos_ne S (by omega) (by omega)
    obtain ⟨w, hw1, hw2, hw3⟩ := hW.wait
    refine ⟨by rw [hW.len, hE0]; simp, ?_, ?_, ⟨(S.pos (S.next + i), D.seen.getD (S.pos (S.next + i)) [], pad (wpiece S.mount (S.next + i) i n (partAt data i))) :: w, by rw [hw1, hE0]; simp, by simp [hw2], ?_⟩, by rw [hW.fuse, hE0], by rw [hW.down, hE0], by rw [hW.writes, hE0]; show D.writes + 1 + k = _; omega, by rw [hW.syncs, hE0]⟩
    · intro j h1 h2
      by_cases hj : j = i
      · subst hj
        rw [hW.other _ (fun j h3 h4 => hne j h3 h4), eat, if_pos rfl]
      · exact hW.get j (by omega) (by omega)
    · intro q hq
      rw [hW.other q (fun j h3 h4 => hq j (by omega) (by omega)), eat, if_neg (hq i (Nat.le_refl _) (by omega))]
    · intro m x hx
      cases m with
      | zero =>
        simp only [List.getElem?_cons_zero, Option.some.injEq] at hx
        subst hx
        exact ⟨rfl, rfl, rfl⟩
      | succ m =>
        rw [List.getElem?_cons_succ] at hx
        obtain ⟨h1, h2, h3⟩ := hw3 m x hx
        rw [show i + 1 + m = i + (m + 1) by omega] at h1 h2 h3
        refine ⟨h1, ?_, h3⟩
        rw [h2, eat, if_neg]
        intro e
        exact hne (i + (m + 1)) (by omega) (by have := (List.getElem?_eq_some_iff.1 hx).1; omega) e.symm
theorem wappend_full {S : LS} {D : DS} {data : List UInt8} (hd : data.length ≤ 32768) (hr : S.size < S.next - S.head + cnt data.length) : wappend S D data = ⟨0, 3, S, D⟩ := by
  have hc := cnt_spec hd
  unfold wappend
  rw [if_neg (by omega), if_pos (by omega)]
theorem wappend_ok {S : LS} {D : DS} {data : List UInt8} {n k : Nat} (hd : data.length ≤ 32768) (hs : 0 < S.size) (hf : Fine D n k) (hl : S.base + S.size ≤ n) (hr : S.next - S.head + cnt data.length ≤ S.size) :
    ∃ E, wappend S D data = ⟨S.next, 0, { S with next := S.next + cnt data.length }, E⟩ ∧ WWr S (cnt data.length) data D E 0 (cnt data.length) ∧ Fine E n (k + cnt data.length) := by
  have hc := cnt_spec hd
  obtain ⟨h1, h2⟩ := wrs_wrote (S := S) (n := cnt data.length) (data := data) hs (cnt data.length) 0 D hf.fuse hf.down (by rw [hf.len]; exact hl) (by omega)
  refine ⟨(wrs S (cnt data.length) data D 0 (cnt data.length)).2, ?_, h2, ⟨by rw [h2.fuse]; exact hf.fuse, by rw [h2.down]; exact hf.down, by rw [h2.len]; exact hf.len, by rw [h2.writes]; have := hf.writes; omega, ?_⟩⟩
  · unfold wappend
    rw [if_neg (by omega), if_neg (by omega), h1, if_pos rfl]
  · obtain ⟨w, h3, h4, _⟩ := h2.wait
    rw [h3, List.length_append, h4]; have := hf.wait; omega
theorem hasAll_snoc {at_ : Nat → List UInt8} {top : Nat} {r : Nat × List UInt8} : ∀ (l : List (Nat × List UInt8)) (s μ : Nat), HasAll at_ top s μ l → HasRec at_ r.1 (s + total l) r.2 → r.2.length ≤ 32768 → lastM μ l ≤ r.1 → r.1 ≤ top → r.1 < 4294967296 → HasAll at_ top s μ (l ++ [r])
  | [], s, μ, _, h2, h3, h4, h5, h6 => ⟨h2, h3, h4, h5, h6, trivial⟩
  | x :: l, s, μ, h, h2, h3, h4, h5, h6 => by
    obtain ⟨g1, g2, g3, g4, g5, g6⟩ := h
    refine ⟨g1, g2, g3, g4, g5, hasAll_snoc l _ _ g6 ?_ h3 h4 h5 h6⟩
    simp only [total] at h2
    rw [Nat.add_assoc]; exact h2
theorem total_snoc (r : Nat × List UInt8) : ∀ l : List (Nat × List UInt8), total (l ++ [r]) = total l + cnt r.2.length
  | [] => by simp [total]
  | x :: l => by simp only [List.cons_append, total, total_snoc r l]; omega
theorem lastM_snoc (r : Nat × List UInt8) : ∀ (l : List (Nat × List UInt8)) (μ : Nat), lastM μ (l ++ [r]) = r.1
  | [], _ => rfl
  | x :: l, _ => lastM_snoc r l _
theorem recsOf_snoc (r : Nat × List UInt8) : ∀ (l : List (Nat × List UInt8)) (s : Nat), recsOf s (l ++ [r]) = recsOf s l ++ [(s + total l, s + total l + cnt r.2.length, r.2)]
  | [], s => by simp [recsOf, total]
  | x :: l, s => by simp only [List.cons_append, recsOf, recsOf_snoc r l, total, Nat.add_assoc]
theorem hasAll_agree {at_ bt : Nat → List UInt8} {top : Nat} : ∀ (l : List (Nat × List UInt8)) (s μ : Nat), HasAll at_ top s μ l → (∀ q, s ≤ q → q < s + total l → bt q = at_ q) → HasAll bt top s μ l
  | [], _, _, _, _ => trivial
  | x :: l, s, μ, h, ha => by
    obtain ⟨g1, g2, g3, g4, g5, g6⟩ := h
    simp only [total] at ha
    exact ⟨fun i hi => by rw [ha _ (by omega) (by omega)]; exact g1 i hi, g2, g3, g4, g5, hasAll_agree l _ _ g6 (fun q h1 h2 => ha q (by omega) (by omega))⟩
/-- The ring's records from h on are l, and nothing newer stands. -/
structure LInv (S : LS) (D : DS) (h : Nat) (l : List (Nat × List UInt8)) : Prop where
  all : HasAll (wat D S) S.mount h 1 l
  tot : h + total l = S.next
  win : S.next ≤ h + S.size
  low : ∀ s, lown (wat D S s) < S.next
  last : lastM 1 l ≤ S.mount
theorem lown_zero : lown (List.replicate 64 0) = 0 := by decide
theorem lown_nil : lown [] = 0 := by decide
theorem LInv.new {S : LS} {n : Nat} (hn : 0 < S.next) (hm : 0 < S.mount) : LInv S (DS.new n) S.next [] :=
  ⟨trivial, rfl, Nat.le_add_right _ _, fun s => by
    have : wat (DS.new n) S s = List.replicate 64 0 ∨ wat (DS.new n) S s = [] := by
      unfold wat DS.at DS.new
      simp only [List.getD_eq_getElem?_getD, List.getElem?_replicate]
      split
      · left; rfl
      · right; rfl
    rcases this with h | h <;> rw [h]
    · rw [lown_zero]; exact hn
    · rw [lown_nil]; exact hn, hm⟩
theorem LInv.append {S : LS} {D E : DS} {h : Nat} {l : List (Nat × List UInt8)} {data : List UInt8} (hi : LInv S D h l) (hd : data.length ≤ 32768) (hs : 0 < S.size) (hm : S.mount < 4294967296) (hn : S.next + 656 < 18446744073709551616)
    (hw : WWr S (cnt data.length) data D E 0 (cnt data.length)) (hr : S.next + cnt data.length ≤ h + S.size) : LInv { S with next := S.next + cnt data.length } E h (l ++ [(S.mount, data)]) := by
  have hc := cnt_spec hd
  have hsame : ∀ q, h ≤ q → q < h + total l → wat E S q = wat D S q := by
    intro q h1 h2
    have := hi.tot
    refine hw.other _ (fun j _ h3 => ?_)
    exact pos_ne S (by omega) (by omega)
  have hget : ∀ j, j < cnt data.length → wat E S (S.next + j) = pad (wpiece S.mount (S.next + j) j (cnt data.length) (partAt data j)) := fun j hj => hw.get j (Nat.zero_le _) (by omega)
  refine ⟨?_, ?_, hr, ?_, ?_⟩
  · refine hasAll_snoc l h 1 (hasAll_agree l h 1 hi.all hsame) ?_ hd hi.last (Nat.le_refl _) hm
    rw [hi.tot]
    exact hget
  · rw [total_snoc, ← Nat.add_assoc, hi.tot]
  · intro s
    show lown (E.at (S.pos s)) < S.next + cnt data.length
    by_cases hx : ∃ j, j < cnt data.length ∧ S.pos s = S.pos (S.next + j)
    · obtain ⟨j, hj, e⟩ := hx
      rw [e, show E.at (S.pos (S.next + j)) = _ from hget j hj, lown_piece (by rw [partAt_length]; omega) (by omega)]
      omega
    · rw [hw.other _ (fun j _ h3 e => hx ⟨j, by omega, e⟩)]
      have := hi.low s
      show lown (D.at (S.pos s)) < _
      exact Nat.lt_of_lt_of_le this (by omega)
  · rw [lastM_snoc]; exact Nat.le_refl _
/-- Opened anew at h: just these. -/
theorem LInv.found {S : LS} {D : DS} {h : Nat} {l : List (Nat × List UInt8)} (hi : LInv S D h l) (top : Nat) (ht : S.mount ≤ top) (hn : S.next + 656 < 18446744073709551616) :
    wfound D S.base S.size top h 1 = (recsOf h l, S.next) := by
  unfold wfound
  have hall : HasAll (wat D ⟨S.base, S.size, top, h, h⟩) top h 1 l := by
    have : ∀ (l : List (Nat × List UInt8)) (s μ : Nat), HasAll (wat D S) S.mount s μ l → HasAll (wat D ⟨S.base, S.size, top, h, h⟩) top s μ l := by
      intro l
      induction l with
      | nil => intro s μ _; trivial
      | cons x l ih => intro s μ ⟨g1, g2, g3, g4, g5, g6⟩; exact ⟨g1, g2, g3, by omega, g5, ih _ _ g6⟩
    exact this l h 1 hi.all
  have htot := hi.tot
  have hwin := hi.win
  have e := find_all (S.size - total l) l h 1 [] hall (by omega)
  rw [show S.size - total l + total l = S.size by omega] at e
  rw [e, htot, List.nil_append]
  refine find_stop ?_
  have := hi.low S.next
  exact Nat.ne_of_lt this
end Go.Proofs.Ytdehkdmnddflhaa
