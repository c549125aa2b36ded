/- Package block, plain: what Write has laid Read finds. -/
import Derived.Test.YtgcfonjiingpnaaBK3
namespace Go.Proofs.Ytgcfonjiingpnaa
set_option linter.unusedVariables false
set_option linter.unusedSimpArgs false
set_option linter.unusedSectionVars false
set_option linter.unnecessarySimpa false
open Go Go.Proofs
theorem bnum_app (k v : Nat) (rest : List UInt8) : IS.num ⟨be k v ++ rest, false⟩ k = (v % 256 ^ k, ⟨rest, false⟩) := by
  unfold IS.num
  rw [if_neg (by simp)]
  simp only [IS.fwd]
  rw [List.take_append_of_le_length (by simp), List.take_of_length_le (by simp), unbe_be, List.drop_append_of_le_length (by simp), List.drop_of_length_le (by simp), List.nil_append]
theorem btext_app (s rest : List UInt8) (h : s.length < 65536) : IS.text ⟨be 2 s.length ++ (s ++ rest), false⟩ = (s, ⟨rest, false⟩) := by
  have hl : IS.long ⟨be 2 s.length ++ (s ++ rest), false⟩ = s.length := by
    unfold IS.long
    rw [List.take_append_of_le_length (by simp), List.take_of_length_le (by simp), unbe_be, Nat.mod_eq_of_lt (by omega)]
  rw [IS.text_ok (by rw [hl]; simp), hl]
  simp only [IS.fwd]
  have h2 : (be 2 s.length ++ (s ++ rest)).drop 2 = s ++ rest := by
    rw [List.drop_append_of_le_length (by simp), List.drop_of_length_le (by simp), List.nil_append]
  rw [← List.drop_drop, h2, List.take_append_of_le_length (Nat.le_refl _), List.take_of_length_le (Nat.le_refl _), List.drop_append_of_le_length (Nat.le_refl _), List.drop_of_length_le (Nat.le_refl _), List.nil_append]
theorem sect_length (id i n : Nat) (part : List UInt8) : (sect id i n part).length = 14 + part.length := by simp [sect]; omega
theorem parts_sect (id i n : Nat) (part : List UInt8) (hid : id < 18446744073709551616) (hi : i < 65536) (hn : n < 65536) (hp : part.length ≤ 50) :
    parts (pad (sect id i n part)) = { own := id, place := i, count := n, data := part, rest := ⟨List.replicate (64 - (sect id i n part).length) 0, false⟩ } := by
  have e : pad (sect id i n part) = be 8 id ++ (be 2 i ++ (be 2 n ++ (be 2 part.length ++ (part ++ List.replicate (64 - (sect id i n part).length) 0)))) := by
    unfold pad; generalize List.replicate _ (0 : UInt8) = z; simp [sect]
  unfold parts
  rw [e, bnum_app, bnum_app, bnum_app, btext_app _ _ (by omega)]
  simp only
  rw [Nat.mod_eq_of_lt hid, Nat.mod_eq_of_lt hi, Nat.mod_eq_of_lt hn]
theorem parts_zero : (parts (List.replicate 64 0)).own = 0 := by decide
theorem piece_own {s : List UInt8} {id i n : Nat} (h : (parts s).own ≠ id) : pieceA s id i n = ⟨[], 0, false⟩ := if_neg fun hg => h hg.2.1
theorem piece_place {s : List UInt8} {id i n : Nat} (h : (parts s).place ≠ i) : pieceA s id i n = ⟨[], 0, false⟩ := if_neg fun hg => h hg.2.2.1
theorem cnt_spec {k : Nat} (h : k ≤ 32768) : 1 ≤ cnt k ∧ cnt k ≤ 656 ∧ k ≤ 50 * cnt k ∧ 50 * (cnt k - 1) ≤ k ∧ (1 < cnt k → 50 * (cnt k - 1) < k) := by
  unfold cnt; rw [if_neg (by omega)]; omega
theorem partAt_length (data : List UInt8) (i : Nat) : (partAt data i).length = min 50 (data.length - 50 * i) := by simp [partAt]
theorem piece_sect (id i : Nat) (data : List UInt8) (hd : data.length ≤ 32768) (hid : id < 18446744073709551616) (hi : i < cnt data.length) (m : Nat) (hm : m = 0 ∨ m = cnt data.length) :
    pieceA (pad (sect id i (cnt data.length) (partAt data i))) id i m = ⟨partAt data i, cnt data.length, true⟩ := by
  have hc := cnt_spec hd
  have hl := partAt_length data i
  unfold pieceA
  rw [parts_sect id i _ _ hid (by omega) (by omega) (by omega)]
  refine if_pos ⟨rfl, rfl, rfl, ?_, hc.1, hc.2.1, by show (partAt data i).length ≤ 50; omega, ?_, ?_, ?_⟩
  · show m = 0 ∨ cnt data.length = m
    omega
  · intro b hb; exact (List.mem_replicate.1 hb).2
  · show ¬ ((i : Int) < (cnt data.length : Int) - 1 ∧ (partAt data i).length < 50)
    omega
  · show ¬ (0 < i ∧ (partAt data i).length = 0)
    omega
theorem take_part (data : List UInt8) (m : Nat) : data.take (50 * m) ++ partAt data m = data.take (50 * (m + 1)) := by
  unfold partAt
  rw [show 50 * (m + 1) = 50 * m + 50 by omega, List.take_add]
/-- As far as the sectors are the block's, Read goes. -/
theorem brd_run {seen : List (List UInt8)} {st id : Nat} {data : List UInt8} (hd : data.length ≤ 32768) (hid : id < 18446744073709551616) (k : Nat) : ∀ m, m ≤ cnt data.length →
    (∀ j, j < m → seen[st + j]? = some (pad (sect id j (cnt data.length) (partAt data j)))) →
    brd seen st id (k + m) 0 0 [] = brd seen st id k m (if m = 0 then 0 else cnt data.length) (data.take (50 * m))
  | 0, _, _ => by simp
  | m + 1, hm, h => by
    rw [show k + (m + 1) = (k + 1) + m by omega, brd_run hd hid (k + 1) m (by omega) (fun j hj => h j (by omega))]
    have hm' := h m (by omega)
    have hlt := (List.getElem?_eq_some_iff.1 hm').1
    have hget : seen.getD (st + m) [] = pad (sect id m (cnt data.length) (partAt data m)) := by rw [List.getD_eq_getElem?_getD, hm']; rfl
    rw [brd_succ]
    rw [if_pos (by by_cases h0 : m = 0; exact .inl h0; right; rw [if_neg h0]; omega), if_pos hlt, hget, piece_sect id m data hd hid (by omega) _ (by split; exact .inl rfl; exact .inr rfl)]
    rw [if_pos rfl, take_part, if_neg (by omega)]
theorem brd_all {seen : List (List UInt8)} {st id : Nat} {data : List UInt8} (hd : data.length ≤ 32768) (hid : id < 18446744073709551616)
    (h : ∀ j, j < cnt data.length → seen[st + j]? = some (pad (sect id j (cnt data.length) (partAt data j)))) : brd seen st id 700 0 0 [] = (data, 0) := by
  have hc := cnt_spec hd
  rw [show 700 = (699 - cnt data.length + 1) + cnt data.length by omega, brd_run hd hid _ _ (Nat.le_refl _) h]
  rw [brd_succ]
  rw [if_neg (by rw [if_neg (by omega)]; omega), List.take_of_length_le (by omega), if_neg (by omega)]
theorem brd_torn {seen : List (List UInt8)} {st id m : Nat} {data : List UInt8} (hd : data.length ≤ 32768) (hid : id < 18446744073709551616) (hm : m < cnt data.length)
    (h : ∀ j, j < m → seen[st + j]? = some (pad (sect id j (cnt data.length) (partAt data j))))
    (hb : ∀ s c, seen[st + m]? = some s → (pieceA s id m c).ok = false) : brd seen st id 700 0 0 [] = ([], 2) := by
  have hc := cnt_spec hd
  rw [show 700 = (699 - m + 1) + m by omega, brd_run hd hid _ m (by omega) h]
  rw [brd_succ]
  rw [if_pos (by by_cases h0 : m = 0; exact .inl h0; right; rw [if_neg h0]; omega)]
  split
  · rename_i hlt
    rw [if_neg]
    rw [hb _ _ (List.getElem?_eq_getElem hlt ▸ by simp [List.getD_eq_getElem?_getD, List.getElem?_eq_getElem hlt])]
    simp
  · rfl
/-- A first sector that is not the block's. -/
theorem brd_first {seen : List (List UInt8)} {st id : Nat} (hb : ∀ s, seen[st]? = some s → (pieceA s id 0 0).ok = false) : brd seen st id 700 0 0 [] = ([], 2) := by
  rw [show (700 : Nat) = 699 + 1 from rfl, brd_succ, if_pos (.inl rfl)]
  split
  · rename_i hlt
    rw [if_neg]
    rw [hb _ (by rw [Nat.add_zero, List.getElem?_eq_getElem (by omega), List.getD_eq_getElem?_getD, List.getElem?_eq_getElem (by omega)]; rfl)]
    simp
  · rfl
/-- What k sectors from number i on have done. -/
structure Wrote (S T : DS) (st id n : Nat) (data : List UInt8) (i k : Nat) : Prop where
  len : T.seen.length = S.seen.length
  get : ∀ j, i ≤ j → j < i + k → T.seen[st + j]? = some (pad (sect id j n (partAt data j)))
  other : ∀ q, (q < st + i ∨ st + i + k ≤ q) → T.seen[q]? = S.seen[q]?
  wait : ∃ w : List (Nat × List UInt8 × List UInt8), T.wait = S.wait ++ w ∧ w.length = k ∧ ∀ m x, w[m]? = some x → x.1 = st + i + m ∧ S.seen[st + i + m]? = some x.2.1 ∧ x.2.2 = pad (sect id (i + m) n (partAt data (i + m)))
  fuse : T.fuse = S.fuse
  down : T.down = S.down
  writes : T.writes = S.writes + k
  syncs : T.syncs = S.syncs
theorem wrs_wrote {st id n : Nat} {data : List UInt8} : ∀ (k i : Nat) (S : DS), S.fuse < 0 → S.down = false → st + i + k ≤ S.seen.length →
    (wrs st id n data S i k).1 = 0 ∧ Wrote S (wrs st id n data S i k).2 st id n data i k
  | 0, i, S, _, _, _ => ⟨rfl, rfl, fun j _ _ => by omega, fun q _ => rfl, ⟨[], by simp [wrs], rfl, by simp⟩, rfl, rfl, rfl, rfl⟩
  | k + 1, i, S, hf, hd, hl => by
    have hpl : (partAt data i).length ≤ 50 := by rw [partAt_length]; omega
    have hsl := sect_length id i n (partAt data i)
    have hw : S.write ((st + i : Nat) : Int) (sect id i n (partAt data i)) = (0, { S with seen := S.seen.set (st + i) (pad (sect id i n (partAt data i))), wait := S.wait ++ [(st + i, S.seen.getD (st + i) [], pad (sect id i n (partAt data i)))], fuse := S.fuse, writes := S.writes + 1 }) := by
      unfold DS.write
      rw [if_neg (by omega), if_neg (by rw [hd]; simp), if_neg (by omega), if_neg (by omega), Int.toNat_natCast]
    simp only [wrs]
    rw [hw, if_pos rfl]
    obtain ⟨h0, hW⟩ := wrs_wrote (st := st) (id := id) (n := n) (data := data) k (i + 1) { S with seen := S.seen.set (st + i) (pad (sect id i n (partAt data i))), wait := S.wait ++ [(st + i, S.seen.getD (st + i) [], pad (sect id i n (partAt data i)))], fuse := S.fuse, writes := S.writes + 1 } hf hd (by simp; omega)
    refine ⟨h0, ?_⟩
    generalize (wrs st id n data _ (i + 1) k).2 = T at hW
    obtain ⟨w, hw1, hw2, hw3⟩ := hW.wait
    refine ⟨by rw [hW.len]; simp, ?_, ?_, ⟨(st + i, S.seen.getD (st + i) [], pad (sect id i n (partAt data i))) :: w, by rw [hw1]; simp, by simp [hw2], ?_⟩, hW.fuse, hW.down, by rw [hW.writes]; show S.writes + 1 + k = _; omega, hW.syncs⟩
    · intro j h1 h2
      by_cases hj : j = i
      · subst hj
        rw [hW.other _ (by omega)]
        show (S.seen.set _ _)[_]? = _
        rw [List.getElem?_set_self (by omega)]
      · exact hW.get j (by omega) (by omega)
    · intro q hq
      rw [hW.other q (by omega)]
      show (S.seen.set _ _)[_]? = _
      rw [List.getElem?_set_ne (by omega)]
    · intro m x hx
      cases m with
      | zero =>
        simp only [List.getElem?_cons_zero, Option.some.injEq] at hx
        subst hx
        refine ⟨rfl, ?_, rfl⟩
        rw [Nat.add_zero, List.getD_eq_getElem?_getD, List.getElem?_eq_getElem (by omega)]; rfl
      | succ m =>
        rw [List.getElem?_cons_succ] at hx
        obtain ⟨h1, h2, h3⟩ := hw3 m x hx
        refine ⟨by omega, ?_, by rw [h3, show i + 1 + m = i + (m + 1) by omega]⟩
        rw [← h2]
        show _ = (S.seen.set _ _)[_]?
        rw [List.getElem?_set_ne (by omega), show st + i + (m + 1) = st + (i + 1) + m by omega]
theorem bwrite_ok {S : DS} {st id : Nat} {data : List UInt8} (hd : data.length ≤ 32768) (h0 : id ≠ 0) (hf : S.fuse < 0) (hdn : S.down = false) (hl : st + cnt data.length ≤ S.seen.length) :
    (bwrite S (st : Int) id data).1 = 0 ∧ Wrote S (bwrite S (st : Int) id data).2 st id (cnt data.length) data 0 (cnt data.length) := by
  have hc := cnt_spec hd
  unfold bwrite
  rw [if_neg (by omega), Int.toNat_natCast]
  exact wrs_wrote _ 0 S hf hdn (by omega)
theorem bread_in {S : DS} {st id : Nat} (h0 : id ≠ 0) (hl : st < S.seen.length) : bread S (st : Int) id = brd S.seen st id 700 0 0 [] := by
  unfold bread
  rw [if_neg (by omega), Int.toNat_natCast]
theorem new_get' {k i : Nat} (h : i < k) : (DS.new k).seen[i]? = some (List.replicate 64 0) := by
  simp [DS.new, h]
theorem new_seen (k : Nat) : (DS.new k).seen.length = k := by simp [DS.new]
end Go.Proofs.Ytgcfonjiingpnaa
