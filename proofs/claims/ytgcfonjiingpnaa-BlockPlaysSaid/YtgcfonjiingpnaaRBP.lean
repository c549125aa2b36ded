/- Package block, plain: the reference's Read (the data laid out again must be the sectors) answers as the program's. -/
import Derived.Test.YtgcfonjiingpnaaBKP
namespace Go.Proofs.Ytgcfonjiingpnaa
set_option linter.unusedVariables false
set_option linter.unusedSimpArgs false
set_option linter.unusedSectionVars false
set_option linter.unnecessarySimpa false
open Go Go.Proofs
theorem be_unbe : ∀ (n : Nat) (l : List UInt8), l.length = n → be n (unbe l) = l
  | 0, l, h => by rw [List.eq_nil_of_length_eq_zero h]; rfl
  | n + 1, l, h => by
    have hne : l ≠ [] := by intro e; rw [e] at h; simp at h
    obtain ⟨m, b, rfl⟩ : ∃ m b, l = m ++ [b] := ⟨l.dropLast, l.getLast hne, (List.dropLast_concat_getLast hne).symm⟩
    have hb := b.toNat_lt
    have hm : m.length = n := by simpa using h
    rw [unbe_push]
    simp only [be]
    rw [show (unbe m * 256 + b.toNat) / 256 = unbe m by omega, be_unbe n m hm]
    congr 2
    apply UInt8.toNat_inj.1
    rw [UInt8.toNat_ofNat']
    show (unbe m * 256 + b.toNat) % 256 = b.toNat
    omega
/-- A sector's length field, its data. -/
def kOf (s : List UInt8) : Nat := unbe ((s.drop 12).take 2)
def nOf (s : List UInt8) : Nat := unbe ((s.drop 10).take 2)
theorem zeros_eq : ∀ (l : List UInt8), (∀ b ∈ l, b = 0) → l = List.replicate l.length 0
  | [], _ => rfl
  | x :: l, h => by rw [h x List.mem_cons_self, List.length_cons, List.replicate_succ, ← zeros_eq l (fun b hb => h b (List.mem_cons_of_mem _ hb))]
theorem num64 {bs : List UInt8} {k : Nat} (h : k ≤ bs.length) : IS.num ⟨bs, false⟩ k = (unbe (bs.take k), ⟨bs.drop k, false⟩) := by
  unfold IS.num
  rw [if_neg (by simp; omega)]; rfl
/-- A sector that 'piece' takes is laid out as a block's. -/
theorem sect_of {s : List UInt8} {id i m : Nat} (hs : s.length = 64) (h : (parts s).good id i m) : s = pad (sect id i (parts s).count (parts s).data) ∧ (parts s).data = (s.drop 14).take (kOf s) := by
  have e1 : IS.num ⟨s, false⟩ 8 = (unbe (s.take 8), ⟨s.drop 8, false⟩) := num64 (by omega)
  have e2 : IS.num ⟨s.drop 8, false⟩ 2 = (unbe ((s.drop 8).take 2), ⟨s.drop 10, false⟩) := by rw [num64 (by rw [List.length_drop]; omega), List.drop_drop]
  have e3 : IS.num ⟨s.drop 10, false⟩ 2 = (unbe ((s.drop 10).take 2), ⟨s.drop 12, false⟩) := by rw [num64 (by rw [List.length_drop]; omega), List.drop_drop]
  obtain ⟨g1, g2, g3, g4, g5, g6, g7, g8, g9, g10⟩ := h
  have p1 : (parts s).own = unbe (s.take 8) := by unfold parts; rw [e1]
  have p2 : (parts s).place = unbe ((s.drop 8).take 2) := by unfold parts; rw [e1]; show (IS.num ⟨s.drop 8, false⟩ 2).1 = _; rw [e2]
  have p3 : (parts s).count = unbe ((s.drop 10).take 2) := by unfold parts; rw [e1]; show ((IS.num ⟨s.drop 8, false⟩ 2).2.num 2).1 = _; rw [e2]; show (IS.num ⟨s.drop 10, false⟩ 2).1 = _; rw [e3]
  have p4 : (parts s).data = (IS.text ⟨s.drop 12, false⟩).1 := by unfold parts; rw [e1]; show ((IS.num ⟨s.drop 8, false⟩ 2).2.num 2).2.text.1 = _; rw [e2]; show (IS.num ⟨s.drop 10, false⟩ 2).2.text.1 = _; rw [e3]
  have p5 : (parts s).rest = (IS.text ⟨s.drop 12, false⟩).2 := by unfold parts; rw [e1]; show ((IS.num ⟨s.drop 8, false⟩ 2).2.num 2).2.text.2 = _; rw [e2]; show (IS.num ⟨s.drop 10, false⟩ 2).2.text.2 = _; rw [e3]
  have hl : IS.long ⟨s.drop 12, false⟩ = kOf s := rfl
  by_cases hbad : (s.drop 12).length < 2 + kOf s
  · exfalso
    have : IS.text ⟨s.drop 12, false⟩ = ([], IS.spoil ⟨s.drop 12, false⟩) := if_pos (.inr (.inr (by rw [hl]; exact hbad)))
    rw [p5, this] at g1
    cases g1
  · have et : IS.text ⟨s.drop 12, false⟩ = ((s.drop 14).take (kOf s), ⟨s.drop (14 + kOf s), false⟩) := by
      unfold IS.text
      rw [if_neg (by rw [hl]; simp only [List.length_drop] at hbad ⊢; rintro (h | h | h); cases h; omega; omega), hl]
      simp only [IS.fwd, List.drop_drop]
      rw [show 12 + (2 + kOf s) = 14 + kOf s by omega]
    rw [et] at p4 p5
    rw [List.length_drop] at hbad
    have hk : ((s.drop 14).take (kOf s)).length = kOf s := by rw [List.length_take, List.length_drop]; omega
    rw [p4] at g7
    refine ⟨?_, p4⟩
    rw [p5] at g8
    have hz := zeros_eq _ g8
    have a1 : be 8 (unbe (s.take 8)) = s.take 8 := be_unbe 8 _ (by rw [List.length_take]; omega)
    have a2 : be 2 (unbe ((s.drop 8).take 2)) = (s.drop 8).take 2 := be_unbe 2 _ (by rw [List.length_take, List.length_drop]; omega)
    have a3 : be 2 (unbe ((s.drop 10).take 2)) = (s.drop 10).take 2 := be_unbe 2 _ (by rw [List.length_take, List.length_drop]; omega)
    have a4 : be 2 (kOf s) = (s.drop 12).take 2 := be_unbe 2 _ (by rw [List.length_take, List.length_drop]; omega)
    unfold pad sect
    rw [p4, p3, ← g2, ← g3, p1, p2, hk, a1, a2, a3, a4]
    have hlen : (s.take 8 ++ ((s.drop 8).take 2 ++ ((s.drop 10).take 2 ++ ((s.drop 12).take 2 ++ (s.drop 14).take (kOf s))))).length = 14 + kOf s := by
      simp only [List.length_append, List.length_take, List.length_drop]; omega
    rw [hlen]
    have hzl : (s.drop (14 + kOf s)).length = 64 - (14 + kOf s) := by rw [List.length_drop, hs]
    rw [hzl] at hz
    rw [← hz]
    simp only [List.append_assoc]
    have b4 : (s.drop 14).take (kOf s) ++ s.drop (14 + kOf s) = s.drop 14 := by rw [← List.drop_drop, List.take_append_drop]
    have b3 : (s.drop 12).take 2 ++ s.drop 14 = s.drop 12 := by rw [show s.drop 14 = (s.drop 12).drop 2 by rw [List.drop_drop], List.take_append_drop]
    have b2 : (s.drop 10).take 2 ++ s.drop 12 = s.drop 10 := by rw [show s.drop 12 = (s.drop 10).drop 2 by rw [List.drop_drop], List.take_append_drop]
    have b1 : (s.drop 8).take 2 ++ s.drop 10 = s.drop 8 := by rw [show s.drop 10 = (s.drop 8).drop 2 by rw [List.drop_drop], List.take_append_drop]
    rw [b4, b3, b2, b1, List.take_append_drop]
theorem sect_fields (id i n : Nat) (d : List UInt8) (hn : n < 65536) (hd : d.length ≤ 50) : nOf (pad (sect id i n d)) = n ∧ kOf (pad (sect id i n d)) = d.length ∧ ((pad (sect id i n d)).drop 14).take d.length = d := by
  have e : pad (sect id i n d) = be 8 id ++ (be 2 i ++ (be 2 n ++ (be 2 d.length ++ (d ++ List.replicate (64 - (sect id i n d).length) 0)))) := by
    unfold pad; generalize List.replicate _ (0 : UInt8) = z; simp [sect]
  generalize List.replicate (64 - (sect id i n d).length) (0 : UInt8) = z at e
  have d10 : (pad (sect id i n d)).drop 10 = be 2 n ++ (be 2 d.length ++ (d ++ z)) := by
    rw [e, ← List.append_assoc, List.drop_append_of_le_length (by simp), List.drop_of_length_le (by simp), List.nil_append]
  have d12 : (pad (sect id i n d)).drop 12 = be 2 d.length ++ (d ++ z) := by
    rw [show (pad (sect id i n d)).drop 12 = ((pad (sect id i n d)).drop 10).drop 2 by rw [List.drop_drop], d10, List.drop_append_of_le_length (by simp), List.drop_of_length_le (by simp), List.nil_append]
  have d14 : (pad (sect id i n d)).drop 14 = d ++ z := by
    rw [show (pad (sect id i n d)).drop 14 = ((pad (sect id i n d)).drop 12).drop 2 by rw [List.drop_drop], d12, List.drop_append_of_le_length (by simp), List.drop_of_length_le (by simp), List.nil_append]
  refine ⟨?_, ?_, ?_⟩
  · unfold nOf; rw [d10, List.take_append_of_le_length (by simp), List.take_of_length_le (by simp), unbe_be, Nat.mod_eq_of_lt (by omega)]
  · unfold kOf; rw [d12, List.take_append_of_le_length (by simp), List.take_of_length_le (by simp), unbe_be, Nat.mod_eq_of_lt (by omega)]
  · rw [d14, List.take_append_of_le_length (Nat.le_refl _), List.take_of_length_le (Nat.le_refl _)]
/-- The data that k sectors from number i on would hold. -/
def gath (seen : List (List UInt8)) (st : Nat) : Nat → Nat → List UInt8 → Option (List UInt8)
  | 0, _, out => some out
  | k + 1, i, out => if 50 < kOf (seen.getD (st + i) []) then none else gath seen st k (i + 1) (out ++ ((seen.getD (st + i) []).drop 14).take (kOf (seen.getD (st + i) [])))
def rread3 (S : DS) (start : Int) (id : Nat) : List UInt8 × Int :=
  if id = 0 ∨ start < 0 ∨ (S.seen.length : Int) ≤ start then ([], 1)
  else if nOf (S.seen.getD start.toNat []) < 1 ∨ 656 < nOf (S.seen.getD start.toNat []) ∨ S.seen.length < start.toNat + nOf (S.seen.getD start.toNat []) then ([], 2)
  else match gath S.seen start.toNat (nOf (S.seen.getD start.toNat [])) 0 [] with
    | none => ([], 2)
    | some data => if cnt data.length = nOf (S.seen.getD start.toNat []) ∧ ∀ j, j < nOf (S.seen.getD start.toNat []) → S.seen.getD (start.toNat + j) [] = pad (sect id j (cnt data.length) (partAt data j)) then (data, 0) else ([], 2)
theorem gath_ok {seen : List (List UInt8)} {st id n : Nat} {data : List UInt8} (hn : n < 65536) (h : ∀ j, j < n → seen.getD (st + j) [] = pad (sect id j n (partAt data j))) (hd : data.length ≤ 50 * n) :
    ∀ k i, i + k = n → gath seen st k i (data.take (50 * i)) = some data
  | 0, i, hi => by
    show some (data.take (50 * i)) = some data
    rw [List.take_of_length_le (by rw [show i = n by omega]; exact hd)]
  | k + 1, i, hi => by
    have hp := partAt_length data i
    obtain ⟨_, f2, f3⟩ := sect_fields id i n (partAt data i) hn (by omega)
    simp only [gath]
    rw [h i (by omega), f2, f3, if_neg (by omega), take_part]
    exact gath_ok hn h hd k (i + 1) (by omega)
theorem brd_shape (seen : List (List UInt8)) (st id : Nat) : ∀ (k i n : Nat) (out : List UInt8), brd seen st id k i n out = ([], 2) ∨ ∃ res, brd seen st id k i n out = (res, 0)
  | 0, _, _, _ => .inl rfl
  | k + 1, i, n, out => by
    rw [brd_succ]
    split
    · split
      · split
        · exact brd_shape seen st id k _ _ _
        · exact .inl rfl
      · exact .inl rfl
    · split
      · exact .inl rfl
      · exact .inr ⟨out, rfl⟩
/-- The data of m pieces from number i on. -/
def dcat (seen : List (List UInt8)) (st i : Nat) : Nat → List UInt8
  | 0 => []
  | m + 1 => (parts (seen.getD (st + i) [])).data ++ dcat seen st (i + 1) m
theorem piece_ok {s : List UInt8} {id i n : Nat} (h : (pieceA s id i n).ok = true) : (parts s).good id i n ∧ (pieceA s id i n).count = (parts s).count ∧ (pieceA s id i n).data = (parts s).data := by
  unfold pieceA at h ⊢
  split
  · rename_i hg; exact ⟨hg, rfl, rfl⟩
  · rename_i hg; rw [if_neg hg] at h; cases h
theorem brd_inv (seen : List (List UInt8)) (st id : Nat) : ∀ (k i n : Nat) (out res : List UInt8), 0 < i → brd seen st id k i n out = (res, 0) →
    res = out ++ dcat seen st i (n - i) ∧ res.length ≤ 32768 ∧ ∀ j, i ≤ j → j < n → st + j < seen.length ∧ (parts (seen.getD (st + j) [])).good id j n
  | 0, _, _, _, _, _, h => by simp [brd] at h
  | k + 1, i, n, out, res, hi, h => by
    rw [brd_succ] at h
    by_cases hin : i < n
    · rw [if_pos (.inr hin)] at h
      by_cases hl : st + i < seen.length
      · rw [if_pos hl] at h
        by_cases hok : (pieceA (seen.getD (st + i) []) id i n).ok = true
        · rw [if_pos hok] at h
          obtain ⟨g1, g2, g3⟩ := piece_ok hok
          have hcn : (parts (seen.getD (st + i) [])).count = n := by
            rcases g1.2.2.2.1 with e | e
            · omega
            · exact e
          rw [g2, g3, hcn] at h
          obtain ⟨q1, q2, q3⟩ := brd_inv seen st id k (i + 1) n _ res (Nat.succ_pos _) h
          refine ⟨?_, q2, fun j h1 h2 => ?_⟩
          · rw [q1, List.append_assoc, show n - i = (n - (i + 1)) + 1 by omega]; rfl
          · by_cases e : j = i
            · subst e; exact ⟨hl, g1⟩
            · exact q3 j (by omega) h2
        · rw [if_neg hok] at h; simp at h
      · rw [if_neg hl] at h; simp at h
    · rw [if_neg (by omega)] at h
      split at h
      · simp at h
      · rename_i hle
        simp only [Prod.mk.injEq, and_true] at h
        subst h
        refine ⟨?_, by omega, fun j h1 h2 => by omega⟩
        rw [show n - i = 0 by omega]; exact (List.append_nil _).symm
theorem brd_inv0 {seen : List (List UInt8)} {st id k : Nat} {res : List UInt8} (h : brd seen st id (k + 1) 0 0 [] = (res, 0)) :
    ∃ n, 1 ≤ n ∧ n ≤ 656 ∧ res = dcat seen st 0 n ∧ res.length ≤ 32768 ∧ ∀ j, j < n → st + j < seen.length ∧ (parts (seen.getD (st + j) [])).good id j 0 ∧ (parts (seen.getD (st + j) [])).count = n := by
  rw [brd_succ, if_pos (.inl rfl)] at h
  by_cases hl : st + 0 < seen.length
  · rw [if_pos hl] at h
    by_cases hok : (pieceA (seen.getD (st + 0) []) id 0 0).ok = true
    · rw [if_pos hok] at h
      obtain ⟨g1, g2, g3⟩ := piece_ok hok
      rw [g2, g3] at h
      obtain ⟨n, hn⟩ : ∃ n, n = (parts (seen.getD (st + 0) [])).count := ⟨_, rfl⟩
      have c1 := g1.2.2.2.2.1
      have c2 := g1.2.2.2.2.2.1
      rw [← hn] at h c1 c2
      obtain ⟨q1, q2, q3⟩ := brd_inv seen st id k 1 n _ res Nat.one_pos h
      refine ⟨n, c1, c2, ?_, q2, fun j hj => ?_⟩
      · rw [q1, List.nil_append, show n = (n - 1) + 1 by omega]; rfl
      · by_cases e : j = 0
        · subst e; exact ⟨hl, g1, hn.symm⟩
        · obtain ⟨r1, r2⟩ := q3 j (by omega) hj
          refine ⟨r1, ⟨r2.1, r2.2.1, r2.2.2.1, .inl rfl, r2.2.2.2.2⟩, ?_⟩
          rcases r2.2.2.2.1 with e2 | e2
          · omega
          · exact e2
    · rw [if_neg hok] at h; simp at h
  · rw [if_neg hl] at h; simp at h
theorem dcat_len {seen : List (List UInt8)} {st : Nat} : ∀ (m i : Nat), (∀ j, i ≤ j → j + 1 < i + m → (parts (seen.getD (st + j) [])).data.length = 50) → 0 < m → (dcat seen st i m).length = 50 * (m - 1) + (parts (seen.getD (st + (i + m - 1)) [])).data.length
  | 0, _, _, h => by omega
  | 1, i, _, _ => by simp [dcat]
  | m + 2, i, h, _ => by
    have e := dcat_len (m + 1) (i + 1) (fun j h1 h2 => h j (by omega) (by omega)) (by omega)
    show ((parts (seen.getD (st + i) [])).data ++ dcat seen st (i + 1) (m + 1)).length = _
    rw [List.length_append, e, h i (Nat.le_refl _) (by omega), show i + 1 + (m + 1) - 1 = i + (m + 2) - 1 by omega]
    omega
theorem dcat_part {seen : List (List UInt8)} {st : Nat} : ∀ (m i : Nat), (∀ j, i ≤ j → j + 1 < i + m → (parts (seen.getD (st + j) [])).data.length = 50) → (∀ j, i ≤ j → j < i + m → (parts (seen.getD (st + j) [])).data.length ≤ 50) →
    ∀ j, j < m → ((dcat seen st i m).drop (50 * j)).take 50 = (parts (seen.getD (st + (i + j)) [])).data
  | 0, _, _, _, j, hj => by omega
  | m + 1, i, h, h5, 0, _ => by
    show (((parts (seen.getD (st + i) [])).data ++ dcat seen st (i + 1) m).drop (50 * 0)).take 50 = (parts (seen.getD (st + (i + 0)) [])).data
    rw [Nat.mul_zero, List.drop_zero, Nat.add_zero]
    cases m with
    | zero =>
      show ((parts (seen.getD (st + i) [])).data ++ []).take 50 = _
      rw [List.append_nil, List.take_of_length_le (h5 i (Nat.le_refl _) (by omega))]; rfl
    | succ m =>
      have e := h i (Nat.le_refl _) (by omega)
      rw [List.take_append_of_le_length (by omega), List.take_of_length_le (by omega)]; rfl
  | m + 1, i, h, h5, j + 1, hj => by
    have e := h i (Nat.le_refl _) (by omega)
    show (((parts (seen.getD (st + i) [])).data ++ dcat seen st (i + 1) m).drop (50 * (j + 1))).take 50 = _
    rw [List.drop_append, List.drop_of_length_le (by omega), List.nil_append, e, show 50 * (j + 1) - 50 = 50 * j by omega, dcat_part m (i + 1) (fun j h1 h2 => h j (by omega) (by omega)) (fun j h1 h2 => h5 j (by omega) (by omega)) j (by omega)]
    rw [show i + 1 + j = i + (j + 1) by omega]
theorem rread3_eq {S : DS} (hS : ∀ s ∈ S.seen, s.length = 64) (start : Int) (id : Nat) (hid : id < 18446744073709551616) : rread3 S start id = bread S start id := by
  unfold rread3 bread
  by_cases h0 : id = 0 ∨ start < 0 ∨ (S.seen.length : Int) ≤ start
  · rw [if_pos h0, if_pos h0]
  rw [if_neg h0, if_neg h0]
  obtain ⟨st, rfl⟩ : ∃ st : Nat, start = (st : Int) := ⟨start.toNat, by omega⟩
  rw [Int.toNat_natCast]
  have hst : st < S.seen.length := by omega
  rcases brd_shape S.seen st id 700 0 0 [] with hb | ⟨res, hb⟩
  · rw [hb]
    split
    · rfl
    · rename_i hn
      split
      · rfl
      · rename_i data hg
        split
        · rename_i hc
          exfalso
          have hcn : 1 ≤ cnt data.length ∧ cnt data.length ≤ 656 := by omega
          have hd : data.length ≤ 32768 := by
            by_cases h : 32768 < data.length
            · have : cnt data.length = 0 := if_pos h
              omega
            · omega
          have := brd_all (seen := S.seen) (st := st) hd hid (fun j hj => by
            have hj' : st + j < S.seen.length := by omega
            have e := hc.2 j (by omega)
            rw [List.getD_eq_getElem?_getD, List.getElem?_eq_getElem hj', Option.getD_some] at e
            rw [List.getElem?_eq_getElem hj', e])
          rw [hb] at this
          simp at this
        · rfl
  · rw [hb]
    obtain ⟨n, n1, n2, r1, r2, r3⟩ := brd_inv0 (k := 699) hb
    have hlen : ∀ j, j < n → (S.seen.getD (st + j) []).length = 64 := by
      intro j hj
      have := (r3 j hj).1
      rw [List.getD_eq_getElem?_getD, List.getElem?_eq_getElem this, Option.getD_some]
      exact hS _ (List.getElem_mem this)
    have h50 : ∀ j, 0 ≤ j → j + 1 < 0 + n → (parts (S.seen.getD (st + j) [])).data.length = 50 := by
      intro j _ hj
      have g := (r3 j (by omega)).2
      obtain ⟨g1, gc⟩ := g
      have a1 := g1.2.2.2.2.2.2.1
      have a2 := g1.2.2.2.2.2.2.2.2.1
      rw [gc] at a2
      omega
    have hle : ∀ j, 0 ≤ j → j < 0 + n → (parts (S.seen.getD (st + j) [])).data.length ≤ 50 := fun j _ hj => (r3 j (by omega)).2.1.2.2.2.2.2.2.1
    have hpart : ∀ j, j < n → partAt res j = (parts (S.seen.getD (st + j) [])).data := by
      intro j hj
      have := dcat_part n 0 h50 hle j hj
      rw [Nat.zero_add] at this
      unfold partAt
      rw [r1]; exact this
    have hrl := dcat_len n 0 h50 (by omega)
    rw [← r1, Nat.zero_add] at hrl
    have hlast : (parts (S.seen.getD (st + (n - 1)) [])).data.length ≤ 50 ∧ (1 < n → 0 < (parts (S.seen.getD (st + (n - 1)) [])).data.length) := by
      obtain ⟨g1, gc⟩ := (r3 (n - 1) (by omega)).2
      refine ⟨g1.2.2.2.2.2.2.1, fun h => ?_⟩
      have := g1.2.2.2.2.2.2.2.2.2
      omega
    have hcnt : cnt res.length = n := by
      unfold cnt
      rw [if_neg (by omega)]
      omega
    have hsec : ∀ j, j < n → S.seen.getD (st + j) [] = pad (sect id j n (partAt res j)) := by
      intro j hj
      obtain ⟨g1, gc⟩ := (r3 j hj).2
      have := (sect_of (hlen j hj) g1).1
      rw [gc] at this
      rw [hpart j hj]; exact this
    have hnf : nOf (S.seen.getD st []) = n := by
      have := hsec 0 (by omega)
      rw [Nat.add_zero] at this
      rw [this]
      exact (sect_fields id 0 n _ (by omega) (by rw [partAt_length]; omega)).1
    have hend := (r3 (n - 1) (by omega)).1
    have hg := gath_ok (st := st) (show n < 65536 by omega) hsec (show res.length ≤ 50 * n by omega) n 0 (by omega)
    rw [Nat.mul_zero, List.take_zero] at hg
    rw [hnf, if_neg (by omega), hg]
    show (if cnt res.length = n ∧ _ then (res, (0 : Int)) else ([], 2)) = (res, 0)
    rw [if_pos ⟨hcnt, fun j hj => by rw [hcnt]; exact hsec j hj⟩]
theorem write_pad (D : DS) (i : Int) (bs : List UInt8) (h : bs.length ≤ 64) : D.write i (pad bs) = D.write i bs := by
  have hl : (pad bs).length = 64 := by unfold pad; rw [List.length_append, List.length_replicate]; omega
  have hp : pad (pad bs) = pad bs := by
    show pad bs ++ List.replicate (64 - (pad bs).length) 0 = pad bs
    rw [hl]; simp
  unfold DS.write
  rw [hl, hp]
  by_cases h1 : ¬ (0 ≤ i ∧ i < D.seen.length)
  · rw [if_pos (.inl h1), if_pos (.inl h1)]
  · have e1 : ¬ (¬ (0 ≤ i ∧ i < D.seen.length) ∨ 64 < 64) := by rintro (h | h); exact h1 h; omega
    have e2 : ¬ (¬ (0 ≤ i ∧ i < D.seen.length) ∨ 64 < bs.length) := by rintro (h | h); exact h1 h; omega
    rw [if_neg e1, if_neg e2]
end Go.Proofs.Ytgcfonjiingpnaa
