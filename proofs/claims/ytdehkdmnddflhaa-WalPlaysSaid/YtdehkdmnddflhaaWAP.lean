/- Package wal, plain: what find finds. -/
import Derived.Test.YtdehkdmnddflhaaWA5
namespace Go.Proofs.Ytdehkdmnddflhaa
set_option linter.unusedVariables false
set_option linter.unusedSimpArgs false
set_option linter.unusedSectionVars false
set_option linter.unnecessarySimpa false
open Go Go.Proofs
theorem cnt_spec {k : Nat} (h : k ≤ 32768) : 1 ≤ cnt k ∧ cnt k ≤ 656 ∧ k ≤ 50 * cnt k ∧ 50 * (cnt k - 1) ≤ k ∧ (1 < cnt k → 50 * (cnt k - 1) < k) := by
  unfold cnt; rw [if_neg (by omega)]; omega
theorem partAt_length (data : List UInt8) (i : Nat) : (partAt data i).length = min 50 (data.length - 50 * i) := by simp [partAt]
theorem wpiece_length (m s i n : Nat) (part : List UInt8) : (wpiece m s i n part).length = 14 + part.length := by simp [wpiece]; omega
theorem wpiece_pad (m s i n : Nat) (part : List UInt8) (hp : part.length ≤ 50) :
    pad (wpiece m s i n part) = be 8 s ++ (be 4 m ++ (wfl i n :: UInt8.ofNat part.length :: (part ++ List.replicate (50 - part.length) 0))) := by
  unfold pad
  rw [wpiece_length, show 64 - (14 + part.length) = 50 - part.length by omega]
  generalize List.replicate _ (0 : UInt8) = z
  simp [wpiece]
theorem lown_piece {m s i n : Nat} {part : List UInt8} (hp : part.length ≤ 50) (hs : s < 18446744073709551616) : lown (pad (wpiece m s i n part)) = s := by
  rw [wpiece_pad _ _ _ _ _ hp]
  unfold lown
  rw [List.take_append_of_le_length (by simp), List.take_of_length_le (by simp), unbe_be, Nat.mod_eq_of_lt (by omega)]
theorem look_piece {m s i n : Nat} {part : List UInt8} (hs : s < 18446744073709551616) (hm : m < 4294967296) (hp : part.length ≤ 50) (h1 : i + 1 = n ∨ part.length = 50) (h2 : part.length ≠ 0 ∨ (i = 0 ∧ n = 1)) :
    lookA (pad (wpiece m s i n part)) s = ⟨m, (wfl i n).toNat, part, true⟩ := by
  have e0 : lown (pad (wpiece m s i n part)) = s := lown_piece hp hs
  have e := wpiece_pad m s i n part hp
  generalize pad (wpiece m s i n part) = b at *
  have e1 : lmount b = m := by
    unfold lmount
    rw [e, List.drop_append_of_le_length (by simp), List.drop_of_length_le (by simp), List.nil_append, List.take_append_of_le_length (by simp), List.take_of_length_le (by simp), unbe_be, Nat.mod_eq_of_lt (by omega)]
  have g12 : b[12]? = some (wfl i n) := by rw [e, List.getElem?_append_right (by simp), List.getElem?_append_right (by simp)]; simp
  have g13 : b[13]? = some (UInt8.ofNat part.length) := by rw [e, List.getElem?_append_right (by simp), List.getElem?_append_right (by simp)]; simp
  have e2 : lflags b = (wfl i n).toNat := by unfold lflags; rw [List.getD_eq_getElem?_getD, g12]; rfl
  have e3 : llen b = part.length := by
    unfold llen; rw [List.getD_eq_getElem?_getD, g13]
    simp; omega
  have e4 : b.drop 14 = part ++ List.replicate (50 - part.length) 0 := by
    rw [e, ← List.append_assoc, show (be 8 s ++ be 4 m ++ (wfl i n :: UInt8.ofNat part.length :: (part ++ List.replicate (50 - part.length) (0 : UInt8)))) = (be 8 s ++ be 4 m ++ [wfl i n, UInt8.ofNat part.length]) ++ (part ++ List.replicate (50 - part.length) 0) by simp]
    rw [List.drop_append_of_le_length (by simp), List.drop_of_length_le (by simp), List.nil_append]
  have hfl : (wfl i n).toNat ≤ 3 ∧ (i + 1 = n → 2 ≤ (wfl i n).toNat) ∧ (i = 0 → n = 1 → (wfl i n).toNat = 3) := by
    unfold wfl
    split <;> split <;> refine ⟨by decide, fun _ => ?_, fun _ _ => ?_⟩ <;> first | decide | (exfalso; omega)
  unfold lookA
  rw [if_pos]
  · rw [e1, e2, e3, e4, List.take_append_of_le_length (Nat.le_refl _), List.take_of_length_le (Nat.le_refl _)]
  · refine ⟨e0, by rw [e2]; exact hfl.1, by rw [e3]; exact hp, ?_, ?_, ?_⟩
    · rw [e2, e3]
      rcases h1 with h | h
      · exact .inl (hfl.2.1 h)
      · exact .inr h
    · rw [e2, e3]
      rcases h2 with h | h
      · exact .inl h
      · exact .inr (hfl.2.2 h.1 h.2)
    · rw [e3, ← List.drop_drop, e4, List.drop_append_of_le_length (Nat.le_refl _), List.drop_of_length_le (Nat.le_refl _), List.nil_append]
      intro x hx; exact (List.mem_replicate.1 hx).2
theorem wfl_first (i n : Nat) : (wfl i n).toNat % 2 = 1 ↔ i = 0 := by
  unfold wfl; split <;> split <;> rename_i h <;> simp [h]
theorem wfl_last (i n : Nat) : 2 ≤ (wfl i n).toNat ↔ i + 1 = n := by
  unfold wfl
  split <;> split <;> constructor <;> intro h <;> first | omega | decide | (exfalso; revert h; decide)
/-- The record stands from piece s on, by mount m. -/
def HasRec (at_ : Nat → List UInt8) (m s : Nat) (data : List UInt8) : Prop := ∀ i, i < cnt data.length → at_ (s + i) = pad (wpiece m (s + i) i (cnt data.length) (partAt data i))
theorem HasRec.look {at_ : Nat → List UInt8} {m s : Nat} {data : List UInt8} (h : HasRec at_ m s data) (hd : data.length ≤ 32768) (hs : s + 656 < 18446744073709551616) (hm : m < 4294967296) {i : Nat} (hi : i < cnt data.length) :
    lookA (at_ (s + i)) (s + i) = ⟨m, (wfl i (cnt data.length)).toNat, partAt data i, true⟩ := by
  have hc := cnt_spec hd
  have hl := partAt_length data i
  rw [h i hi]
  exact look_piece (by omega) hm (by omega) (by omega) (by omega)
theorem take_part (data : List UInt8) (m : Nat) : data.take (50 * m) ++ partAt data m = data.take (50 * (m + 1)) := by
  unfold partAt
  rw [show 50 * (m + 1) = 50 * m + 50 by omega, List.take_add]
theorem find_mid {at_ : Nat → List UInt8} {top m s : Nat} {data : List UInt8} (h : HasRec at_ m s data) (hd : data.length ≤ 32768) (hs : s + 656 < 18446744073709551616) (hm : m < 4294967296) (hmt : m ≤ top) (k μ : Nat) (hμ : μ ≤ m) (recs : List (Nat × Nat × List UInt8)) :
    ∀ j, j + 1 < cnt data.length → wfind at_ top (k + (j + 1)) s μ [] s recs = wfind at_ top k (s + (j + 1)) m (data.take (50 * (j + 1))) s recs
  | 0, hj => by
    have hl := h.look hd hs hm (i := 0) (by omega)
    rw [Nat.add_zero] at hl
    rw [wfind_succ, hl, if_pos, if_neg]
    · rw [List.nil_append]; rfl
    · show ¬ 2 ≤ (wfl 0 _).toNat
      rw [wfl_last]; omega
    · refine ⟨⟨rfl, hμ, hmt, ?_, .inl rfl⟩, ?_⟩
      · show (wfl 0 _).toNat % 2 = 1 ↔ s = s
        rw [wfl_first]; simp
      · show ([] ++ partAt data 0).length ≤ 32768
        rw [List.nil_append, partAt_length]; omega
  | j + 1, hj => by
    have hl := h.look hd hs hm (i := j + 1) (by omega)
    rw [show k + (j + 1 + 1) = (k + 1) + (j + 1) by omega, find_mid h hd hs hm hmt (k + 1) μ hμ recs j (by omega), wfind_succ, hl, if_pos, if_neg]
    · show wfind at_ top k (s + (j + 1) + 1) m (data.take (50 * (j + 1)) ++ partAt data (j + 1)) s recs = _
      rw [take_part]; rfl
    · show ¬ 2 ≤ (wfl (j + 1) _).toNat
      rw [wfl_last]; omega
    · refine ⟨⟨rfl, Nat.le_refl _, hmt, ?_, .inr rfl⟩, ?_⟩
      · show (wfl (j + 1) _).toNat % 2 = 1 ↔ s + (j + 1) = s
        rw [wfl_first]; omega
      · show (data.take (50 * (j + 1)) ++ partAt data (j + 1)).length ≤ 32768
        rw [take_part, List.length_take]; omega
/-- A record that stands is found. -/
theorem find_rec {at_ : Nat → List UInt8} {top m s : Nat} {data : List UInt8} (h : HasRec at_ m s data) (hd : data.length ≤ 32768) (hs : s + 656 < 18446744073709551616) (hm : m < 4294967296) (hmt : m ≤ top) (k μ : Nat) (hμ : μ ≤ m) (recs : List (Nat × Nat × List UInt8)) :
    wfind at_ top (k + cnt data.length) s μ [] s recs = wfind at_ top k (s + cnt data.length) m [] (s + cnt data.length) (recs ++ [(s, s + cnt data.length, data)]) := by
  have hc := cnt_spec hd
  by_cases h1 : cnt data.length = 1
  · have hl := h.look hd hs hm (i := 0) (by omega)
    rw [Nat.add_zero] at hl
    have hp : partAt data 0 = data := by unfold partAt; rw [Nat.mul_zero, List.drop_zero, List.take_of_length_le (by omega)]
    rw [h1, wfind_succ, hl, if_pos, if_pos]
    · show wfind at_ top k (s + 1) m [] (s + 1) (recs ++ [(s, s + 1, [] ++ partAt data 0)]) = _
      rw [hp]; rfl
    · show 2 ≤ (wfl 0 _).toNat
      rw [wfl_last]; omega
    · refine ⟨⟨rfl, hμ, hmt, ?_, .inl rfl⟩, ?_⟩
      · show (wfl 0 _).toNat % 2 = 1 ↔ s = s
        rw [wfl_first]; simp
      · show ([] ++ partAt data 0).length ≤ 32768
        rw [List.nil_append, partAt_length]; omega
  · obtain ⟨j, hj⟩ : ∃ j, cnt data.length = j + 1 + 1 := ⟨cnt data.length - 2, by omega⟩
    have hl := h.look hd hs hm (i := j + 1) (by omega)
    have e := find_mid h hd hs hm hmt (k + 1) μ hμ recs j (by omega)
    rw [hj, show k + (j + 1 + 1) = (k + 1) + (j + 1) by omega, e, wfind_succ, hl, if_pos, if_pos]
    · show wfind at_ top k (s + (j + 1) + 1) m [] (s + (j + 1) + 1) (recs ++ [(s, s + (j + 1) + 1, data.take (50 * (j + 1)) ++ partAt data (j + 1))]) = _
      rw [take_part, List.take_of_length_le (by omega)]; rfl
    · show 2 ≤ (wfl (j + 1) _).toNat
      rw [wfl_last]; omega
    · refine ⟨⟨rfl, Nat.le_refl _, hmt, ?_, .inr rfl⟩, ?_⟩
      · show (wfl (j + 1) _).toNat % 2 = 1 ↔ s + (j + 1) = s
        rw [wfl_first]; omega
      · show (data.take (50 * (j + 1)) ++ partAt data (j + 1)).length ≤ 32768
        rw [take_part, List.length_take]; omega
theorem find_stop {at_ : Nat → List UInt8} {top k s μ : Nat} {recs : List (Nat × Nat × List UInt8)} (h : lown (at_ s) ≠ s) : wfind at_ top k s μ [] s recs = (recs, s) := by
  cases k with
  | zero => rfl
  | succ k =>
    rw [wfind_succ, if_neg]
    rintro ⟨⟨h1, _⟩, _⟩
    have : ¬ lgood (at_ s) s := fun hg => h hg.1
    unfold lookA at h1
    rw [if_neg this] at h1
    cases h1
/-- Records, one behind the other. -/
def total : List (Nat × List UInt8) → Nat
  | [] => 0
  | r :: l => cnt r.2.length + total l
def recsOf : Nat → List (Nat × List UInt8) → List (Nat × Nat × List UInt8)
  | _, [] => []
  | s, r :: l => (s, s + cnt r.2.length, r.2) :: recsOf (s + cnt r.2.length) l
def HasAll (at_ : Nat → List UInt8) (top : Nat) : Nat → Nat → List (Nat × List UInt8) → Prop
  | _, _, [] => True
  | s, μ, r :: l => HasRec at_ r.1 s r.2 ∧ r.2.length ≤ 32768 ∧ μ ≤ r.1 ∧ r.1 ≤ top ∧ r.1 < 4294967296 ∧ HasAll at_ top (s + cnt r.2.length) r.1 l
def lastM (μ : Nat) : List (Nat × List UInt8) → Nat
  | [] => μ
  | r :: l => lastM r.1 l
theorem find_all {at_ : Nat → List UInt8} {top : Nat} (k : Nat) : ∀ (l : List (Nat × List UInt8)) (s μ : Nat) (recs : List (Nat × Nat × List UInt8)), HasAll at_ top s μ l → s + total l + 656 < 18446744073709551616 →
    wfind at_ top (k + total l) s μ [] s recs = wfind at_ top k (s + total l) (lastM μ l) [] (s + total l) (recs ++ recsOf s l)
  | [], s, μ, recs, _, _ => by simp [total, lastM, recsOf]
  | r :: l, s, μ, recs, h, hs => by
    obtain ⟨h1, h2, h3, h4, h5, h6⟩ := h
    simp only [total] at hs ⊢
    rw [show k + (cnt r.2.length + total l) = (k + total l) + cnt r.2.length by omega, find_rec h1 h2 (by omega) h5 h4 _ _ h3, find_all k l _ _ _ h6 (by omega)]
    simp only [lastM, recsOf, List.append_assoc, List.cons_append, List.nil_append, Nat.add_assoc]
end Go.Proofs.Ytdehkdmnddflhaa
