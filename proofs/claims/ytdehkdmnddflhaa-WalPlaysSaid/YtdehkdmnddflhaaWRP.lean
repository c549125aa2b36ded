/- Package wal, plain: the reference's search answers as the program's. -/
import Derived.Test.YtdehkdmnddflhaaWAP
namespace Go.Proofs.Ytdehkdmnddflhaa
set_option linter.unusedVariables false
set_option linter.unusedSimpArgs false
set_option linter.unusedSectionVars false
set_option linter.unnecessarySimpa false
open Go Go.Proofs
theorem be_unbe5 : ∀ (n : Nat) (l : List UInt8), l.length = n → be n (unbe l) = l
  | 0, l, h => by rw [List.eq_nil_of_length_eq_zero h]; rfl
  | n + 1, l, h => by
    have hne : l ≠ [] := by intro e; rw [e] at h; simp at h
    obtain ⟨m, b, rfl⟩ : ∃ m b, l = m ++ [b] := ⟨l.dropLast, l.getLast hne, (List.dropLast_concat_getLast hne).symm⟩
    have hb := b.toNat_lt
    have hm : m.length = n := by simpa using h
    rw [unbe_push]
    simp only [be]
    rw [show (unbe m * 256 + b.toNat) / 256 = unbe m by omega, be_unbe5 n m hm]
    congr 2
    apply UInt8.toNat_inj.1
    rw [UInt8.toNat_ofNat']
    show (unbe m * 256 + b.toNat) % 256 = b.toNat
    omega
theorem zeros_eq5 : ∀ (l : List UInt8), (∀ b ∈ l, b = 0) → l = List.replicate l.length 0
  | [], _ => rfl
  | x :: l, h => by rw [h x List.mem_cons_self, List.length_cons, List.replicate_succ, ← zeros_eq5 l (fun b hb => h b (List.mem_cons_of_mem _ hb))]
/-- A piece's sector as the reference lays it. -/
def rsect (s m f : Nat) (d : List UInt8) : List UInt8 := pad (be 8 s ++ be 4 m ++ [UInt8.ofNat f] ++ [UInt8.ofNat d.length] ++ d)
theorem rsect_piece (s m i n : Nat) (d : List UInt8) : rsect s m (wfl i n).toNat d = pad (wpiece m s i n d) := by
  unfold rsect wpiece
  rw [UInt8.ofNat_toNat]
theorem rsect_len {s m f : Nat} {d : List UInt8} (h : d.length ≤ 50) : (rsect s m f d).length = 64 := by
  unfold rsect pad
  simp; omega
theorem rsect_own {s m f : Nat} {d : List UInt8} (hs : s < 18446744073709551616) (h : d.length ≤ 50) : lown (rsect s m f d) = s ∧ ∀ x ∈ (rsect s m f d).drop (14 + d.length), x = 0 := by
  have e : rsect s m f d = be 8 s ++ (be 4 m ++ (UInt8.ofNat f :: UInt8.ofNat d.length :: (d ++ List.replicate (50 - d.length) 0))) := by
    unfold rsect pad
    have : 64 - (be 8 s ++ be 4 m ++ [UInt8.ofNat f] ++ [UInt8.ofNat d.length] ++ d).length = 50 - d.length := by simp; omega
    rw [this]
    generalize List.replicate _ (0 : UInt8) = z
    simp
  refine ⟨?_, ?_⟩
  · rw [e]
    unfold lown
    rw [List.take_append_of_le_length (by simp), List.take_of_length_le (by simp), unbe_be, Nat.mod_eq_of_lt (by omega)]
  · intro x hx
    have e2 : (rsect s m f d).drop (14 + d.length) = List.replicate (50 - d.length) 0 := by
      rw [e, show be 8 s ++ (be 4 m ++ (UInt8.ofNat f :: UInt8.ofNat d.length :: (d ++ List.replicate (50 - d.length) (0 : UInt8)))) = (be 8 s ++ be 4 m ++ [UInt8.ofNat f, UInt8.ofNat d.length] ++ d) ++ List.replicate (50 - d.length) 0 by simp]
      rw [List.drop_append_of_le_length (by simp; omega), List.drop_of_length_le (by simp; omega), List.nil_append]
    rw [e2] at hx
    exact (List.mem_replicate.1 hx).2
theorem getD_get {b : List UInt8} {i : Nat} (h : i < b.length) : b.getD i 0 = b[i] := by rw [List.getD_eq_getElem?_getD, List.getElem?_eq_getElem h]; rfl
/-- A sector that is laid out again is itself. -/
theorem rsect_self {b : List UInt8} {s : Nat} (hb : b.length = 64) (h1 : lown b = s) (h2 : llen b ≤ 50) (h3 : ∀ x ∈ b.drop (14 + llen b), x = 0) : rsect s (lmount b) (lflags b) ((b.drop 14).take (llen b)) = b := by
  have hl : ((b.drop 14).take (llen b)).length = llen b := by rw [List.length_take, List.length_drop]; omega
  have a1 : be 8 s = b.take 8 := by rw [← h1]; exact be_unbe5 8 _ (by rw [List.length_take]; omega)
  have a2 : be 4 (lmount b) = (b.drop 8).take 4 := be_unbe5 4 _ (by rw [List.length_take, List.length_drop]; omega)
  have a3 : UInt8.ofNat (lflags b) = b[12] := by unfold lflags; rw [getD_get (by omega), UInt8.ofNat_toNat]
  have a4 : UInt8.ofNat (llen b) = b[13] := by unfold llen; rw [getD_get (by omega), UInt8.ofNat_toNat]
  have hz := zeros_eq5 _ h3
  have hzl : (b.drop (14 + llen b)).length = 64 - (14 + llen b) := by rw [List.length_drop, hb]
  unfold rsect pad
  rw [hl, a1, a2, a3, a4]
  have hlen : (b.take 8 ++ (b.drop 8).take 4 ++ [b[12]] ++ [b[13]] ++ (b.drop 14).take (llen b)).length = 14 + llen b := by
    simp only [List.length_append, List.length_take, List.length_drop, List.length_singleton]; omega
  rw [hlen]
  rw [hzl] at hz
  rw [← hz]
  simp only [List.append_assoc]
  have b5 : (b.drop 14).take (llen b) ++ b.drop (14 + llen b) = b.drop 14 := by rw [← List.drop_drop, List.take_append_drop]
  have b4 : [b[13]] ++ b.drop 14 = b.drop 13 := (List.drop_eq_getElem_cons (by omega)).symm
  have b3 : [b[12]] ++ b.drop 13 = b.drop 12 := (List.drop_eq_getElem_cons (by omega)).symm
  have b2 : (b.drop 8).take 4 ++ b.drop 12 = b.drop 8 := by rw [show b.drop 12 = (b.drop 8).drop 4 by rw [List.drop_drop], List.take_append_drop]
  rw [b5, b4, b3, b2, List.take_append_drop]
/-- May this sector go on? -/
def rgo (b : List UInt8) (top s last : Nat) (begins : Bool) : Prop :=
  llen b ≤ 50 ∧ last ≤ lmount b ∧ lmount b ≤ top ∧ (begins = false → lmount b = last) ∧ lflags b ≤ 3 ∧ (lflags b % 2 = 1 ↔ begins = true) ∧ (lflags b < 2 → llen b = 50) ∧ (llen b = 0 → lflags b = 3) ∧ rsect s (lmount b) (lflags b) ((b.drop 14).take (llen b)) = b
instance (b : List UInt8) (top s last : Nat) (begins : Bool) : Decidable (rgo b top s last begins) := by unfold rgo; infer_instance
theorem rgo_lgo {b : List UInt8} {top s last next : Nat} (hb : b.length = 64) (hs : s < 18446744073709551616) : rgo b top s last (decide (s = next)) ↔ lgo (lookA b s) top s last next := by
  unfold rgo lgo
  constructor
  · rintro ⟨h1, h2, h3, h4, h5, h6, h7, h8, h9⟩
    have hl : ((b.drop 14).take (llen b)).length = llen b := by rw [List.length_take, List.length_drop]; omega
    obtain ⟨q1, q2⟩ := rsect_own (s := s) (m := lmount b) (f := lflags b) (d := (b.drop 14).take (llen b)) hs (by rw [hl]; exact h1)
    rw [h9] at q1 q2
    rw [hl] at q2
    have hg : lgood b s := ⟨q1, h5, h1, by omega, by omega, q2⟩
    have e : lookA b s = ⟨lmount b, lflags b, (b.drop 14).take (llen b), true⟩ := if_pos hg
    rw [e]
    refine ⟨rfl, h2, h3, ?_, ?_⟩
    · rw [h6]; exact decide_eq_true_iff
    · by_cases hn : s = next
      · exact .inl hn
      · exact .inr (h4 (decide_eq_false hn))
  · rintro ⟨h1, h2, h3, h4, h5⟩
    have hg : lgood b s := by
      unfold lookA at h1
      split at h1
      · assumption
      · cases h1
    have e : lookA b s = ⟨lmount b, lflags b, (b.drop 14).take (llen b), true⟩ := if_pos hg
    rw [e] at h2 h3 h4 h5
    obtain ⟨g1, g2, g3, g4, g5, g6⟩ := hg
    refine ⟨g3, h2, h3, ?_, g2, ?_, by omega, by omega, rsect_self hb g1 g3 g6⟩
    · intro hf
      have hn : ¬ s = next := of_decide_eq_false hf
      rcases h5 with h | h
      · exact absurd h hn
      · exact h
    · rw [decide_eq_true_iff]; exact h4
theorem lookA_rgo {b : List UInt8} {s top last next : Nat} (h : lgo (lookA b s) top s last next) : lookA b s = ⟨lmount b, lflags b, (b.drop 14).take (llen b), true⟩ := by
  have h1 := h.1
  unfold lookA at h1 ⊢
  split
  · rfl
  · rename_i hg; rw [if_neg hg] at h1; cases h1
/-- The records from s on as the reference finds them. -/
def rfind (at_ : Nat → List UInt8) (top : Nat) : Nat → Nat → Nat → List UInt8 → Nat → List (Nat × Nat × List UInt8) → List (Nat × Nat × List UInt8) × Nat
  | 0, _, _, _, next, recs => (recs, next)
  | k + 1, s, last, data, next, recs =>
    if rgo (at_ s) top s last (decide (s = next)) then
      (if 2 ≤ lflags (at_ s) then
        (if 32768 < (data ++ ((at_ s).drop 14).take (llen (at_ s))).length then (recs, next) else rfind at_ top k (s + 1) (lmount (at_ s)) [] (s + 1) (recs ++ [(next, s + 1, data ++ ((at_ s).drop 14).take (llen (at_ s)))]))
      else rfind at_ top k (s + 1) (lmount (at_ s)) (data ++ ((at_ s).drop 14).take (llen (at_ s))) next recs)
    else (recs, next)
theorem rfind_succ (at_ : Nat → List UInt8) (top k s last next : Nat) (data : List UInt8) (recs : List (Nat × Nat × List UInt8)) : rfind at_ top (k + 1) s last data next recs =
    if rgo (at_ s) top s last (decide (s = next)) then
      (if 2 ≤ lflags (at_ s) then
        (if 32768 < (data ++ ((at_ s).drop 14).take (llen (at_ s))).length then (recs, next) else rfind at_ top k (s + 1) (lmount (at_ s)) [] (s + 1) (recs ++ [(next, s + 1, data ++ ((at_ s).drop 14).take (llen (at_ s)))]))
      else rfind at_ top k (s + 1) (lmount (at_ s)) (data ++ ((at_ s).drop 14).take (llen (at_ s))) next recs)
    else (recs, next) := rfl
theorem rfind_long {at_ : Nat → List UInt8} {top : Nat} : ∀ (k s last next : Nat) (data : List UInt8) (recs : List (Nat × Nat × List UInt8)), 32768 < data.length → rfind at_ top k s last data next recs = (recs, next)
  | 0, _, _, _, _, _, _ => rfl
  | k + 1, s, last, next, data, recs, h => by
    rw [rfind_succ]
    have hl : 32768 < (data ++ ((at_ s).drop 14).take (llen (at_ s))).length := by rw [List.length_append]; omega
    by_cases hg : rgo (at_ s) top s last (decide (s = next))
    · rw [if_pos hg]
      by_cases hf : 2 ≤ lflags (at_ s)
      · rw [if_pos hf, if_pos hl]
      · rw [if_neg hf]; exact rfind_long k _ _ _ _ _ hl
    · rw [if_neg hg]
theorem rfind_eq {at_ : Nat → List UInt8} {top : Nat} : ∀ (k s last next : Nat) (data : List UInt8) (recs : List (Nat × Nat × List UInt8)), (∀ q, s ≤ q → q < s + k → (at_ q).length = 64) → s + k ≤ 18446744073709551616 → rfind at_ top k s last data next recs = wfind at_ top k s last data next recs
  | 0, _, _, _, _, _, _, _ => rfl
  | k + 1, s, last, next, data, recs, h64, hs => by
    have hiff := rgo_lgo (top := top) (last := last) (next := next) (h64 s (Nat.le_refl _) (by omega)) (show s < 18446744073709551616 by omega)
    have ih := fun l n d r => rfind_eq (at_ := at_) (top := top) k (s + 1) l n d r (fun q h1 h2 => h64 q (by omega) (by omega)) (by omega)
    by_cases hg : lgo (lookA (at_ s) s) top s last next
    · have e := lookA_rgo hg
      obtain ⟨part, hpt⟩ : ∃ part, part = ((at_ s).drop 14).take (llen (at_ s)) := ⟨_, rfl⟩
      rw [← hpt] at e
      have hL : rfind at_ top (k + 1) s last data next recs = if 2 ≤ lflags (at_ s) then (if 32768 < (data ++ part).length then (recs, next) else rfind at_ top k (s + 1) (lmount (at_ s)) [] (s + 1) (recs ++ [(next, s + 1, data ++ part)])) else rfind at_ top k (s + 1) (lmount (at_ s)) (data ++ part) next recs := by
        rw [rfind_succ, if_pos (hiff.2 hg), ← hpt]
      have hR := wfind_succ at_ top k s last next data recs
      rw [e] at hR
      dsimp only at hR
      by_cases hl : (data ++ part).length ≤ 32768
      · rw [if_pos ⟨by rw [← e]; exact hg, hl⟩] at hR
        rw [hL, hR, if_neg (show ¬ 32768 < (data ++ part).length by omega), ih, ih]
      · rw [if_neg (fun hc => hl hc.2)] at hR
        rw [hL, hR, if_pos (show 32768 < (data ++ part).length by omega), rfind_long k _ _ _ _ _ (show 32768 < (data ++ part).length by omega)]
        split <;> rfl
    · rw [rfind_succ, wfind_succ, if_neg (fun hc => hg (hiff.1 hc))]
      exact (if_neg (fun hc => hg hc.1)).symm
theorem write_pad5 (D : DS) (i : Int) (bs : List UInt8) (h : bs.length ≤ 64) : D.write i (pad bs) = D.write i bs := by
  have hl : (pad bs).length = 64 := by unfold pad; rw [List.length_append, List.length_replicate]; omega
  have hp : pad (pad bs) = pad bs := by
    show pad bs ++ List.replicate (64 - (pad bs).length) 0 = pad bs
    rw [hl]; simp
  unfold DS.write
  rw [hl, hp]
  by_cases h1 : ¬ (0 ≤ i ∧ i < D.seen.length)
  · rw [if_pos (.inl h1), if_pos (.inl h1)]
  · have e1 : ¬ (¬ (0 ≤ i ∧ i < D.seen.length) ∨ 64 < 64) := by rintro (h | h); exact h1 h; omega
    have e2 : ¬ (¬ (0 ≤ i ∧ i < D.seen.length) ∨ 64 < bs.length) := by rintro (h | h); exact h1 h; omega
    rw [if_neg e1, if_neg e2]
end Go.Proofs.Ytdehkdmnddflhaa
