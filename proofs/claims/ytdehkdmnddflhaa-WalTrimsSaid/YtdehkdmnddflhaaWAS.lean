/- Package wal, plain: what find says of a ring that a crash has torn. -/
import Derived.Test.YtdehkdmnddflhaaWAR
namespace Go.Proofs.Ytdehkdmnddflhaa
set_option linter.unusedVariables false
set_option linter.unusedSimpArgs false
set_option linter.unusedSectionVars false
set_option linter.unnecessarySimpa false
open Go Go.Proofs
/-- No good piece of mount M or later. -/
def Older (bt : Nat → List UInt8) (M : Nat) : Prop := ∀ p, (lookA (bt p) p).ok = true → (lookA (bt p) p).mount < M
/-- From s on each sector is the old one, or a good one of mount M. -/
def Mixed (bt et : Nat → List UInt8) (M s : Nat) : Prop := ∀ p, s ≤ p → et p = bt p ∨ ((lookA (et p) p).ok = true ∧ (lookA (et p) p).mount = M)
theorem wfind_ext (at_ : Nat → List UInt8) (top : Nat) : ∀ (k s μ : Nat) (data : List UInt8) (next : Nat) (recs : List (Nat × Nat × List UInt8)), ∃ r, (wfind at_ top k s μ data next recs).1 = recs ++ r
  | 0, _, _, _, _, recs => ⟨[], by simp [wfind]⟩
  | k + 1, s, μ, data, next, recs => by
    rw [wfind_succ]
    split
    · split
      · obtain ⟨r, hr⟩ := wfind_ext at_ top k (s + 1) (lookA (at_ s) s).mount [] (s + 1) (recs ++ [(next, s + 1, data ++ (lookA (at_ s) s).data)])
        exact ⟨_ :: r, by rw [hr, List.append_assoc]; rfl⟩
      · exact wfind_ext at_ top k _ _ _ _ _
    · exact ⟨[], by simp⟩
theorem stuck_old {bt et : Nat → List UInt8} {M top s : Nat} (ho : Older bt M) (he : et s = bt s) (k : Nat) (R : List (Nat × Nat × List UInt8)) : wfind et top k s M [] s R = (R, s) := by
  cases k with
  | zero => rfl
  | succ k =>
    rw [wfind_succ, if_neg]
    rintro ⟨⟨h1, h2, _⟩, _⟩
    rw [he] at h1 h2
    have := ho s h1
    omega
/-- A record of mount M of which piece i0 is the first that isn't there. -/
theorem stuck_mid {bt et : Nat → List UInt8} {M top s i0 : Nat} {d : List UInt8} (ho : Older bt M) (hd : d.length ≤ 32768) (hs : s + 656 < 18446744073709551616) (hm : M < 4294967296) (hmt : M ≤ top) (h0 : 0 < i0) (h1 : i0 < cnt d.length)
    (h : ∀ i, i < i0 → et (s + i) = pad (wpiece M (s + i) i (cnt d.length) (partAt d i))) (he : et (s + i0) = bt (s + i0)) (μ : Nat) (hμ : μ ≤ M) (R : List (Nat × Nat × List UInt8)) : ∀ k, wfind et top k s μ [] s R = (R, s) := by
  have hc := cnt_spec hd
  have hl : ∀ i, i < i0 → lookA (et (s + i)) (s + i) = ⟨M, (wfl i (cnt d.length)).toNat, partAt d i, true⟩ := by
    intro i hi
    have hp := partAt_length d i
    rw [h i hi]
    exact look_piece (by omega) hm (by omega) (by omega) (by omega)
  have aux : ∀ k i, 1 ≤ i → i ≤ i0 → wfind et top k (s + i) M (d.take (50 * i)) s R = (R, s) := by
    intro k
    induction k with
    | zero => intros; rfl
    | succ k ih =>
      intro i g1 g2
      by_cases hi : i < i0
      · rw [wfind_succ, hl i hi, if_pos, if_neg]
        · show wfind et top k (s + i + 1) M (d.take (50 * i) ++ partAt d i) s R = _
          rw [take_part]
          exact ih (i + 1) (by omega) (by omega)
        · show ¬ 2 ≤ (wfl i _).toNat
          rw [wfl_last]; omega
        · refine ⟨⟨rfl, Nat.le_refl _, hmt, ?_, .inr rfl⟩, ?_⟩
          · show (wfl i _).toNat % 2 = 1 ↔ s + i = s
            rw [wfl_first]; omega
          · show (d.take (50 * i) ++ partAt d i).length ≤ 32768
            rw [take_part, List.length_take]; omega
      · have e : i = i0 := by omega
        subst e
        rw [wfind_succ, if_neg]
        rintro ⟨⟨q1, q2, _⟩, _⟩
        rw [he] at q1 q2
        have := ho (s + i) q1
        omega
  intro k
  cases k with
  | zero => rfl
  | succ k =>
    have hl0 := hl 0 h0
    rw [Nat.add_zero] at hl0
    rw [wfind_succ, hl0, if_pos, if_neg]
    · show wfind et top k (s + 1) M ([] ++ partAt d 0) s R = _
      have e := take_part d 0
      rw [Nat.mul_zero, List.take_zero] at e
      rw [e]
      exact aux k 1 (Nat.le_refl _) h0
    · show ¬ 2 ≤ (wfl 0 _).toNat
      rw [wfl_last]; omega
    · refine ⟨⟨rfl, hμ, hmt, ?_, .inl rfl⟩, ?_⟩
      · show (wfl 0 _).toNat % 2 = 1 ↔ s = s
        rw [wfl_first]; simp
      · show ([] ++ partAt d 0).length ≤ 32768
        rw [List.nil_append, partAt_length]; omega
/-- Where the old content ended a search in mid-record, the torn one does. -/
theorem stuck_same_mid {bt et : Nat → List UInt8} {M top top2 s : Nat} (ho : Older bt M) (hx : Mixed bt et M s) (ht : M ≤ top) (ht2 : M ≤ top2) (R : List (Nat × Nat × List UInt8)) :
    ∀ (k p m : Nat) (data : List UInt8), s < p → m < M → wfind bt top k p m data s R = (R, s) → wfind et top2 k p m data s R = (R, s)
  | 0, _, _, _, _, _, _ => rfl
  | k + 1, p, m, data, hp, hm, h => by
    rcases hx p (by omega) with he | ⟨he1, he2⟩
    · rw [wfind_succ] at h ⊢
      rw [he]
      by_cases hg : lgo (lookA (bt p) p) top p m s ∧ (data ++ (lookA (bt p) p).data).length ≤ 32768
      · rw [if_pos hg] at h
        have hok := ho p hg.1.1
        have hmm : (lookA (bt p) p).mount = m := by rcases hg.1.2.2.2.2 with e | e; omega; exact e
        have hg2 : lgo (lookA (bt p) p) top2 p m s ∧ (data ++ (lookA (bt p) p).data).length ≤ 32768 := ⟨⟨hg.1.1, hg.1.2.1, by omega, hg.1.2.2.2.1, hg.1.2.2.2.2⟩, hg.2⟩
        rw [if_pos hg2]
        by_cases hf : 2 ≤ (lookA (bt p) p).flags
        · rw [if_pos hf] at h
          obtain ⟨r, hr⟩ := wfind_ext bt top k (p + 1) (lookA (bt p) p).mount [] (p + 1) (R ++ [(s, p + 1, data ++ (lookA (bt p) p).data)])
          rw [h] at hr
          have := congrArg List.length hr
          simp at this
        · rw [if_neg hf] at h ⊢
          exact stuck_same_mid ho hx ht ht2 R k (p + 1) _ _ (by omega) (by omega) h
      · rw [if_neg]
        intro hg2
        have hok := ho p hg2.1.1
        exact hg ⟨⟨hg2.1.1, hg2.1.2.1, by omega, hg2.1.2.2.2.1, hg2.1.2.2.2.2⟩, hg2.2⟩
    · rw [wfind_succ, if_neg]
      rintro ⟨⟨_, _, _, _, q⟩, _⟩
      rcases q with q | q <;> omega
theorem stuck_same {bt et : Nat → List UInt8} {M top top2 s μ : Nat} (ho : Older bt M) (hx : Mixed bt et M s) (ht : M ≤ top) (ht2 : M ≤ top2) (he : et s = bt s) (R : List (Nat × Nat × List UInt8)) (k : Nat) (h : wfind bt top k s μ [] s R = (R, s)) : wfind et top2 k s μ [] s R = (R, s) := by
  cases k with
  | zero => rfl
  | succ k =>
    rw [wfind_succ] at h ⊢
    rw [he]
    by_cases hg : lgo (lookA (bt s) s) top s μ s ∧ ([] ++ (lookA (bt s) s).data).length ≤ 32768
    · rw [if_pos hg] at h
      have hok := ho s hg.1.1
      have hg2 : lgo (lookA (bt s) s) top2 s μ s ∧ ([] ++ (lookA (bt s) s).data).length ≤ 32768 := ⟨⟨hg.1.1, hg.1.2.1, by omega, hg.1.2.2.2.1, hg.1.2.2.2.2⟩, hg.2⟩
      rw [if_pos hg2]
      by_cases hf : 2 ≤ (lookA (bt s) s).flags
      · rw [if_pos hf] at h
        obtain ⟨r, hr⟩ := wfind_ext bt top k (s + 1) (lookA (bt s) s).mount [] (s + 1) (R ++ [(s, s + 1, [] ++ (lookA (bt s) s).data)])
        rw [h] at hr
        have := congrArg List.length hr
        simp at this
      · rw [if_neg hf] at h ⊢
        exact stuck_same_mid ho hx ht ht2 R k (s + 1) _ _ (by omega) hok h
    · rw [if_neg]
      intro hg2
      have hok := ho s hg2.1.1
      exact hg ⟨⟨hg2.1.1, hg2.1.2.1, by omega, hg2.1.2.2.2.1, hg2.1.2.2.2.2⟩, hg2.2⟩
end Go.Proofs.Ytdehkdmnddflhaa
