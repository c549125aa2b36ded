/- Package block, plain: a crash behind a Write. -/
import Derived.Test.YtgcfonjiingpnaaLB
namespace Go.Proofs.Ytgcfonjiingpnaa
set_option linter.unusedVariables false
set_option linter.unusedSimpArgs false
set_option linter.unusedSectionVars false
set_option linter.unnecessarySimpa false
open Go Go.Proofs
theorem fore_get (keep : List Int) : ∀ (w : List (Nat × List UInt8 × List UInt8)) (st k : Nat) (seen : List (List UInt8)), (∀ m x, w[m]? = some x → x.1 = st + m) → st + w.length ≤ seen.length → ∀ q,
    (fore seen keep k w)[q]? = if st ≤ q ∧ q < st + w.length ∧ keepOf keep (k + (q - st)) = true then w[q - st]?.map (·.2.2) else seen[q]?
  | [], st, k, seen, _, _, q => by simp only [fore]; rw [if_neg (by simp only [List.length_nil]; omega)]
  | p :: w, st, k, seen, h, hl, q => by
    have hp : p.1 = st := h 0 p rfl
    rw [List.length_cons] at hl
    simp only [fore]
    rw [fore_get keep w (st + 1) (k + 1) _ (fun m x hx => by rw [h (m + 1) x (by rw [List.getElem?_cons_succ]; exact hx)]; omega) (by split <;> first | (rw [List.length_set]; omega) | omega) q, hp, List.length_cons]
    by_cases hq : q = st
    · subst hq
      rw [if_neg (by omega), Nat.sub_self, Nat.add_zero]
      by_cases hk : keepOf keep k = true
      · rw [if_pos hk, if_pos ⟨Nat.le_refl _, by omega, hk⟩, List.getElem?_set_self (by omega)]; rfl
      · rw [if_neg hk, if_neg (fun h => hk h.2.2)]
    · have e : (if keepOf keep k = true then seen.set st p.2.2 else seen)[q]? = seen[q]? := by
        split
        · rw [List.getElem?_set_ne (fun e => hq e.symm)]
        · rfl
      rw [e]
      by_cases hc : st ≤ q ∧ q < st + (w.length + 1) ∧ keepOf keep (k + (q - st)) = true
      · rw [if_pos hc, if_pos ⟨by omega, by omega, by rw [show k + 1 + (q - (st + 1)) = k + (q - st) by omega]; exact hc.2.2⟩]
        rw [show q - st = (q - (st + 1)) + 1 by omega, List.getElem?_cons_succ]
      · rw [if_neg hc, if_neg]
        rintro ⟨h1, h2, h3⟩
        exact hc ⟨by omega, by omega, by rw [show k + (q - st) = k + 1 + (q - (st + 1)) by omega]; exact h3⟩
theorem back_get : ∀ (w : List (Nat × List UInt8 × List UInt8)) (st : Nat) (seen : List (List UInt8)), (∀ m x, w[m]? = some x → x.1 = st + m) → st + w.length ≤ seen.length → ∀ q,
    (back seen w)[q]? = if st ≤ q ∧ q < st + w.length then w[q - st]?.map (·.2.1) else seen[q]?
  | [], st, seen, _, _, q => by simp only [back]; rw [if_neg (by simp only [List.length_nil]; omega)]
  | p :: w, st, seen, h, hl, q => by
    have hp : p.1 = st := h 0 p rfl
    rw [List.length_cons] at hl
    simp only [back]
    rw [hp]
    by_cases hq : q = st
    · subst hq
      rw [List.getElem?_set_self (by rw [back_length]; omega), if_pos ⟨Nat.le_refl _, by rw [List.length_cons]; omega⟩, Nat.sub_self]; rfl
    · rw [List.getElem?_set_ne (fun e => hq e.symm), back_get w (st + 1) seen (fun m x hx => by rw [h (m + 1) x (by rw [List.getElem?_cons_succ]; exact hx)]; omega) (by omega) q, List.length_cons]
      by_cases hc : st ≤ q ∧ q < st + (w.length + 1)
      · rw [if_pos hc, if_pos (by omega), show q - st = (q - (st + 1)) + 1 by omega, List.getElem?_cons_succ]
      · rw [if_neg hc, if_neg (by omega)]
/-- What a crash leaves of a block that was written on synced sectors. -/
theorem torn_get {S T : DS} {st id n : Nat} {data : List UInt8} {k : Nat} (h : Wrote S T st id n data 0 k) (hw : S.wait = []) (hl : st + k ≤ S.seen.length) (keep : List Int) (q : Nat) :
    (T.crash keep).seen[q]? = if st ≤ q ∧ q < st + k ∧ keepOf keep (q - st) = true then some (pad (sect id (q - st) n (partAt data (q - st)))) else S.seen[q]? := by
  obtain ⟨w, h1, h2, h3⟩ := h.wait
  rw [hw, List.nil_append] at h1
  simp only [DS.crash]
  rw [h1]
  have hidx : ∀ m x, w[m]? = some x → x.1 = st + m := fun m x hx => by have := (h3 m x hx).1; omega
  rw [fore_get keep w st 0 _ hidx (by rw [back_length, h.len]; omega) q, back_get w st _ hidx (by rw [h.len]; omega) q, h2, Nat.zero_add]
  by_cases hin : st ≤ q ∧ q < st + k
  · obtain ⟨x, hx⟩ : ∃ x, w[q - st]? = some x := ⟨_, List.getElem?_eq_getElem (by omega)⟩
    obtain ⟨_, g2, g3⟩ := h3 _ _ hx
    rw [hx]
    by_cases hk : keepOf keep (q - st) = true
    · rw [if_pos ⟨hin.1, hin.2, hk⟩, if_pos ⟨hin.1, hin.2, hk⟩, Option.map_some, g3, Nat.zero_add]
    · have c1 : ¬ (st ≤ q ∧ q < st + k ∧ keepOf keep (q - st) = true) := fun h => hk h.2.2
      rw [if_neg c1, if_neg c1, if_pos hin, Option.map_some, ← g2, show st + 0 + (q - st) = q by omega]
  · have c1 : ¬ (st ≤ q ∧ q < st + k ∧ keepOf keep (q - st) = true) := fun h => hin ⟨h.1, h.2.1⟩
    rw [if_neg c1, if_neg c1, if_neg hin, h.other q (by omega)]
/-- Every sector is no first one of any block but number 1. -/
theorem own01 {S : DS} {st : Nat} {old : List UInt8} {n : Nat} (ho : old.length ≤ 32768) (h : Wrote (DS.new n) S st 1 (cnt old.length) old 0 (cnt old.length)) (q : Nat) (s : List UInt8) (hs : S.seen[q]? = some s) : (parts s).own ≤ 1 := by
  have hc := cnt_spec ho
  by_cases hin : st ≤ q ∧ q < st + cnt old.length
  · have := h.get (q - st) (Nat.zero_le _) (by omega)
    rw [show st + (q - st) = q by omega, hs] at this
    simp only [Option.some.injEq] at this
    rw [this, parts_sect 1 _ _ _ (by decide) (by omega) (by omega) (by rw [partAt_length]; omega)]
    exact Nat.le_refl 1
  · rw [h.other q (by omega)] at hs
    have hlt := (List.getElem?_eq_some_iff.1 hs).1
    rw [new_seen] at hlt
    rw [new_get' hlt] at hs
    simp only [Option.some.injEq] at hs
    rw [← hs, parts_zero]
    exact Nat.zero_le 1
theorem least_not {p : Nat → Bool} : ∀ n, ¬ (∀ j, j < n → p j = true) → ∃ m, m < n ∧ p m = false ∧ ∀ j, j < m → p j = true
  | 0, h => absurd (fun j hj => by omega) h
  | n + 1, h => by
    by_cases h1 : ∀ j, j < n → p j = true
    · refine ⟨n, by omega, ?_, h1⟩
      cases e : p n with
      | false => rfl
      | true => exact absurd (fun j hj => by by_cases hj' : j = n; subst hj'; exact e; exact h1 j (by omega)) h
    · obtain ⟨m, h2, h3, h4⟩ := least_not n h1
      exact ⟨m, by omega, h3, h4⟩
/-- The whole of BlockTorn: synced S, written T, crashed. -/
theorem torn_all {S0 S T : DS} {id : Nat} {old data : List UInt8} {keep : List Int} (ho : old.length ≤ 1000) (hd : data.length ≤ 1000) (hid2 : 2 ≤ id) (hid : id < 18446744073709551616)
    (h0 : Wrote (DS.new 64) S0 4 1 (cnt old.length) old 0 (cnt old.length)) (hS : S.seen = S0.seen) (hw : S.wait = []) (h : Wrote S T 4 id (cnt data.length) data 0 (cnt data.length)) :
    if ∀ j, j < cnt data.length → keepOf keep j = true then bread (T.crash keep) ((4 : Nat) : Int) id = (data, 0) ∧ bread (T.crash keep) ((4 : Nat) : Int) 1 = ([], 2)
    else bread (T.crash keep) ((4 : Nat) : Int) id = ([], 2) ∧ ((∀ j, j < cnt data.length → keepOf keep j = false) → bread (T.crash keep) ((4 : Nat) : Int) 1 = (old, 0)) := by
  have co := cnt_spec (k := old.length) (by omega)
  have cd := cnt_spec (k := data.length) (by omega)
  have hlen : S.seen.length = 64 := by rw [hS, h0.len, new_seen]
  have hg := torn_get h hw (by omega) keep
  have hcl : (T.crash keep).seen.length = 64 := by simp only [DS.crash, fore_length, back_length]; rw [h.len, hlen]
  split
  · rename_i hall
    have hh : Has (T.crash keep) 4 id data := fun j hj => by
      rw [hg (4 + j), if_pos ⟨by omega, by omega, by rw [show 4 + j - 4 = j by omega]; exact hall j hj⟩, show 4 + j - 4 = j by omega]
    exact ⟨hh.read (by omega) (by omega) hid, hh.other (by omega) (by decide) hid (by omega)⟩
  · rename_i hall
    constructor
    · obtain ⟨m, hm, hkm, hkj⟩ := least_not _ hall
      rw [bread_in (by omega) (by omega)]
      refine brd_torn (data := data) (m := m) (by omega) hid hm (fun j hj => ?_) (fun s c hs => ?_)
      · rw [hg (4 + j), if_pos ⟨by omega, by omega, by rw [show 4 + j - 4 = j by omega]; exact hkj j hj⟩, show 4 + j - 4 = j by omega]
      · rw [hg (4 + m), if_neg (by rw [show 4 + m - 4 = m by omega, hkm]; simp), hS] at hs
        have := own01 (by omega) h0 _ _ hs
        rw [piece_own (by omega)]
    · intro hnone
      have hh : Has (T.crash keep) 4 1 old := fun j hj => by
        rw [hg (4 + j), if_neg, hS]
        · exact h0.get j (Nat.zero_le _) (by omega)
        · rintro ⟨_, h2, h3⟩
          rw [show 4 + j - 4 = j by omega] at h3
          rw [hnone j (by omega)] at h3
          cases h3
      exact hh.read (by omega) (by decide) (by decide)
end Go.Proofs.Ytgcfonjiingpnaa
