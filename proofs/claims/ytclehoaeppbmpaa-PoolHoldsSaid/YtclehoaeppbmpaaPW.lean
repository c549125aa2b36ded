/- Package pool, plain: what going and room do, where saves are taken. -/
import Derived.Test.YtclehoaeppbmpaaPV
import Derived.Test.YtclehoaeppbmpaaPO20
namespace Go.Proofs.Ytclehoaeppbmpaa
set_option linter.unusedVariables false
set_option linter.unusedSimpArgs false
set_option linter.unusedSectionVars false
set_option linter.unnecessarySimpa false
open Go Go.Proofs
structure Goes (S : PlS) (B : BkS) (S' : PlS) (B' : BkS) : Prop where
  sub : S'.v.Sublist S.v
  asked : ∃ Q, B'.asked = B.asked ++ Q ∧ ∀ q ∈ Q, ∃ x ∈ S.v, x.2.1 = true ∧ q = ask1 x.1
  full : B.full = -1 → B'.full = -1
  ent : ∀ id, (getB B.ent id).isSome = true → (getB B'.ent id).isSome = true
  most : S'.most = S.most
theorem Goes.same {S S' : PlS} {B : BkS} (hv : S'.v = S.v) (hm : S'.most = S.most) : Goes S B S' B := ⟨by rw [hv]; exact List.Sublist.refl _, ⟨[], by simp, by simp⟩, id, fun _ h => h, hm⟩
theorem Goes.trans {S S1 S2 : PlS} {B B1 B2 : BkS} (h : Goes S B S1 B1) (g : Goes S1 B1 S2 B2) : Goes S B S2 B2 := by
  obtain ⟨Q, q1, q2⟩ := h.asked
  obtain ⟨P, p1, p2⟩ := g.asked
  refine ⟨g.sub.trans h.sub, ⟨Q ++ P, by rw [p1, q1, List.append_assoc], fun q hq => ?_⟩, fun hf => g.full (h.full hf), fun id hi => g.ent id (h.ent id hi), g.most.trans h.most⟩
  rcases List.mem_append.1 hq with hq | hq
  · exact q2 q hq
  · obtain ⟨x, hx, e⟩ := p2 q hq
    exact ⟨x, h.sub.subset hx, e⟩
theorem getB_set (l : EL) (id : Int) (v : List UInt8) (i : Int) : getB (setB l id v) i = if i = id then some v else getB l i := by
  induction l with
  | nil =>
    unfold setB getB getB
    by_cases h : id = i
    · rw [if_pos h, if_pos h.symm]
    · rw [if_neg h, if_neg (fun e => h e.symm)]
  | cons e l ih =>
    unfold setB
    by_cases h : e.1 = id
    · rw [if_pos h]
      unfold getB
      by_cases h2 : i = id
      · rw [if_pos h2, if_pos h2.symm]
      · rw [if_neg (fun e => h2 e.symm), if_neg h2, if_neg (fun e2 => h2 (by rw [← e2, h]))]
    · rw [if_neg h]
      unfold getB
      rw [ih]
      by_cases h2 : e.1 = i
      · rw [if_pos h2, if_pos h2, if_neg (fun e2 => h (by rw [h2, e2]))]
      · rw [if_neg h2, if_neg h2]
theorem save_asked (B : BkS) (id : Int) (bs : List UInt8) : (saveS B id bs).2.asked = B.asked ++ [ask1 id] := by
  unfold saveS
  split <;> rfl
theorem save_full {B : BkS} (id : Int) (bs : List UInt8) (h : B.full = -1) : (saveS B id bs).2.full = -1 ∧ (saveS B id bs).1 = 0 ∧ (saveS B id bs).2.ent = setB B.ent id bs := by
  unfold saveS
  rw [if_neg (by omega)]
  refine ⟨?_, rfl, rfl⟩
  show lessS B.full = -1
  unfold lessS
  rw [h]; rfl
theorem save_ent {B : BkS} (id : Int) (bs : List UInt8) (i : Int) (h : (getB B.ent i).isSome = true) : (getB (saveS B id bs).2.ent i).isSome = true := by
  unfold saveS
  split
  · exact h
  · show (getB (setB B.ent id bs) i).isSome = true
    rw [getB_set]
    split
    · rfl
    · exact h
theorem take_sub (S : PlS) (i : Nat) : (takeS S i).v.Sublist S.v := by
  unfold PlS.v
  exact (List.eraseIdx_sublist S.rows i).map _
theorem goL_goes {st : Nat} {B : BkS} : ∀ (k : Nat) (S : PlS), Goes S B (goL st k S B).2.1 (goL st k S B).2.2
  | 0, S => Goes.same rfl rfl
  | k + 1, S => by
    unfold goL
    split
    · exact Goes.same rfl rfl
    · rename_i x hx
      split
      · exact Goes.trans (Goes.same (S' := rotS S) rfl rfl) (goL_goes k (rotS S))
      · split
        · exact Goes.trans (Goes.same (S' := rotS (rowSet S S.hand unuse)) (v_unuse S S.hand) rfl) (goL_goes k _)
        · split
          · rename_i hd
            have hm : x.v ∈ S.v := List.mem_map_of_mem (List.mem_of_getElem? hx)
            have hq : ∃ Q, (saveS B x.id x.bs).2.asked = B.asked ++ Q ∧ ∀ q ∈ Q, ∃ x ∈ S.v, x.2.1 = true ∧ q = ask1 x.1 := ⟨[ask1 x.id], save_asked B x.id x.bs, fun q hq => by
              simp only [List.mem_singleton] at hq
              exact ⟨x.v, hm, hd, hq⟩⟩
            split
            · exact ⟨take_sub S S.hand, hq, fun hf => (save_full x.id x.bs hf).1, fun i hi => save_ent x.id x.bs i hi, rfl⟩
            · exact ⟨List.Sublist.refl _, hq, fun hf => (save_full x.id x.bs hf).1, fun i hi => save_ent x.id x.bs i hi, rfl⟩
          · exact ⟨take_sub S S.hand, ⟨[], by simp, by simp⟩, id, fun _ h => h, rfl⟩
theorem roomL_goes : ∀ (k : Nat) (S : PlS) (B : BkS), Goes S B (roomL k S B).1 (roomL k S B).2
  | 0, S, B => Goes.same rfl rfl
  | k + 1, S, B => by
    unfold roomL
    have hg : Goes S B (goesS S B).2.1 (goesS S B).2.2 := goL_goes _ S
    split
    · split
      · exact hg.trans (roomL_goes k _ _)
      · exact hg
    · exact Goes.same rfl rfl
theorem room_goes (S : PlS) (B : BkS) : Goes S B (roomS S B).1 (roomS S B).2 := roomL_goes _ S B
theorem evict_goes (S : PlS) (B : BkS) : Goes S B (evictS S B).2.1 (evictS S B).2.2 := by
  unfold evictS
  split
  · exact Goes.same rfl rfl
  · exact goL_goes _ S
def far (n h i : Nat) : Nat := if h ≤ i then i - h else i + n - h
theorem far_next {n h i : Nat} (hh : h < n) (hi : i < n) (hne : h ≠ i) : far n ((h + 1) % n) i + 1 = far n h i := by
  by_cases h1 : h + 1 = n
  · rw [h1, Nat.mod_self]
    unfold far
    rw [if_pos (Nat.zero_le _), if_neg (by omega)]
    omega
  · rw [Nat.mod_eq_of_lt (by omega)]
    unfold far
    repeat' split
    all_goals omega
theorem far_same {n h : Nat} (hh : h < n) : far n ((h + 1) % n) h = n - 1 := by
  by_cases h1 : h + 1 = n
  · rw [h1, Nat.mod_self]
    unfold far
    rw [if_pos (Nat.zero_le _)]
    omega
  · rw [Nat.mod_eq_of_lt (by omega)]
    unfold far
    rw [if_neg (by omega)]
    omega
/-- Where one is not pinned and saves are taken one goes. -/
theorem goL_ok {st i : Nat} {B : BkS} (hf : B.full ≠ 0) : ∀ (k : Nat) (S : PlS) (x : Pl), S.rows[i]? = some x → x.pins ≤ 0 → S.hand < S.rows.length → far S.rows.length S.hand i + (if x.used = true then S.rows.length else 0) < k → (goL st k S B).1.2 = 0
  | 0, S, x, _, _, _, h => by omega
  | k + 1, S, x, hx, hp, hh, hk => by
    have hi : i < S.rows.length := (List.getElem?_eq_some_iff.1 hx).1
    unfold goL
    rw [List.getElem?_eq_getElem hh]
    have hy := List.getElem?_eq_getElem hh
    generalize S.rows[S.hand] = y at hy
    dsimp only
    by_cases hhi : S.hand = i
    · have hxy : x = y := by rw [hhi, hx] at hy; exact Option.some.inj hy
      subst hxy
      rw [if_neg (by omega)]
      split
      · rename_i hu
        rw [if_pos hu] at hk
        have hl : (rowSet S S.hand unuse).rows.length = S.rows.length := by unfold rowSet; rw [List.length_modify]
        have hr : (rotS (rowSet S S.hand unuse)).rows[i]? = some (unuse x) := by
          show (S.rows.modify S.hand unuse)[i]? = _
          rw [List.getElem?_modify, hx]; simp [hhi]
        refine goL_ok hf k _ (unuse x) hr hp ?_ ?_
        · show (S.hand + 1) % (rowSet S S.hand unuse).rows.length < (rowSet S S.hand unuse).rows.length
          exact Nat.mod_lt _ (by omega)
        · show far (rowSet S S.hand unuse).rows.length ((S.hand + 1) % (rowSet S S.hand unuse).rows.length) i + (if (unuse x).used = true then _ else 0) < k
          rw [hl, ← hhi, far_same hh, if_neg (by unfold unuse; simp)]
          omega
      · split
        · rw [show (saveS B x.id x.bs).1 = 0 by unfold saveS; rw [if_neg hf]]
          rfl
        · rfl
    · have hne := far_next hh hi hhi
      split
      · refine goL_ok hf k (rotS S) x hx hp (Nat.mod_lt _ (by omega)) ?_
        show far S.rows.length ((S.hand + 1) % S.rows.length) i + (if x.used = true then S.rows.length else 0) < k
        omega
      · split
        · have hl : (rowSet S S.hand unuse).rows.length = S.rows.length := by unfold rowSet; rw [List.length_modify]
          have hr : (rotS (rowSet S S.hand unuse)).rows[i]? = some x := by
            show (S.rows.modify S.hand unuse)[i]? = _
            rw [List.getElem?_modify, hx]; simp [hhi]
          refine goL_ok hf k _ x hr hp ?_ ?_
          · show (S.hand + 1) % (rowSet S S.hand unuse).rows.length < (rowSet S S.hand unuse).rows.length
            exact Nat.mod_lt _ (by omega)
          · show far (rowSet S S.hand unuse).rows.length ((S.hand + 1) % (rowSet S S.hand unuse).rows.length) i + (if x.used = true then (rowSet S S.hand unuse).rows.length else 0) < k
            rw [hl]
            omega
        · split
          · rw [show (saveS B y.id y.bs).1 = 0 by unfold saveS; rw [if_neg hf]]
            rfl
          · rfl
theorem goes_ok {S : PlS} {B : BkS} {x : Vw} (hf : B.full ≠ 0) (hx : x ∈ S.v) (hp : x.2.2 ≤ 0) (hh : S.hand < S.rows.length) : (goesS S B).1.2 = 0 := by
  obtain ⟨y, hy, rfl⟩ := List.mem_map.1 hx
  obtain ⟨i, hi⟩ := List.mem_iff_getElem?.1 hy
  have hi2 : i < S.rows.length := (List.getElem?_eq_some_iff.1 hi).1
  refine goL_ok hf _ S y hi hp hh ?_
  have : far S.rows.length S.hand i < S.rows.length := by unfold far; split <;> omega
  split <;> omega
theorem evict_ok {S : PlS} {B : BkS} {x : Vw} (hf : B.full ≠ 0) (hx : x ∈ S.v) (hp : x.2.2 ≤ 0) (hh : S.hand < S.rows.length) : (evictS S B).1.2 = 0 := by
  unfold evictS
  rw [if_neg (by intro h; rw [h] at hh; cases hh)]
  exact goes_ok hf hx hp hh
/-- What room leaves. -/
theorem roomL_len {N : Nat} : ∀ (k : Nat) (S : PlS) (B : BkS), Fit S B N → B.full = -1 → S.rows.length < k → ((roomL k S B).1.rows.length : Int) ≤ S.most ∨ ∀ x ∈ (roomL k S B).1.v, 0 < x.2.2
  | 0, S, B, _, _, h => by omega
  | k + 1, S, B, hF, hf, hk => by
    unfold roomL
    have hg : Goes S B (goesS S B).2.1 (goesS S B).2.2 := goL_goes _ S
    have hgf := goes_fit hF
    split
    · rename_i hm
      split
      · rename_i h0
        have := roomL_len k _ _ (hgf.1 h0).1 (hg.full hf) (by have := (hgf.1 h0).2; omega)
        rw [hg.most] at this
        exact this
      · rename_i h0
        right
        intro x hx
        rcases Int.lt_or_le 0 x.2.2 with h | h
        · exact h
        · refine absurd ?_ h0
          refine goes_ok (by rw [hf]; decide) (hg.sub.subset hx) h ?_
          rcases hF.hand with h1 | ⟨h1, _⟩
          · exact h1
          · have h3 := hg.sub.subset hx
            unfold PlS.v at h3
            rw [h1] at h3; cases h3
    · left; show (S.rows.length : Int) ≤ S.most; omega
theorem room_len {N : Nat} {S : PlS} {B : BkS} (hF : Fit S B N) (hf : B.full = -1) : ((roomS S B).1.rows.length : Int) ≤ S.most ∨ ∀ x ∈ (roomS S B).1.v, 0 < x.2.2 := roomL_len _ S B hF hf (Nat.lt_succ_self _)
theorem room_stay {S : PlS} {B : BkS} (h : (S.rows.length : Int) ≤ S.most) : roomS S B = (S, B) := by
  unfold roomS roomL
  rw [if_neg (by omega)]
theorem v_len (S : PlS) : S.v.length = S.rows.length := List.length_map _
theorem mem_dirtyR {S : PlS} {x : Vw} (hx : x ∈ S.v) (hd : x.2.1 = true) : x.1 ∈ dirtyS S := by
  obtain ⟨r, hr, rfl⟩ := List.mem_map.1 hx
  unfold dirtyS
  rw [List.mem_mergeSort]
  exact List.mem_map_of_mem (List.mem_filter.2 ⟨hr, hd⟩)
theorem evict_less {S : PlS} {B : BkS} {N : Nat} (h : Fit S B N) (h0 : (evictS S B).1.2 = 0) : (evictS S B).2.1.rows.length + 1 = S.rows.length := by
  unfold evictS at h0 ⊢
  split at h0
  · cases h0
  · rename_i hne
    rw [if_neg hne]
    exact ((goes_fit h).1 h0).2
end Go.Proofs.Ytclehoaeppbmpaa
