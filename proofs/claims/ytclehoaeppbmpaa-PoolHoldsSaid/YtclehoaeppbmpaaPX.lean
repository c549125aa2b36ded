/- PoolAsks, plain. -/
import Derived.Test.YtclehoaeppbmpaaPW
import Derived.Test.YtclehoaeppbmpaaLP
namespace Go.Proofs.Ytclehoaeppbmpaa
set_option linter.unusedVariables false
set_option linter.unusedSimpArgs false
set_option linter.unusedSectionVars false
set_option linter.unnecessarySimpa false
open Go Go.Proofs
def OddIn (D : List Int) (q : Int) : Prop := ∃ d : Nat, (d : Int) ∈ D ∧ d ≤ 6 ∧ q = 2 * (d : Int) + 1
structure AI (m : Int) (S : PlS) (B : BkS) : Prop where
  most : S.most = m
  pos : 1 ≤ m
  full : B.full = -1
  pins : ∀ x ∈ S.v, x.2.2 = 0
  ids : ∀ x ∈ S.v, ∃ j : Nat, x.1 = (j : Int) ∧ 1 ≤ j ∧ j ≤ 6
  len : (S.rows.length : Int) ≤ m
  ents : ∀ j : Nat, 1 ≤ j → j ≤ 6 → (getB B.ent (j : Int)).isSome = true
theorem AI.noask {m : Int} {S : PlS} {B : BkS} (h : AI m S B) (A : List Int) : AI m S { B with asked := A } := ⟨h.most, h.pos, h.full, h.pins, h.ids, h.len, h.ents⟩
theorem ask1_small {j : Nat} (h : j ≤ 6) : ask1 (j : Int) = 2 * (j : Int) + 1 := by
  match j, h with
  | 0, _ => rfl
  | 1, _ => rfl
  | 2, _ => rfl
  | 3, _ => rfl
  | 4, _ => rfl
  | 5, _ => rfl
  | 6, _ => rfl
theorem ask0_small {j : Nat} (h : j ≤ 6) : ask0 (j : Int) = 2 * (j : Int) := by
  match j, h with
  | 0, _ => rfl
  | 1, _ => rfl
  | 2, _ => rfl
  | 3, _ => rfl
  | 4, _ => rfl
  | 5, _ => rfl
  | 6, _ => rfl
/-- Room behind a step that may have made one place more. -/
theorem AI.room {m : Int} {N : Nat} {S : PlS} {B : BkS} {D : List Int} (hF : Fit S B N) (hm : S.most = m) (hpos : 1 ≤ m) (hf : B.full = -1) (hp : ∀ x ∈ S.v, x.2.2 = 0) (hi : ∀ x ∈ S.v, ∃ j : Nat, x.1 = (j : Int) ∧ 1 ≤ j ∧ j ≤ 6)
    (he : ∀ j : Nat, 1 ≤ j → j ≤ 6 → (getB B.ent (j : Int)).isSome = true) (hD : ∀ x ∈ S.v, x.2.1 = true → x.1 ∈ D) :
    AI m (roomS S B).1 (roomS S B).2 ∧ ∃ Q, (roomS S B).2.asked = B.asked ++ Q ∧ ∀ q ∈ Q, OddIn D q := by
  have hg := room_goes S B
  obtain ⟨Q, q1, q2⟩ := hg.asked
  refine ⟨⟨hg.most.trans hm, hpos, hg.full hf, fun x hx => hp x (hg.sub.subset hx), fun x hx => hi x (hg.sub.subset hx), ?_, fun j h1 h6 => hg.ent _ (he j h1 h6)⟩, Q, q1, fun q hq => ?_⟩
  · rcases room_len hF hf with h | h
    · rw [hm] at h; exact h
    · have : (roomS S B).1.v = [] := by
        cases hv : (roomS S B).1.v with
        | nil => rfl
        | cons x l =>
          have h1 := h x (by rw [hv]; simp)
          have h2 := hp x (hg.sub.subset (by rw [hv]; simp))
          omega
      have hl := v_len (roomS S B).1
      rw [this] at hl
      simp only [List.length_nil] at hl
      omega
  · obtain ⟨x, hx, hd, rfl⟩ := q2 q hq
    obtain ⟨j, e, h1, h6⟩ := hi x hx
    refine ⟨j, ?_, h6, ?_⟩
    · rw [← e]; exact hD x hx hd
    · rw [e]; exact ask1_small h6
theorem AI.evict {m : Int} {N : Nat} {S : PlS} {B : BkS} (hF : Fit S B N) (h : AI m S B) (ha : B.asked = []) :
    AI m (evictS S B).2.1 (evictS S B).2.2 ∧ (∀ q ∈ (evictS S B).2.2.asked, OddIn (dirtyS S) q) ∧ (evictS S B).2.1.rows.length = S.rows.length - 1 := by
  have hg := evict_goes S B
  obtain ⟨Q, q1, q2⟩ := hg.asked
  rw [ha, List.nil_append] at q1
  have hl : (evictS S B).2.1.rows.length = S.rows.length - 1 := by
    by_cases h0 : S.rows = []
    · unfold evictS
      rw [if_pos h0]
      show S.rows.length = _
      rw [h0]; rfl
    · have hlt : S.hand < S.rows.length := by
        rcases hF.hand with h1 | ⟨h1, _⟩
        · exact h1
        · exact absurd h1 h0
      cases hv : S.v with
      | nil =>
        have := v_len S
        rw [hv] at this
        simp only [List.length_nil] at this
        exact absurd (List.eq_nil_of_length_eq_zero this.symm) h0
      | cons x l =>
        have hx : x ∈ S.v := by rw [hv]; simp
        have hok := evict_ok (S := S) (B := B) (by rw [h.full]; decide) hx (by rw [h.pins x hx]; omega) hlt
        have := evict_less hF hok
        omega
  refine ⟨⟨hg.most.trans h.most, h.pos, hg.full h.full, fun x hx => h.pins x (hg.sub.subset hx), fun x hx => h.ids x (hg.sub.subset hx), ?_, fun j h1 h6 => hg.ent _ (h.ents j h1 h6)⟩, fun q hq => ?_, hl⟩
  · have := h.len; omega
  · rw [q1] at hq
    obtain ⟨x, hx, hd, rfl⟩ := q2 q hq
    obtain ⟨j, e, h1, h6⟩ := h.ids x hx
    exact ⟨j, by rw [← e]; exact mem_dirtyR hx hd, h6, by rw [e]; exact ask1_small h6⟩
theorem AI.get {m : Int} {N j : Nat} {S : PlS} {B : BkS} (hF : Fit S B N) (h : AI m S B) (ha : B.asked = []) (h1 : 1 ≤ j) (h6 : j ≤ 6) :
    AI m (getS S B (j : Int)).2.1 (getS S B (j : Int)).2.2 ∧ (((getS S B (j : Int)).2.2.asked = [] ∧ (getS S B (j : Int)).2.1.rows.length = S.rows.length) ∨ ∃ Q, (getS S B (j : Int)).2.2.asked = 2 * (j : Int) :: Q ∧ ∀ q ∈ Q, OddIn (dirtyS S) q) := by
  have hff := find_fit (id := (j : Int)) hF
  unfold getS
  rcases at_cases (j : Int) S.rows 0 with ⟨A, r, C, e1, e2, e3, e4⟩ | ⟨e1, e2⟩
  · have hf : findS S B (j : Int) = (some (0 + A.length, rowSet S (0 + A.length) use), B) := by unfold findS; rw [e4]
    rw [hf]
    dsimp only
    have hl : (rowSet S (0 + A.length) use).rows.length = S.rows.length := by unfold rowSet; rw [List.length_modify]
    rw [room_stay (by rw [hl]; show (S.rows.length : Int) ≤ S.most; rw [h.most]; exact h.len)]
    refine ⟨⟨h.most, h.pos, h.full, fun x hx => h.pins x (by rw [v_use] at hx; exact hx), fun x hx => h.ids x (by rw [v_use] at hx; exact hx), by rw [hl]; exact h.len, h.ents⟩, .inl ⟨ha, hl⟩⟩
  · obtain ⟨bs, hg⟩ := Option.isSome_iff_exists.1 (h.ents j h1 h6)
    have hf : findS S B (j : Int) = (some (S.rows.length, rowSet (comeS S (j : Int) bs) S.rows.length use), askS B (ask0 (j : Int))) := by unfold findS; rw [e2, hg]
    rw [hf] at hff ⊢
    dsimp only at hff ⊢
    obtain ⟨hF2, _, hm2⟩ := hff.2 _ _ rfl
    have hv : (rowSet (comeS S (j : Int) bs) S.rows.length use).v = S.v ++ [((j : Int), false, 0)] := by
      rw [v_use]; unfold PlS.v comeS; rw [List.map_append]; rfl
    have hro := AI.room (D := dirtyS S) hF2 (hm2.trans h.most) h.pos h.full (fun x hx => by
      rw [hv] at hx
      rcases List.mem_append.1 hx with hx | hx
      · exact h.pins x hx
      · simp only [List.mem_singleton] at hx; rw [hx]) (fun x hx => by
      rw [hv] at hx
      rcases List.mem_append.1 hx with hx | hx
      · exact h.ids x hx
      · simp only [List.mem_singleton] at hx; rw [hx]; exact ⟨j, rfl, h1, h6⟩) h.ents (fun x hx hd => by
      rw [hv] at hx
      rcases List.mem_append.1 hx with hx | hx
      · exact mem_dirtyR hx hd
      · simp only [List.mem_singleton] at hx; rw [hx] at hd; cases hd)
    obtain ⟨hA, Q, q1, q2⟩ := hro
    refine ⟨hA, .inr ⟨Q, ?_, q2⟩⟩
    rw [q1]
    show (B.asked ++ [ask0 (j : Int)]) ++ Q = _
    rw [ha, ask0_small h6]; rfl
theorem AI.put {m : Int} {N j : Nat} {S : PlS} {B : BkS} {bs : List UInt8} (hF : Fit S B N) (hb : bs.length ≤ bigB) (h : AI m S B) (ha : B.asked = []) (h1 : 1 ≤ j) (h6 : j ≤ 6) :
    AI m (putP S B (j : Int) bs).1 (putP S B (j : Int) bs).2 ∧ ∀ q ∈ (putP S B (j : Int) bs).2.asked, OddIn (dirtyS S ++ [(j : Int)]) q := by
  have hF2 := fill_fit (id := (j : Int)) (bs := bs) hF hb
  have hcase : ∀ x ∈ (rowSet (putAt S (j : Int)).2 (putAt S (j : Int)).1 (fill bs)).v, x = ((j : Int), true, 0) ∨ x ∈ S.v := by
    intro x hx
    rcases at_cases (j : Int) S.rows 0 with ⟨A, r, C, e1, e2, e3, e4⟩ | ⟨e1, e2⟩
    · have hpu : putAt S (j : Int) = (A.length, S) := by unfold putAt; rw [e4, Nat.zero_add]
      rw [hpu] at hx
      have hv : (rowSet S A.length (fill bs)).v = A.map Pl.v ++ (fill bs r).v :: C.map Pl.v := by unfold PlS.v rowSet; rw [e1, modify_app, List.map_append, List.map_cons]
      have hv0 : S.v = A.map Pl.v ++ r.v :: C.map Pl.v := by unfold PlS.v; rw [e1, List.map_append, List.map_cons]
      have hrp : r.v.2.2 = 0 := h.pins r.v (by rw [hv0]; simp)
      have hx' : x ∈ (rowSet S A.length (fill bs)).v := hx
      rw [hv] at hx'
      rw [hv0]
      rcases List.mem_append.1 hx' with hx | hx
      · exact .inr (List.mem_append_left _ hx)
      · rcases List.mem_cons.1 hx with rfl | hx
        · left
          show (r.id, true, r.pins) = _
          rw [e2, show r.pins = 0 from hrp]
        · exact .inr (List.mem_append_right _ (List.mem_cons_of_mem _ hx))
    · have hpu : putAt S (j : Int) = (S.rows.length, comeS S (j : Int) []) := by unfold putAt; rw [e2]
      rw [hpu] at hx
      have hv : (rowSet (comeS S (j : Int) []) S.rows.length (fill bs)).v = S.v ++ [((j : Int), true, 0)] := by
        unfold PlS.v rowSet comeS
        dsimp only
        rw [modify_app, List.map_append]; rfl
      have hx' : x ∈ (rowSet (comeS S (j : Int) []) S.rows.length (fill bs)).v := hx
      rw [hv] at hx'
      rcases List.mem_append.1 hx' with hx | hx
      · exact .inr hx
      · simp only [List.mem_singleton] at hx; exact .inl hx
  have hmost : (rowSet (putAt S (j : Int)).2 (putAt S (j : Int)).1 (fill bs)).most = m := by
    show (putAt S (j : Int)).2.most = m
    unfold putAt
    split
    · exact h.most
    · exact h.most
  have hro := AI.room (D := dirtyS S ++ [(j : Int)]) hF2 hmost h.pos h.full (fun x hx => by
    rcases hcase x hx with rfl | hx
    · rfl
    · exact h.pins x hx) (fun x hx => by
    rcases hcase x hx with rfl | hx
    · exact ⟨j, rfl, h1, h6⟩
    · exact h.ids x hx) h.ents (fun x hx hd => by
    rcases hcase x hx with rfl | hx
    · simp
    · exact List.mem_append_left _ (mem_dirtyR hx hd))
  obtain ⟨hA, Q, q1, q2⟩ := hro
  refine ⟨hA, fun q hq => q2 q ?_⟩
  have hq' : q ∈ (roomS (rowSet (putAt S (j : Int)).2 (putAt S (j : Int)).1 (fill bs)) B).2.asked := hq
  rw [q1, ha, List.nil_append] at hq'
  exact hq'
theorem AI.start {m : Int} (hm : 1 ≤ m) : AI m ⟨m, [], 0⟩ (backK 6) := by
  refine ⟨rfl, hm, rfl, (fun x hx => by cases hx), (fun x hx => by cases hx), (by show ((0 : Nat) : Int) ≤ m; omega), fun j h1 h6 => ?_⟩
  obtain ⟨bs, e⟩ := getB_back h1 h6
  show (getB backE (j : Int)).isSome = true
  rw [e]; rfl
end Go.Proofs.Ytclehoaeppbmpaa
