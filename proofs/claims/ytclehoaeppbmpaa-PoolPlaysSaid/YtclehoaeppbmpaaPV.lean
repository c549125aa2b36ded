/- Package pool, plain: what going, room, finding do to numbers, marks and pins, where nothing is dirty. -/
import Derived.Test.YtclehoaeppbmpaaPOD
namespace Go.Proofs.Ytclehoaeppbmpaa
set_option linter.unusedVariables false
set_option linter.unusedSimpArgs false
set_option linter.unusedSectionVars false
set_option linter.unnecessarySimpa false
open Go Go.Proofs
def backE : EL := [(1, [98]), (2, [99]), (3, [100]), (4, [101]), (5, [102]), (6, [103])]
/-- number, mark, pins -/
abbrev Vw := Int × Bool × Int
def Pl.v (r : Pl) : Vw := (r.id, r.dirty, r.pins)
def PlS.v (S : PlS) : List Vw := S.rows.map Pl.v
def VKeeps (V V' : List Vw) : Prop := V'.Sublist V ∧ ∀ x ∈ V, 0 < x.2.2 → x ∈ V'
theorem VKeeps.refl (V : List Vw) : VKeeps V V := ⟨List.Sublist.refl V, fun _ h _ => h⟩
theorem VKeeps.trans {A B C : List Vw} (h : VKeeps A B) (g : VKeeps B C) : VKeeps A C := ⟨g.1.trans h.1, fun x hx hp => g.2 x (h.2 x hx hp) hp⟩
theorem at_split {α : Type} {l : List α} {i : Nat} {x : α} (h : l[i]? = some x) : ∃ A B, l = A ++ x :: B ∧ A.length = i := by
  obtain ⟨hlt, hx⟩ := List.getElem?_eq_some_iff.1 h
  refine ⟨l.take i, l.drop (i + 1), ?_, by rw [List.length_take]; omega⟩
  rw [← hx, ← List.drop_eq_getElem_cons hlt, List.take_append_drop]
theorem modify_same {α β : Type} {f : α → α} {g : α → β} (h : ∀ x, g (f x) = g x) : ∀ (l : List α) (i : Nat), (l.modify i f).map g = l.map g
  | [], i => by cases i <;> rfl
  | x :: l, 0 => by rw [List.modify_zero_cons, List.map_cons, h, List.map_cons]
  | x :: l, i + 1 => by rw [List.modify_succ_cons, List.map_cons, modify_same h l i, List.map_cons]
theorem v_unuse (S : PlS) (i : Nat) : (rowSet S i unuse).v = S.v := modify_same (f := unuse) (g := Pl.v) (fun _ => rfl) S.rows i
theorem v_use (S : PlS) (i : Nat) : (rowSet S i use).v = S.v := modify_same (f := use) (g := Pl.v) (fun _ => rfl) S.rows i
theorem v_take {S : PlS} {i : Nat} {x : Pl} (hx : S.rows[i]? = some x) (hp : x.pins ≤ 0) : VKeeps S.v (takeS S i).v := by
  obtain ⟨A, B, h1, h2⟩ := at_split hx
  have h3 : (takeS S i).rows = A ++ B := by
    show S.rows.eraseIdx i = _
    rw [h1, ← h2, erase_app]
  unfold PlS.v
  rw [h3, h1, List.map_append, List.map_append, List.map_cons]
  refine ⟨List.Sublist.append_left (List.sublist_cons_self _ _) _, fun y hy h0 => ?_⟩
  rcases List.mem_append.1 hy with h | h
  · exact List.mem_append_left _ h
  · rcases List.mem_cons.1 h with rfl | h
    · exact absurd h0 (by show ¬ 0 < x.pins; omega)
    · exact List.mem_append_right _ h
def NoDirt (V : List Vw) : Prop := ∀ x ∈ V, x.2.1 = false
theorem goL_clean {st : Nat} {B : BkS} : ∀ (k : Nat) (S : PlS), NoDirt S.v → (goL st k S B).2.2 = B ∧ VKeeps S.v (goL st k S B).2.1.v
  | 0, S, _ => ⟨rfl, .refl _⟩
  | k + 1, S, h => by
    unfold goL
    split
    · exact ⟨rfl, .refl _⟩
    · rename_i x hx
      split
      · exact goL_clean k (rotS S) h
      · rename_i hp
        split
        · have h2 := goL_clean (st := st) (B := B) k (rotS (rowSet S S.hand unuse))
          have e : (rotS (rowSet S S.hand unuse)).v = S.v := v_unuse S S.hand
          rw [e] at h2
          exact h2 h
        · have hd : x.dirty = false := h x.v (List.mem_map_of_mem (List.mem_of_getElem? hx))
          rw [hd, if_neg (by decide)]
          exact ⟨rfl, v_take hx (by omega)⟩
theorem NoDirt.keeps {V V' : List Vw} (h : NoDirt V) (hk : VKeeps V V') : NoDirt V' := fun x hx => h x (hk.1.subset hx)
theorem roomL_clean {B : BkS} : ∀ (k : Nat) (S : PlS), NoDirt S.v → (roomL k S B).2 = B ∧ VKeeps S.v (roomL k S B).1.v
  | 0, S, _ => ⟨rfl, .refl _⟩
  | k + 1, S, h => by
    unfold roomL
    have hg := goL_clean (st := S.hand) (B := B) (2 * S.rows.length) S h
    split
    · split
      · have h2 := roomL_clean (B := (goesS S B).2.2) k (goesS S B).2.1 (h.keeps hg.2)
        exact ⟨h2.1.trans hg.1, hg.2.trans h2.2⟩
      · exact hg
    · exact ⟨rfl, .refl _⟩
theorem room_clean {S : PlS} {B : BkS} (h : NoDirt S.v) : (roomS S B).2 = B ∧ VKeeps S.v (roomS S B).1.v := roomL_clean _ S h
theorem evict_clean {S : PlS} {B : BkS} (h : NoDirt S.v) : (evictS S B).2.2 = B ∧ VKeeps S.v (evictS S B).2.1.v := by
  unfold evictS
  split
  · exact ⟨rfl, .refl _⟩
  · exact goL_clean _ S h
/-- Where none is pinned and none is dirty one goes. -/
theorem goL_free {st : Nat} {B : BkS} : ∀ (k : Nat) (S : PlS), NoDirt S.v → (∀ x ∈ S.v, x.2.2 = 0) → S.hand < S.rows.length → S.rows.countP Pl.used < k → (goL st k S B).1.2 = 0
  | 0, S, _, _, _, h => by omega
  | k + 1, S, hd, hp, hh, hc => by
    unfold goL
    rw [List.getElem?_eq_getElem hh]
    have hx := List.getElem?_eq_getElem hh
    have hm : S.rows[S.hand].v ∈ S.v := List.mem_map_of_mem (List.getElem_mem hh)
    generalize S.rows[S.hand] = x at hx hm
    have h1 : x.pins = 0 := hp x.v hm
    have h2 : x.dirty = false := hd x.v hm
    dsimp only
    rw [if_neg (by omega), h2, if_neg (by decide : ¬ false = true)]
    split
    · rename_i hu
      have e : (rotS (rowSet S S.hand unuse)).v = S.v := v_unuse S S.hand
      have hl : (rowSet S S.hand unuse).rows.length = S.rows.length := by unfold rowSet; rw [List.length_modify]
      refine goL_free k _ (by rw [e]; exact hd) (by rw [e]; exact hp) ?_ ?_
      · show (S.hand + 1) % (rowSet S S.hand unuse).rows.length < (rowSet S S.hand unuse).rows.length
        exact Nat.mod_lt _ (by omega)
      · obtain ⟨A, C, g1, g2⟩ := at_split hx
        have g3 : (rotS (rowSet S S.hand unuse)).rows = A ++ unuse x :: C := by
          show S.rows.modify S.hand unuse = _
          rw [g1, ← g2, modify_app]
        rw [g1, List.countP_append, List.countP_cons_of_pos hu] at hc
        rw [g3, List.countP_append, List.countP_cons_of_neg (by unfold unuse; simp)]
        omega
    · rfl
theorem evict_free {S : PlS} {B : BkS} (hd : NoDirt S.v) (hp : ∀ x ∈ S.v, x.2.2 = 0) (hh : S.hand < S.rows.length) : (evictS S B).1.2 = 0 := by
  unfold evictS
  rw [if_neg (by intro h; rw [h] at hh; cases hh)]
  exact goL_free _ S hd hp hh (by have := List.countP_le_length (p := Pl.used) (l := S.rows); omega)
/-- The pool as PoolPins has it: nothing dirty, each row pinned as often as told, what is pinned is there. -/
structure PI (h : Nat → Nat) (S : PlS) (B : BkS) : Prop where
  ent : B.ent = backE
  nd : NoDirt S.v
  ids : ∀ x ∈ S.v, ∃ j : Nat, x.1 = (j : Int) ∧ 1 ≤ j ∧ j ≤ 6 ∧ x.2.2 = (h j : Int)
  no : (S.v.map (·.1)).Nodup
  here : ∀ j, 0 < h j → ∃ x ∈ S.v, x.1 = (j : Int)
theorem PI.keeps {h : Nat → Nat} {S S' : PlS} {B B' : BkS} (hI : PI h S B) (hB : B'.ent = B.ent) (hk : VKeeps S.v S'.v) : PI h S' B' := by
  refine ⟨hB.trans hI.ent, hI.nd.keeps hk, fun x hx => hI.ids x (hk.1.subset hx), (hk.1.map _).nodup hI.no, fun j hj => ?_⟩
  obtain ⟨x, hx, e⟩ := hI.here j hj
  obtain ⟨j', e', _, _, e2⟩ := hI.ids x hx
  have hjj : j' = j := by omega
  subst hjj
  exact ⟨x, hk.2 x hx (by omega), e⟩
theorem getB_back {j : Nat} (h1 : 1 ≤ j) (h6 : j ≤ 6) : ∃ bs, getB backE (j : Int) = some bs := by
  match j, h1, h6 with
  | 1, _, _ => exact ⟨_, rfl⟩
  | 2, _, _ => exact ⟨_, rfl⟩
  | 3, _, _ => exact ⟨_, rfl⟩
  | 4, _, _ => exact ⟨_, rfl⟩
  | 5, _, _ => exact ⟨_, rfl⟩
  | 6, _, _ => exact ⟨_, rfl⟩
theorem PI.find {h : Nat → Nat} {S : PlS} {B : BkS} {j : Nat} (hI : PI h S B) (h1 : 1 ≤ j) (h6 : j ≤ 6) :
    ∃ A r C S', (findS S B (j : Int)).1 = some (A.length, S') ∧ S'.rows = A ++ r :: C ∧ r.id = (j : Int) ∧ PI h S' (findS S B (j : Int)).2 ∧ (0 < h j → (findS S B (j : Int)).2 = B) := by
  rcases at_cases (j : Int) S.rows 0 with ⟨A, r, C, e1, e2, e3, e4⟩ | ⟨e1, e2⟩
  · have hf : findS S B (j : Int) = (some (A.length, rowSet S A.length use), B) := by unfold findS; rw [e4, Nat.zero_add]
    rw [hf]
    refine ⟨A, use r, C, rowSet S A.length use, rfl, ?_, e2, hI.keeps rfl (by rw [v_use]; exact .refl _), fun _ => rfl⟩
    show S.rows.modify A.length use = _
    rw [e1, modify_app]
  · obtain ⟨bs, hg⟩ := getB_back h1 h6
    have hf : findS S B (j : Int) = (some (S.rows.length, rowSet (comeS S (j : Int) bs) S.rows.length use), askS B (ask0 (j : Int))) := by unfold findS; rw [e2, hI.ent, hg]
    rw [hf]
    have h0 : h j = 0 := by
      rcases Nat.eq_zero_or_pos (h j) with h0 | h0
      · exact h0
      · obtain ⟨x, hx, e⟩ := hI.here j h0
        obtain ⟨r, hr, rfl⟩ := List.mem_map.1 hx
        exact absurd e (e1 r hr)
    have hv : (rowSet (comeS S (j : Int) bs) S.rows.length use).v = S.v ++ [((j : Int), false, 0)] := by
      rw [v_use]; unfold PlS.v comeS; rw [List.map_append]; rfl
    refine ⟨S.rows, use ⟨j, bs, false, false, 0⟩, [], _, rfl, ?_, rfl, ⟨hI.ent, ?_, ?_, ?_, ?_⟩, fun hc => by omega⟩
    · show (S.rows ++ [_]).modify S.rows.length use = _
      rw [modify_app]
    · rw [hv]
      intro x hx
      rcases List.mem_append.1 hx with hx | hx
      · exact hI.nd x hx
      · simp only [List.mem_singleton] at hx; rw [hx]
    · rw [hv]
      intro x hx
      rcases List.mem_append.1 hx with hx | hx
      · exact hI.ids x hx
      · simp only [List.mem_singleton] at hx; rw [hx]; exact ⟨j, rfl, h1, h6, by rw [h0]; rfl⟩
    · rw [hv, List.map_append, List.nodup_append]
      refine ⟨hI.no, by simp, fun a ha b hb => ?_⟩
      obtain ⟨x, hx, rfl⟩ := List.mem_map.1 ha
      obtain ⟨r, hr, rfl⟩ := List.mem_map.1 hx
      simp only [List.map_cons, List.map_nil, List.mem_singleton] at hb
      subst hb
      exact e1 r hr
    · rw [hv]
      intro i hi
      obtain ⟨x, hx, e⟩ := hI.here i hi
      exact ⟨x, List.mem_append_left _ hx, e⟩
/-- One row's pins are others now. -/
theorem PI.set {h : Nat → Nat} {S : PlS} {B : BkS} {A C : List Pl} {r : Pl} {j m : Nat} {f : Pl → Pl} (hI : PI h S B) (hS : S.rows = A ++ r :: C) (hr : r.id = (j : Int)) (hf : (f r).v = ((j : Int), r.dirty, (m : Int))) :
    PI (fun i => if i = j then m else h i) (rowSet S A.length f) B := by
  have hv : S.v = A.map Pl.v ++ r.v :: C.map Pl.v := by unfold PlS.v; rw [hS, List.map_append, List.map_cons]
  have hv' : (rowSet S A.length f).v = A.map Pl.v ++ ((j : Int), r.dirty, (m : Int)) :: C.map Pl.v := by
    unfold PlS.v rowSet
    rw [hS, modify_app, List.map_append, List.map_cons, hf]
  have hrv : r.v.1 = (j : Int) := hr
  have hno := hI.no
  rw [hv, List.map_append, List.map_cons] at hno
  have hother : ∀ x ∈ A.map Pl.v ++ C.map Pl.v, x.1 ≠ (j : Int) := by
    intro x hx e
    rw [List.nodup_append] at hno
    rcases List.mem_append.1 hx with hx | hx
    · exact hno.2.2 x.1 (List.mem_map_of_mem hx) r.v.1 (by simp) (by rw [e, hrv])
    · have := (List.nodup_cons.1 hno.2.1).1
      exact this (by rw [hrv, ← e]; exact List.mem_map_of_mem hx)
  have hmem : ∀ x, x ∈ A.map Pl.v ++ C.map Pl.v → x ∈ S.v := fun x hx => by
    rw [hv]; rcases List.mem_append.1 hx with hx | hx
    · exact List.mem_append_left _ hx
    · exact List.mem_append_right _ (List.mem_cons_of_mem _ hx)
  have hcase : ∀ x ∈ (rowSet S A.length f).v, x = ((j : Int), r.dirty, (m : Int)) ∨ x ∈ A.map Pl.v ++ C.map Pl.v := by
    intro x hx
    rw [hv'] at hx
    rcases List.mem_append.1 hx with hx | hx
    · exact .inr (List.mem_append_left _ hx)
    · rcases List.mem_cons.1 hx with hx | hx
      · exact .inl hx
      · exact .inr (List.mem_append_right _ hx)
  have hrm : r.v ∈ S.v := by rw [hv]; simp
  refine ⟨hI.ent, fun x hx => ?_, fun x hx => ?_, ?_, fun i hi => ?_⟩
  · rcases hcase x hx with rfl | hx
    · exact hI.nd r.v hrm
    · exact hI.nd x (hmem x hx)
  · rcases hcase x hx with rfl | hx
    · obtain ⟨j', e1, e2, e3, _⟩ := hI.ids r.v hrm
      have : j' = j := by have := hrv; omega
      subst this
      exact ⟨j', rfl, e2, e3, by simp⟩
    · obtain ⟨j', e1, e2, e3, e4⟩ := hI.ids x (hmem x hx)
      refine ⟨j', e1, e2, e3, ?_⟩
      rw [if_neg]
      · exact e4
      · rintro rfl; exact hother x hx e1
  · rw [hv', List.map_append, List.map_cons]
    rw [hrv] at hno
    exact hno
  · rw [hv']
    by_cases hij : i = j
    · exact ⟨_, List.mem_append_right _ (List.mem_cons_self), by rw [hij]⟩
    · simp only [if_neg hij] at hi
      obtain ⟨x, hx, e⟩ := hI.here i hi
      rw [hv] at hx
      refine ⟨x, ?_, e⟩
      rcases List.mem_append.1 hx with hx | hx
      · exact List.mem_append_left _ hx
      · rcases List.mem_cons.1 hx with rfl | hx
        · rw [hrv] at e; omega
        · exact List.mem_append_right _ (List.mem_cons_of_mem _ hx)
theorem PI.pinned {h : Nat → Nat} {S : PlS} {B : BkS} {A C : List Pl} {r : Pl} {j : Nat} (hI : PI h S B) (hS : S.rows = A ++ r :: C) (hr : r.id = (j : Int)) : r.pins = (h j : Int) := by
  obtain ⟨j', e1, _, _, e4⟩ := hI.ids r.v (by unfold PlS.v; rw [hS]; simp)
  have e1' : r.id = (j' : Int) := e1
  have : j' = j := by omega
  subst this
  exact e4
theorem PI.pin {h : Nat → Nat} {S : PlS} {B : BkS} {j : Nat} (hI : PI h S B) (h1 : 1 ≤ j) (h6 : j ≤ 6) (hh : h j ≤ 1000) :
    (pinS S B (j : Int)).1 = 0 ∧ PI (fun i => if i = j then h j + 1 else h i) (pinS S B (j : Int)).2.1 (pinS S B (j : Int)).2.2 := by
  obtain ⟨A, r, C, S', e1, e2, e3, e4, e5⟩ := hI.find h1 h6
  unfold pinS
  generalize findS S B (j : Int) = q at e1 e4 e5
  obtain ⟨q1, q2⟩ := q
  dsimp only at e1 e4 e5
  subst e1
  dsimp only
  have hp := e4.pinned e2 e3
  have hs := e4.set (m := h j + 1) (f := pin1) e2 e3 (by
    unfold pin1 Pl.v
    dsimp only
    rw [hp, e3, show IntKind.i64.wrap ((h j : Int) + 1) = (h j : Int) + 1 by unfold IntKind.wrap; simp [IntKind.signed, IntKind.bits]; omega]
    rfl)
  have hr := room_clean (B := q2) hs.nd
  exact ⟨rfl, hs.keeps (by rw [hr.1]) hr.2⟩
theorem PI.get {h : Nat → Nat} {S : PlS} {B : BkS} {j : Nat} (hI : PI h S B) (h1 : 1 ≤ j) (h6 : j ≤ 6) :
    (getS S B (j : Int)).1.isSome = true ∧ PI h (getS S B (j : Int)).2.1 (getS S B (j : Int)).2.2 ∧ (0 < h j → (getS S B (j : Int)).2.2 = B) := by
  obtain ⟨A, r, C, S', e1, e2, e3, e4, e5⟩ := hI.find h1 h6
  unfold getS
  generalize findS S B (j : Int) = q at e1 e4 e5
  obtain ⟨q1, q2⟩ := q
  dsimp only at e1 e4 e5
  subst e1
  dsimp only
  have hr := room_clean (B := q2) e4.nd
  exact ⟨rfl, e4.keeps (by rw [hr.1]) hr.2, fun h0 => by rw [hr.1]; exact e5 h0⟩
theorem PI.unpin {h : Nat → Nat} {S : PlS} {B : BkS} {j : Nat} (hI : PI h S B) (hh : h j ≤ 1000) :
    (0 < h j → (unpinS S B (j : Int)).1 = 0 ∧ PI (fun i => if i = j then h j - 1 else h i) (unpinS S B (j : Int)).2.1 (unpinS S B (j : Int)).2.2) ∧
    (h j = 0 → (unpinS S B (j : Int)).1 = 5 ∧ (unpinS S B (j : Int)).2 = (S, B)) := by
  rcases at_cases (j : Int) S.rows 0 with ⟨A, r, C, e1, e2, e3, e4⟩ | ⟨e1, e2⟩
  · have hp := hI.pinned e1 e2
    have hpa : pinsAt S A.length = (h j : Int) := by
      unfold pinsAt
      rw [e1, List.getElem?_append_right (Nat.le_refl _), Nat.sub_self]; exact hp
    have hu : unpinS S B (j : Int) = if (h j : Int) = 0 then (5, S, B) else (0, roomS (rowSet S A.length pin0) B) := by
      unfold unpinS
      rw [e4, Nat.zero_add]
      dsimp only
      rw [hpa]
    rw [hu]
    refine ⟨fun h0 => ?_, fun h0 => ?_⟩
    · rw [if_neg (by omega)]
      have hs := hI.set (m := h j - 1) (f := pin0) e1 e2 (by
        unfold pin0 Pl.v
        dsimp only
        rw [hp, e2, show IntKind.i64.wrap ((h j : Int) - 1) = ((h j - 1 : Nat) : Int) by unfold IntKind.wrap; simp [IntKind.signed, IntKind.bits]; omega])
      have hr := room_clean (B := B) hs.nd
      exact ⟨rfl, hs.keeps (by rw [hr.1]) hr.2⟩
    · rw [if_pos (by omega)]
      exact ⟨rfl, rfl⟩
  · have hu : unpinS S B (j : Int) = (5, S, B) := by unfold unpinS; rw [e2]
    rw [hu]
    refine ⟨fun h0 => ?_, fun _ => ⟨rfl, rfl⟩⟩
    obtain ⟨x, hx, e⟩ := hI.here j h0
    obtain ⟨r, hr, rfl⟩ := List.mem_map.1 hx
    exact absurd e (e1 r hr)
theorem ids_short : ∀ (m : Nat) (l : List Int), l.Nodup → (∀ x ∈ l, ∃ j : Nat, x = (j : Int) ∧ 1 ≤ j ∧ j ≤ m) → l.length ≤ m
  | 0, l, _, h => by
    match l, h with
    | [], _ => exact Nat.le_refl _
    | x :: l, h => obtain ⟨j, _, h1, h2⟩ := h x (by simp); omega
  | m + 1, l, hn, h => by
    have h1 := ids_short m (l.erase ((m + 1 : Nat) : Int)) (hn.erase _) (fun x hx => by
      obtain ⟨j, e, h1, h2⟩ := h x (List.mem_of_mem_erase hx)
      refine ⟨j, e, h1, ?_⟩
      rcases Nat.lt_or_ge m j with h3 | h3
      · have : j = m + 1 := by omega
        subst this; subst e
        exact absurd rfl ((hn.mem_erase_iff.1 hx).1)
      · exact h3)
    have h2 := List.length_erase (a := ((m + 1 : Nat) : Int)) (l := l)
    split at h2 <;> omega
theorem PI.short {h : Nat → Nat} {S : PlS} {B : BkS} (hI : PI h S B) : S.rows.length ≤ 6 := by
  have := ids_short 6 (S.v.map (·.1)) hI.no (fun x hx => by
    obtain ⟨y, hy, rfl⟩ := List.mem_map.1 hx
    obtain ⟨j, e, h1, h2, _⟩ := hI.ids y hy
    exact ⟨j, e, h1, h2⟩)
  unfold PlS.v at this
  rw [List.length_map, List.length_map] at this
  exact this
theorem PI.start {m : Int} {B : BkS} (hB : B.ent = backE) : PI (fun _ => 0) ⟨m, [], 0⟩ B := ⟨hB, (fun x hx => by cases hx), (fun x hx => by cases hx), (by show ([] : List Int).Nodup; simp), (fun j hj => absurd hj (by simp))⟩
theorem PI.free {S : PlS} {B : BkS} (hI : PI (fun _ => 0) S B) : ∀ x ∈ S.v, x.2.2 = 0 := fun x hx => by
  obtain ⟨_, _, _, _, e⟩ := hI.ids x hx
  exact e
end Go.Proofs.Ytclehoaeppbmpaa
