/- PoolHolds, plain. -/
import Derived.Test.YtclehoaeppbmpaaPX
namespace Go.Proofs.Ytclehoaeppbmpaa
set_option linter.unusedVariables false
set_option linter.unusedSimpArgs false
set_option linter.unusedSectionVars false
set_option linter.unnecessarySimpa false
open Go Go.Proofs
/-- What is held: f tells each thing's value, p how many pins there are. -/
structure HB (f : Int → Option (List UInt8)) (p : Int) (m : Int) (S : PlS) (B : BkS) : Prop where
  row : ∀ r ∈ S.rows, f r.id = some r.bs
  back : ∀ id, (∀ r ∈ S.rows, r.id ≠ id) → getB B.ent id = f id
  clean : ∀ r ∈ S.rows, r.dirty = false → getB B.ent r.id = some r.bs
  no : (S.rows.map (·.id)).Nodup
  pn : ∀ r ∈ S.rows, 0 ≤ r.pins
  sum : (S.rows.map (·.pins)).sum = p
  ids : ∀ r ∈ S.rows, ∃ j : Nat, r.id = (j : Int) ∧ 1 ≤ j ∧ j ≤ 6
  full : B.full = -1
  most : S.most = m
section
variable {f : Int → Option (List UInt8)} {p m : Int} {S S' : PlS} {B : BkS}
theorem HB.same (h : HB f p m S B) (hr : S'.rows = S.rows) (hm : S'.most = S.most) : HB f p m S' B := by
  obtain ⟨h1, h2, h3, h4, h5, h6, h7, h8, h9⟩ := h
  refine ⟨?_, ?_, ?_, ?_, ?_, ?_, ?_, h8, hm.trans h9⟩ <;> rw [hr] <;> assumption
theorem HB.ask (h : HB f p m S B) (q : Int) : HB f p m S (askS B q) := ⟨h.row, h.back, h.clean, h.no, h.pn, h.sum, h.ids, h.full, h.most⟩
theorem HB.mod (h : HB f p m S B) (i : Nat) (g : Pl → Pl) (hi : ∀ r, (g r).id = r.id) (hb : ∀ r, (g r).bs = r.bs) (hd : ∀ r, (g r).dirty = r.dirty) (hp : ∀ r, (g r).pins = r.pins) : HB f p m (rowSet S i g) B := by
  have hids : (rowSet S i g).rows.map (·.id) = S.rows.map (·.id) := modify_same (f := g) (g := fun r : Pl => r.id) hi S.rows i
  have hpin : (rowSet S i g).rows.map (·.pins) = S.rows.map (·.pins) := modify_same (f := g) (g := fun r : Pl => r.pins) hp S.rows i
  have hm : ∀ r ∈ (rowSet S i g).rows, r ∈ S.rows ∨ ∃ x ∈ S.rows, r = g x := fun r hr => mem_modify hr
  refine ⟨fun r hr => ?_, fun id hid => h.back id fun r hr => ?_, fun r hr h0 => ?_, by rw [hids]; exact h.no, fun r hr => ?_, by rw [hpin]; exact h.sum, fun r hr => ?_, h.full, h.most⟩
  · rcases hm r hr with hr | ⟨x, hx, rfl⟩
    · exact h.row r hr
    · rw [hi, hb]; exact h.row x hx
  · have h1 : r.id ∈ (rowSet S i g).rows.map (·.id) := by rw [hids]; exact List.mem_map_of_mem hr
    obtain ⟨y, hy, e⟩ := List.mem_map.1 h1
    have := hid y hy
    intro e2
    exact this (by rw [show y.id = r.id from e, e2])
  · rcases hm r hr with hr | ⟨x, hx, rfl⟩
    · exact h.clean r hr h0
    · rw [hi, hb]; exact h.clean x hx (by rw [← hd]; exact h0)
  · rcases hm r hr with hr | ⟨x, hx, rfl⟩
    · exact h.pn r hr
    · rw [hp]; exact h.pn x hx
  · rcases hm r hr with hr | ⟨x, hx, rfl⟩
    · exact h.ids r hr
    · rw [hi]; exact h.ids x hx
theorem nodup_split {A C : List Pl} {x : Pl} (h : ((A ++ x :: C).map (·.id)).Nodup) : (∀ r ∈ A ++ C, r.id ≠ x.id) ∧ ((A ++ C).map (·.id)).Nodup := by
  have hs : (A ++ C).Sublist (A ++ x :: C) := List.Sublist.append_left (List.sublist_cons_self x C) A
  refine ⟨fun r hr e => ?_, h.sublist (hs.map _)⟩
  rw [List.map_append, List.map_cons, List.nodup_append] at h
  rcases List.mem_append.1 hr with hr | hr
  · exact h.2.2 r.id (List.mem_map_of_mem hr) x.id (by simp) e
  · exact (List.nodup_cons.1 h.2.1).1 (by rw [← e]; exact List.mem_map_of_mem hr)
theorem HB.take {i : Nat} {x : Pl} {B' : BkS} (h : HB f p m S B) (hx : S.rows[i]? = some x) (hp : x.pins ≤ 0) (hf : B'.full = -1)
    (he : B'.ent = setB B.ent x.id x.bs ∨ (B'.ent = B.ent ∧ x.dirty = false)) : HB f p m (takeS S i) B' := by
  obtain ⟨A, C, h1, h2⟩ := at_split hx
  have hr : (takeS S i).rows = A ++ C := by
    show S.rows.eraseIdx i = _
    rw [h1, ← h2, erase_app]
  have hsub : ∀ r ∈ A ++ C, r ∈ S.rows := fun r hr => by
    rw [h1]
    rcases List.mem_append.1 hr with hr | hr
    · exact List.mem_append_left _ hr
    · exact List.mem_append_right _ (List.mem_cons_of_mem _ hr)
  have hxm : x ∈ S.rows := by rw [h1]; simp
  have hno := h.no
  rw [h1] at hno
  obtain ⟨n1, n2⟩ := nodup_split hno
  have hget : ∀ id, id ≠ x.id → getB B'.ent id = getB B.ent id := fun id hid => by
    rcases he with he | ⟨he, _⟩
    · rw [he, getB_set, if_neg hid]
    · rw [he]
  have hgx : getB B'.ent x.id = some x.bs := by
    rcases he with he | ⟨he, hd⟩
    · rw [he, getB_set, if_pos rfl]
    · rw [he]; exact h.clean x hxm hd
  have hpx := h.pn x hxm
  have hsum := h.sum
  rw [h1, List.map_append, List.map_cons, List.sum_append, List.sum_cons] at hsum
  refine ⟨fun r hr' => h.row r (hsub r (hr ▸ hr')), fun id hid => ?_, fun r hr' hd => ?_, by rw [hr]; exact n2, fun r hr' => h.pn r (hsub r (hr ▸ hr')), ?_, fun r hr' => h.ids r (hsub r (hr ▸ hr')), hf, h.most⟩
  · by_cases hix : id = x.id
    · rw [hix, hgx, h.row x hxm]
    · rw [hget id hix]
      refine h.back id fun r hr' => ?_
      rw [h1] at hr'
      rcases List.mem_append.1 hr' with hr' | hr'
      · exact hid r (by rw [hr]; exact List.mem_append_left _ hr')
      · rcases List.mem_cons.1 hr' with rfl | hr'
        · exact fun e => hix e.symm
        · exact hid r (by rw [hr]; exact List.mem_append_right _ hr')
  · have hr2 : r ∈ A ++ C := hr ▸ hr'
    rw [hget r.id (n1 r hr2)]
    exact h.clean r (hsub r hr2) hd
  · rw [hr, List.map_append, List.sum_append]; omega
theorem goL_HB {st : Nat} : ∀ (k : Nat) (S : PlS), HB f p m S B → HB f p m (goL st k S B).2.1 (goL st k S B).2.2
  | 0, S, h => h.same rfl rfl
  | k + 1, S, h => by
    unfold goL
    split
    · exact h
    · rename_i x hx
      split
      · exact goL_HB k (rotS S) (h.same rfl rfl)
      · split
        · exact goL_HB k _ ((h.mod S.hand unuse (fun _ => rfl) (fun _ => rfl) (fun _ => rfl) (fun _ => rfl)).same rfl rfl)
        · rename_i hp _
          obtain ⟨s1, s2, s3⟩ := save_full (B := B) x.id x.bs h.full
          split
          · exact h.take hx (by omega) s1 (.inl s3)
          · rename_i hd
            exact h.take hx (by omega) h.full (.inr ⟨rfl, by simpa using hd⟩)
theorem roomL_HB : ∀ (k : Nat) (S : PlS) (B : BkS), HB f p m S B → HB f p m (roomL k S B).1 (roomL k S B).2
  | 0, S, B, h => h
  | k + 1, S, B, h => by
    unfold roomL
    have hg : HB f p m (goesS S B).2.1 (goesS S B).2.2 := goL_HB _ S h
    split
    · split
      · exact roomL_HB k _ _ hg
      · exact hg
    · exact h
theorem HB.evict (h : HB f p m S B) : HB f p m (evictS S B).2.1 (evictS S B).2.2 := by
  unfold evictS
  split
  · exact h
  · exact goL_HB _ S h
theorem sum_ge : ∀ (l : List Pl), (∀ r ∈ l, 0 < r.pins) → (l.length : Int) ≤ (l.map (·.pins)).sum
  | [], _ => by simp
  | x :: l, h => by
    have h1 := h x (by simp)
    have h2 := sum_ge l fun r hr => h r (by simp [hr])
    rw [List.map_cons, List.sum_cons, List.length_cons]; omega
theorem sum_nn : ∀ (l : List Pl), (∀ r ∈ l, 0 ≤ r.pins) → 0 ≤ (l.map (·.pins)).sum
  | [], _ => by simp
  | x :: l, h => by
    have h1 := h x (by simp)
    have h2 := sum_nn l fun r hr => h r (by simp [hr])
    rw [List.map_cons, List.sum_cons]; omega
theorem sum_le (l : List Pl) (h : ∀ r ∈ l, 0 ≤ r.pins) (x : Pl) (hx : x ∈ l) : x.pins ≤ (l.map (·.pins)).sum := by
  obtain ⟨A, C, rfl⟩ := List.append_of_mem hx
  have h1 := sum_nn A fun r hr => h r (by simp [hr])
  have h2 := sum_nn C fun r hr => h r (by simp [hr])
  rw [List.map_append, List.map_cons, List.sum_append, List.sum_cons]; omega
theorem HB.room {N : Nat} (hF : Fit S B N) (h : HB f p m S B) (hm : 0 ≤ m) : HB f p m (roomS S B).1 (roomS S B).2 ∧ ((roomS S B).1.rows.length : Int) ≤ m + p := by
  have hr : HB f p m (roomS S B).1 (roomS S B).2 := roomL_HB _ S B h
  refine ⟨hr, ?_⟩
  have hs := sum_nn _ hr.pn
  rw [hr.sum] at hs
  rcases room_len hF h.full with h1 | h1
  · rw [h.most] at h1; omega
  · have := sum_ge (roomS S B).1.rows fun r hr' => h1 r.v (List.mem_map_of_mem hr')
    rw [hr.sum] at this; omega
theorem HB.short (h : HB f p m S B) : S.rows.length ≤ 6 := by
  have := ids_short 6 (S.rows.map (·.id)) h.no (fun x hx => by
    obtain ⟨y, hy, rfl⟩ := List.mem_map.1 hx
    exact h.ids y hy)
  rwa [List.length_map] at this
theorem HB.find {N j : Nat} (hF : Fit S B N) (h : HB f p m S B) (h1 : 1 ≤ j) (h6 : j ≤ 6) (hs : (f (j : Int)).isSome = true) :
    ∃ A r C S', (findS S B (j : Int)).1 = some (A.length, S') ∧ S'.rows = A ++ r :: C ∧ r.id = (j : Int) ∧ HB f p m S' (findS S B (j : Int)).2 := by
  rcases at_cases (j : Int) S.rows 0 with ⟨A, r, C, e1, e2, e3, e4⟩ | ⟨e1, e2⟩
  · have hf : findS S B (j : Int) = (some (A.length, rowSet S A.length use), B) := by unfold findS; rw [e4, Nat.zero_add]
    rw [hf]
    refine ⟨A, use r, C, _, rfl, ?_, e2, h.mod A.length use (fun _ => rfl) (fun _ => rfl) (fun _ => rfl) (fun _ => rfl)⟩
    show S.rows.modify A.length use = _
    rw [e1, modify_app]
  · obtain ⟨bs, hg⟩ := Option.isSome_iff_exists.1 hs
    have hgb : getB B.ent (j : Int) = some bs := by rw [h.back _ e1]; exact hg
    have hf : findS S B (j : Int) = (some (S.rows.length, rowSet (comeS S (j : Int) bs) S.rows.length use), askS B (ask0 (j : Int))) := by unfold findS; rw [e2, hgb]
    rw [hf]
    have hc : HB f p m (comeS S (j : Int) bs) B := by
      have hm : ∀ r ∈ (comeS S (j : Int) bs).rows, r ∈ S.rows ∨ r = ⟨j, bs, false, false, 0⟩ := fun r hr => by
        rcases List.mem_append.1 (show r ∈ S.rows ++ [⟨(j : Int), bs, false, false, 0⟩] from hr) with hr | hr
        · exact .inl hr
        · exact .inr (by simpa using hr)
      have hrow : (comeS S (j : Int) bs).rows = S.rows ++ [⟨j, bs, false, false, 0⟩] := rfl
      refine ⟨fun r hr => ?_, fun id hid => h.back id fun r hr => hid r (by rw [hrow]; exact List.mem_append_left _ hr), fun r hr hd => ?_, ?_, fun r hr => ?_, ?_, fun r hr => ?_, h.full, h.most⟩
      · rcases hm r hr with hr | rfl
        · exact h.row r hr
        · exact hg
      · rcases hm r hr with hr | rfl
        · exact h.clean r hr hd
        · exact hgb
      · rw [hrow, List.map_append, List.nodup_append]
        refine ⟨h.no, by simp, fun a ha b hb => ?_⟩
        obtain ⟨x, hx, rfl⟩ := List.mem_map.1 ha
        simp only [List.map_cons, List.map_nil, List.mem_singleton] at hb
        subst hb
        exact e1 x hx
      · rcases hm r hr with hr | rfl
        · exact h.pn r hr
        · exact Int.le_refl _
      · rw [hrow, List.map_append, List.sum_append, h.sum]; simp
      · rcases hm r hr with hr | rfl
        · exact h.ids r hr
        · exact ⟨j, rfl, h1, h6⟩
    refine ⟨S.rows, use ⟨j, bs, false, false, 0⟩, [], _, rfl, ?_, rfl, (hc.mod S.rows.length use (fun _ => rfl) (fun _ => rfl) (fun _ => rfl) (fun _ => rfl)).ask _⟩
    show (S.rows ++ [_]).modify S.rows.length use = _
    rw [modify_app]
theorem HB.get {N j : Nat} (hF : Fit S B N) (h : HB f p m S B) (hm : 0 ≤ m) (h1 : 1 ≤ j) (h6 : j ≤ 6) (hs : (f (j : Int)).isSome = true) :
    (getS S B (j : Int)).1 = f (j : Int) ∧ HB f p m (getS S B (j : Int)).2.1 (getS S B (j : Int)).2.2 ∧ ((getS S B (j : Int)).2.1.rows.length : Int) ≤ m + p := by
  obtain ⟨A, r, C, S', e1, e2, e3, e4⟩ := h.find hF h1 h6 hs
  have hff := find_fit (id := (j : Int)) hF
  unfold getS
  generalize findS S B (j : Int) = q at e1 e4 hff
  obtain ⟨q1, q2⟩ := q
  dsimp only at e1 e4 hff
  subst e1
  dsimp only
  have hF2 := (hff.2 _ _ rfl).1
  refine ⟨?_, HB.room hF2 e4 hm⟩
  have hb : bsAt S' A.length = r.bs := by unfold bsAt; rw [e2, List.getElem?_append_right (Nat.le_refl _), Nat.sub_self]; rfl
  rw [hb, ← e3, e4.row r (by rw [e2]; simp)]
/-- One row's pins are others. -/
theorem HB.pins {A C : List Pl} {r : Pl} {g : Pl → Pl} {d : Int} (h : HB f p m S B) (hr : S.rows = A ++ r :: C) (hi : (g r).id = r.id) (hb : (g r).bs = r.bs) (hd : (g r).dirty = r.dirty) (hp : (g r).pins = r.pins + d) (h0 : 0 ≤ r.pins + d) : HB f (p + d) m (rowSet S A.length g) B := by
  have hrow : (rowSet S A.length g).rows = A ++ g r :: C := by
    show S.rows.modify A.length g = _
    rw [hr, modify_app]
  have hm : ∀ x ∈ A ++ g r :: C, x ∈ S.rows ∨ x = g r := fun x hx => by
    rw [hr]
    rcases List.mem_append.1 hx with hx | hx
    · exact .inl (List.mem_append_left _ hx)
    · rcases List.mem_cons.1 hx with hx | hx
      · exact .inr hx
      · exact .inl (List.mem_append_right _ (List.mem_cons_of_mem _ hx))
  have hrm : r ∈ S.rows := by rw [hr]; simp
  have hids : (A ++ g r :: C).map (·.id) = S.rows.map (·.id) := by rw [hr, List.map_append, List.map_append, List.map_cons, List.map_cons, hi]
  have hsum := h.sum
  rw [hr, List.map_append, List.map_cons, List.sum_append, List.sum_cons] at hsum
  refine ⟨fun x hx => ?_, fun id hid => h.back id fun x hx => ?_, fun x hx hdx => ?_, by rw [hrow, hids]; exact h.no, fun x hx => ?_, ?_, fun x hx => ?_, h.full, h.most⟩
  · rcases hm x (hrow ▸ hx) with hx | rfl
    · exact h.row x hx
    · rw [hi, hb]; exact h.row r hrm
  · have h1 : x.id ∈ (A ++ g r :: C).map (·.id) := by rw [hids]; exact List.mem_map_of_mem hx
    obtain ⟨y, hy, e⟩ := List.mem_map.1 h1
    intro e2
    exact hid y (by rw [hrow]; exact hy) (by rw [show y.id = x.id from e, e2])
  · rcases hm x (hrow ▸ hx) with hx | rfl
    · exact h.clean x hx hdx
    · rw [hi, hb]; exact h.clean r hrm (by rw [← hd]; exact hdx)
  · rcases hm x (hrow ▸ hx) with hx | rfl
    · exact h.pn x hx
    · rw [hp]; exact h0
  · rw [hrow, List.map_append, List.map_cons, List.sum_append, List.sum_cons, hp]; omega
  · rcases hm x (hrow ▸ hx) with hx | rfl
    · exact h.ids x hx
    · rw [hi]; exact h.ids r hrm
theorem HB.pin {N j : Nat} (hF : Fit S B N) (h : HB f p m S B) (hm : 0 ≤ m) (h1 : 1 ≤ j) (h6 : j ≤ 6) (hs : (f (j : Int)).isSome = true) (hp : p ≤ 1000) :
    (pinS S B (j : Int)).1 = 0 ∧ HB f (p + 1) m (pinS S B (j : Int)).2.1 (pinS S B (j : Int)).2.2 ∧ ((pinS S B (j : Int)).2.1.rows.length : Int) ≤ m + (p + 1) := by
  obtain ⟨A, r, C, S', e1, e2, e3, e4⟩ := h.find hF h1 h6 hs
  have hff := find_fit (id := (j : Int)) hF
  unfold pinS
  generalize findS S B (j : Int) = q at e1 e4 hff
  obtain ⟨q1, q2⟩ := q
  dsimp only at e1 e4 hff
  subst e1
  dsimp only
  have hF2 := (hff.2 _ _ rfl).1
  have hrm : r ∈ S'.rows := by rw [e2]; simp
  have hle := sum_le _ e4.pn r hrm
  rw [e4.sum] at hle
  have h0 := e4.pn r hrm
  have hpn := e4.pins (g := pin1) (d := 1) e2 rfl rfl rfl (by
    show IntKind.i64.wrap (r.pins + 1) = _
    unfold IntKind.wrap; simp [IntKind.signed, IntKind.bits]; omega) (by omega)
  exact ⟨rfl, HB.room (hF2.set _ pin1 hF2.rbs) hpn hm⟩
theorem HB.unpin {N j : Nat} (hF : Fit S B N) (h : HB f p m S B) (hm : 0 ≤ m) (hp : p ≤ 1000) (hl : (S.rows.length : Int) ≤ m + p) :
    ((unpinS S B (j : Int)).1 = 0 ∧ HB f (p - 1) m (unpinS S B (j : Int)).2.1 (unpinS S B (j : Int)).2.2 ∧ ((unpinS S B (j : Int)).2.1.rows.length : Int) ≤ m + (p - 1)) ∨
    ((unpinS S B (j : Int)).1 = 5 ∧ (unpinS S B (j : Int)).2 = (S, B)) := by
  rcases at_cases (j : Int) S.rows 0 with ⟨A, r, C, e1, e2, e3, e4⟩ | ⟨e1, e2⟩
  · have hpa : pinsAt S A.length = r.pins := by unfold pinsAt; rw [e1, List.getElem?_append_right (Nat.le_refl _), Nat.sub_self]; rfl
    have hu : unpinS S B (j : Int) = if r.pins = 0 then (5, S, B) else (0, roomS (rowSet S A.length pin0) B) := by
      unfold unpinS
      rw [e4, Nat.zero_add]
      dsimp only
      rw [hpa]
    rw [hu]
    by_cases h0 : r.pins = 0
    · rw [if_pos h0]; exact .inr ⟨rfl, rfl⟩
    · rw [if_neg h0]
      have hrm : r ∈ S.rows := by rw [e1]; simp
      have hle := sum_le _ h.pn r hrm
      rw [h.sum] at hle
      have h2 := h.pn r hrm
      have hpn := h.pins (g := pin0) (d := -1) e1 rfl rfl rfl (by
        show IntKind.i64.wrap (r.pins - 1) = _
        unfold IntKind.wrap; simp [IntKind.signed, IntKind.bits]; omega) (by omega)
      exact .inl ⟨rfl, HB.room (hF.set _ pin0 hF.rbs) hpn hm⟩
  · have hu : unpinS S B (j : Int) = (5, S, B) := by unfold unpinS; rw [e2]
    rw [hu]; exact .inr ⟨rfl, rfl⟩
theorem HB.put {N j : Nat} {bs : List UInt8} (hF : Fit S B N) (hbl : bs.length ≤ bigB) (h : HB f p m S B) (hm : 0 ≤ m) (h1 : 1 ≤ j) (h6 : j ≤ 6) :
    HB (fun i => if i = (j : Int) then some bs else f i) p m (putP S B (j : Int) bs).1 (putP S B (j : Int) bs).2 ∧ ((putP S B (j : Int) bs).1.rows.length : Int) ≤ m + p := by
  have hF2 := fill_fit (id := (j : Int)) (bs := bs) hF hbl
  have key : ∀ (A C : List Pl) (r : Pl) (S0 : PlS), S0.rows = A ++ r :: C → r.id = (j : Int) → S0.most = m → ((A ++ r :: C).map (·.id)).Nodup → (∀ x ∈ A ++ C, x ∈ S.rows) → (∀ x ∈ S.rows, x.id = (j : Int) ∨ x ∈ A ++ C) → 0 ≤ r.pins → (((A ++ r :: C).map (·.pins)).sum = p) →
      HB (fun i => if i = (j : Int) then some bs else f i) p m (rowSet S0 A.length (fill bs)) B := by
    intro A C r S0 q1 q2 q3 q4 q5 q6 q7 q8
    obtain ⟨n1, n2⟩ := nodup_split q4
    have hrow : (rowSet S0 A.length (fill bs)).rows = A ++ fill bs r :: C := by
      show S0.rows.modify A.length (fill bs) = _
      rw [q1, modify_app]
    have hcase : ∀ x ∈ (rowSet S0 A.length (fill bs)).rows, x = fill bs r ∨ (x ∈ A ++ C ∧ x.id ≠ (j : Int)) := fun x hx => by
      rw [hrow] at hx
      rcases List.mem_append.1 hx with hx | hx
      · exact .inr ⟨List.mem_append_left _ hx, by rw [← q2]; exact n1 x (List.mem_append_left _ hx)⟩
      · rcases List.mem_cons.1 hx with hx | hx
        · exact .inl hx
        · exact .inr ⟨List.mem_append_right _ hx, by rw [← q2]; exact n1 x (List.mem_append_right _ hx)⟩
    refine ⟨fun x hx => ?_, fun id hid => ?_, fun x hx hd => ?_, ?_, fun x hx => ?_, ?_, fun x hx => ?_, h.full, q3⟩
    · rcases hcase x hx with rfl | ⟨hx, hne⟩
      · show (if r.id = (j : Int) then some bs else f r.id) = some bs
        rw [if_pos q2]
      · show (if x.id = (j : Int) then some bs else f x.id) = _
        rw [if_neg hne]; exact h.row x (q5 x hx)
    · have hne : id ≠ (j : Int) := fun e => hid (fill bs r) (by rw [hrow]; simp) (by rw [e]; exact q2)
      show getB B.ent id = if id = (j : Int) then some bs else f id
      rw [if_neg hne]
      refine h.back id fun x hx => ?_
      rcases q6 x hx with e | hx'
      · exact fun e2 => hne (by rw [← e2, e])
      · refine hid x ?_
        rw [hrow]
        rcases List.mem_append.1 hx' with hx' | hx'
        · exact List.mem_append_left _ hx'
        · exact List.mem_append_right _ (List.mem_cons_of_mem _ hx')
    · rcases hcase x hx with rfl | ⟨hx, hne⟩
      · exact absurd hd (by show ¬ true = false; decide)
      · exact h.clean x (q5 x hx) hd
    · rw [hrow, List.map_append, List.map_cons]
      rw [List.map_append, List.map_cons] at q4
      exact q4
    · rcases hcase x hx with rfl | ⟨hx, _⟩
      · exact q7
      · exact h.pn x (q5 x hx)
    · rw [hrow, List.map_append, List.map_cons]
      rw [List.map_append, List.map_cons] at q8
      exact q8
    · rcases hcase x hx with rfl | ⟨hx, _⟩
      · exact ⟨j, q2, h1, h6⟩
      · exact h.ids x (q5 x hx)
  have hres : HB (fun i => if i = (j : Int) then some bs else f i) p m (rowSet (putAt S (j : Int)).2 (putAt S (j : Int)).1 (fill bs)) B := by
    rcases at_cases (j : Int) S.rows 0 with ⟨A, r, C, e1, e2, e3, e4⟩ | ⟨e1, e2⟩
    · have hpu : putAt S (j : Int) = (A.length, S) := by unfold putAt; rw [e4, Nat.zero_add]
      rw [hpu]
      have hrm : r ∈ S.rows := by rw [e1]; simp
      refine key A C r S e1 e2 h.most (by rw [← e1]; exact h.no) (fun x hx => ?_) (fun x hx => ?_) (h.pn r hrm) (by rw [← e1]; exact h.sum)
      · rw [e1]
        rcases List.mem_append.1 hx with hx | hx
        · exact List.mem_append_left _ hx
        · exact List.mem_append_right _ (List.mem_cons_of_mem _ hx)
      · rw [e1] at hx
        rcases List.mem_append.1 hx with hx | hx
        · exact .inr (List.mem_append_left _ hx)
        · rcases List.mem_cons.1 hx with rfl | hx
          · exact .inl e2
          · exact .inr (List.mem_append_right _ hx)
    · have hpu : putAt S (j : Int) = (S.rows.length, comeS S (j : Int) []) := by unfold putAt; rw [e2]
      rw [hpu]
      refine key S.rows [] ⟨j, [], false, false, 0⟩ (comeS S (j : Int) []) rfl rfl h.most ?_ (fun x hx => by simpa using hx) (fun x hx => .inr (by simpa using hx)) (Int.le_refl _) ?_
      · rw [List.map_append, List.nodup_append]
        refine ⟨h.no, by simp, fun a ha b hb => ?_⟩
        obtain ⟨x, hx, rfl⟩ := List.mem_map.1 ha
        simp only [List.map_cons, List.map_nil, List.mem_singleton] at hb
        subst hb
        exact e1 x hx
      · rw [List.map_append, List.sum_append, h.sum]; simp
  exact HB.room hF2 hres hm
/-- What is dirty is saved. -/
theorem HB.scrub {id : Int} (h : HB f p m S B) (hid : ∃ r ∈ S.rows, r.id = id) :
    (cleanS S B id).1 = 0 ∧ HB f p m (cleanS S B id).2.1 (cleanS S B id).2.2 ∧ (cleanS S B id).2.1.rows.map (·.id) = S.rows.map (·.id) ∧ ∀ r ∈ (cleanS S B id).2.1.rows, r.dirty = true → r.id ≠ id ∧ r ∈ S.rows := by
  rcases at_cases id S.rows 0 with ⟨A, r, C, e1, e2, e3, e4⟩ | ⟨e1, e2⟩
  · have hrow : S.rows[A.length]? = some r := by rw [e1, List.getElem?_append_right (Nat.le_refl _), Nat.sub_self]; rfl
    have hcs : cleanS S B id = if r.dirty = true then (if (saveS B id r.bs).1 = 0 then (0, rowSet S A.length Go.Proofs.Ytclehoaeppbmpaa.scrub, (saveS B id r.bs).2) else ((saveS B id r.bs).1, S, (saveS B id r.bs).2)) else (0, S, B) := by
      unfold cleanS
      rw [e4, Nat.zero_add]
      dsimp only
      rw [hrow]
    obtain ⟨s1, s2, s3⟩ := save_full (B := B) id r.bs h.full
    rw [if_pos s2] at hcs
    have hno := h.no
    rw [e1] at hno
    obtain ⟨n1, n2⟩ := nodup_split hno
    have hrm : r ∈ S.rows := by rw [e1]; simp
    cases hd : r.dirty with
    | false =>
      rw [hd, if_neg (by decide)] at hcs
      rw [hcs]
      refine ⟨rfl, h, rfl, fun x hx hdx => ⟨?_, hx⟩⟩
      have hx' : x ∈ S.rows := hx
      rw [e1] at hx'
      rcases List.mem_append.1 hx' with hx' | hx'
      · rw [← e2]; exact n1 x (List.mem_append_left _ hx')
      · rcases List.mem_cons.1 hx' with rfl | hx'
        · rw [hd] at hdx; cases hdx
        · rw [← e2]; exact n1 x (List.mem_append_right _ hx')
    | true =>
      rw [hd, if_pos rfl] at hcs
      rw [hcs]
      dsimp only
      have hrow2 : (rowSet S A.length Go.Proofs.Ytclehoaeppbmpaa.scrub).rows = A ++ Go.Proofs.Ytclehoaeppbmpaa.scrub r :: C := by
        show S.rows.modify A.length Go.Proofs.Ytclehoaeppbmpaa.scrub = _
        rw [e1, modify_app]
      have hids : (rowSet S A.length Go.Proofs.Ytclehoaeppbmpaa.scrub).rows.map (·.id) = S.rows.map (·.id) := modify_same (f := Go.Proofs.Ytclehoaeppbmpaa.scrub) (g := fun r : Pl => r.id) (fun _ => rfl) S.rows A.length
      have hpin : (rowSet S A.length Go.Proofs.Ytclehoaeppbmpaa.scrub).rows.map (·.pins) = S.rows.map (·.pins) := modify_same (f := Go.Proofs.Ytclehoaeppbmpaa.scrub) (g := fun r : Pl => r.pins) (fun _ => rfl) S.rows A.length
      have hcase : ∀ x ∈ (rowSet S A.length Go.Proofs.Ytclehoaeppbmpaa.scrub).rows, x = Go.Proofs.Ytclehoaeppbmpaa.scrub r ∨ (x ∈ S.rows ∧ x.id ≠ id) := fun x hx => by
        rw [hrow2] at hx
        rw [e1]
        rcases List.mem_append.1 hx with hx | hx
        · exact .inr ⟨List.mem_append_left _ hx, by rw [← e2]; exact n1 x (List.mem_append_left _ hx)⟩
        · rcases List.mem_cons.1 hx with hx | hx
          · exact .inl hx
          · exact .inr ⟨List.mem_append_right _ (List.mem_cons_of_mem _ hx), by rw [← e2]; exact n1 x (List.mem_append_right _ hx)⟩
      refine ⟨rfl, ⟨fun x hx => ?_, fun i hi => ?_, fun x hx hdx => ?_, by rw [hids]; exact h.no, fun x hx => ?_, by rw [hpin]; exact h.sum, fun x hx => ?_, s1, h.most⟩, hids, fun x hx hdx => ?_⟩
      · rcases hcase x hx with rfl | ⟨hx, _⟩
        · exact h.row r hrm
        · exact h.row x hx
      · have hne : i ≠ id := fun e => hi (Go.Proofs.Ytclehoaeppbmpaa.scrub r) (by rw [hrow2]; simp) (by rw [e]; exact e2)
        rw [s3, getB_set, if_neg hne]
        refine h.back i fun x hx e => ?_
        have h1 : x.id ∈ (rowSet S A.length Go.Proofs.Ytclehoaeppbmpaa.scrub).rows.map (·.id) := by rw [hids]; exact List.mem_map_of_mem hx
        obtain ⟨y, hy, e'⟩ := List.mem_map.1 h1
        exact hi y hy (by rw [show y.id = x.id from e', e])
      · rcases hcase x hx with rfl | ⟨hx, hne⟩
        · show getB (saveS B id r.bs).2.ent r.id = some r.bs
          rw [s3, getB_set, if_pos e2]
        · rw [s3, getB_set, if_neg hne]; exact h.clean x hx hdx
      · rcases hcase x hx with rfl | ⟨hx, _⟩
        · exact h.pn r hrm
        · exact h.pn x hx
      · rcases hcase x hx with rfl | ⟨hx, _⟩
        · exact h.ids r hrm
        · exact h.ids x hx
      · rcases hcase x hx with rfl | ⟨hx, hne⟩
        · exact absurd hdx (by show ¬ false = true; decide)
        · exact ⟨hne, hx⟩
  · obtain ⟨r, hr, e⟩ := hid
    exact absurd e (e1 r hr)
theorem HB.all (h : HB f p m S B) (hd : ∀ r ∈ S.rows, r.dirty = false) (id : Int) : getB B.ent id = f id := by
  by_cases hx : ∃ r ∈ S.rows, r.id = id
  · obtain ⟨r, hr, rfl⟩ := hx
    rw [h.clean r hr (hd r hr), h.row r hr]
  · exact h.back id fun r hr e => hx ⟨r, hr, e⟩
end
theorem HB.start {m : Int} : HB (getB (backK 6).ent) 0 m ⟨m, [], 0⟩ (backK 6) :=
  ⟨(fun r hr => by cases hr), (fun _ _ => rfl), (fun r hr => by cases hr), (by show ([] : List Int).Nodup; simp), (fun r hr => by cases hr), rfl, (fun r hr => by cases hr), rfl, rfl⟩
end Go.Proofs.Ytclehoaeppbmpaa
