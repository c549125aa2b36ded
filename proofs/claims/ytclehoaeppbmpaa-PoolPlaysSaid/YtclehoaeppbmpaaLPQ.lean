/- PoolPlays, the plain law: what every call keeps; the reference's Get told by the pool's Get and Pin. -/
import Derived.Test.YtclehoaeppbmpaaPR8
import Derived.Test.YtclehoaeppbmpaaLPO
namespace Go.Proofs.Ytclehoaeppbmpaa
set_option linter.unusedVariables false
set_option linter.unusedSimpArgs false
set_option linter.unusedSectionVars false
set_option linter.unnecessarySimpa false
open Go Go.Proofs
def QP (k : Nat) (r : Pl) : Prop := 0 ≤ r.pins ∧ r.pins ≤ (k : Int)
theorem QP.up {k m : Nat} (h : k ≤ m) : ∀ r, QP k r → QP m r := fun _ ⟨h1, h2⟩ => ⟨h1, by omega⟩
structure P13 (i : Nat) (S : PlS) (B : BkS) : Prop where
  fit : Fit S B (6 + 4 * i)
  len : S.rows.length ≤ i
  pins : AllR (QP i) S
theorem goL_lenQ {st : Nat} : ∀ (k : Nat) (S : PlS) (B : BkS), (goL st k S B).2.1.rows.length ≤ S.rows.length
  | 0, S, B => Nat.le_refl _
  | k + 1, S, B => by
    unfold goL
    split
    · exact Nat.le_refl _
    · split
      · exact goL_lenQ k (rotS S) B
      · split
        · have := goL_lenQ (st := st) k (rotS (rowSet S S.hand unuse)) B
          have h2 : (rotS (rowSet S S.hand unuse)).rows.length = S.rows.length := by show (S.rows.modify _ _).length = _; rw [List.length_modify]
          omega
        · split
          · split
            · exact List.length_eraseIdx_le _ _
            · exact Nat.le_refl _
          · exact List.length_eraseIdx_le _ _
theorem goes_lenQ (S : PlS) (B : BkS) : (goesS S B).2.1.rows.length ≤ S.rows.length := goL_lenQ _ S B
theorem roomL_lenQ : ∀ (k : Nat) (S : PlS) (B : BkS), (roomL k S B).1.rows.length ≤ S.rows.length
  | 0, S, B => Nat.le_refl _
  | k + 1, S, B => by
    unfold roomL
    split
    · split
      · exact Nat.le_trans (roomL_lenQ k _ _) (goes_lenQ S B)
      · exact goes_lenQ S B
    · exact Nat.le_refl _
theorem room_lenQ (S : PlS) (B : BkS) : (roomS S B).1.rows.length ≤ S.rows.length := roomL_lenQ _ S B
theorem rowSet_lenQ (S : PlS) (i : Nat) (f : Pl → Pl) : (rowSet S i f).rows.length = S.rows.length := List.length_modify ..
theorem QP.unuse {k : Nat} : ∀ r, QP k r → QP k (unuse r) := fun _ h => h
theorem AllR.imp {Q R : Pl → Prop} {S : PlS} (h : AllR Q S) (hi : ∀ r, Q r → R r) : AllR R S := fun r hr => hi r (h r hr)
theorem QP.pos {k : Nat} {S : PlS} (h : AllR (QP k) S) : AllR pos0 S := h.imp fun _ h => h.1
theorem find_keeps {S : PlS} {B : BkS} {id : Int} {k : Nat} (h : AllR (QP k) S) : ∀ y B', findS S B id = (some y, B') → AllR (QP k) y.2 ∧ y.2.rows.length ≤ S.rows.length + 1 := by
  intro y B' hf
  unfold findS at hf
  split at hf
  · simp only [Prod.mk.injEq, Option.some.injEq] at hf
    obtain ⟨rfl, rfl⟩ := hf
    exact ⟨h.set _ _ (fun _ h => h), by rw [rowSet_lenQ]; omega⟩
  · split at hf
    · simp only [Prod.mk.injEq] at hf
      cases hf.1
    · rename_i bs _
      simp only [Prod.mk.injEq, Option.some.injEq] at hf
      obtain ⟨rfl, rfl⟩ := hf
      have h2 : AllR (QP k) (comeS S id bs) := fun r hr => by
        rcases List.mem_append.1 (show r ∈ S.rows ++ [_] from hr) with hr | hr
        · exact h r hr
        · simp only [List.mem_singleton] at hr
          subst hr; exact ⟨Int.le_refl 0, Int.natCast_nonneg k⟩
      refine ⟨h2.set _ _ (fun _ h => h), ?_⟩
      rw [rowSet_lenQ]
      show (S.rows ++ [_]).length ≤ _
      rw [List.length_append]; exact Nat.le_refl _
theorem pin1_keeps {k : Nat} (hk : k ≤ 1000) : ∀ r, QP k r → QP (k + 1) (pin1 r) := fun r ⟨h1, h2⟩ => by
  have hw : IntKind.i64.wrap (r.pins + 1) = r.pins + 1 := Go.Proofs.Ytclehoaeppbmpaa.wrap64 (by omega) (by omega)
  constructor
  · show 0 ≤ IntKind.i64.wrap (r.pins + 1); rw [hw]; omega
  · show IntKind.i64.wrap (r.pins + 1) ≤ _; rw [hw]; omega
theorem P13.start {m : Int} : P13 0 ⟨m, [], 0⟩ (backK 6) := ⟨start_fit, Nat.le_refl _, fun _ h => by cases h⟩
theorem P13.get {i : Nat} {S : PlS} {B : BkS} (h : P13 i S B) (id : Int) : P13 (i + 1) (getS S B id).2.1 (getS S B id).2.2 := by
  have hf := get_fit (id := id) h.fit
  refine ⟨hf.mono (by omega), ?_, ?_⟩
  all_goals
    unfold getS
    cases hq : findS S B id with
    | mk f B' =>
    cases f with
    | none => first | exact Nat.le_succ_of_le h.len | exact h.pins.imp (QP.up (Nat.le_succ i))
    | some y =>
      obtain ⟨h1, h2⟩ := find_keeps h.pins y B' hq
      dsimp only
      first
        | exact Nat.le_trans (room_lenQ y.2 B') (Nat.le_trans h2 (Nat.succ_le_succ h.len))
        | exact room_all QP.unuse B' (h1.imp (QP.up (Nat.le_succ i)))
theorem P13.pin {i : Nat} {S : PlS} {B : BkS} (h : P13 i S B) (hi : i ≤ 1000) (id : Int) : P13 (i + 1) (pinS S B id).2.1 (pinS S B id).2.2 := by
  have hf := pin_fit (id := id) h.fit
  refine ⟨hf.mono (by omega), ?_, ?_⟩
  all_goals
    unfold pinS
    cases hq : findS S B id with
    | mk f B' =>
    cases f with
    | none => first | exact Nat.le_succ_of_le h.len | exact h.pins.imp (QP.up (Nat.le_succ i))
    | some y =>
      obtain ⟨h1, h2⟩ := find_keeps h.pins y B' hq
      dsimp only
      first
        | exact Nat.le_trans (room_lenQ _ B') (by rw [rowSet_lenQ]; exact Nat.le_trans h2 (Nat.succ_le_succ h.len))
        | (refine room_all QP.unuse B' (fun r hr => ?_)
           rcases mem_modify (show r ∈ y.2.rows.modify y.1 pin1 from hr) with hr | ⟨x, hx, rfl⟩
           · exact QP.up (Nat.le_succ i) r (h1 r hr)
           · exact pin1_keeps hi x (h1 x hx))
theorem P13.put {i : Nat} {S : PlS} {B : BkS} (h : P13 i S B) (id : Int) {bs : List UInt8} (hb : bs.length ≤ bigB) : P13 (i + 1) (putP S B id bs).1 (putP S B id bs).2 := by
  have hf := put_fit (id := id) (bs := bs) h.fit hb
  have hp : AllR (QP i) (putAt S id).2 ∧ (putAt S id).2.rows.length ≤ i + 1 := by
    unfold putAt
    split
    · exact ⟨h.pins, Nat.le_succ_of_le h.len⟩
    · refine ⟨fun r hr => ?_, ?_⟩
      · rcases List.mem_append.1 (show r ∈ S.rows ++ [_] from hr) with hr | hr
        · exact h.pins r hr
        · simp only [List.mem_singleton] at hr
          subst hr; exact ⟨Int.le_refl 0, Int.natCast_nonneg i⟩
      · show (S.rows ++ [_]).length ≤ _
        have := h.len
        rw [List.length_append, List.length_singleton]; omega
  refine ⟨hf.mono (by omega), ?_, ?_⟩
  · unfold putP
    refine Nat.le_trans (room_lenQ _ B) ?_
    rw [rowSet_lenQ]; exact hp.2
  · unfold putP
    refine room_all QP.unuse B ?_
    exact (hp.1.set (putAt S id).1 (fill bs) (fun _ h => h)).imp (QP.up (Nat.le_succ i))
theorem drop_fit {S : PlS} {B : BkS} {N : Nat} {id : Int} (h : Fit S B N) : Fit (dropS S id) B N := by
  unfold dropS
  split
  · rename_i i hi
    exact (h.mono (Nat.le_succ N)).take (at_lt hi)
  · exact h
theorem P13.drop {i : Nat} {S : PlS} {B : BkS} (h : P13 i S B) (id : Int) : P13 (i + 1) (dropS S id) B := by
  refine ⟨(drop_fit h.fit).mono (by omega), ?_, ?_⟩
  · unfold dropS
    split
    · exact Nat.le_trans (List.length_eraseIdx_le _ _) (Nat.le_succ_of_le h.len)
    · exact Nat.le_succ_of_le h.len
  · refine AllR.imp ?_ (QP.up (Nat.le_succ i))
    unfold dropS
    split
    · exact h.pins.take _
    · exact h.pins
theorem unpin_row {i : Nat} {S : PlS} (hi : i ≤ 1000) (h : AllR (QP i) S) (j : Nat) (hp : ¬ pinsAt S j = 0) : AllR (QP i) (rowSet S j pin0) := by
  intro r hr
  obtain ⟨k, hk, rfl⟩ := List.getElem_of_mem (show r ∈ S.rows.modify j pin0 from hr)
  rw [List.length_modify] at hk
  rw [List.getElem_modify]
  have hq := h _ (List.getElem_mem hk)
  split
  · rename_i hjk
    subst hjk
    have hpa : pinsAt S j = S.rows[j].pins := by unfold pinsAt; rw [List.getElem?_eq_getElem hk]
    rw [hpa] at hp
    obtain ⟨h1, h2⟩ := hq
    have hw : IntKind.i64.wrap (S.rows[j].pins - 1) = S.rows[j].pins - 1 := Go.Proofs.Ytclehoaeppbmpaa.wrap64 (by omega) (by omega)
    constructor
    · show 0 ≤ IntKind.i64.wrap (S.rows[j].pins - 1); rw [hw]; omega
    · show IntKind.i64.wrap (S.rows[j].pins - 1) ≤ _; rw [hw]; omega
  · exact hq
theorem P13.unpin {i : Nat} {S : PlS} {B : BkS} (h : P13 i S B) (hi : i ≤ 1000) (id : Int) : P13 (i + 1) (unpinS S B id).2.1 (unpinS S B id).2.2 := by
  have hf := unpin_fit (id := id) h.fit
  refine ⟨hf.mono (by omega), ?_, ?_⟩
  · unfold unpinS
    split
    · exact Nat.le_succ_of_le h.len
    · split
      · exact Nat.le_succ_of_le h.len
      · exact Nat.le_trans (room_lenQ _ B) (by rw [rowSet_lenQ]; exact Nat.le_succ_of_le h.len)
  · refine AllR.imp ?_ (QP.up (Nat.le_succ i))
    unfold unpinS
    split
    · exact h.pins
    · split
      · exact h.pins
      · rename_i hp
        exact room_all QP.unuse B (unpin_row hi h.pins _ hp)
theorem P13.evict {i : Nat} {S : PlS} {B : BkS} (h : P13 i S B) : P13 (i + 1) (evictS S B).2.1 (evictS S B).2.2 := by
  have hf := evict_fit h.fit
  refine ⟨hf.mono (by omega), ?_, ?_⟩
  · unfold evictS
    split
    · exact Nat.le_succ_of_le h.len
    · exact Nat.le_trans (goes_lenQ S B) (Nat.le_succ_of_le h.len)
  · refine AllR.imp ?_ (QP.up (Nat.le_succ i))
    unfold evictS
    split
    · exact h.pins
    · exact goes_all QP.unuse B h.pins
theorem P13.clean {i : Nat} {S : PlS} {B : BkS} (h : P13 i S B) (id : Int) : P13 (i + 1) (cleanS S B id).2.1 (cleanS S B id).2.2 := by
  have hf := clean_fit (id := id) h.fit
  have hk : AllR (QP i) (cleanS S B id).2.1 ∧ (cleanS S B id).2.1.rows.length ≤ i := by
    unfold cleanS
    split
    · exact ⟨h.pins, h.len⟩
    · split
      · exact ⟨h.pins, h.len⟩
      · split
        · split
          · exact ⟨h.pins.set _ _ (fun _ h => h), by rw [rowSet_lenQ]; exact h.len⟩
          · exact ⟨h.pins, h.len⟩
        · exact ⟨h.pins, h.len⟩
  exact ⟨hf.mono (by omega), Nat.le_succ_of_le hk.2, hk.1.imp (QP.up (Nat.le_succ i))⟩
theorem P13.fulls {i : Nat} {S : PlS} {B : BkS} (h : P13 i S B) (f : Int) : P13 (i + 1) S (fullS B f) :=
  ⟨⟨h.fit.hand, h.fit.rbs, h.fit.ebs, by have := h.fit.asked; show B.asked.length + _ ≤ _; omega, by have := h.fit.ent; show B.ent.length + _ ≤ _; omega⟩, Nat.le_succ_of_le h.len, h.pins.imp (QP.up (Nat.le_succ i))⟩
theorem modify_sameQ {f : Pl → Pl} : ∀ (l : List Pl) (i : Nat), (∀ r ∈ l, f r = r) → l.modify i f = l
  | [], i, _ => by cases i <;> rfl
  | r :: l, 0, h => by rw [List.modify_zero_cons, h r (by simp)]
  | r :: l, i + 1, h => by rw [List.modify_succ_cons, modify_sameQ l i (fun x hx => h x (by simp [hx]))]
theorem rget_get {i : Nat} {S : PlS} {B : BkS} (h : AllR (QP i) S) (hi : i ≤ 1000) (id : Int) : rgetS S B id 0 = getS S B id := by
  unfold rgetS getS
  cases hq : findS S B id with
  | mk f B' =>
  cases f with
  | none => rfl
  | some y =>
    dsimp only
    have h1 := (find_keeps h y B' hq).1
    have : rowSet y.2 y.1 (pinK 0) = y.2 := by
      unfold rowSet
      rw [modify_sameQ y.2.rows y.1 (fun r hr => ?_)]
      obtain ⟨h2, h3⟩ := h1 r hr
      unfold pinK
      rw [Int.add_zero, Go.Proofs.Ytclehoaeppbmpaa.wrap64 (by omega) (by omega)]
    rw [this]
theorem rget_pin (S : PlS) (B : BkS) (id : Int) : (rgetS S B id 1).2 = (pinS S B id).2 ∧ (if (rgetS S B id 1).1.isSome then (0 : Int) else 2) = (pinS S B id).1 := by
  unfold rgetS pinS
  cases hq : findS S B id with
  | mk f B' =>
  cases f with
  | none => exact ⟨rfl, rfl⟩
  | some y => exact ⟨rfl, rfl⟩
theorem pinK_pos {i : Nat} {S : PlS} {B : BkS} (h : AllR (QP i) S) (hi : i ≤ 1000) (id : Int) (k : Int) (hk : k = 0 ∨ k = 1) : ∀ y B', findS S B id = (some y, B') → AllR pos0 (rowSet y.2 y.1 (pinK k)) := by
  intro y B' hq
  have h1 := (find_keeps h y B' hq).1
  intro r hr
  rcases mem_modify (show r ∈ y.2.rows.modify y.1 (pinK k) from hr) with hr | ⟨x, hx, rfl⟩
  · exact (h1 r hr).1
  · obtain ⟨h2, h3⟩ := h1 x hx
    show 0 ≤ IntKind.i64.wrap (x.pins + k)
    rw [Go.Proofs.Ytclehoaeppbmpaa.wrap64 (by omega) (by omega)]; omega
end Go.Proofs.Ytclehoaeppbmpaa
