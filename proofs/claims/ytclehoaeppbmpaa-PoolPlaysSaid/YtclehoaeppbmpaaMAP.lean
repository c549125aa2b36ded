/- Maps with integer keys: made, looked up, written, cut, ranged over. -/
import Derived.Test.YtclehoaeppbmpaaEX0
import Derived.Maps.RangeRun
namespace Go.Proofs.Ytclehoaeppbmpaa
set_option linter.unusedVariables false
set_option linter.unusedSimpArgs false
set_option linter.unusedSectionVars false
set_option linter.unnecessarySimpa false
open Go Go.Proofs
/-- key, element, stamp -/
abbrev ME := Int × Value × Nat
def me (k : IntKind) (e : ME) : MapEntry := ⟨.int k e.1, e.2.1, e.2.2⟩
def mapc (k : IntKind) (m : Nat) (es : List ME) (clk : Nat) : HP := fun h => h = PH.one m (.map (es.map (me k)).toArray clk)
def iterc (it m since : Nat) (seen : List Nat) (last : Nat) : HP := fun h => h = PH.one it (.mapIter (some m) since seen.toArray last)
def findE : List ME → Int → Nat → Option (Nat × Value)
  | [], _, _ => none
  | e :: es, a, i => if a = e.1 then some (i, e.2.1) else findE es a (i + 1)
theorem findNow_int (k : IntKind) (a : Int) : ∀ (es : List ME) (i : Nat), Instr.findNow (.int k) (.int k a) (es.map (me k)) i = some (findE es a i)
  | [], i => rfl
  | e :: es, i => by
    simp only [List.map_cons, Instr.findNow, me, Instr.sameNow, if_true, findE]
    by_cases h : a = e.1
    · have : (a == e.1) = true := by simpa using h
      rw [this, if_pos h]
    · have : (a == e.1) = false := by simpa using h
      rw [this, if_neg h]; exact findNow_int k a es (i + 1)
def getE (es : List ME) (a : Int) : Option Value := (findE es a 0).map (·.2)
def setE (es : List ME) (a : Int) (v : Value) (clk : Nat) : List ME × Nat := match findE es a 0 with
  | some (i, _) => (es.modify i fun e => (e.1, v, e.2.2), clk)
  | none => (es ++ [(a, v, clk)], clk + 1)
def delE (es : List ME) (a : Int) : List ME := match findE es a 0 with
  | some (i, _) => es.eraseIdx i
  | none => es
theorem modify_app {α : Type} (f : α → α) (e : α) (B : List α) : ∀ A : List α, (A ++ e :: B).modify A.length f = A ++ f e :: B
  | [] => rfl
  | a :: A => by
    have := modify_app f e B A
    simp only [List.cons_append, List.length_cons, List.modify_succ_cons, this]
theorem erase_app {α : Type} (e : α) (B : List α) : ∀ A : List α, (A ++ e :: B).eraseIdx A.length = A ++ B
  | [] => rfl
  | a :: A => by
    have := erase_app e B A
    simp only [List.cons_append, List.length_cons, List.eraseIdx_cons_succ, this]
theorem findE_split (a : Int) : ∀ (es : List ME) (n : Nat), (∃ A e B, es = A ++ e :: B ∧ e.1 = a ∧ (∀ x ∈ A, x.1 ≠ a) ∧ findE es a n = some (n + A.length, e.2.1)) ∨ ((∀ x ∈ es, x.1 ≠ a) ∧ findE es a n = none)
  | [], n => .inr ⟨by simp, rfl⟩
  | e :: es, n => by
    unfold findE
    by_cases h : a = e.1
    · rw [if_pos h]
      exact .inl ⟨[], e, es, rfl, h.symm, by simp, by simp⟩
    · rw [if_neg h]
      rcases findE_split a es (n + 1) with ⟨A, x, B, h1, h2, h3, h4⟩ | ⟨h1, h2⟩
      · refine .inl ⟨e :: A, x, B, by rw [h1]; rfl, h2, fun y hy => ?_, by rw [h4, List.length_cons]; congr 2; omega⟩
        rcases List.mem_cons.1 hy with rfl | hy
        · exact fun g => h g.symm
        · exact h3 y hy
      · refine .inr ⟨fun y hy => ?_, h2⟩
        rcases List.mem_cons.1 hy with rfl | hy
        · exact fun g => h g.symm
        · exact h1 y hy
/-- What a map's operations do, by the first entry with the key. -/
theorem map_cases (es : List ME) (a : Int) : (∃ A e B, es = A ++ e :: B ∧ e.1 = a ∧ (∀ x ∈ A, x.1 ≠ a) ∧ getE es a = some e.2.1 ∧ (∀ v c, setE es a v c = (A ++ (a, v, e.2.2) :: B, c)) ∧ delE es a = A ++ B) ∨
    ((∀ x ∈ es, x.1 ≠ a) ∧ getE es a = none ∧ (∀ v c, setE es a v c = (es ++ [(a, v, c)], c + 1)) ∧ delE es a = es) := by
  rcases findE_split a es 0 with ⟨A, e, B, h1, h2, h3, h4⟩ | ⟨h1, h2⟩
  · refine .inl ⟨A, e, B, h1, h2, h3, by unfold getE; rw [h4]; rfl, fun v c => ?_, ?_⟩
    · unfold setE
      rw [h4, h1, Nat.zero_add]
      simp only
      rw [modify_app, ← h2]
    · unfold delE
      rw [h4, h1, Nat.zero_add]
      simp only
      rw [List.eraseIdx_append_of_length_le (Nat.le_refl _), Nat.sub_self]; rfl
  · refine .inr ⟨h1, by unfold getE; rw [h2]; rfl, fun v c => by unfold setE; rw [h2], by unfold delE; rw [h2]⟩
section
variable {W : World}
theorem Own.mapAt {w : World} {k : IntKind} {m clk : Nat} {es : List ME} {L : List HP} (hO : Own W w (mapc k m es clk :: L)) : w.heap[m]? = some (.map (es.map (me k)).toArray clk) := by
  obtain ⟨h, K, rfl, hs, _⟩ := hO.uncons
  exact PH.sub_one.1 hs
theorem Own.iterAt {w : World} {it m since last : Nat} {seen : List Nat} {L : List HP} (hO : Own W w (iterc it m since seen last :: L)) : w.heap[it]? = some (.mapIter (some m) since seen.toArray last) := by
  obtain ⟨h, K, rfl, hs, _⟩ := hO.uncons
  exact PH.sub_one.1 hs
theorem Own.setOne {w : World} {b : Nat} {o o' : Obj} {p q : HP} {L : List HP} (hO : Own W w (p :: L)) (hp : ∀ h, p h → h = PH.one b o) (hq : q (PH.one b o')) :
    Own W { w with heap := w.heap.setIfInBounds b o' } (q :: L) := by
  refine hO.change rfl rfl rfl fun h hh hs => ?_
  have hb := hp h hh
  subst hb
  have hw := PH.sub_one.1 hs
  have hlt := (Array.getElem?_eq_some_iff.1 hw).1
  refine ⟨PH.one b o', hq, ?_, ?_⟩
  · rw [PH.sub_one]; simp [hlt]
  · intro c hc _
    have hcb : c ≠ b := by rintro rfl; rw [PH.one_self] at hc; simp at hc
    exact ⟨PH.one_other _ hcb, by simp [Array.getElem?_setIfInBounds, Ne.symm hcb]⟩
theorem Own.newOne {w : World} {o : Obj} {p : HP} {L : List HP} (hO : Own W w L) (hp : p (PH.one w.heap.size o)) : Own W { w with heap := w.heap.push o } (p :: L) := by
  refine hO.push (h := PH.one w.heap.size o) rfl rfl rfl (fun b hb => ?_) hp ?_ ?_
  · simp [Array.getElem?_push, Nat.ne_of_lt hb]
  · rw [PH.sub_one]; simp
  · intro b hb; exact PH.one_other _ (by omega)
end
section
variable {P : Program} {W : World} {n : Nat} {F : Fr} {L : List HP} {ops : Array Oper} {Q : Exit → Act → World → Prop} {rest : List Oper} {K : Act → World → Prop}
variable {d : Nat} {ty : TypeId} {pos : String} {af : Array Edge}
theorem run_getMap {w : World} {r clk : Nat} {es : Array MapEntry} (hb : w.heap[r]? = some (.map es clk)) : (getObj r).run P w = .ok (.map es clk) w := by
  simp [getObj, Sem.run, hb]
theorem run_setMap {w : World} {r clk : Nat} {es : Array MapEntry} (o : Obj) (hb : w.heap[r]? = some (.map es clk)) : (setObj r o).run P w = .ok () { w with heap := w.heap.setIfInBounds r o } := by
  simp [setObj, Sem.run, hb]
theorem run_checkInt {w : World} {b : Bool} {t : TypeId} {k : IntKind} {a : Int} (ht : P.underlying t = some (.int k)) : (Instr.checkKey b 10000 t (.int k a)).run P w = .ok () w := by
  rw [show (10000 : Nat) = 9999 + 1 from rfl]
  unfold Instr.checkKey
  simp [run_underlying ht]
theorem run_findInt {w : World} {t : TypeId} {k : IntKind} {a : Int} (ht : P.underlying t = some (.int k)) (es : List ME) : (Instr.findKey t (.int k a) (es.map (me k))).run P w = .ok (findE es a 0) w := by
  unfold Instr.findKey
  simp [run_underlying ht, findNow_int]
theorem sg_makeMap {t : TypeId} (k : IntKind) (hd : Nat.blt d n = true) (h : ∀ m : Nat, SG W n ((d, .map (some m)) :: F) (mapc k m [] 0 :: L) K) :
    SG W n F L (W1 P ops Q ⟨some d, .makeMap t none, ty, pos, af, none⟩ K) := by
  refine sg_value (X := Nat) (fun m => .map (some m)) (fun m => mapc k m [] 0 :: L) (fun _ => True) hd (fun w hO a ha => ?_) (fun m _ => h m)
  refine ⟨w.heap.size, { w with heap := w.heap.push (.map #[] 0) }, ?_, trivial, hO.newOne rfl⟩
  simp [execOp, Instr.makeMap, newObj, Sem.run]
theorem run_lookup {w : World} {t kt et sz by_ m clk : Nat} {k : IntKind} {a : Int} {z : Value} {es : List ME} (ht : P.underlying t = some (.map kt et)) (hk : P.underlying kt = some (.int k)) [hz : Zero P et z sz by_] (hm : w.heap[m]? = some (.map (es.map (me k)).toArray clk)) :
    (Instr.lookup t (.map (some m)) (.int k a) false).run P w = .ok ((getE es a).getD z) w := by
  obtain ⟨i, i1, i2, i3, i4, i5⟩ := hz.h
  have hf := run_findInt (P := P) (w := w) (a := a) hk es
  have hc := run_checkInt (P := P) (w := w) (b := es.isEmpty) (a := a) hk
  unfold getE
  cases h : findE es a 0 with
  | none =>
    rw [h] at hf
    simp [Instr.lookup, run_underlying ht, run_getMap hm, hc, hf, zeroValue, typeInfo, i1, i2]
  | some r =>
    obtain ⟨j, v⟩ := r
    rw [h] at hf
    simp [Instr.lookup, run_underlying ht, run_getMap hm, hc, hf]
theorem sg_lookup {t kt et sz by_ m clk : Nat} {k : IntKind} {a : Int} {z : Value} {es : List ME} {x y : Operand} (j : Nat) (ht : P.underlying t = some (.map kt et)) (hk : P.underlying kt = some (.int k)) [hz : Zero P et z sz by_]
    (hL : L[j]? = some (mapc k m es clk)) (hx : ev F x = some (.map (some m))) (hy : ev F y = some (.int k a)) (hd : Nat.blt d n = true) (h : SG W n ((d, (getE es a).getD z) :: F) L K) :
    SG W n F L (W1 P ops Q ⟨some d, .lookup t x y false, ty, pos, af, none⟩ K) := by
  refine sg_pure _ hd (fun w hO ac ha => ?_) h
  obtain ⟨L', hO'⟩ := hO.nth hL
  have := run_lookup (P := P) (a := a) (z := z) ht hk hO'.mapAt
  simp [execOp, ha.ev hx, ha.ev hy, this]
theorem sg_mapUpdate {t kt et m clk : Nat} {k : IntKind} {a : Int} {v : Value} {es : List ME} {x y z : Operand} (L1 : List HP) {L2 : List HP} (ht : P.underlying t = some (.map kt et)) (hk : P.underlying kt = some (.int k))
    (hx : ev F x = some (.map (some m))) (hy : ev F y = some (.int k a)) (hz : ev F z = some v) (h : SG W n F (L1 ++ mapc k m (setE es a v clk).1 (setE es a v clk).2 :: L2) K) :
    SG W n F (L1 ++ mapc k m es clk :: L2) (W1 P ops Q ⟨none, .mapUpdate t x y z, ty, pos, af, none⟩ K) := by
  refine sg_unit _ (fun w hO ac ha => ?_) h
  have hm := hO.front.mapAt
  have hf := run_findInt (P := P) (w := w) (a := a) hk es
  have hc := run_checkInt (P := P) (w := w) (b := false) (a := a) hk
  rcases findE_split a es 0 with ⟨A, e, B, h1, h2, h3, h4⟩ | ⟨h1, h2⟩
  · rw [h4] at hf
    rw [Nat.zero_add] at h4 hf
    have hget : es[A.length]? = some e := by rw [h1]; simp
    have hst : (Instr.keyThatStays (.int k a) (.int k a)).run P w = .ok (.int k a) w := by
      unfold Instr.keyThatStays
      have : Instr.sameBits 10000 (.int k a) (.int k a) = true := by
        rw [show (10000 : Nat) = 9999 + 1 from rfl]
        unfold Instr.sameBits
        simp
      simp [this]
    have hnew : (es.map (me k)).toArray.modify A.length (fun e => { e with key := .int k a, val := v }) = ((setE es a v clk).1.map (me k)).toArray := by
      unfold setE
      rw [h4]
      apply Array.ext'
      simp only [Array.toList_modify, h1, List.map_append, List.map_cons, modify_app]
      have := modify_app (fun e => { e with key := .int k a, val := v }) (me k e) (B.map (me k)) (A.map (me k))
      rw [List.length_map] at this
      rw [this]
      simp [me, h2]
    refine ⟨{ w with heap := w.heap.setIfInBounds m (.map ((setE es a v clk).1.map (me k)).toArray (setE es a v clk).2) }, ?_, (Own.setOne (q := mapc k m (setE es a v clk).1 (setE es a v clk).2) hO.front (fun h hh => hh) rfl).back⟩
    have hclk : (setE es a v clk).2 = clk := by unfold setE; rw [h4]
    rw [hclk]
    simp [execOp, ha.ev hx, ha.ev hy, ha.ev hz, Instr.mapUpdate, run_underlying ht, run_getMap hm, hc, hf, hget, me, h2, hst, run_setMap _ hm]
    simp [me] at hnew
    rw [← hnew]
  · rw [h2] at hf
    refine ⟨{ w with heap := w.heap.setIfInBounds m (.map ((setE es a v clk).1.map (me k)).toArray (setE es a v clk).2) }, ?_, (Own.setOne (q := mapc k m (setE es a v clk).1 (setE es a v clk).2) hO.front (fun h hh => hh) rfl).back⟩
    have hs : setE es a v clk = (es ++ [(a, v, clk)], clk + 1) := by unfold setE; rw [h2]
    rw [hs]
    simp [execOp, ha.ev hx, ha.ev hy, ha.ev hz, Instr.mapUpdate, run_underlying ht, run_getMap hm, hc, hf, run_setMap _ hm, me]
theorem sg_delete {t kt et m clk : Nat} {k : IntKind} {a : Int} {es : List ME} {x y : Operand} (L1 : List HP) {L2 : List HP} (ht : P.underlying t = some (.map kt et)) (hk : P.underlying kt = some (.int k))
    (hx : ev F x = some (.map (some m))) (hy : ev F y = some (.int k a)) (h : SG W n F (L1 ++ mapc k m (delE es a) clk :: L2) K) :
    SG W n F (L1 ++ mapc k m es clk :: L2) (W1 P ops Q ⟨none, .call { callee := .builtin .delete, args := #[x, y], argTypes := #[t, kt] }, ty, pos, af, none⟩ K) := by
  intro w hO ac ha
  have hm := hO.front.mapAt
  have hf := run_findInt (P := P) (w := w) (a := a) hk es
  have hc := run_checkInt (P := P) (w := w) (b := es.isEmpty) (a := a) hk
  simp only [W1]
  rw [if_pos (by simp [Region.wanted])]
  have hex : (execOp ac.eval ⟨none, .call { callee := .builtin .delete, args := #[x, y], argTypes := #[t, kt] }, ty, pos, af, none⟩).run P w = .ok (.value (.tuple #[])) { w with heap := w.heap.setIfInBounds m (.map ((delE es a).map (me k)).toArray clk) } := by
    rcases findE_split a es 0 with ⟨A, e, B, h1, h2, h3, h4⟩ | ⟨h1, h2⟩
    · rw [h4] at hf
      rw [Nat.zero_add] at h4 hf
      have hlt : A.length < es.length := by rw [h1]; simp
      have hnew : (es.map (me k)).toArray.eraseIdxIfInBounds A.length = ((delE es a).map (me k)).toArray := by
        unfold delE
        rw [h4, h1]
        apply Array.ext'
        have e1 := erase_app (me k e) (B.map (me k)) (A.map (me k))
        rw [List.length_map] at e1
        simp only [erase_app, List.map_append, List.map_cons]
        simp [e1]
      simp [execOp, resolve, invoke, builtin, ha.ev hx, ha.ev hy, Builtin.delete_, run_underlying ht, run_getMap hm, hc, hf, run_setMap _ hm]
      simp at hnew
      rw [hnew]
    · rw [h2] at hf
      have hs : delE es a = es := by unfold delE; rw [h2]
      rw [hs]
      simp [execOp, resolve, invoke, builtin, ha.ev hx, ha.ev hy, Builtin.delete_, run_underlying ht, run_getMap hm, hc, hf, run_setMap _ hm]
  simp only [Oper.wp, hex]
  exact h _ (Own.setOne (q := mapc k m (delE es a) clk) hO.front (fun h hh => hh) rfl).back _ ha
theorem sg_range {t kt et m clk : Nat} {k : IntKind} {es : List ME} {x : Operand} (j : Nat) (ht : P.underlying t = some (.map kt et)) (hL : L[j]? = some (mapc k m es clk)) (hx : ev F x = some (.map (some m))) (hd : Nat.blt d n = true)
    (h : ∀ it : Nat, SG W n ((d, .pointer (some ⟨it, 0, none⟩)) :: F) (iterc it m clk [] clk :: L) K) :
    SG W n F L (W1 P ops Q ⟨some d, .range t x, ty, pos, af, none⟩ K) := by
  refine sg_value (X := Nat) (fun it => .pointer (some ⟨it, 0, none⟩)) (fun it => iterc it m clk [] clk :: L) (fun _ => True) hd (fun w hO ac ha => ?_) (fun m _ => h m)
  obtain ⟨L', hO'⟩ := hO.nth hL
  refine ⟨w.heap.size, { w with heap := w.heap.push (.mapIter (some m) clk #[] clk) }, ?_, trivial, hO.newOne rfl⟩
  simp [execOp, ha.ev hx, Instr.range, run_underlying ht, run_getMap hO'.mapAt, newObj, Sem.run]
theorem sg_next {it m since last clk : Nat} {seen : List Nat} {k : IntKind} {es : List ME} {x : Operand} {L' : List HP} (j : Nat) (hL : L'[j]? = some (mapc k m es clk)) (hx : ev F x = some (.pointer (some ⟨it, 0, none⟩))) (hd : Nat.blt d n = true)
    (hold : ∀ e ∈ es, e.2.2 < since) (hsc : since ≤ last)
    (h0 : (∀ e ∈ es, e.2.2 ∈ seen) → SG W n ((d, .tuple #[.bool false]) :: F) (iterc it m since seen last :: L') K)
    (h1 : ∀ e ∈ es, e.2.2 ∉ seen → SG W n ((d, .tuple #[.bool true, .int k e.1, e.2.1]) :: F) (iterc it m since (seen ++ [e.2.2]) clk :: L') K) :
    SG W n F (iterc it m since seen last :: L') (W1 P ops Q ⟨some d, .next x false, ty, pos, af, none⟩ K) := by
  intro w hO ac ha
  obtain ⟨L2, hO2⟩ := hO.tail.nth hL
  simp only [W1]
  rw [if_pos (by simp [Region.wanted])]
  have hrun := run_next_at (P := P) w ty it m since last seen.toArray (es.map (me k)).toArray clk hO.iterAt hO2.mapAt (by
    intro x hx
    simp only [List.mem_map] at hx
    obtain ⟨e, he, rfl⟩ := hx
    exact hold e he) hsc
  rcases hrun with ⟨hl, hr⟩ | ⟨e, he, w1, hw1, hr⟩
  · have hex : (execOp ac.eval ⟨some d, .next x false, ty, pos, af, none⟩).run P w = .ok (.value (.tuple #[.bool false])) w := by
      simp only [execOp, ha.ev hx, Sem.run_bind, hr, Result.andThen_ok, Sem.run_pure]
    simp only [Oper.wp, hex, Oper.upon_value]
    refine h0 (fun e he => ?_) w hO _ (ha.put hd _)
    have hnil : leftOf (es.map (me k)).toArray seen.toArray = #[] := Array.eq_empty_of_size_eq_zero hl
    unfold leftOf at hnil
    rw [Array.filter_eq_empty_iff] at hnil
    have := hnil (a := me k e) (by simp; exact ⟨_, _, _, he, rfl⟩)
    simpa [me] using this
  · simp only [leftOf, List.filter_toArray', Array.toList_filter, List.mem_filter, List.mem_map] at he
    obtain ⟨⟨e0, he0, rfl⟩, hs⟩ := he
    have hns : e0.2.2 ∉ seen := by simpa [me] using hs
    have hex : (execOp ac.eval ⟨some d, .next x false, ty, pos, af, none⟩).run P w = .ok (.value (.tuple #[.bool true, .int k e0.1, e0.2.1])) (Go.ChangeMaps.setBlock w1 it (.mapIter (some m) since (seen.toArray.push e0.2.2) clk)) := by
      simp only [execOp, ha.ev hx, Sem.run_bind, hr, Result.andThen_ok, Sem.run_pure]; rfl
    simp only [Oper.wp, hex, Oper.upon_value]
    have hO1 : Own W w1 (iterc it m since seen last :: L') := by
      rcases hw1 with rfl | rfl
      · exact hO
      · exact hO.drew
    refine h1 e0 he0 hns _ ?_ _ (ha.put hd _)
    have := Own.setOne (o' := .mapIter (some m) since (seen.toArray.push e0.2.2) clk) (q := iterc it m since (seen ++ [e0.2.2]) clk) hO1 (fun h hh => hh) (by unfold iterc; simp)
    exact this
theorem sg_entry {it m since clk : Nat} {seen : List Nat} {k : IntKind} {es : List ME} {x : Operand} {e : ME} (i j : Nat) (hI : L[i]? = some (iterc it m since (seen ++ [e.2.2]) clk)) (hL : L[j]? = some (mapc k m es clk)) (hx : ev F x = some (.pointer (some ⟨it, 0, none⟩))) (hd : Nat.blt d n = true)
    (he : e ∈ es) (hn : (es.map (·.2.2)).Nodup) (h : SG W n ((d, .tuple #[.int k e.1, e.2.1]) :: F) L K) :
    SG W n F L (W1 P ops Q ⟨some d, .entry x, ty, pos, af, none⟩ K) := by
  refine sg_pure _ hd (fun w hO ac ha => ?_) h
  obtain ⟨L1, hO1⟩ := hO.nth hI
  obtain ⟨L2, hO2⟩ := hO.nth hL
  have hr := run_entry_at (P := P) w it m since seen.toArray (es.map (me k)).toArray clk (me k e) (by have := hO1.iterAt; simpa [me] using this) hO2.mapAt (by simp; exact ⟨_, _, _, he, rfl⟩) (by simpa [me, Function.comp_def] using hn)
  simp only [execOp, ha.ev hx, Sem.run_bind, hr, Result.andThen_ok, Sem.run_pure]; rfl
end
end Go.Proofs.Ytclehoaeppbmpaa
