/- A method called by an interface; an entry of a map that is made first and filled then; a lookup that tells whether it found. -/
import Derived.LaidEqlPtr
import Derived.Test.YtclehoaeppbmpaaDR2
import Derived.Test.YtclehoaeppbmpaaEX0
import Derived.Test.YtclehoaeppbmpaaMAP
namespace Go.Proofs.Ytclehoaeppbmpaa
set_option linter.unusedVariables false
set_option linter.unusedSimpArgs false
set_option linter.unusedSectionVars false
set_option linter.unnecessarySimpa false
open Go Go.Proofs
class Meth (P : Program) (t : TypeId) (name : String) (f : outParam FuncId) : Prop where
  h : ∃ i m, P.info? t = some i ∧ i.methods.find? (·.name == name) = some m ∧ m.path = #[] ∧ m.func = some (f, true)
  p : ∃ e, P.underlying t = some (.pointer e)
section
variable {P : Program} {W : World} {n : Nat} {F : Fr} {L : List HP} {ops : Array Oper} {Q : Exit → Act → World → Prop} {rest : List Oper} {K : Act → World → Prop}
variable {d : Nat} {ty : TypeId} {pos : String} {af : Array Edge}
theorem run_meth {t : TypeId} {name : String} {f : FuncId} [hm : Meth P t name f] {v : Value} {w : World} (k : Nat) : (Go.method (k + 1) t v name).run P w = .ok (f, v) w := by
  obtain ⟨i, m, h1, h2, h3, h4⟩ := hm.h
  obtain ⟨e, h5⟩ := hm.p
  simp [Go.method, typeInfo, h1, h2, h3, h4, follow, receiverAt, run_underlying h5, Go.Place.get]
theorem sg_invoke {X : Type} {t : TypeId} {name : String} {f : FuncId} [Meth P t name f] [IsFn P f] {r : Operand} {rv : Value} {xs : List Operand} {vs : List Value} {ats : Array TypeId} {v : X → Value} {φ : X → Prop} {L' : X → List HP}
    (hC : Tri P W f (rv :: vs) L v φ L') (hr : ev F r = some (.iface t rv)) (hx : evs F xs = some vs) (hd : Nat.blt d n = true) (h : ∀ x, φ x → SG W n ((d, v x) :: F) (L' x) K) :
    SG W n F L (W1 P ops Q ⟨some d, .call { callee := .invoke r name, args := xs.toArray, argTypes := ats }, ty, pos, af, none⟩ K) := by
  intro w hO a ha
  simp only [W1]
  rw [if_pos (by simp [Region.wanted])]
  have hs : P.types.size + Made.depth = (P.types.size + (Made.depth - 1)) + 1 := rfl
  have hrun : (execOp a.eval ⟨some d, .call { callee := .invoke r name, args := xs.toArray, argTypes := ats }, ty, pos, af, none⟩).run P w = .ok (.enter f (rv :: vs).toArray) w := by
    have hm := run_meth (P := P) (t := t) (name := name) (f := f) (v := rv) (w := w) (P.types.size + (Made.depth - 1))
    rw [← hs] at hm
    have hargs : xs.toArray.map a.eval = vs.toArray := by simp [ha.evs hx]
    simp [execOp, resolve, invoke, callMethod, ha.ev hr, hm, hargs, run_callFunc]
  simp only [Oper.wp, hrun, Oper.upon_enter]
  refine (hC w hO).mono ?_
  rintro e w' ⟨x, rfl, hφ, hO'⟩
  exact h x hφ w' hO' _ (ha.put hd _)
theorem run_lookup2 {w : World} {t kt et sz by_ m clk : Nat} {k : IntKind} {a : Int} {z : Value} {es : List ME} (ht : P.underlying t = some (.map kt et)) (hk : P.underlying kt = some (.int k)) [hz : Zero P et z sz by_] (hm : w.heap[m]? = some (.map (es.map (me k)).toArray clk)) :
    (Instr.lookup t (.map (some m)) (.int k a) true).run P w = .ok (.tuple #[(getE es a).getD z, .bool (getE es a).isSome]) w := by
  obtain ⟨i, i1, i2, i3, i4, i5⟩ := hz.h
  have hf := run_findInt (P := P) (w := w) (a := a) hk es
  have hc := run_checkInt (P := P) (w := w) (b := es.isEmpty) (a := a) hk
  unfold getE
  cases h : findE es a 0 with
  | none =>
    rw [h] at hf
    simp [Instr.lookup, run_underlying ht, run_getMap hm, hc, hf, zeroValue, typeInfo, i1, i2]
  | some r =>
    obtain ⟨j, v⟩ := r
    rw [h] at hf
    simp [Instr.lookup, run_underlying ht, run_getMap hm, hc, hf]
theorem sg_lookup2 {t kt et sz by_ m clk : Nat} {k : IntKind} {a : Int} {z : Value} {es : List ME} {x y : Operand} (j : Nat) (ht : P.underlying t = some (.map kt et)) (hk : P.underlying kt = some (.int k)) [hz : Zero P et z sz by_]
    (hL : L[j]? = some (mapc k m es clk)) (hx : ev F x = some (.map (some m))) (hy : ev F y = some (.int k a)) (hd : Nat.blt d n = true) (h : SG W n ((d, .tuple #[(getE es a).getD z, .bool (getE es a).isSome]) :: F) L K) :
    SG W n F L (W1 P ops Q ⟨some d, .lookup t x y true, ty, pos, af, none⟩ K) := by
  refine sg_pure _ hd (fun w hO ac ha => ?_) h
  obtain ⟨L', hO'⟩ := hO.nth hL
  have := run_lookup2 (P := P) (a := a) (z := z) ht hk hO'.mapAt
  simp [execOp, ha.ev hx, ha.ev hy, this]
/-- An entry that isn't there is made. -/
theorem sg_mapEntry_new {t kt et sz by_ m clk : Nat} {k : IntKind} {a : Int} {z : Value} {es : List ME} {x y : Operand} (L1 : List HP) {L2 : List HP} (ht : P.underlying t = some (.map kt et)) (hk : P.underlying kt = some (.int k)) [hz : Zero P et z sz by_]
    (hno : ∀ e ∈ es, e.1 ≠ a) (hx : ev F x = some (.map (some m))) (hy : ev F y = some (.int k a)) (hd : Nat.blt d n = true)
    (h : SG W n ((d, .tuple #[z, goInt clk]) :: F) (L1 ++ mapc k m (es ++ [(a, z, clk)]) (clk + 1) :: L2) K) :
    SG W n F (L1 ++ mapc k m es clk :: L2) (W1 P ops Q ⟨some d, .mapEntry t x y, ty, pos, af, none⟩ K) := by
  refine sg_value (X := Unit) (fun _ => .tuple #[z, goInt clk]) (fun _ => L1 ++ mapc k m (es ++ [(a, z, clk)]) (clk + 1) :: L2) (fun _ => True) hd (fun w hO ac ha => ?_) (fun _ _ => h)
  have hm := hO.front.mapAt
  have hf := run_findInt (P := P) (w := w) (a := a) hk es
  have hc := run_checkInt (P := P) (w := w) (b := false) (a := a) hk
  obtain ⟨i, i1, i2, i3, i4, i5⟩ := hz.h
  have hnone : findE es a 0 = none := by
    rcases findE_split a es 0 with ⟨A, e, B, h1, h2, h3, h4⟩ | ⟨h1, h2⟩
    · exact absurd h2 (hno e (by rw [h1]; simp))
    · exact h2
  rw [hnone] at hf
  refine ⟨(), { w with heap := w.heap.setIfInBounds m (.map ((es ++ [(a, z, clk)]).map (me k)).toArray (clk + 1)) }, ?_, trivial, (Own.setOne (q := mapc k m (es ++ [(a, z, clk)]) (clk + 1)) hO.front (fun h hh => hh) rfl).back⟩
  simp [execOp, ha.ev hx, ha.ev hy, Instr.mapEntry, run_underlying ht, run_getMap hm, hc, hf, zeroValue, typeInfo, i1, i2, run_setMap _ hm, me]
theorem findIdx_last {b : Nat} {x : MapEntry} (hx : x.born = b) : ∀ (l : List MapEntry), (∀ e ∈ l, e.born ≠ b) → (l ++ [x]).findIdx? (fun e => (e.born : Int) == (b : Int)) = some l.length
  | [], _ => by simp [hx]
  | e :: l, h => by
    have h1 := h e (by simp)
    have h2 : ((e.born : Int) == (b : Int)) = false := by simp; omega
    have ih := findIdx_last hx l (fun y hy => h y (by simp [hy]))
    rw [List.cons_append, List.findIdx?_cons]
    simp only [h2, ih]
    simp
/-- The entry that was made last is filled. -/
theorem sg_entryStore {t m clk b : Nat} {k : IntKind} {a : Int} {z v : Value} {es : List ME} {x y s : Operand} (L1 : List HP) {L2 : List HP}
    (hno : ∀ e ∈ es, e.2.2 ≠ b) (hx : ev F x = some (.map (some m))) (hs : ev F s = some (goInt b)) (hy : ev F y = some v)
    (h : SG W n F (L1 ++ mapc k m (es ++ [(a, v, b)]) clk :: L2) K) :
    SG W n F (L1 ++ mapc k m (es ++ [(a, z, b)]) clk :: L2) (W1 P ops Q ⟨none, .entryStore t x s y, ty, pos, af, none⟩ K) := by
  refine sg_unit _ (fun w hO ac ha => ?_) h
  have hm := hO.front.mapAt
  have hi := findIdx_last (b := b) (x := me k (a, z, b)) rfl (es.map (me k)) (fun e he => by
    obtain ⟨x, hx, rfl⟩ := List.mem_map.1 he
    exact hno x hx)
  rw [List.length_map] at hi
  have hm1 : (es ++ [(a, z, b)]).map (me k) = es.map (me k) ++ [me k (a, z, b)] := by rw [List.map_append]; rfl
  have hnew : ((es ++ [(a, z, b)]).map (me k)).toArray.modify es.length (fun e => { e with val := v }) = ((es ++ [(a, v, b)]).map (me k)).toArray := by
    apply Array.ext'
    have := modify_app (fun e : MapEntry => { e with val := v }) (me k (a, z, b)) [] (es.map (me k))
    rw [List.length_map] at this
    simp only [Array.toList_modify, List.map_append, List.map_cons, List.map_nil, this]
    rfl
  refine ⟨{ w with heap := w.heap.setIfInBounds m (.map ((es ++ [(a, v, b)]).map (me k)).toArray clk) }, ?_, (Own.setOne (q := mapc k m (es ++ [(a, v, b)]) clk) hO.front (fun h hh => hh) rfl).back⟩
  have hi2 : ((es ++ [(a, z, b)]).map (me k)).toArray.findIdx? (fun e => (e.born : Int) == (b : Int)) = some es.length := by
    rw [List.findIdx?_toArray, hm1]; exact hi
  have hg := run_getMap (P := P) hm
  generalize ((es ++ [(a, z, b)]).map (me k)).toArray = A0 at hg hi2 hnew hm
  generalize ((es ++ [(a, v, b)]).map (me k)).toArray = A1 at hnew
  simp [execOp, ha.ev hx, ha.ev hy, ha.ev hs, Instr.entryStore, goInt, hg, asInt, asIntOf, hi2, run_setMap _ hm, hnew]
end
/- blocks that nothing was ever marked in: read, written, made; their addresses compared -/
section
variable {P : Program} [BS P] {W : World} {n : Nat} {F : Fr} {L : List HP} {ops : Array Oper} {Q : Exit → Act → World → Prop} {K : Act → World → Prop} {ty : TypeId} {pos : String} {af : Array Edge} {d : Nat}
theorem rd_blk0_one (k : Nat) {b o : Nat} {cs : List Value} {v : Value} (hL : L[k]? = some (blk0 b cs)) (hv : cs[o]? = some v) : Rd W L (some ⟨b, o, none⟩) [v] := by
  unfold Rd
  intro w hO
  obtain ⟨L', hO'⟩ := hO.nth hL
  exact rd_blk_one (W := W) 0 rfl hv w hO'.blk0_blk
theorem run_storeVar0 {w : World} {t sz b o : Nat} {cs vs : List Value} {v : Value} (hs : ∃ i, P.info? t = some i ∧ i.size = sz) (hv : v.cells.toList = vs) (hl : vs.length = sz) (hfit : o + vs.length ≤ cs.length) (h1 : ∀ u ∈ vs, u.oneCell' = true)
    (hO : Own W w (blk0 b cs :: L)) : ∃ w', (storeVar t ⟨b, o, none⟩ v).run P w = .ok () w' ∧ Own W w' (blk0 b (splice cs o vs) :: L) := by
  obtain ⟨i, h3, h4⟩ := hs
  obtain ⟨w', hr, hO'⟩ := Own.storeCells0 (P := P) o vs 0 cs w hO (by simpa using hfit) h1
  refine ⟨w', ?_, by simpa using hO'⟩
  have hsz : v.cells.size = sz := by rw [← hl, ← hv]; simp
  simp [storeVar, sizeOf, typeInfo, h3, h4, hsz, hv, hr]
theorem sg_store0 {x y : Operand} {t b o : Nat} {cs : List Value} {v : Value} (L1 : List HP) {L2 : List HP} [hc : Cell P t] (hx : ev F x = some (.pointer (some ⟨b, o, none⟩))) (hy : ev F y = some v) (h1 : v.oneCell' = true) (ho : o < cs.length)
    (h : SG W n F (L1 ++ blk0 b (cs.set o v) :: L2) K) : SG W n F (L1 ++ blk0 b cs :: L2) (W1 P ops Q ⟨none, .store t x y, ty, pos, af, none⟩ K) := by
  refine sg_unit _ (fun w hO a ha => ?_) h
  have hvc : v.cells.toList = [v] := by cases v <;> simp_all [Value.cells, Value.oneCell']
  obtain ⟨w', hr, hO'⟩ := run_storeVar0 (P := P) (t := t) (b := b) (o := o) (cs := cs) hc.s hvc rfl (by simp; omega) (by simpa using h1) hO.front
  rw [splice_one] at hO'
  exact ⟨w', by simp [execOp, ha.ev hx, ha.ev hy, Instr.storeAt, Instr.sureAddr, hr], hO'.back⟩
theorem sg_box0 {t : Nat} {x : Operand} {v : Value} (hx : ev F x = some v) (hd : Nat.blt d n = true)
    (h : ∀ b : Nat, SG W n ((d, .pointer (some ⟨b, 0, none⟩)) :: F) (blk0 b v.cells.toList :: L) K) : SG W n F L (W1 P ops Q ⟨some d, .box t x, ty, pos, af, none⟩ K) := by
  refine sg_value (X := Nat) (fun b => .pointer (some ⟨b, 0, none⟩)) (fun b => blk0 b v.cells.toList :: L) (fun _ => True) hd (fun w hO a ha => ?_) (fun b _ => h b)
  exact ⟨w.heap.size, w.alloc (.cells v.cells t), by simp [execOp, ha.ev hx, Instr.box, newVar, newRow], trivial, by simpa using hO.alloc0 v.cells.toList t⟩
end
end Go.Proofs.Ytclehoaeppbmpaa
