/- Memory: loads, stores, new blocks, make, append, copy, conversions, calls, ways in and out. -/
import Derived.Test.YtclehoaeppbmpaaOP
import Derived.Lib.ConvBytes
namespace Go.Proofs.Ytclehoaeppbmpaa
set_option linter.unusedVariables false
set_option linter.unusedSimpArgs false
set_option linter.unusedSectionVars false
set_option linter.unnecessarySimpa false
open Go

/- one chunk out of the middle -/
theorem Own.front {W w : World} {L1 L2 : List HP} {p : HP} (hO : Own W w (L1 ++ p :: L2)) : Own W w (p :: (L1 ++ L2)) := by
  obtain ⟨K, hK, hs, hp⟩ := hO.sat
  obtain ⟨K1, K2, rfl, h1, h2⟩ := map_append_inv _ _ _ _ hK
  match K2, h2 with
  | k :: K2, h2 =>
    simp only [List.map_cons, List.cons.injEq] at h2
    refine ⟨hO.os, hO.tape, hO.output, k :: (K1 ++ K2), by simp [h1, h2.1, h2.2], fun x hx => hs x (by simp at hx ⊢; rcases hx with h | h | h <;> simp [h]), ?_⟩
    exact (List.Perm.pairwise_iff (fun {x y} h => PH.disj.symm h) (List.perm_middle)).1 hp
theorem Own.back {W w : World} {L1 L2 : List HP} {p : HP} (hO : Own W w (p :: (L1 ++ L2))) : Own W w (L1 ++ p :: L2) := by
  obtain ⟨K, hK, hs, hp⟩ := hO.sat
  match K, hK with
  | k :: K, hK =>
    simp only [List.map_cons, List.cons.injEq] at hK
    obtain ⟨K1, K2, rfl, h1, h2⟩ := map_append_inv _ _ _ _ hK.2
    refine ⟨hO.os, hO.tape, hO.output, K1 ++ k :: K2, by simp [h1, hK.1, h2], fun x hx => hs x (by simp at hx ⊢; rcases hx with h | h | h <;> simp [h]), ?_⟩
    exact (List.Perm.pairwise_iff (fun {x y} h => PH.disj.symm h) (List.perm_middle)).2 hp
theorem Own.nth {W w : World} : ∀ {L : List HP} {i : Nat} {p : HP}, Own W w L → L[i]? = some p → ∃ L', Own W w (p :: L') := by
  intro L i p hO hi
  have hlt : i < L.length := (List.getElem?_eq_some_iff.1 hi).1
  have he : L[i] = p := (List.getElem?_eq_some_iff.1 hi).2
  have : L = L.take i ++ p :: L.drop (i + 1) := by rw [← he]; simp
  rw [this] at hO
  exact ⟨_, hO.front⟩

/-- What a slice's value owns: from the head of a block on. -/
def sown (a : Option Addr) (n c sz : Nat) (xs : List Value) : HP := fun h =>
  xs.length = n * sz ∧ ((a = none ∧ n = 0 ∧ c = 0) ∨ ∃ (g : Nat) (cur : List Value) (T : TypeId) (fz : Nat × Nat), a = some ⟨g, 0, none⟩ ∧ n ≤ c ∧ c ≤ maxLen ∧ cur.length = c * sz ∧ cur.take (n * sz) = xs ∧ thawed fz cur.length ∧ h = PH.one g (.cells cur.toArray T fz))

/-- Where vs can be read, in whatever world owns L. -/
def Rd (W : World) (L : List HP) (a : Option Addr) (vs : List Value) : Prop :=
  ∀ w, Own W w L → vs = [] ∨ ∃ b o, a = some ⟨b, o, none⟩ ∧ ∀ j u, vs[j]? = some u → w.cell? ⟨b, o + j, none⟩ = some u
theorem rd_nil {W : World} {L : List HP} {a : Option Addr} : Rd W L a [] := fun _ _ => .inl rfl
theorem rd_blk {W : World} {L : List HP} (i : Nat) {b o : Nat} {cs vs : List Value} (hL : L[i]? = some (blk b cs)) (hv : ∀ j u, vs[j]? = some u → cs[o + j]? = some u) : Rd W L (some ⟨b, o, none⟩) vs := by
  refine fun w hO => .inr ⟨_, _, rfl, fun j u hj => ?_⟩
  obtain ⟨L', hO'⟩ := hO.nth hL
  rw [hO'.cell]; exact hv j u hj
theorem spot_of_cell {w : World} {a : Addr} {v : Value} (h : w.cell? a = some v) : a = ⟨a.block, a.off, none⟩ := by
  obtain ⟨b, o, s⟩ := a
  cases s with
  | none => rfl
  | some s => unfold World.cell? at h; simp at h; split at h <;> simp at h
theorem rd_old {W : World} {L : List HP} (i : Nat) {ad : Addr} {vs : List Value} (hL : L[i]? = some (old W)) (hv : ∀ j u, vs[j]? = some u → W.cell? (ad.add j) = some u) : Rd W L (some ad) vs := by
  intro w hO
  cases vs with
  | nil => exact .inl rfl
  | cons v vs =>
    right
    have h0 := hv 0 v rfl
    simp only [Addr.add, if_true] at h0
    have hs := spot_of_cell h0
    refine ⟨ad.block, ad.off, by rw [← hs], fun j u hj => ?_⟩
    obtain ⟨L', hO'⟩ := hO.nth hL
    have h := hv j u hj
    rw [hs, addr_add] at h
    rw [← h]
    exact World.cell?_of_block (hO'.olds _ (World.block_lt_of_cell? W _ h))
theorem Rd.at {W : World} {L : List HP} {b o : Nat} {vs ws : List Value} (h : Rd W L (some ⟨b, o, none⟩) vs) (i : Nat) (hw : ∀ j u, ws[j]? = some u → vs[i + j]? = some u) : Rd W L (some ⟨b, o + i, none⟩) ws := by
  intro w hO
  rcases h w hO with rfl | ⟨b', o', he, hc⟩
  · left
    cases ws with
    | nil => rfl
    | cons v ws => have := hw 0 v rfl; simp at this
  · simp only [Option.some.injEq, Addr.mk.injEq] at he
    obtain ⟨rfl, rfl, _⟩ := he
    exact .inr ⟨b, o + i, rfl, fun j u hj => by rw [Nat.add_assoc]; exact hc _ _ (hw j u hj)⟩
theorem Own.sownCells {W w : World} {a : Option Addr} {n c sz : Nat} {xs : List Value} {L : List HP} (hO : Own W w (sown a n c sz xs :: L)) :
    xs.length = n * sz ∧ ((a = none ∧ n = 0 ∧ c = 0) ∨ ∃ g, a = some ⟨g, 0, none⟩ ∧ n ≤ c ∧ c ≤ maxLen ∧ ∀ j u, xs[j]? = some u → w.cell? ⟨g, j, none⟩ = some u) := by
  obtain ⟨h, K, ⟨hl, hx⟩, hs, _⟩ := hO.uncons
  refine ⟨hl, ?_⟩
  rcases hx with hx | ⟨g, cur, T, fz, ha, hn, hc, hcl, ht, hfz, rfl⟩
  · exact .inl hx
  · refine .inr ⟨g, ha, hn, hc, fun j u hj => ?_⟩
    rw [cell_of_heap (PH.sub_one.1 hs)]
    rw [← ht, List.getElem?_take] at hj
    split at hj
    · exact hj
    · simp at hj
theorem rd_sown {W : World} {L : List HP} (i : Nat) {a : Option Addr} {n c sz : Nat} {xs vs : List Value} (hL : L[i]? = some (sown a n c sz xs)) (hv : ∀ (j : Nat) (u : Value), vs[j]? = some u → xs[j]? = some u) : Rd W L a vs := by
  intro w hO
  obtain ⟨L', hO'⟩ := hO.nth hL
  obtain ⟨hl, ⟨_, hn, _⟩ | ⟨g, ha, _, _, hc⟩⟩ := hO'.sownCells
  · left
    have hx : xs = [] := List.eq_nil_of_length_eq_zero (by rw [hl, hn]; simp)
    cases vs with
    | nil => rfl
    | cons v vs => have := hv 0 v rfl; rw [hx] at this; simp at this
  · exact .inr ⟨g, 0, ha, fun j u hj => by rw [Nat.zero_add]; exact hc j u (hv j u hj)⟩

theorem run_first {P : Program} {W w : World} {L : List HP} {a : Option Addr} {vs : List Value} {n sz l c : Nat} (hr : Rd W L a vs) (hO : Own W w L) (hl : vs.length = n * sz) :
    (Builtin.firstCells sz n (.slice a l c)).run P w = .ok vs.toArray w := by
  rcases hr w hO with rfl | ⟨b, o, rfl, h⟩
  · cases a with
    | none => simp [Builtin.firstCells]
    | some ad => simp only [Builtin.firstCells]; rw [← hl]; exact run_loadCells_list w ad ([] : List Value) (by intro j v h; simp at h)
  · simp only [Builtin.firstCells]; rw [← hl]; exact run_loadCells_list w ⟨b, o, none⟩ vs (fun j v hj => by rw [addr_add]; exact h j v hj)

section
variable {P : Program} {W : World} {n : Nat} {F : Fr} {L : List HP} {ops : Array Oper} {Q : Exit → Act → World → Prop} {rest : List Oper} {K : Act → World → Prop}
variable {d : Nat} {ty : TypeId} {pos : String} {af : Array Edge}

/- loads -/
theorem run_load_cell {w : World} {t : TypeId} [hc : Cell P t] {ad : Addr} {v : Value} (h : w.cell? ad = some v) : (loadVar t ad).run P w = .ok v w := by
  obtain ⟨dd, h1, h2⟩ := hc.h
  have hagg : (isAgg t).run P w = .ok false w := by
    unfold isAgg; rw [Sem.run_bind, run_underlying h1 w]; cases dd <;> simp_all [aggD]
  simp [loadVar, hagg, h]
theorem run_load_agg {w : World} {t sz : Nat} [hc : Agg P t sz] {ad : Addr} {vs : List Value} (hl : vs.length = sz) (h : ∀ j u, vs[j]? = some u → w.cell? (ad.add j) = some u) : (loadVar t ad).run P w = .ok (.agg vs.toArray) w := by
  obtain ⟨dd, h1, h2⟩ := hc.h
  obtain ⟨i, h3, h4⟩ := hc.s
  have hagg : (isAgg t).run P w = .ok true w := by
    unfold isAgg; rw [Sem.run_bind, run_underlying h1 w]; cases dd <;> simp_all [aggD]
  have := run_loadCells_list (P := P) w ad vs h
  rw [hl] at this
  simp [loadVar, hagg, sizeOf, typeInfo, h3, h4, this]
theorem sg_load {x : Operand} {t b o : Nat} {cs : List Value} {v : Value} (i : Nat) [Cell P t] (hL : L[i]? = some (blk b cs)) (hx : ev F x = some (.pointer (some ⟨b, o, none⟩))) (hv : cs[o]? = some v) (hd : Nat.blt d n = true)
    (h : SG W n ((d, v) :: F) L K) : SG W n F L (W1 P ops Q ⟨some d, .load t x, ty, pos, af, none⟩ K) := by
  refine sg_pure v hd (fun w hO a ha => ?_) h
  obtain ⟨L', hO'⟩ := hO.nth hL
  simp [execOp, ha.ev hx, Instr.loadAt, Instr.sureAddr, run_load_cell ((hO'.cell o).trans hv)]
theorem sg_load_agg {x : Operand} {t sz b o : Nat} {cs vs : List Value} (i : Nat) [Agg P t sz] (hL : L[i]? = some (blk b cs)) (hx : ev F x = some (.pointer (some ⟨b, o, none⟩))) (hl : vs.length = sz) (hv : ∀ j u, vs[j]? = some u → cs[o + j]? = some u) (hd : Nat.blt d n = true)
    (h : SG W n ((d, .agg vs.toArray) :: F) L K) : SG W n F L (W1 P ops Q ⟨some d, .load t x, ty, pos, af, none⟩ K) := by
  refine sg_pure _ hd (fun w hO a ha => ?_) h
  obtain ⟨L', hO'⟩ := hO.nth hL
  simp [execOp, ha.ev hx, Instr.loadAt, Instr.sureAddr, run_load_agg (P := P) (t := t) (ad := ⟨b, o, none⟩) hl (fun j u hj => by rw [addr_add, hO'.cell]; exact hv j u hj)]
theorem sg_load_rd {x : Operand} {t : Nat} {ad : Addr} {v : Value} [Cell P t] (hx : ev F x = some (.pointer (some ad))) (hr : Rd W L (some ad) [v]) (hd : Nat.blt d n = true)
    (h : SG W n ((d, v) :: F) L K) : SG W n F L (W1 P ops Q ⟨some d, .load t x, ty, pos, af, none⟩ K) := by
  refine sg_pure v hd (fun w hO a ha => ?_) h
  rcases hr w hO with hr2 | ⟨b, o, he, hr2⟩
  · simp at hr2
  · simp only [Option.some.injEq] at he
    subst he
    have := hr2 0 v (by simp)
    simp only [Nat.add_zero] at this
    simp [execOp, ha.ev hx, Instr.loadAt, Instr.sureAddr, run_load_cell this]
theorem sg_load_agg_rd {x : Operand} {t sz : Nat} {ad : Addr} {vs : List Value} [Agg P t sz] (hx : ev F x = some (.pointer (some ad))) (hl : vs.length = sz) (hr : Rd W L (some ad) vs) (hd : Nat.blt d n = true)
    (h : SG W n ((d, .agg vs.toArray) :: F) L K) : SG W n F L (W1 P ops Q ⟨some d, .load t x, ty, pos, af, none⟩ K) := by
  refine sg_pure _ hd (fun w hO a ha => ?_) h
  have hc : ∀ j u, vs[j]? = some u → w.cell? (ad.add j) = some u := by
    rcases hr w hO with hr2 | ⟨b, o, he, hr2⟩
    · intro j u hj; rw [hr2] at hj; simp at hj
    · simp only [Option.some.injEq] at he; subst he
      intro j u hj; rw [addr_add]; exact hr2 j u hj
  simp [execOp, ha.ev hx, Instr.loadAt, Instr.sureAddr, run_load_agg (P := P) (t := t) (ad := ad) hl hc]
theorem sg_rd_some {G : Act → World → Prop} {a : Option Addr} {vs : List Value} (hr : Rd W L a vs) (hne : vs ≠ []) (h : ∀ b o, a = some ⟨b, o, none⟩ → SG W n F L G) : SG W n F L G := by
  intro w hO ac ha
  rcases hr w hO with e | ⟨b, o, e, _⟩
  · exact absurd e hne
  · exact h b o e w hO ac ha
theorem sg_load_old {x : Operand} {t : Nat} {ad : Addr} {v : Value} (i : Nat) [Cell P t] (hL : L[i]? = some (old W)) (hx : ev F x = some (.pointer (some ad))) (hv : W.cell? ad = some v) (hd : Nat.blt d n = true)
    (h : SG W n ((d, v) :: F) L K) : SG W n F L (W1 P ops Q ⟨some d, .load t x, ty, pos, af, none⟩ K) :=
  sg_load_rd hx (rd_old i hL (by intro j u hj; match j, hj with | 0, hj => simp at hj; subst hj; simpa [Addr.add] using hv)) hd h
theorem sg_load_old_agg {x : Operand} {t sz : Nat} {ad : Addr} {vs : List Value} (i : Nat) [Agg P t sz] (hL : L[i]? = some (old W)) (hx : ev F x = some (.pointer (some ad))) (hl : vs.length = sz) (hv : ∀ j u, vs[j]? = some u → W.cell? (ad.add j) = some u) (hd : Nat.blt d n = true)
    (h : SG W n ((d, .agg vs.toArray) :: F) L K) : SG W n F L (W1 P ops Q ⟨some d, .load t x, ty, pos, af, none⟩ K) := by
  refine sg_pure _ hd (fun w hO a ha => ?_) h
  obtain ⟨L', hO'⟩ := hO.nth hL
  have hld := run_load_agg (P := P) (w := w) (t := t) (ad := ad) hl (fun j u hj => (World.cell?_of_block (hO'.olds _ (World.block_lt_of_cell? W _ (hv j u hj)))).trans (hv j u hj))
  simp [execOp, ha.ev hx, Instr.loadAt, Instr.sureAddr, hld]

/- stores -/
theorem run_storeVar {w : World} {t sz b o : Nat} {cs vs : List Value} {v : Value} (hs : ∃ i, P.info? t = some i ∧ i.size = sz) (hv : v.cells.toList = vs) (hl : vs.length = sz) (hfit : o + vs.length ≤ cs.length) (h1 : ∀ u ∈ vs, u.oneCell' = true)
    (hO : Own W w (blk b cs :: L)) : ∃ w', (storeVar t ⟨b, o, none⟩ v).run P w = .ok () w' ∧ Own W w' (blk b (splice cs o vs) :: L) := by
  obtain ⟨i, h3, h4⟩ := hs
  obtain ⟨w', hr, hO'⟩ := Own.storeCells (P := P) o vs 0 cs w hO (by simpa using hfit) h1
  refine ⟨w', ?_, by simpa using hO'⟩
  have hsz : v.cells.size = sz := by rw [← hl, ← hv]; simp
  simp [storeVar, sizeOf, typeInfo, h3, h4, hsz, hv, hr]
theorem splice_one (cs : List Value) (o : Nat) (v : Value) : splice cs o [v] = cs.set o v := by rw [splice_cons, splice_nil]
theorem sg_store {x y : Operand} {t b o : Nat} {cs : List Value} {v : Value} (L1 : List HP) {L2 : List HP} [hc : Cell P t] (hx : ev F x = some (.pointer (some ⟨b, o, none⟩))) (hy : ev F y = some v) (h1 : v.oneCell' = true) (ho : o < cs.length)
    (h : SG W n F (L1 ++ blk b (cs.set o v) :: L2) K) : SG W n F (L1 ++ blk b cs :: L2) (W1 P ops Q ⟨none, .store t x y, ty, pos, af, none⟩ K) := by
  refine sg_unit _ (fun w hO a ha => ?_) h
  have hvc : v.cells.toList = [v] := by cases v <;> simp_all [Value.cells, Value.oneCell']
  obtain ⟨w', hr, hO'⟩ := run_storeVar (P := P) (t := t) (b := b) (o := o) (cs := cs) hc.s hvc rfl (by simp; omega) (by simpa using h1) hO.front
  rw [splice_one] at hO'
  exact ⟨w', by simp [execOp, ha.ev hx, ha.ev hy, Instr.storeAt, Instr.sureAddr, hr], hO'.back⟩
theorem sg_store_agg {x y : Operand} {t sz b o : Nat} {cs vs : List Value} (L1 : List HP) {L2 : List HP} [hc : Agg P t sz] (hx : ev F x = some (.pointer (some ⟨b, o, none⟩))) (hy : ev F y = some (.agg vs.toArray)) (hl : vs.length = sz) (h1 : ∀ u ∈ vs, u.oneCell' = true) (ho : o + vs.length ≤ cs.length)
    (h : SG W n F (L1 ++ blk b (splice cs o vs) :: L2) K) : SG W n F (L1 ++ blk b cs :: L2) (W1 P ops Q ⟨none, .store t x y, ty, pos, af, none⟩ K) := by
  refine sg_unit _ (fun w hO a ha => ?_) h
  obtain ⟨w', hr, hO'⟩ := run_storeVar (P := P) (t := t) (b := b) (o := o) (cs := cs) (v := .agg vs.toArray) hc.s (by simp [Value.cells]) hl ho h1 hO.front
  exact ⟨w', by simp [execOp, ha.ev hx, ha.ev hy, Instr.storeAt, Instr.sureAddr, hr], hO'.back⟩

/- new blocks -/
theorem sg_alloc {t sz by_ : Nat} {z : Value} [hz : Zero P t z sz by_] (hd : Nat.blt d n = true)
    (h : ∀ b : Nat, SG W n ((d, .pointer (some ⟨b, 0, none⟩)) :: F) (blk b z.cells.toList :: L) K) : SG W n F L (W1 P ops Q ⟨some d, .alloc t, ty, pos, af, none⟩ K) := by
  obtain ⟨i, h1, h2, h3, h4, h5⟩ := hz.h
  refine sg_value (X := Nat) (fun b => .pointer (some ⟨b, 0, none⟩)) (fun b => blk b z.cells.toList :: L) (fun _ => True) hd (fun w hO a ha => ?_) (fun b _ => h b)
  exact ⟨w.heap.size, w.alloc (.cells z.cells t), by simp [execOp, Instr.alloc, zeroValue, typeInfo, h1, h2, newVar, newRow], trivial, by simpa using hO.alloc z.cells.toList t⟩
theorem sg_box {t : Nat} {x : Operand} {v : Value} (hx : ev F x = some v) (hd : Nat.blt d n = true)
    (h : ∀ b : Nat, SG W n ((d, .pointer (some ⟨b, 0, none⟩)) :: F) (blk b v.cells.toList :: L) K) : SG W n F L (W1 P ops Q ⟨some d, .box t x, ty, pos, af, none⟩ K) := by
  refine sg_value (X := Nat) (fun b => .pointer (some ⟨b, 0, none⟩)) (fun b => blk b v.cells.toList :: L) (fun _ => True) hd (fun w hO a ha => ?_) (fun b _ => h b)
  exact ⟨w.heap.size, w.alloc (.cells v.cells t), by simp [execOp, ha.ev hx, Instr.box, newVar, newRow], trivial, by simpa using hO.alloc v.cells.toList t⟩
theorem sg_build {t : Nat} {parts : List (Nat × Operand)} {cells : List Value} (hb : ∀ a : Act, Rep a n F → P.built t (parts.map fun p => (p.1, a.eval p.2)) = some cells.toArray) (hd : Nat.blt d n = true)
    (h : SG W n ((d, .agg cells.toArray) :: F) L K) : SG W n F L (W1 P ops Q ⟨some d, .build t parts.toArray, ty, pos, af, none⟩ K) := by
  refine sg_pure _ hd (fun w hO a ha => ?_) h
  have := run_build (P := P) w t (parts.map fun p => (p.1, a.eval p.2)).toArray cells.toArray (by simpa using hb a ha)
  simp [execOp, this]

/- calls -/
def TriR (W : World) {X : Type} (v : X → Value) (φ : X → Prop) (L' : X → List HP) : Ending → World → Prop := fun e w' => ∃ x, e = .returned (v x) ∧ φ x ∧ Own W w' (L' x)
def Tri (P : Program) (W : World) (f : FuncId) (args : List Value) (L : List HP) {X : Type} (v : X → Value) (φ : X → Prop) (L' : X → List HP) : Prop :=
  ∀ w, Own W w L → Calls P f args.toArray w (TriR W v φ L')
theorem run_callFunc {w : World} {f : FuncId} [hf : IsFn P f] (args : Array Value) : (callFunc f args).run P w = .ok (.enter f args) w := by
  obtain ⟨fn, h1, h2, h3⟩ := hf.h
  simp only [callFunc, Sem.run_bind, run_program, Result.andThen_ok, h1, h2, h3, Bool.false_eq_true, if_false, Sem.run_pure]
theorem sg_call {X : Type} {f : FuncId} [IsFn P f] {xs : List Operand} {vs : List Value} {ats : Array TypeId} {v : X → Value} {φ : X → Prop} {L' : X → List HP} (hC : Tri P W f vs L v φ L') (hx : evs F xs = some vs) (hd : Nat.blt d n = true)
    (h : ∀ x, φ x → SG W n ((d, v x) :: F) (L' x) K) :
    SG W n F L (W1 P ops Q ⟨some d, .call { callee := .value (.func f), args := xs.toArray, argTypes := ats }, ty, pos, af, none⟩ K) := by
  intro w hO a ha
  simp only [W1]
  rw [if_pos (by simp [Region.wanted])]
  have hargs : (#[] : Array Value) ++ xs.toArray.map a.eval ++ #[] = vs.toArray := by simp [ha.evs hx]
  simp only [Oper.wp, execOp_call_go, run_callFunc, Oper.upon_enter]
  rw [hargs]
  refine (hC w hO).mono ?_
  rintro e w' ⟨x, rfl, hφ, hO'⟩
  exact h x hφ w' hO' _ (ha.put hd _)
theorem sg_call0 {X : Type} {f : FuncId} [IsFn P f] {xs : List Operand} {vs : List Value} {ats : Array TypeId} {v : X → Value} {φ : X → Prop} {L' : X → List HP} (hC : Tri P W f vs L v φ L') (hx : evs F xs = some vs)
    (h : ∀ x, φ x → SG W n F (L' x) K) :
    SG W n F L (W1 P ops Q ⟨none, .call { callee := .value (.func f), args := xs.toArray, argTypes := ats }, ty, pos, af, none⟩ K) := by
  intro w hO a ha
  simp only [W1]
  rw [if_pos (by simp [Region.wanted])]
  have hargs : (#[] : Array Value) ++ xs.toArray.map a.eval ++ #[] = vs.toArray := by simp [ha.evs hx]
  simp only [Oper.wp, execOp_call_go, run_callFunc, Oper.upon_enter]
  rw [hargs]
  refine (hC w hO).mono ?_
  rintro e w' ⟨x, rfl, hφ, hO'⟩
  exact h x hφ w' hO' _ ha
theorem tri_enter {f : FuncId} {fn : Func} {c : Code} {args : List Value} {X : Type} {v : X → Value} {φ : X → Prop} {L' : X → List HP} (hf : P.funcs[f]? = some fn) (hb : fn.body = some c) (hn : fn.ntmps = n) (hl : Nat.ble args.length n = true)
    (hF : ∀ i u, look F i = some u → args[i]? = some u) (h : SG W n F L (WC P c (bodyPost P fn (TriR W v φ L')))) : Tri P W f args L v φ L' := by
  intro w hO
  refine calls_of_wp hf hb ?_
  subst hn
  have hle : args.length ≤ fn.ntmps := by simpa [Nat.ble_eq] using hl
  refine h w hO _ ⟨by simp; omega, rfl, fun i u hi => ?_⟩
  have := hF i u hi
  have hlt : i < args.length := (List.getElem?_eq_some_iff.1 this).1
  simp only [Array.getElem?_append, List.size_toArray, hlt, if_true, List.getElem?_toArray, this]
theorem tri_enter1 {f : FuncId} {fn : Func} {c : Code} {v0 : Value} {X : Type} {v : X → Value} {φ : X → Prop} {L' : X → List HP} (hf : P.funcs[f]? = some fn) (hb : fn.body = some c) (hn : fn.ntmps = n) (hl : Nat.ble 1 n = true)
    (h : SG W n [(0, v0)] L (WC P c (bodyPost P fn (TriR W v φ L')))) : Tri P W f [v0] L v φ L' :=
  tri_enter hf hb hn hl (fun i u hi => by simp only [look] at hi; split at hi <;> simp_all [Nat.beq_eq]) h
theorem tri_enter2 {f : FuncId} {fn : Func} {c : Code} {v0 v1 : Value} {X : Type} {v : X → Value} {φ : X → Prop} {L' : X → List HP} (hf : P.funcs[f]? = some fn) (hb : fn.body = some c) (hn : fn.ntmps = n) (hl : Nat.ble 2 n = true)
    (h : SG W n [(0, v0), (1, v1)] L (WC P c (bodyPost P fn (TriR W v φ L')))) : Tri P W f [v0, v1] L v φ L' :=
  tri_enter hf hb hn hl (fun i u hi => by simp only [look] at hi; (repeat' split at hi) <;> simp_all [Nat.beq_eq]) h
theorem tri_enter3 {f : FuncId} {fn : Func} {c : Code} {v0 v1 v2 : Value} {X : Type} {v : X → Value} {φ : X → Prop} {L' : X → List HP} (hf : P.funcs[f]? = some fn) (hb : fn.body = some c) (hn : fn.ntmps = n) (hl : Nat.ble 3 n = true)
    (h : SG W n [(0, v0), (1, v1), (2, v2)] L (WC P c (bodyPost P fn (TriR W v φ L')))) : Tri P W f [v0, v1, v2] L v φ L' :=
  tri_enter hf hb hn hl (fun i u hi => by simp only [look] at hi; (repeat' split at hi) <;> simp_all [Nat.beq_eq]) h
theorem tri_enter0 {f : FuncId} {fn : Func} {c : Code} {X : Type} {v : X → Value} {φ : X → Prop} {L' : X → List HP} (hf : P.funcs[f]? = some fn) (hb : fn.body = some c) (hn : fn.ntmps = n)
    (h : SG W n [] L (WC P c (bodyPost P fn (TriR W v φ L')))) : Tri P W f [] L v φ L' :=
  tri_enter hf hb hn (by simp) (fun i u hi => by simp [look] at hi) h
theorem ex_ret1 {fn : Func} {t : Nat} {val : Value} {X : Type} {v : X → Value} {φ : X → Prop} {L' : X → List HP} (hr : fn.results = #[.tmp t]) (hl : look F t = some val) (x : X) (hv : val = v x) (hφ : φ x) (hL : ∀ w, Own W w L → Own W w (L' x)) :
    SG W n F L (bodyPost P fn (TriR W v φ L') .ret) := by
  intro w hO a ha
  refine ⟨ha.defers, val, ?_, x, by rw [hv], hφ, hL w hO⟩
  rw [results_tmp hr]; simp [ha.get t val hl]
theorem ex_ret2 {fn : Func} {t u : Nat} {val val2 : Value} {X : Type} {v : X → Value} {φ : X → Prop} {L' : X → List HP} (hr : fn.results = #[.tmp t, .tmp u]) (hl : look F t = some val) (hl2 : look F u = some val2) (x : X) (hv : .tuple #[val, val2] = v x) (hφ : φ x) (hL : ∀ w, Own W w L → Own W w (L' x)) :
    SG W n F L (bodyPost P fn (TriR W v φ L') .ret) := by
  intro w hO a ha
  refine ⟨ha.defers, .tuple #[val, val2], ?_, x, by rw [hv], hφ, hL w hO⟩
  rw [results_tmp2 hr]; simp [ha.get t val hl, ha.get u val2 hl2]
theorem ex_ret3 {fn : Func} {t u s : Nat} {val val2 val3 : Value} {X : Type} {v : X → Value} {φ : X → Prop} {L' : X → List HP} (hr : fn.results = #[.tmp t, .tmp u, .tmp s]) (hl : look F t = some val) (hl2 : look F u = some val2) (hl3 : look F s = some val3) (x : X) (hv : .tuple #[val, val2, val3] = v x) (hφ : φ x) (hL : ∀ w, Own W w L → Own W w (L' x)) :
    SG W n F L (bodyPost P fn (TriR W v φ L') .ret) := by
  intro w hO a ha
  refine ⟨ha.defers, .tuple #[val, val2, val3], ?_, x, by rw [hv], hφ, hL w hO⟩
  rw [results_tmp3 hr]; simp [ha.get t val hl, ha.get u val2 hl2, ha.get s val3 hl3]
theorem ex_ret0 {fn : Func} {X : Type} {v : X → Value} {φ : X → Prop} {L' : X → List HP} (hr : fn.results = #[]) (x : X) (hv : .tuple #[] = v x) (hφ : φ x) (hL : ∀ w, Own W w L → Own W w (L' x)) :
    SG W n F L (bodyPost P fn (TriR W v φ L') .ret) := by
  intro w hO a ha
  exact ⟨ha.defers, .tuple #[], results_none hr _ _ _, x, by rw [hv], hφ, hL w hO⟩
theorem ex_end0 {fn : Func} {X : Type} {v : X → Value} {φ : X → Prop} {L' : X → List HP} (hr : fn.results = #[]) (x : X) (hv : .tuple #[] = v x) (hφ : φ x) (hL : ∀ w, Own W w L → Own W w (L' x)) :
    SG W n F L (bodyPost P fn (TriR W v φ L') .normal) := by
  intro w hO a ha
  exact ⟨ha.defers, .tuple #[], results_none hr _ _ _, x, by rw [hv], hφ, hL w hO⟩
/-- The contract with more chunks around it, or in another order. -/
theorem Tri.pre {f : FuncId} {args : List Value} {L0 : List HP} {X : Type} {v : X → Value} {φ : X → Prop} {L' : X → List HP} (h : Tri P W f args L0 v φ L') (hL : ∀ w, Own W w L → Own W w L0) : Tri P W f args L v φ L' := fun w hO => h w (hL w hO)

/- builtins that only look -/
theorem ps_len {x : Operand} {t e sz : Nat} {a : Option Addr} {l c : Nat} [hs : SliceT P t e sz] (hx : ev F x = some (.slice a l c))  :
    PS P n F (.call { callee := .builtin .len, args := #[x], argTypes := #[t] }) ty (.int .i64 (l : Int)) := by
  obtain ⟨i, h1, _⟩ := hs.h
  exact fun a ha w dst pos af g => by simp [execOp, resolve, invoke, builtin, Builtin.len_, run_underlying h1, ha.ev hx, goInt]
theorem ps_cap {x : Operand} {t e sz : Nat} {a : Option Addr} {l c : Nat} [hs : SliceT P t e sz] (hx : ev F x = some (.slice a l c))  :
    PS P n F (.call { callee := .builtin .cap, args := #[x], argTypes := #[t] }) ty (.int .i64 (c : Int)) := by
  obtain ⟨i, h1, _⟩ := hs.h
  exact fun a ha w dst pos af g => by simp [execOp, resolve, invoke, builtin, Builtin.cap_, run_underlying h1, ha.ev hx, goInt]
theorem ps_len_str {x : Operand} {t : Nat} {s : ByteArray} [hs : IsT P t .string] (hx : ev F x = some (.string s))  :
    PS P n F (.call { callee := .builtin .len, args := #[x], argTypes := #[t] }) ty (.int .i64 (s.size : Int)) := by
  exact fun a ha w dst pos af g => by simp [execOp, resolve, invoke, builtin, Builtin.len_, run_underlying hs.h, ha.ev hx, goInt]
end
end Go.Proofs.Ytclehoaeppbmpaa
