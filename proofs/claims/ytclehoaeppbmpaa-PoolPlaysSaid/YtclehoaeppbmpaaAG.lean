/- Structs in memory as wholes; results that stand in cells; function values. -/
import Derived.Test.YtclehoaeppbmpaaDR3
import Derived.Test.YtclehoaeppbmpaaTY
namespace Go.Proofs.Ytclehoaeppbmpaa
set_option linter.unusedVariables false
set_option linter.unusedSimpArgs false
set_option linter.unusedSectionVars false
set_option linter.unnecessarySimpa false
open Go
section
variable {P : Program} [BS P] {W : World} {n : Nat} {F : Fr} {L LR : List HP} {ops : Array Oper} {Q : Exit → Act → World → Prop} {K : Act → World → Prop} {l : List Oper} {π : List Nat} {i : Nat}
variable {d : Nat} {ty : TypeId} {pos : String} {af : Array Edge}
omit [BS P] in
theorem sg_load_whole {x : Operand} {t sz b : Nat} {cs : List Value} (i : Nat) [Agg P t sz] (hL : L[i]? = some (blk b cs)) (hx : ev F x = some (.pointer (some ⟨b, 0, none⟩))) (hl : cs.length = sz) (hd : Nat.blt d n = true)
    (h : SG W n ((d, .agg cs.toArray) :: F) L K) : SG W n F L (W1 P ops Q ⟨some d, .load t x, ty, pos, af, none⟩ K) :=
  sg_load_agg i hL hx hl (fun j u hj => by rw [Nat.zero_add]; exact hj) hd h
def allOne : List Value → Bool
  | [] => true
  | v :: vs => v.oneCell' && allOne vs
theorem allOne_spec : ∀ {vs : List Value}, allOne vs = true → ∀ u ∈ vs, u.oneCell' = true
  | v :: vs, h, u, hu => by
    simp only [allOne, Bool.and_eq_true] at h
    rcases List.mem_cons.1 hu with rfl | hu
    · exact h.1
    · exact allOne_spec h.2 u hu
omit [BS P] in
theorem sg_store_whole {x y : Operand} {t sz b : Nat} {cs vs : List Value} (L1 : List HP) {L2 : List HP} [hc : Agg P t sz] (hx : ev F x = some (.pointer (some ⟨b, 0, none⟩))) (hy : ev F y = some (.agg vs.toArray)) (hl : vs.length = sz) (h1 : allOne vs = true) (ho : cs.length = vs.length)
    (h : SG W n F (L1 ++ blk b vs :: L2) K) : SG W n F (L1 ++ blk b cs :: L2) (W1 P ops Q ⟨none, .store t x y, ty, pos, af, none⟩ K) := by
  refine sg_store_agg L1 hx hy hl (allOne_spec h1) (by omega) ?_
  rw [splice_full _ _ ho.symm]
  exact h
/- in regions that draw their order -/
theorem sk_load_agg_rd {t sz : Nat} {x : Operand} {ad : Addr} {vs : List Value} [Agg P t sz] (hi : l[i]? = some ⟨some d, .load t x, ty, pos, af, none⟩) (hx : ev F x = some (.pointer (some ad))) (hl : vs.length = sz) (hLR : ∀ w, Own W w L → Own W w LR) (hr : Rd W LR (some ad) vs) (hd : Nat.blt d n = true) (h : SG W n ((d, .agg vs.toArray) :: F) L (WK P l.toArray Q (fun w => Own W w LR) π)) :
    SG W n F L (WK P l.toArray Q (fun w => Own W w LR) (i :: π)) := by
  intro w hO a ha
  simp only [WK, List.getElem?_toArray, hi]
  rw [if_neg (by simp [kindOf]), if_pos (by rfl)]
  have key : ∀ w', Own W w' LR → ∀ j u, vs[j]? = some u → w'.cell? (ad.add j) = some u := by
    intro w' hO' j u hj
    rcases hr w' hO' with he | ⟨b, o, he, hc⟩
    · rw [he] at hj; simp at hj
    · simp only [Option.some.injEq] at he; subst he
      rw [addr_add]; exact hc j u hj
  refine ⟨.agg vs.toArray, vs.zipIdx.map (fun p => (ad.add p.2, p.1)), .inl ⟨by simp [Region.wanted], fun w hw => ?_⟩, ?_, h w hO _ (ha.put hd _)⟩
  · have hc : ∀ j u, vs[j]? = some u → w.cell? (ad.add j) = some u := fun j u hj => hw (ad.add j, u) (by rw [List.mem_map]; exact ⟨(u, j), by rw [List.mem_zipIdx_iff_getElem?]; exact hj, rfl⟩)
    simp [execOp, ha.ev hx, Instr.loadAt, Instr.sureAddr, run_load_agg (P := P) (t := t) (ad := ad) hl hc]
  · intro w' hO' p hp
    rw [List.mem_map] at hp
    obtain ⟨⟨u, j⟩, hq, rfl⟩ := hp
    exact key w' hO' j u (by simpa [List.mem_zipIdx_iff_getElem?] using hq)
theorem sk_load_whole {t sz b : Nat} {x : Operand} {cs : List Value} (k : Nat) [Agg P t sz] (hi : l[i]? = some ⟨some d, .load t x, ty, pos, af, none⟩) (hL : LR[k]? = some (blk b cs)) (hx : ev F x = some (.pointer (some ⟨b, 0, none⟩))) (hl : cs.length = sz) (hLR : ∀ w, Own W w L → Own W w LR) (hd : Nat.blt d n = true) (h : SG W n ((d, .agg cs.toArray) :: F) L (WK P l.toArray Q (fun w => Own W w LR) π)) :
    SG W n F L (WK P l.toArray Q (fun w => Own W w LR) (i :: π)) :=
  sk_load_agg_rd hi hx hl hLR (rd_blk k hL (fun j u hj => by rw [Nat.zero_add]; exact hj)) hd h
/- function values -/
omit [BS P] in
theorem sg_callv {X : Type} {f : FuncId} [IsFn P f] {x : Operand} {xs : List Operand} {vs : List Value} {ats : Array TypeId} {v : X → Value} {φ : X → Prop} {L' : X → List HP} (hf : ev F x = some (.func (.func f) #[] #[])) (hC : Tri P W f vs L v φ L') (hx : evs F xs = some vs) (hd : Nat.blt d n = true)
    (h : ∀ x, φ x → SG W n ((d, v x) :: F) (L' x) K) :
    SG W n F L (W1 P ops Q ⟨some d, .call { callee := .value x, args := xs.toArray, argTypes := ats }, ty, pos, af, none⟩ K) := by
  intro w hO a ha
  simp only [W1]
  rw [if_pos (by simp [Region.wanted])]
  have hex : execOp a.eval { dst := some d, op := .call { callee := .value x, args := xs.toArray, argTypes := ats }, type := ty, pos, after := af, guard := none } = callFunc f (#[] ++ xs.toArray.map a.eval ++ #[]) := by
    simp only [execOp, resolve, ha.ev hf, Deferred.ofValue]
    rfl
  have hargs : (#[] : Array Value) ++ xs.toArray.map a.eval ++ #[] = vs.toArray := by simp [ha.evs hx]
  simp only [Oper.wp, hex, run_callFunc, Oper.upon_enter]
  rw [hargs]
  refine (hC w hO).mono ?_
  rintro e w' ⟨x, rfl, hφ, hO'⟩
  exact h x hφ w' hO' _ (ha.put hd _)
/- results in cells -/
omit [BS P] in
theorem run_cell_res {w : World} {t sz b : Nat} {cs : List Value} [Agg P t sz] (k : Nat) (hO : Own W w L) (hL : L[k]? = some (blk b cs)) (hl : cs.length = sz) :
    (loadVar t ⟨b, 0, none⟩).run P w = .ok (.agg cs.toArray) w := by
  obtain ⟨L', hO'⟩ := hO.nth hL
  exact run_load_agg (P := P) (t := t) (ad := ⟨b, 0, none⟩) hl (fun j u hj => by rw [addr_add, Nat.zero_add, hO'.cell]; exact hj)
omit [BS P] in
theorem ex_retc_any {fn : Func} {t s sz b : Nat} {cs : List Value} {X : Type} {v : X → Value} {φ : X → Prop} {L' : X → List HP} [Agg P s sz] (k : Nat) (hr : fn.results = #[.cell t s]) (hl : look F t = some (.pointer (some ⟨b, 0, none⟩))) (hk : L[k]? = some (blk b cs)) (hc : cs.length = sz)
    (x : X) (hv : .agg cs.toArray = v x) (hφ : φ x) (hL : ∀ w, Own W w L → Own W w (L' x)) : ∀ w, Own W w L → ∀ a, Rep a n F → a.defers = [] ∧ ∃ v', (results fn a.tmps).run P w = .ok v' w ∧ TriR W v φ L' (.returned v') w := by
  intro w hO a ha
  refine ⟨ha.defers, .agg cs.toArray, ?_, x, by rw [hv], hφ, hL w hO⟩
  have := run_cell_res (P := P) (t := s) k hO hk hc
  simp [results, hr, ha.get t _ hl, asAddr, this]
omit [BS P] in
theorem ex_retc {fn : Func} {t s sz b : Nat} {cs : List Value} {X : Type} {v : X → Value} {φ : X → Prop} {L' : X → List HP} [Agg P s sz] (k : Nat) (hr : fn.results = #[.cell t s]) (hl : look F t = some (.pointer (some ⟨b, 0, none⟩))) (hk : L[k]? = some (blk b cs)) (hc : cs.length = sz)
    (x : X) (hv : .agg cs.toArray = v x) (hφ : φ x) (hL : ∀ w, Own W w L → Own W w (L' x)) : SG W n F L (bodyPost P fn (TriR W v φ L') .ret) := fun w hO a ha => ex_retc_any k hr hl hk hc x hv hφ hL w hO a ha
omit [BS P] in
theorem ex_retcc {fn : Func} {t s sz b t2 s2 sz2 b2 : Nat} {cs cs2 : List Value} {X : Type} {v : X → Value} {φ : X → Prop} {L' : X → List HP} [Agg P s sz] [Agg P s2 sz2] (k k2 : Nat) (hr : fn.results = #[.cell t s, .cell t2 s2]) (hl : look F t = some (.pointer (some ⟨b, 0, none⟩))) (hl2 : look F t2 = some (.pointer (some ⟨b2, 0, none⟩)))
    (hk : L[k]? = some (blk b cs)) (hk2 : L[k2]? = some (blk b2 cs2)) (hc : cs.length = sz) (hc2 : cs2.length = sz2)
    (x : X) (hv : .tuple #[.agg cs.toArray, .agg cs2.toArray] = v x) (hφ : φ x) (hL : ∀ w, Own W w L → Own W w (L' x)) : SG W n F L (bodyPost P fn (TriR W v φ L') .ret) := by
  intro w hO a ha
  refine ⟨ha.defers, .tuple #[.agg cs.toArray, .agg cs2.toArray], ?_, x, by rw [hv], hφ, hL w hO⟩
  have h1 := run_cell_res (P := P) (t := s) k hO hk hc
  have h2 := run_cell_res (P := P) (t := s2) k2 hO hk2 hc2
  simp [results, hr, ha.get t _ hl, ha.get t2 _ hl2, asAddr, h1, h2]
end
class FnT (P : Program) (t : TypeId) : Prop where
  h : ∃ a b c, P.underlying t = some (.func a b c)
section
variable {P : Program}
instance (t : TypeId) [hf : FnT P t] : BinR P .eql t .nilFunc .nilFunc (.bool true) := ⟨fun w _ _ => by
  obtain ⟨a, b, c, h⟩ := hf.h
  have hu := run_underlying h
  simp [eqGuard, binOp, Op.equal, Op.maxDepth]; rw [Op.equalIn]; simp [hu]⟩
instance (t : TypeId) (f : Fn) (cs ds : Array Value) [hf : FnT P t] : BinR P .eql t (.func f cs ds) .nilFunc (.bool false) := ⟨fun w _ _ => by
  obtain ⟨a, b, c, h⟩ := hf.h
  have hu := run_underlying h
  simp [eqGuard, binOp, Op.equal, Op.maxDepth]; rw [Op.equalIn]; simp [hu]⟩
end
end Go.Proofs.Ytclehoaeppbmpaa
