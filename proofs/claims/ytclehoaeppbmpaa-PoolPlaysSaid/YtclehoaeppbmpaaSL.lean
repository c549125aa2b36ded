/- Heaps in part, lists of chunks (a chunk is a predicate on such a heap), ownership of a world by a list of disjoint chunks. -/
import Derived.WalkKit
namespace Go.Proofs.Ytclehoaeppbmpaa
set_option linter.unusedVariables false
set_option linter.unusedSimpArgs false
set_option linter.unusedSectionVars false
set_option linter.unnecessarySimpa false
open Go

abbrev PH := Nat → Option Obj
abbrev HP := PH → Prop

def PH.sub (h : PH) (w : World) : Prop := ∀ b o, h b = some o → w.heap[b]? = some o
def PH.disj (h k : PH) : Prop := ∀ b, h b = none ∨ k b = none
def PH.one (b : Nat) (o : Obj) : PH := fun c => if c = b then some o else none
theorem PH.disj.symm {h k : PH} (d : PH.disj h k) : PH.disj k h := fun b => (d b).symm
theorem PH.one_self (b : Nat) (o : Obj) : PH.one b o b = some o := by simp [PH.one]
theorem PH.one_other {b c : Nat} (o : Obj) (hc : c ≠ b) : PH.one b o c = none := by simp [PH.one, hc]
theorem PH.sub.lt {h : PH} {w : World} (hs : PH.sub h w) {b : Nat} (hb : w.heap.size ≤ b) : h b = none := by
  cases e : h b with
  | none => rfl
  | some o =>
    have := hs b o e
    have hlt := (Array.getElem?_eq_some_iff.1 this).1
    omega
theorem PH.sub_one {b : Nat} {o : Obj} {w : World} : PH.sub (PH.one b o) w ↔ w.heap[b]? = some o := by
  constructor
  · intro h; exact h b o (PH.one_self b o)
  · intro h c p hc
    unfold PH.one at hc
    split at hc
    · rename_i e; subst e; simp at hc; rw [← hc]; exact h
    · simp at hc

def Sat (w : World) (K : List (HP × PH)) : Prop :=
  (∀ x ∈ K, x.1 x.2 ∧ PH.sub x.2 w) ∧ K.Pairwise (fun x y => PH.disj x.2 y.2)

structure Own (W w : World) (L : List HP) : Prop where
  os : w.os = W.os
  tape : w.tape = W.tape
  output : w.output = W.output
  sat : ∃ K, K.map (·.1) = L ∧ Sat w K

def pick {α : Type} (idx : List Nat) (L : List α) : List α := idx.filterMap (fun i => L[i]?)

theorem Own.pick {W w : World} {L : List HP} (hO : Own W w L) (idx : List Nat) (hn : idx.Nodup) : Own W w (pick idx L) := by
  obtain ⟨K, rfl, hs, hp⟩ := hO.sat
  refine ⟨hO.os, hO.tape, hO.output, idx.filterMap (fun i => K[i]?), ?_, ?_, ?_⟩
  · simp only [Ytclehoaeppbmpaa.pick, List.map_filterMap, List.getElem?_map]
  · intro x hx
    obtain ⟨i, _, hi⟩ := List.mem_filterMap.1 hx
    exact hs x (List.mem_of_getElem? hi)
  · rw [List.pairwise_filterMap]
    refine hn.imp ?_
    intro i j hij x hx y hy
    have hx' := List.getElem?_eq_some_iff.1 hx
    have hy' := List.getElem?_eq_some_iff.1 hy
    obtain ⟨hi, rfl⟩ := hx'
    obtain ⟨hj, rfl⟩ := hy'
    have hpp := List.pairwise_iff_getElem.1 hp
    rcases Nat.lt_or_gt_of_ne hij with h | h
    · exact hpp i j hi hj h
    · exact (hpp j i hj hi h).symm

/-- Out of the head chunk its very heap. -/
theorem Own.uncons {W w : World} {p : HP} {L : List HP} (hO : Own W w (p :: L)) :
    ∃ h K, p h ∧ PH.sub h w ∧ K.map (·.1) = L ∧ Sat w K ∧ ∀ x ∈ K, PH.disj h x.2 := by
  obtain ⟨K, hK, hs, hp⟩ := hO.sat
  match K, hK with
  | (p', h) :: K, hK =>
    simp only [List.map_cons, List.cons.injEq] at hK
    obtain ⟨rfl, rfl⟩ := hK
    have h0 := hs (p', h) (by simp)
    rw [List.pairwise_cons] at hp
    exact ⟨h, K, h0.1, h0.2, rfl, ⟨fun x hx => hs x (by simp [hx]), hp.2⟩, fun x hx => hp.1 x hx⟩

theorem Own.cons {W w : World} {p : HP} {L : List HP} {h : PH} {K : List (HP × PH)} (ho : w.os = W.os) (ht : w.tape = W.tape) (hu : w.output = W.output)
    (hp : p h) (hs : PH.sub h w) (hK : K.map (·.1) = L) (hS : Sat w K) (hd : ∀ x ∈ K, PH.disj h x.2) : Own W w (p :: L) := by
  refine ⟨ho, ht, hu, (p, h) :: K, by simp [hK], ?_, ?_⟩
  · intro x hx
    rcases List.mem_cons.1 hx with rfl | hx
    · exact ⟨hp, hs⟩
    · exact hS.1 x hx
  · rw [List.pairwise_cons]; exact ⟨fun x hx => hd x hx, hS.2⟩

theorem Own.imp {W w : World} {p q : HP} {L : List HP} (hO : Own W w (p :: L)) (hpq : ∀ h, p h → q h) : Own W w (q :: L) := by
  obtain ⟨h, K, hp, hs, hK, hS, hd⟩ := hO.uncons
  exact .cons hO.os hO.tape hO.output (hpq h hp) hs hK hS hd

/-- The world has turned: the head chunk is another now, all other old blocks are as they were. -/
theorem Own.change {W w w' : World} {p q : HP} {L : List HP} (hO : Own W w (p :: L)) (ho : w'.os = w.os) (ht : w'.tape = w.tape) (hu : w'.output = w.output)
    (H : ∀ h, p h → PH.sub h w → ∃ h', q h' ∧ PH.sub h' w' ∧ ∀ b, h b = none → b < w.heap.size → h' b = none ∧ w'.heap[b]? = w.heap[b]?) : Own W w' (q :: L) := by
  obtain ⟨h, K, hp, hs, hK, hS, hd⟩ := hO.uncons
  obtain ⟨h', hq, hs', hH⟩ := H h hp hs
  refine .cons (ho.trans hO.os) (ht.trans hO.tape) (hu.trans hO.output) hq hs' hK ⟨?_, hS.2⟩ ?_
  · intro x hx
    refine ⟨(hS.1 x hx).1, ?_⟩
    intro b o hb
    have hw := (hS.1 x hx).2 b o hb
    have hlt := (Array.getElem?_eq_some_iff.1 hw).1
    have hn : h b = none := by rcases hd x hx b with h1 | h1; exact h1; rw [h1] at hb; simp at hb
    rw [(hH b hn hlt).2]; exact hw
  · intro x hx b
    cases e : x.2 b with
    | none => exact .inr rfl
    | some o =>
      have hw := (hS.1 x hx).2 b o e
      have hlt := (Array.getElem?_eq_some_iff.1 hw).1
      have hn : h b = none := by rcases hd x hx b with h1 | h1; exact h1; rw [h1] at e; simp at e
      exact .inl (hH b hn hlt).1

/-- A world with more blocks, all old ones as they were: what is owned is owned. -/
theorem Own.grow {W w w' : World} {L : List HP} (hO : Own W w L) (ho : w'.os = w.os) (ht : w'.tape = w.tape) (hu : w'.output = w.output)
    (hb : ∀ b, b < w.heap.size → w'.heap[b]? = w.heap[b]?) : Own W w' L := by
  obtain ⟨K, hK, hs, hp⟩ := hO.sat
  refine ⟨ho.trans hO.os, ht.trans hO.tape, hu.trans hO.output, K, hK, ?_, hp⟩
  intro x hx
  refine ⟨(hs x hx).1, fun b o e => ?_⟩
  have hw := (hs x hx).2 b o e
  rw [hb b (Array.getElem?_eq_some_iff.1 hw).1]; exact hw

/-- A chunk of new blocks alone. -/
theorem Own.push {W w w' : World} {p : HP} {L : List HP} (hO : Own W w L) (ho : w'.os = w.os) (ht : w'.tape = w.tape) (hu : w'.output = w.output)
    (hb : ∀ b, b < w.heap.size → w'.heap[b]? = w.heap[b]?) {h : PH} (hp : p h) (hs : PH.sub h w') (hn : ∀ b, b < w.heap.size → h b = none) : Own W w' (p :: L) := by
  obtain ⟨K, hK, hS⟩ := hO.sat
  obtain ⟨K', hK', hS'⟩ := (hO.grow ho ht hu hb).sat
  refine .cons (ho.trans hO.os) (ht.trans hO.tape) (hu.trans hO.output) hp hs hK ⟨?_, hS.2⟩ ?_
  · intro x hx
    refine ⟨(hS.1 x hx).1, fun b o e => ?_⟩
    have hw := (hS.1 x hx).2 b o e
    rw [hb b (Array.getElem?_eq_some_iff.1 hw).1]; exact hw
  · intro x hx b
    cases e : x.2 b with
    | none => exact .inr rfl
    | some o =>
      have hw := (hS.1 x hx).2 b o e
      exact .inl (hn b (Array.getElem?_eq_some_iff.1 hw).1)

/-- Several chunks as one. -/
def sepL (L : List HP) : HP := fun h => ∃ K : List (HP × PH), K.map (·.1) = L ∧ (∀ x ∈ K, x.1 x.2) ∧ K.Pairwise (fun x y => PH.disj x.2 y.2) ∧
  ∀ x ∈ K, ∀ b o, x.2 b = some o → h b = some o

theorem Own.split {W w : World} {L1 L : List HP} (hO : Own W w (sepL L1 :: L)) : Own W w (L1 ++ L) := by
  obtain ⟨h, K, ⟨K1, hK1, h1, h2, h3⟩, hs, hK, hS, hd⟩ := hO.uncons
  refine ⟨hO.os, hO.tape, hO.output, K1 ++ K, by simp [hK1, hK], ?_, ?_⟩
  · intro x hx
    rcases List.mem_append.1 hx with hx | hx
    · exact ⟨h1 x hx, fun b o e => hs b o (h3 x hx b o e)⟩
    · exact hS.1 x hx
  · rw [List.pairwise_append]
    refine ⟨h2, hS.2, fun x hx y hy b => ?_⟩
    cases e : x.2 b with
    | none => exact .inl rfl
    | some o =>
      have := h3 x hx b o e
      rcases hd y hy b with h4 | h4
      · rw [h4] at this; simp at this
      · exact .inr h4

theorem map_append_inv {α β : Type} (f : α → β) : ∀ (K : List α) (L1 L2 : List β), K.map f = L1 ++ L2 → ∃ K1 K2, K = K1 ++ K2 ∧ K1.map f = L1 ∧ K2.map f = L2
  | K, [], L2, h => ⟨[], K, rfl, rfl, h⟩
  | [], _ :: _, _, h => by simp at h
  | k :: K, l :: L1, L2, h => by
    simp only [List.map_cons, List.cons_append, List.cons.injEq] at h
    obtain ⟨K1, K2, h1, h2, h3⟩ := map_append_inv f K L1 L2 h.2
    exact ⟨k :: K1, K2, by simp [h1], by simp [h2, h.1], h3⟩

theorem Own.join {W w : World} {L1 L : List HP} (hO : Own W w (L1 ++ L)) : Own W w (sepL L1 :: L) := by
  obtain ⟨K, hK, hs, hp⟩ := hO.sat
  obtain ⟨K1, K2, rfl, h1, h2⟩ := map_append_inv _ _ _ _ hK
  rw [List.pairwise_append] at hp
  obtain ⟨p1, p2, p3⟩ := hp
  have hfind : ∀ x ∈ K1, ∀ b o, x.2 b = some o → K1.findSome? (fun y => y.2 b) = some o := by
    intro x hx b o e
    cases hf : K1.findSome? (fun y => y.2 b) with
    | none => rw [List.findSome?_eq_none_iff] at hf; rw [hf x hx] at e; simp at e
    | some o' =>
      obtain ⟨y, hy, hy'⟩ := List.exists_of_findSome?_eq_some hf
      have ex := (hs x (by simp [hx])).2 b o e
      have ey := (hs y (by simp [hy])).2 b o' hy'
      rw [ex] at ey; exact ey.symm
  refine .cons (h := fun b => K1.findSome? (fun x => x.2 b)) (K := K2) hO.os hO.tape hO.output ⟨K1, h1, fun x hx => (hs x (by simp [hx])).1, p1, hfind⟩ ?_ h2 ⟨fun x hx => hs x (by simp [hx]), p2⟩ ?_
  · intro b o e
    obtain ⟨y, hy, hy'⟩ := List.exists_of_findSome?_eq_some e
    exact (hs y (by simp [hy])).2 b o hy'
  · intro x hx b
    cases e : K1.findSome? (fun y => y.2 b) with
    | none => exact .inl e
    | some o =>
      obtain ⟨y, hy, hy'⟩ := List.exists_of_findSome?_eq_some e
      rcases p3 y hy x hx b with h4 | h4
      · rw [h4] at hy'; simp at hy'
      · exact .inr h4

/-- All that was there at the base world. -/
def old (W : World) : HP := fun h => h = fun b => W.heap[b]?

theorem Own.start (W : World) : Own W W [old W] :=
  .cons (h := fun b => W.heap[b]?) (K := []) rfl rfl rfl rfl (fun _ _ h => h) rfl ⟨by simp, by simp⟩ (by simp)

theorem Own.olds {W w : World} {L : List HP} (hO : Own W w (old W :: L)) : ∀ b, b < W.heap.size → w.heap[b]? = W.heap[b]? := by
  intro b hb
  obtain ⟨h, K, hp, hs, _⟩ := hO.uncons
  have e : h = fun b => W.heap[b]? := hp
  subst e
  have := hs b W.heap[b] (by simp [hb])
  rw [this]; simp [hb]

theorem Own.size {W w : World} {L : List HP} (hO : Own W w (old W :: L)) : W.heap.size ≤ w.heap.size := by
  rcases Nat.lt_or_ge w.heap.size W.heap.size with h | h
  · have := hO.olds w.heap.size h
    rw [Array.getElem?_eq_none (Nat.le_refl _)] at this
    rw [Array.getElem?_eq_getElem h] at this
    simp at this
  · exact h

theorem Own.below {W w : World} {L : List HP} (hO : Own W w (old W :: L)) : Go.RowKit.Below W.heap.size W w :=
  ⟨hO.os, hO.tape, hO.output, hO.size, fun k hk => hO.olds k hk⟩

theorem Own.drew {W w : World} {L : List HP} (hO : Own W w L) : Own W w.drew L := hO.grow rfl rfl rfl fun _ _ => rfl

def thawed (fz : Nat × Nat) (n : Nat) : Prop := fz.1 = fz.2 ∨ n ≤ fz.1
theorem thawed.not {fz : Nat × Nat} {n : Nat} (h : thawed fz n) : ∀ i, i < n → ¬ (fz.1 ≤ i ∧ i < fz.2) := by
  intro i hi; rcases h with h | h <;> omega
/-- One block of cells, none of them frozen. -/
def blk (b : Nat) (cs : List Value) : HP := fun h => ∃ T fz, thawed fz cs.length ∧ h = PH.one b (.cells cs.toArray T fz)

theorem Own.blkAt {W w : World} {b : Nat} {cs : List Value} {L : List HP} (hO : Own W w (blk b cs :: L)) :
    ∃ T fz, thawed fz cs.length ∧ w.heap[b]? = some (.cells cs.toArray T fz) := by
  obtain ⟨h, K, ⟨T, fz, ht, rfl⟩, hs, _⟩ := hO.uncons
  exact ⟨T, fz, ht, PH.sub_one.1 hs⟩

theorem cell_of_heap {w : World} {b o : Nat} {cs : List Value} {T : TypeId} {fz : Nat × Nat} (h : w.heap[b]? = some (.cells cs.toArray T fz)) :
    w.cell? ⟨b, o, none⟩ = cs[o]? := by simp [World.cell?, h]

theorem Own.cell {W w : World} {b : Nat} {cs : List Value} {L : List HP} (hO : Own W w (blk b cs :: L)) (o : Nat) : w.cell? ⟨b, o, none⟩ = cs[o]? := by
  obtain ⟨T, fz, _, h⟩ := hO.blkAt
  exact cell_of_heap h

theorem Own.fro {W w : World} {b : Nat} {cs : List Value} {L : List HP} (hO : Own W w (blk b cs :: L)) {o : Nat} (ho : o < cs.length) : w.frozen? ⟨b, o, none⟩ = false := by
  obtain ⟨T, fz, ht, h⟩ := hO.blkAt
  have := ht.not o ho
  simp only [World.frozen?, h]
  simp only [Bool.and_eq_false_iff, decide_eq_false_iff_not]
  by_cases h1 : fz.1 ≤ o
  · right; intro h2; exact this ⟨h1, h2⟩
  · left; exact h1

theorem Own.setCell {W w : World} {b : Nat} {cs : List Value} {L : List HP} (hO : Own W w (blk b cs :: L)) (o : Nat) (v : Value) :
    Own W (w.setCell ⟨b, o, none⟩ v) (blk b (cs.set o v) :: L) := by
  refine hO.change rfl rfl rfl ?_
  rintro h ⟨T, fz, ht, rfl⟩ hs
  have hb := PH.sub_one.1 hs
  refine ⟨PH.one b (.cells (cs.set o v).toArray T fz), ⟨T, fz, by simpa using ht, rfl⟩, ?_, ?_⟩
  · rw [PH.sub_one]
    simp [World.setCell, Array.getElem?_modify, hb]
  · intro c hc _
    have hcb : c ≠ b := by rintro rfl; rw [PH.one_self] at hc; simp at hc
    refine ⟨PH.one_other _ hcb, ?_⟩
    simp only [World.setCell, Array.getElem?_modify]
    rw [if_neg (fun e => hcb e.symm)]

theorem Own.alloc {W w : World} {L : List HP} (hO : Own W w L) (cs : List Value) (T : TypeId) : Own W (w.alloc (.cells cs.toArray T)) (blk w.heap.size cs :: L) := by
  refine hO.push (h := PH.one w.heap.size (.cells cs.toArray T)) rfl rfl rfl (fun b hb => Go.RowKit.Below.heap_alloc w _ b hb) ⟨T, (0, 0), .inl rfl, rfl⟩ ?_ ?_
  · rw [PH.sub_one]; exact heap_alloc_new w _
  · intro b hb; exact PH.one_other _ (by omega)

/-- cs with vs written over it from o on -/
def splice : List Value → Nat → List Value → List Value
  | cs, 0, [] => cs
  | [], 0, _ :: _ => []
  | _ :: cs, 0, v :: vs => v :: splice cs 0 vs
  | [], _ + 1, _ => []
  | c :: cs, o + 1, vs => c :: splice cs o vs
theorem splice_nil (cs : List Value) (o : Nat) : splice cs o [] = cs := by
  induction cs generalizing o with
  | nil => cases o <;> rfl
  | cons c cs ih => cases o with
    | zero => rfl
    | succ o => simp [splice, ih]
theorem splice_cons (cs : List Value) (o : Nat) (v : Value) (vs : List Value) : splice cs o (v :: vs) = splice (cs.set o v) (o + 1) vs := by
  induction cs generalizing o with
  | nil => cases o <;> simp [splice]
  | cons c cs ih => cases o with
    | zero => simp [splice]
    | succ o => simp [splice, ih]
theorem splice_eq (cs : List Value) (o : Nat) (vs : List Value) (h : o + vs.length ≤ cs.length) : splice cs o vs = cs.take o ++ vs ++ cs.drop (o + vs.length) := by
  induction cs generalizing o vs with
  | nil =>
    have e1 : vs = [] := List.eq_nil_of_length_eq_zero (by simp only [List.length_nil] at h; omega)
    have e2 : o = 0 := by simp only [List.length_nil] at h; omega
    subst_vars; rfl
  | cons c cs ih => cases o with
    | zero =>
      cases vs with
      | nil => rfl
      | cons v vs => simp only [splice]; rw [ih 0 vs (by simp only [List.length_cons] at h; omega)]; simp
    | succ o =>
      simp only [splice]
      rw [ih o vs (by simp at h ⊢; omega)]
      simp only [List.take_succ_cons, List.cons_append]
      rw [show o + 1 + vs.length = (o + vs.length) + 1 from by omega, List.drop_succ_cons]
@[simp] theorem splice_length (cs : List Value) (o : Nat) (vs : List Value) : (splice cs o vs).length = cs.length := by
  induction vs generalizing cs o with
  | nil => rw [splice_nil]
  | cons v vs ih => rw [splice_cons, ih]; simp

theorem Own.storeCells {P : Program} {W : World} {b : Nat} {L : List HP} (o : Nat) : ∀ (vs : List Value) (i : Nat) (cs : List Value) (w : World), Own W w (blk b cs :: L) →
    o + i + vs.length ≤ cs.length → (∀ v ∈ vs, v.oneCell' = true) →
    ∃ w', (Go.storeCells ⟨b, o, none⟩ vs i).run P w = .ok () w' ∧ Own W w' (blk b (splice cs (o + i) vs) :: L)
  | [], i, cs, w, hO, _, _ => ⟨w, rfl, by rw [splice_nil]; exact hO⟩
  | v :: vs, i, cs, w, hO, hl, h1 => by
    simp only [List.length_cons] at hl
    have hadd : (⟨b, o, none⟩ : Addr).add i = ⟨b, o + i, none⟩ := by unfold Addr.add; split <;> simp_all
    have hst : (Go.store ((⟨b, o, none⟩ : Addr).add i) v).run P w = .ok () (w.setCell ⟨b, o + i, none⟩ v) := by
      rw [hadd, run_store P w _ v _ (h1 v (by simp)), hO.cell (o + i), hO.fro (by omega : o + i < cs.length)]
      rw [List.getElem?_eq_getElem (by omega : o + i < cs.length)]
      simp
    obtain ⟨w', hr, hO'⟩ := Own.storeCells (P := P) o vs (i + 1) (cs.set (o + i) v) _ (hO.setCell (o + i) v) (by simp; omega) (fun x hx => h1 x (by simp [hx]))
    refine ⟨w', ?_, ?_⟩
    · simp only [Go.storeCells, Sem.run_bind, hst, Result.andThen_ok, hr]
    · rw [splice_cons]; exact hO'

end Go.Proofs.Ytclehoaeppbmpaa
