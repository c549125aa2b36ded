/- Chunks in another order; structs built; small laws on lists of cells. -/
import Derived.Test.YtclehoaeppbmpaaDR
namespace Go.Proofs.Ytclehoaeppbmpaa
set_option linter.unusedVariables false
set_option linter.unusedSimpArgs false
set_option linter.unusedSectionVars false
set_option linter.unnecessarySimpa false
open Go

theorem Own.tail {W w : World} {p : HP} {L : List HP} (hO : Own W w (p :: L)) : Own W w L := hO.sownDrop
theorem Rd.mono {W : World} {L : List HP} {p : HP} {a : Option Addr} {vs : List Value} (h : Rd W L a vs) : Rd W (p :: L) a vs := fun w hO => h w hO.tail
section
variable {W : World} {n : Nat} {F : Fr} {L : List HP} {G : Act → World → Prop}
theorem Own.front1 {W w : World} {L : List HP} {x0 p : HP} (hO : Own W w (x0 :: p :: L)) : Own W w (p :: x0 :: L) := Own.front (L1 := [x0]) hO
theorem Own.back1 {W w : World} {L : List HP} {x0 p : HP} (hO : Own W w (p :: x0 :: L)) : Own W w (x0 :: p :: L) := Own.back (L1 := [x0]) hO
theorem sg_front1 {x0 p : HP} (h : SG W n F (p :: x0 :: L) G) : SG W n F (x0 :: p :: L) G := fun w hO a ha => h w hO.front1 a ha
theorem sg_drop1 {x0 p : HP} (h : SG W n F (x0 :: L) G) : SG W n F (x0 :: p :: L) G := fun w hO a ha => h w hO.front1.tail a ha
theorem Own.front2 {W w : World} {L : List HP} {x0 x1 p : HP} (hO : Own W w (x0 :: x1 :: p :: L)) : Own W w (p :: x0 :: x1 :: L) := Own.front (L1 := [x0, x1]) hO
theorem Own.back2 {W w : World} {L : List HP} {x0 x1 p : HP} (hO : Own W w (p :: x0 :: x1 :: L)) : Own W w (x0 :: x1 :: p :: L) := Own.back (L1 := [x0, x1]) hO
theorem sg_front2 {x0 x1 p : HP} (h : SG W n F (p :: x0 :: x1 :: L) G) : SG W n F (x0 :: x1 :: p :: L) G := fun w hO a ha => h w hO.front2 a ha
theorem sg_drop2 {x0 x1 p : HP} (h : SG W n F (x0 :: x1 :: L) G) : SG W n F (x0 :: x1 :: p :: L) G := fun w hO a ha => h w hO.front2.tail a ha
theorem Own.front3 {W w : World} {L : List HP} {x0 x1 x2 p : HP} (hO : Own W w (x0 :: x1 :: x2 :: p :: L)) : Own W w (p :: x0 :: x1 :: x2 :: L) := Own.front (L1 := [x0, x1, x2]) hO
theorem Own.back3 {W w : World} {L : List HP} {x0 x1 x2 p : HP} (hO : Own W w (p :: x0 :: x1 :: x2 :: L)) : Own W w (x0 :: x1 :: x2 :: p :: L) := Own.back (L1 := [x0, x1, x2]) hO
theorem sg_front3 {x0 x1 x2 p : HP} (h : SG W n F (p :: x0 :: x1 :: x2 :: L) G) : SG W n F (x0 :: x1 :: x2 :: p :: L) G := fun w hO a ha => h w hO.front3 a ha
theorem sg_drop3 {x0 x1 x2 p : HP} (h : SG W n F (x0 :: x1 :: x2 :: L) G) : SG W n F (x0 :: x1 :: x2 :: p :: L) G := fun w hO a ha => h w hO.front3.tail a ha
theorem Own.front4 {W w : World} {L : List HP} {x0 x1 x2 x3 p : HP} (hO : Own W w (x0 :: x1 :: x2 :: x3 :: p :: L)) : Own W w (p :: x0 :: x1 :: x2 :: x3 :: L) := Own.front (L1 := [x0, x1, x2, x3]) hO
theorem Own.back4 {W w : World} {L : List HP} {x0 x1 x2 x3 p : HP} (hO : Own W w (p :: x0 :: x1 :: x2 :: x3 :: L)) : Own W w (x0 :: x1 :: x2 :: x3 :: p :: L) := Own.back (L1 := [x0, x1, x2, x3]) hO
theorem sg_front4 {x0 x1 x2 x3 p : HP} (h : SG W n F (p :: x0 :: x1 :: x2 :: x3 :: L) G) : SG W n F (x0 :: x1 :: x2 :: x3 :: p :: L) G := fun w hO a ha => h w hO.front4 a ha
theorem sg_drop4 {x0 x1 x2 x3 p : HP} (h : SG W n F (x0 :: x1 :: x2 :: x3 :: L) G) : SG W n F (x0 :: x1 :: x2 :: x3 :: p :: L) G := fun w hO a ha => h w hO.front4.tail a ha
theorem Own.front5 {W w : World} {L : List HP} {x0 x1 x2 x3 x4 p : HP} (hO : Own W w (x0 :: x1 :: x2 :: x3 :: x4 :: p :: L)) : Own W w (p :: x0 :: x1 :: x2 :: x3 :: x4 :: L) := Own.front (L1 := [x0, x1, x2, x3, x4]) hO
theorem Own.back5 {W w : World} {L : List HP} {x0 x1 x2 x3 x4 p : HP} (hO : Own W w (p :: x0 :: x1 :: x2 :: x3 :: x4 :: L)) : Own W w (x0 :: x1 :: x2 :: x3 :: x4 :: p :: L) := Own.back (L1 := [x0, x1, x2, x3, x4]) hO
theorem sg_front5 {x0 x1 x2 x3 x4 p : HP} (h : SG W n F (p :: x0 :: x1 :: x2 :: x3 :: x4 :: L) G) : SG W n F (x0 :: x1 :: x2 :: x3 :: x4 :: p :: L) G := fun w hO a ha => h w hO.front5 a ha
theorem sg_drop5 {x0 x1 x2 x3 x4 p : HP} (h : SG W n F (x0 :: x1 :: x2 :: x3 :: x4 :: L) G) : SG W n F (x0 :: x1 :: x2 :: x3 :: x4 :: p :: L) G := fun w hO a ha => h w hO.front5.tail a ha
theorem Own.front6 {W w : World} {L : List HP} {x0 x1 x2 x3 x4 x5 p : HP} (hO : Own W w (x0 :: x1 :: x2 :: x3 :: x4 :: x5 :: p :: L)) : Own W w (p :: x0 :: x1 :: x2 :: x3 :: x4 :: x5 :: L) := Own.front (L1 := [x0, x1, x2, x3, x4, x5]) hO
theorem Own.back6 {W w : World} {L : List HP} {x0 x1 x2 x3 x4 x5 p : HP} (hO : Own W w (p :: x0 :: x1 :: x2 :: x3 :: x4 :: x5 :: L)) : Own W w (x0 :: x1 :: x2 :: x3 :: x4 :: x5 :: p :: L) := Own.back (L1 := [x0, x1, x2, x3, x4, x5]) hO
theorem sg_front6 {x0 x1 x2 x3 x4 x5 p : HP} (h : SG W n F (p :: x0 :: x1 :: x2 :: x3 :: x4 :: x5 :: L) G) : SG W n F (x0 :: x1 :: x2 :: x3 :: x4 :: x5 :: p :: L) G := fun w hO a ha => h w hO.front6 a ha
theorem sg_drop6 {x0 x1 x2 x3 x4 x5 p : HP} (h : SG W n F (x0 :: x1 :: x2 :: x3 :: x4 :: x5 :: L) G) : SG W n F (x0 :: x1 :: x2 :: x3 :: x4 :: x5 :: p :: L) G := fun w hO a ha => h w hO.front6.tail a ha
theorem Own.front7 {W w : World} {L : List HP} {x0 x1 x2 x3 x4 x5 x6 p : HP} (hO : Own W w (x0 :: x1 :: x2 :: x3 :: x4 :: x5 :: x6 :: p :: L)) : Own W w (p :: x0 :: x1 :: x2 :: x3 :: x4 :: x5 :: x6 :: L) := Own.front (L1 := [x0, x1, x2, x3, x4, x5, x6]) hO
theorem Own.back7 {W w : World} {L : List HP} {x0 x1 x2 x3 x4 x5 x6 p : HP} (hO : Own W w (p :: x0 :: x1 :: x2 :: x3 :: x4 :: x5 :: x6 :: L)) : Own W w (x0 :: x1 :: x2 :: x3 :: x4 :: x5 :: x6 :: p :: L) := Own.back (L1 := [x0, x1, x2, x3, x4, x5, x6]) hO
theorem sg_front7 {x0 x1 x2 x3 x4 x5 x6 p : HP} (h : SG W n F (p :: x0 :: x1 :: x2 :: x3 :: x4 :: x5 :: x6 :: L) G) : SG W n F (x0 :: x1 :: x2 :: x3 :: x4 :: x5 :: x6 :: p :: L) G := fun w hO a ha => h w hO.front7 a ha
theorem sg_drop7 {x0 x1 x2 x3 x4 x5 x6 p : HP} (h : SG W n F (x0 :: x1 :: x2 :: x3 :: x4 :: x5 :: x6 :: L) G) : SG W n F (x0 :: x1 :: x2 :: x3 :: x4 :: x5 :: x6 :: p :: L) G := fun w hO a ha => h w hO.front7.tail a ha
theorem sg_drop0 {p : HP} (h : SG W n F L G) : SG W n F (p :: L) G := fun w hO a ha => h w hO.tail a ha
end

theorem splice_full (cs vs : List Value) (h : vs.length = cs.length) : splice cs 0 vs = vs := by
  rw [splice_eq _ _ _ (by omega)]
  simp [h]
theorem splice_mid (a b c vs : List Value) (h : vs.length = b.length) : splice (a ++ (b ++ c)) a.length vs = a ++ (vs ++ c) := by
  rw [splice_eq _ _ _ (by simp; omega)]
  have e1 : (a ++ (b ++ c)).take a.length = a := by simp
  have e2 : (a ++ (b ++ c)).drop (a.length + vs.length) = c := by rw [h, ← List.append_assoc, ← List.length_append, List.drop_left]
  rw [e1, e2, List.append_assoc]

/- structs built -/
class StructT (P : Program) (t : TypeId) (places : outParam (List (Nat × Nat))) (zs : outParam (List Value)) : Prop where
  h : ∃ it z fs, P.info? t = some it ∧ it.zero = some z ∧ z.cells.toList = zs ∧ P.underlying t = some (.struct fs) ∧ fs.toList.mapM (fun f => (P.info? f.type).map fun i => (f.offset, i.size)) = some places
def bfill (places : List (Nat × Nat)) : List Value → List (Nat × Value) → Option (List Value)
  | zs, [] => some zs
  | zs, (i, v) :: r => match places[i]? with
    | some (off, sz) => if v.cells.toList.length = sz ∧ off + sz ≤ zs.length then bfill places (splice zs off v.cells.toList) r else none
    | none => none
theorem bfill_step {places : List (Nat × Nat)} {zs vs : List Value} {i off sz : Nat} {v : Value} {r : List (Nat × Value)} (hp : places[i]? = some (off, sz)) (hv : v.cells.toList = vs) (h1 : vs.length = sz) (h2 : off + sz ≤ zs.length) :
    bfill places zs ((i, v) :: r) = bfill places (splice zs off vs) r := by
  simp only [bfill, hp]
  rw [if_pos ⟨by rw [hv, h1], h2⟩, hv]
theorem foldl_zipIdx_set (off : Nat) : ∀ (vs : List Value) (k : Nat) (cs : Array Value),
    ((vs.zipIdx k).foldl (fun cs (p : Value × Nat) => cs.setIfInBounds (off + p.2) p.1) cs).toList = splice cs.toList (off + k) vs
  | [], k, cs => by simp [splice_nil]
  | v :: vs, k, cs => by
    simp only [List.zipIdx_cons, List.foldl_cons]
    rw [foldl_zipIdx_set off vs (k + 1), splice_cons]
    simp [Nat.add_assoc]
theorem fill_eq (places : List (Nat × Nat)) : ∀ (parts : List (Nat × Value)) (zs : Array Value) (cells : List Value), bfill places zs.toList parts = some cells → Instr.fill (places.toArray[·]?) zs parts = some cells.toArray
  | [], zs, cells, h => by simp [bfill] at h; subst h; simp [Instr.fill]
  | (i, v) :: r, zs, cells, h => by
    simp only [bfill] at h
    split at h
    · rename_i off sz hp
      split at h
      · rename_i hc
        have hsz : v.cells.size = sz := by simpa using hc.1
        have hle : ¬ (off + v.cells.size > zs.size) := by have := hc.2; simp at this; omega
        have hfold : (v.cells.zipIdx.foldl (fun cs (x : Value × Nat) => cs.setIfInBounds (off + x.2) x.1) zs) = (splice zs.toList off v.cells.toList).toArray := by
          apply Array.ext'
          rw [← Array.foldl_toList, Array.toList_zipIdx]
          have := foldl_zipIdx_set off v.cells.toList 0 zs
          simpa using this
        have ih := fill_eq places r (splice zs.toList off v.cells.toList).toArray cells (by simpa using h)
        simp only [Instr.fill, List.getElem?_toArray, hp, hsz, ne_eq, not_true_eq_false, decide_false, Bool.false_or]
        rw [if_neg (by simp; omega)]
        rw [← ih, ← hfold]
        simp only [List.getElem?_toArray]
      · simp at h
    · simp at h
section
variable {P : Program} {W : World} {n : Nat} {F : Fr} {ty : TypeId}
theorem ps_build {t : Nat} {places : List (Nat × Nat)} {zs cells vs : List Value} {parts : List (Nat × Operand)} [hs : StructT P t places zs] (hv : evs F (parts.map (·.2)) = some vs) (hb : bfill places zs ((parts.map (·.1)).zip vs) = some cells) :
    PS P n F (.build t parts.toArray) ty (.agg cells.toArray) := by
  intro a ha w dst pos af g
  obtain ⟨it, z, fs, h1, h2, h3, h4, h5⟩ := hs.h
  have hev := ha.evs hv
  have hparts : (parts.map fun p => (p.1, a.eval p.2)) = (parts.map (·.1)).zip vs := by
    rw [← hev]
    clear hv hb hev
    induction parts with
    | nil => rfl
    | cons p ps ih => simp [ih]
  have hbt : P.built t (parts.map fun p => (p.1, a.eval p.2)) = some cells.toArray := by
    unfold Program.built
    simp only [h1, h4, h2, h5, hparts]
    exact fill_eq places _ z.cells cells (by rw [h3]; exact hb)
  have := run_build (P := P) w t (parts.map fun p => (p.1, a.eval p.2)).toArray cells.toArray (by simpa using hbt)
  simp [execOp, this]
end

/- slices built -/
def bfillS (sz : Nat) : List Value → List (Nat × Value) → Option (List Value)
  | zs, [] => some zs
  | zs, (i, v) :: r => if v.cells.toList.length = sz ∧ i * sz + sz ≤ zs.length then bfillS sz (splice zs (i * sz) v.cells.toList) r else none
theorem fillS_eq (sz : Nat) : ∀ (parts : List (Nat × Value)) (zs : Array Value) (cells : List Value), bfillS sz zs.toList parts = some cells → Instr.fill (fun i => some (i * sz, sz)) zs parts = some cells.toArray
  | [], zs, cells, h => by simp [bfillS] at h; subst h; simp [Instr.fill]
  | (i, v) :: r, zs, cells, h => by
    simp only [bfillS] at h
    split at h
    · rename_i hc
      have hsz : v.cells.size = sz := by simpa using hc.1
      have hle : ¬ (i * sz + v.cells.size > zs.size) := by have := hc.2; simp at this; omega
      have hfold : (v.cells.zipIdx.foldl (fun cs (x : Value × Nat) => cs.setIfInBounds (i * sz + x.2) x.1) zs) = (splice zs.toList (i * sz) v.cells.toList).toArray := by
        apply Array.ext'
        rw [← Array.foldl_toList, Array.toList_zipIdx]
        have := foldl_zipIdx_set (i * sz) v.cells.toList 0 zs
        simpa using this
      have ih := fillS_eq sz r (splice zs.toList (i * sz) v.cells.toList).toArray cells (by simpa using h)
      simp only [Instr.fill, hsz, ne_eq, not_true_eq_false, decide_false, Bool.false_or]
      rw [if_neg (by simp; omega)]
      rw [← ih, ← hfold]
    · simp at h
section
variable {P : Program} {W : World} {n : Nat} {F : Fr} {L : List HP} {ops : Array Oper} {Q : Exit → Act → World → Prop} {K : Act → World → Prop} {d : Nat} {ty : TypeId} {pos : String} {af : Array Edge}
def zerosOf (z : Value) (N : Nat) : List Value := (List.range N).map fun i => z.cells[i % z.cells.size]!
theorem sg_buildSlice {t e sz len by_ : Nat} {z : Value} {cells vs : List Value} {parts : List (Nat × Operand)} [hs : SliceT P t e sz] [hz : Zero P e z sz by_] (hv : evs F (parts.map (·.2)) = some vs) (hl : len * sz ≤ 16777216)
    (hb : bfillS sz (zerosOf z (len * sz)) ((parts.map (·.1)).zip vs) = some cells) (hd : Nat.blt d n = true)
    (h : ∀ b : Nat, SG W n ((d, .slice (some ⟨b, 0, none⟩) len len) :: F) (blk b cells :: L) K) : SG W n F L (W1 P ops Q ⟨some d, .buildSlice t len parts.toArray, ty, pos, af, none⟩ K) := by
  obtain ⟨i, h1, h2, h3⟩ := hs.h
  obtain ⟨i', i1, i2, i3, i4, i5⟩ := hz.h
  rw [h2] at i1; simp only [Option.some.injEq] at i1; subst i1
  refine sg_value (X := Nat) (fun b => .slice (some ⟨b, 0, none⟩) len len) (fun b => blk b cells :: L) (fun _ => True) hd (fun w hO a ha => ?_) (fun b _ => h b)
  refine ⟨w.heap.size, w.alloc (.cells cells.toArray e), ?_, trivial, hO.alloc cells e⟩
  have hev := ha.evs hv
  have hparts : (parts.map fun p => (p.1, a.eval p.2)) = (parts.map (·.1)).zip vs := by
    rw [← hev]
    clear hv hb hev
    induction parts with
    | nil => rfl
    | cons p ps ih => simp [ih]
  have hn : ¬ (16777216 < len * sz) := by omega
  have hza : ((Array.range (len * sz)).map fun x => z.cells[x % z.cells.size]!).toList = zerosOf z (len * sz) := by simp [zerosOf]
  have hf := fillS_eq sz _ ((Array.range (len * sz)).map fun x => z.cells[x % z.cells.size]!) cells (by rw [hza]; exact hb)
  by_cases h0 : len * sz = 0
  · have er : ∀ (f : Nat → Value), Array.map f (Array.range 0) = #[] := by intro f; apply Array.ext'; simp
    have hf0 : Instr.fill (fun i => some (i * sz, sz)) #[] ((parts.map (·.1)).zip vs) = some cells.toArray := by rw [h0, er] at hf; exact hf
    simp [execOp, Instr.buildSlice, run_underlying h1, sizeOf, typeInfo, h2, h3, hn, h0, hparts, newRow, er, hf0]
  · simp [execOp, Instr.buildSlice, run_underlying h1, sizeOf, typeInfo, zeroValue, h2, h3, i2, hn, h0, hparts, newRow, hf]
theorem sg_buildSlice1 {t e sz by_ : Nat} {z v : Value} {vs : List Value} {x : Operand} [hs : SliceT P t e sz] [hz : Zero P e z sz by_] (hv : ev F x = some v) (hl : sz ≤ 16777216)
    (hb : v.cells.toList = vs) (hvl : vs.length = sz) (hd : Nat.blt d n = true)
    (h : ∀ b : Nat, SG W n ((d, .slice (some ⟨b, 0, none⟩) 1 1) :: F) (blk b vs :: L) K) : SG W n F L (W1 P ops Q ⟨some d, .buildSlice t 1 #[(0, x)], ty, pos, af, none⟩ K) := by
  refine sg_buildSlice (parts := [(0, x)]) (vs := [v]) (by simp [evs, hv]) (by omega) ?_ hd h
  have hlen : (zerosOf z (1 * sz)).length = sz := by simp [zerosOf]
  show (if v.cells.toList.length = sz ∧ 0 * sz + sz ≤ (zerosOf z (1 * sz)).length then some (splice (zerosOf z (1 * sz)) (0 * sz) v.cells.toList) else none) = some vs
  rw [if_pos ⟨by rw [hb, hvl], by rw [hlen]; omega⟩, Nat.zero_mul, hb, splice_full _ _ (by rw [hvl, hlen])]
end

/- lists of rows of one length -/
theorem flat_length {α : Type} (m : Nat) (f : α → List Value) : ∀ (l : List α), (∀ x ∈ l, (f x).length = m) → (l.flatMap f).length = l.length * m
  | [], _ => by simp
  | x :: l, h => by simp [h x (by simp), flat_length m f l (fun y hy => h y (by simp [hy])), Nat.add_mul, Nat.add_comm]
theorem flat_get {α : Type} (m : Nat) (f : α → List Value) : ∀ (l : List α) (i j : Nat) (x : α), (∀ x ∈ l, (f x).length = m) → l[i]? = some x → j < m → (l.flatMap f)[i * m + j]? = (f x)[j]?
  | [], _, _, _, _, h, _ => by simp at h
  | y :: l, 0, j, x, hm, h, hj => by
    simp at h; subst h
    simp only [List.flatMap_cons, Nat.zero_mul, Nat.zero_add]
    rw [List.getElem?_append_left (by rw [hm y (by simp)]; exact hj)]
  | y :: l, i + 1, j, x, hm, h, hj => by
    simp only [List.flatMap_cons]
    have hy := hm y (by simp)
    rw [List.getElem?_append_right (by rw [hy, Nat.add_mul]; omega), hy]
    rw [show (i + 1) * m + j - m = i * m + j by rw [Nat.add_mul]; omega]
    exact flat_get m f l i j x (fun z hz => hm z (by simp [hz])) (by simpa using h) hj
theorem flat_set {α : Type} (m : Nat) (f : α → List Value) : ∀ (l : List α) (i : Nat) (x : α), (∀ x ∈ l, (f x).length = m) → i < l.length → (f x).length = m → splice (l.flatMap f) (i * m) (f x) = (l.set i x).flatMap f
  | [], _, _, _, h, _ => by simp at h
  | y :: l, 0, x, hm, _, hx => by
    simp only [List.flatMap_cons, Nat.zero_mul, List.set_cons_zero]
    have := splice_mid [] (f y) (l.flatMap f) (f x) (by rw [hx, hm y (by simp)])
    simpa using this
  | y :: l, i + 1, x, hm, hi, hx => by
    simp only [List.flatMap_cons, List.set_cons_succ]
    have hy := hm y (by simp)
    have ih := flat_set m f l i x (fun z hz => hm z (by simp [hz])) (by simpa using hi) hx
    have hlen := flat_length m f l (fun z hz => hm z (by simp [hz]))
    have hle : (i + 1) * m ≤ l.length * m := Nat.mul_le_mul_right _ (by simp at hi; omega)
    have hadd : (i + 1) * m = i * m + m := by rw [Nat.add_mul, Nat.one_mul]
    rw [← ih, splice_eq _ _ _ (by simp [hlen, hx, hy]; omega), splice_eq _ _ _ (by rw [hlen, hx]; omega)]
    rw [hadd, List.take_append, List.drop_append, hy]
    rw [List.take_of_length_le (by rw [hy]; omega), List.drop_of_length_le (by rw [hy]; omega)]
    rw [show i * m + m - m = i * m by omega, hx, show i * m + m + m - m = i * m + m by omega]
    simp [List.append_assoc]
end Go.Proofs.Ytclehoaeppbmpaa
