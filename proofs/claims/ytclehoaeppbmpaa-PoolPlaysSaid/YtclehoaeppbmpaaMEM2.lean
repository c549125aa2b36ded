/- Memory, more: make, append, copy, slicing, conversions, min and max. -/
import Derived.Test.YtclehoaeppbmpaaMEM
namespace Go.Proofs.Ytclehoaeppbmpaa
set_option linter.unusedVariables false
set_option linter.unusedSimpArgs false
set_option linter.unusedSectionVars false
set_option linter.unnecessarySimpa false
open Go

theorem Own.sownDrop {W w : World} {p : HP} {L : List HP} (hO : Own W w (p :: L)) : Own W w L := by
  obtain ⟨h, K, _, _, hK, hS, _⟩ := hO.uncons
  exact ⟨hO.os, hO.tape, hO.output, K, hK, hS⟩
/-- A block that is a slice's own. -/
theorem own_mk {W w : World} {g c n sz : Nat} {cur xs : List Value} {L : List HP} (hO : Own W w (blk g cur :: L)) (hn : n ≤ c) (hc : c ≤ maxLen) (hl : cur.length = c * sz) (hx : cur.take (n * sz) = xs) :
    Own W w (sown (some ⟨g, 0, none⟩) n c sz xs :: L) := by
  refine hO.imp ?_
  rintro h ⟨T, fz, ht, rfl⟩
  refine ⟨?_, .inr ⟨g, cur, T, fz, rfl, hn, hc, hl, hx, ht, rfl⟩⟩
  rw [← hx, List.length_take, hl]
  exact Nat.min_eq_left (Nat.mul_le_mul_right _ hn)
theorem own_nil {W w : World} {sz : Nat} {L : List HP} (hO : Own W w L) : Own W w (sown none 0 0 sz [] :: L) :=
  hO.push (h := fun _ => none) rfl rfl rfl (fun _ _ => rfl) ⟨by simp, .inl ⟨rfl, rfl, rfl⟩⟩ (fun b o h => by simp at h) (fun _ _ => rfl)

section
variable {P : Program} {W : World} {n : Nat} {F : Fr} {L : List HP} {ops : Array Oper} {Q : Exit → Act → World → Prop} {rest : List Oper} {K : Act → World → Prop}
variable {d : Nat} {ty : TypeId} {pos : String} {af : Array Edge}

theorem sg_nil_own {G : Act → World → Prop} (sz : Nat) (h : SG W n F (sown none 0 0 sz [] :: L) G) : SG W n F L G := fun w hO a ha => h w (own_nil hO) a ha
theorem sg_own_mk {G : Act → World → Prop} {g c m sz : Nat} {cur xs : List Value} (hn : m ≤ c) (hc : c ≤ maxLen) (hl : cur.length = c * sz) (hx : cur.take (m * sz) = xs)
    (h : SG W n F (sown (some ⟨g, 0, none⟩) m c sz xs :: L) G) : SG W n F (blk g cur :: L) G := fun w hO a ha => h w (own_mk hO hn hc hl hx) a ha

/- append -/
theorem run_append {w : World} {t t2 e : TypeId} {d2 : TypeDesc} {z : Value} {sz by_ sn sc m : Nat} {sa : Option Addr} {xs news : List Value} {ty : TypeId} {x : Value}
    (ht : P.underlying t = some (.slice e)) (ht2 : P.underlying t2 = some d2) (hd2 : d2 = .slice e ∨ d2 = .string) [hz : Zero P e z sz by_] (hO : Own W w (sown sa sn sc sz xs :: L))
    (hlen : ∀ w : World, (Builtin.lenOf x).run P w = .ok m w) (hl : news.length = m * sz) (h1 : ∀ u ∈ news, u.oneCell' = true)
    (hsrc : ∀ w, Own W w (sown sa sn sc sz xs :: L) → (Builtin.firstCells sz m x).run P w = .ok news.toArray w)
    (hmax : sn + m ≤ maxLen) (hb : (sn + m) * by_ ≤ 140737488355328) :
    ∃ w' a' c', (Builtin.append_ #[t, t2] ty #[.slice sa sn sc, x]).run P w = .ok (.slice a' (sn + m) c') w' ∧ Own W w' (sown a' (sn + m) c' sz (xs ++ news) :: L) := by
  obtain ⟨i, i1, i2, i3, i4, i5⟩ := hz.h
  obtain ⟨h, K, ⟨hxl, hcase⟩, hs, hK, hS, hdj⟩ := hO.uncons
  have hmx : sn + m ≤ 9223372036854775807 := by simpa only [maxLen] using hmax
  have h63 : ¬ (9223372036854775807 < ((sn : Int) + (m : Int))) := by omega
  have hns := hsrc w hO
  have hnd := hsrc w.drew hO.drew
  by_cases hroom : sn + m ≤ sc
  · rcases hcase with ⟨rfl, rfl, rfl⟩ | ⟨g, cur, T, fz, rfl, hn, hc, hcl, htk, hfz, rfl⟩
    · have hm : m = 0 := by omega
      subst hm
      have hnews : news = [] := List.eq_nil_of_length_eq_zero (by simpa using hl)
      subst hnews
      refine ⟨w, none, 0, ?_, by simpa using hO⟩
      rcases hd2 with rfl | rfl <;> simp [Builtin.append_, run_underlying ht, run_underlying ht2, sizeOf, typeInfo, i1, i3, hlen, hns]
    · have hO2 : Own W w (blk g cur :: L) := by
        refine .cons hO.os hO.tape hO.output ?_ hs hK hS hdj
        exact ⟨T, fz, hfz, rfl⟩
      have hfit : sn * sz + news.length ≤ cur.length := by rw [hl, hcl, ← Nat.add_mul]; exact Nat.mul_le_mul_right _ hroom
      obtain ⟨w', hr, hO'⟩ := Own.storeCells (P := P) (sn * sz) news 0 cur w hO2 (by simpa using hfit) h1
      refine ⟨w', some ⟨g, 0, none⟩, sc, ?_, ?_⟩
      · have hadd : (⟨g, 0, none⟩ : Addr).add (sn * sz) = ⟨g, sn * sz, none⟩ := by rw [addr_add]; simp
        rcases hd2 with rfl | rfl <;> simp [Builtin.append_, run_underlying ht, run_underlying ht2, sizeOf, typeInfo, i1, i3, hlen, hns, hroom, hadd, hr]
      · simp only [Nat.add_zero] at hO'
        refine own_mk hO' hroom hc (by simpa using hcl) ?_
        rw [splice_eq _ _ _ hfit, htk, Nat.add_mul, ← hl, ← hxl, ← List.length_append, List.take_left]
  · have h48 : ¬ (281474976710656 < Builtin.nextslicecap (sn + m) sc * by_) := by have := growslice_fits (need := sn + m) (old := sc) (bytes := by_) (by omega) hb; omega
    have hold : (Builtin.firstCells sz sn (.slice sa sn sc)).run P w.drew = .ok xs.toArray w.drew := by
      refine run_first (W := W) (L := sown sa sn sc sz xs :: L) ?_ hO.drew hxl
      exact rd_sown 0 rfl fun j u hj => hj
    refine ⟨w.drew.alloc (.cells (xs ++ news ++ (Builtin.zeroCells z.cells (grownCap w (sn + m) sc e - (sn + m))).toList).toArray e), some ⟨w.heap.size, 0, none⟩, grownCap w (sn + m) sc e, ?_, ?_⟩
    · have hroom' : ¬ (sn + m ≤ sc) := hroom
      rcases hd2 with rfl | rfl <;> (simp [Builtin.append_, run_underlying ht, run_underlying ht2, sizeOf, typeInfo, zeroValue, i1, i2, i3, i4, hlen, hnd, hold, hroom, h63, h48, Question.forced, newRow, grownCap]; try (congr 2; apply Array.ext'; simp))
    · have hal := (hO.sownDrop.drew).alloc (xs ++ news ++ (Builtin.zeroCells z.cells (grownCap w (sn + m) sc e - (sn + m))).toList) e
      refine own_mk hal (grownCap_ge _ _ _ _) (grownCap_le_maxLen _ _ _ _ hmax) ?_ ?_
      · have := grownCap_ge w (sn + m) sc e
        simp only [List.length_append, Array.length_toList, size_zeroCells, hxl, hl, i5, ← Nat.add_mul]
        congr 1; omega
      · rw [Nat.add_mul, ← hl, ← hxl, ← List.length_append, List.take_left]
/-- 's = append(s, x...)', s the call's own at the head of the chunks. -/
theorem sg_append {s x : Operand} {t e sz sn sc m c by_ : Nat} {sa xa : Option Addr} {z : Value} {xs news : List Value} [hs : SliceT P t e sz] [hz : Zero P e z sz by_] (hse : ev F s = some (.slice sa sn sc)) (hxe : ev F x = some (.slice xa m c)) (hd : Nat.blt d n = true)
    (hl : news.length = m * sz) (h1 : ∀ u ∈ news, u.oneCell' = true) (hsrc : Rd W (sown sa sn sc sz xs :: L) xa news) (hmax : sn + m ≤ maxLen) (hb : (sn + m) * by_ ≤ 140737488355328)
    (h : ∀ a' c', SG W n ((d, .slice a' (sn + m) c') :: F) (sown a' (sn + m) c' sz (xs ++ news) :: L) K) :
    SG W n F (sown sa sn sc sz xs :: L) (W1 P ops Q ⟨some d, .call { callee := .builtin .append, args := #[s, x], argTypes := #[t, t] }, ty, pos, af, none⟩ K) := by
  obtain ⟨i, h2, h3, h4⟩ := hs.h
  refine sg_value (X := Option Addr × Nat) (fun y => .slice y.1 (sn + m) y.2) (fun y => sown y.1 (sn + m) y.2 sz (xs ++ news) :: L) (fun _ => True) hd (fun w hO a ha => ?_) (fun y _ => h y.1 y.2)
  obtain ⟨w', a', c', hr, hO'⟩ := run_append (P := P) (ty := ty) (x := .slice xa m c) h2 h2 (.inl rfl) hO (fun w => by simp [Builtin.lenOf]) hl h1 (fun w hO => run_first hsrc hO hl) hmax hb
  exact ⟨(a', c'), w', by simp [execOp, resolve, invoke, builtin, ha.ev hse, ha.ev hxe, hr], trivial, hO'⟩
theorem sg_append_str {s x : Operand} {t e u sn sc by_ : Nat} {sa : Option Addr} {z : Value} {xs : List Value} {str : ByteArray} [hs : SliceT P t e 1] [hz : Zero P e z 1 by_] [hu : IsT P u .string] (hse : ev F s = some (.slice sa sn sc)) (hxe : ev F x = some (.string str)) (hd : Nat.blt d n = true)
    (hmax : sn + str.size ≤ maxLen) (hb : (sn + str.size) * by_ ≤ 140737488355328)
    (h : ∀ a' c', SG W n ((d, .slice a' (sn + str.size) c') :: F) (sown a' (sn + str.size) c' 1 (xs ++ str.data.toList.map fun b => .int .u8 (b.toNat : Int)) :: L) K) :
    SG W n F (sown sa sn sc 1 xs :: L) (W1 P ops Q ⟨some d, .call { callee := .builtin .append, args := #[s, x], argTypes := #[t, u] }, ty, pos, af, none⟩ K) := by
  obtain ⟨i, h2, h3, h4⟩ := hs.h
  refine sg_value (X := Option Addr × Nat) (fun y => .slice y.1 (sn + str.size) y.2) (fun y => sown y.1 (sn + str.size) y.2 1 (xs ++ str.data.toList.map fun b => .int .u8 (b.toNat : Int)) :: L) (fun _ => True) hd (fun w hO a ha => ?_) (fun y _ => h y.1 y.2)
  obtain ⟨w', a', c', hr, hO'⟩ := run_append (P := P) (ty := ty) (x := .string str) (news := str.data.toList.map fun b => .int .u8 (b.toNat : Int)) h2 hu.h (.inr rfl) hO (fun w => by simp [Builtin.lenOf]) (by simp) (by intro u hu; simp at hu; obtain ⟨b, _, rfl⟩ := hu; rfl)
    (fun w hO => by simp [Builtin.firstCells]; apply Array.ext'; simp) hmax hb
  exact ⟨(a', c'), w', by simp [execOp, resolve, invoke, builtin, ha.ev hse, ha.ev hxe, hr], trivial, hO'⟩

/- make -/
theorem sg_make {t e sz by_ : Nat} {z : Value} {lo co : Operand} {kl kc : IntKind} {l c : Int} {ln cn : Nat} [hs : SliceT P t e sz] [hz : Zero P e z sz by_] (hlo : ev F lo = some (.int kl l)) (hco : ev F co = some (.int kc c)) (hd : Nat.blt d n = true)
    (hl : l = (ln : Int)) (hc : c = (cn : Int)) (hlc : ln ≤ cn) (hb : by_ * cn ≤ 281474976710656) (h63 : cn ≤ 9223372036854775807)
    (h : ∀ b : Nat, SG W n ((d, .slice (some ⟨b, 0, none⟩) ln cn) :: F) (blk b ((List.range (cn * sz)).map fun i => z.cells[i % z.cells.size]!) :: L) K) :
    SG W n F L (W1 P ops Q ⟨some d, .makeSlice t lo co, ty, pos, af, none⟩ K) := by
  obtain ⟨i, h1, h2, h3⟩ := hs.h
  obtain ⟨i', i1, i2, i3, i4, i5⟩ := hz.h
  rw [h2] at i1; simp only [Option.some.injEq] at i1; subst i1
  subst hl hc
  refine sg_value (X := Nat) (fun b => .slice (some ⟨b, 0, none⟩) ln cn) (fun b => blk b ((List.range (cn * sz)).map fun i => z.cells[i % z.cells.size]!) :: L) (fun _ => True) hd (fun w hO a ha => ?_) (fun b _ => h b)
  have hb' : (i.bytes : Int) * (cn : Int) ≤ 281474976710656 := by
    have h : ((i.bytes * cn : Nat) : Int) ≤ 281474976710656 := by rw [i4]; omega
    rwa [Int.natCast_mul] at h
  have hr := run_make (P := P) w t e i z h1 h2 i2 kl kc ln cn (by omega) (by omega) hb' (by omega)
  refine ⟨w.heap.size, w.alloc (.cells (madeCells z.cells (cn * i.size)) e), ?_, trivial, ?_⟩
  · simp only [execOp, ha.ev hlo, ha.ev hco, Sem.run_bind, hr, Result.andThen_ok, Sem.run_pure, Int.toNat_natCast]
  · have := hO.alloc ((List.range (cn * sz)).map fun i => z.cells[i % z.cells.size]!) e
    have he : (madeCells z.cells (cn * i.size)) = ((List.range (cn * sz)).map fun i => z.cells[i % z.cells.size]!).toArray := by
      rw [h3]; apply Array.ext'; simp [madeCells]
    rw [he]; exact this

/- copy -/
theorem sg_copy {dst src : Operand} {dT sT e b o dl dc sl sc : Nat} {sa : Option Addr} {cs news : List Value} [hs : SliceT P dT e 1] (L1 : List HP) {L2 : List HP} (hde : ev F dst = some (.slice (some ⟨b, o, none⟩) dl dc)) (hse : ev F src = some (.slice sa sl sc)) (hd : Nat.blt d n = true)
    (hl : news.length = Nat.min sl dl) (h1 : ∀ u ∈ news, u.oneCell' = true) (hsrc : Rd W (L1 ++ blk b cs :: L2) sa news) (hfit : o + news.length ≤ cs.length)
    (h : SG W n ((d, .int .i64 (Nat.min sl dl : Nat)) :: F) (L1 ++ blk b (splice cs o news) :: L2) K) :
    SG W n F (L1 ++ blk b cs :: L2) (W1 P ops Q ⟨some d, .call { callee := .builtin .copy, args := #[dst, src], argTypes := #[dT, sT] }, ty, pos, af, none⟩ K) := by
  obtain ⟨i, h2, h3, h4⟩ := hs.h
  refine sg_value (X := Unit) (fun _ => .int .i64 (Nat.min sl dl : Nat)) (fun _ => L1 ++ blk b (splice cs o news) :: L2) (fun _ => True) hd (fun w hO a ha => ?_) (fun _ _ => h)
  obtain ⟨w', hr, hO'⟩ := Own.storeCells (P := P) o news 0 cs w hO.front (by simpa using hfit) h1
  have hf : (Builtin.firstCells 1 (Nat.min sl dl) (.slice sa sl sc)).run P w = .ok news.toArray w := run_first hsrc hO (by rw [hl]; simp)
  refine ⟨(), w', ?_, trivial, by simpa using hO'.back⟩
  simp [execOp, resolve, invoke, builtin, ha.ev hde, ha.ev hse, Builtin.copy_, run_underlying h2, Builtin.lenOf, sizeOf, typeInfo, h3, h4, hf, hr, goInt]
theorem sg_copy0 {dst src : Operand} {dT sT e b o dl dc sl sc : Nat} {sa : Option Addr} {cs news : List Value} [hs : SliceT P dT e 1] (L1 : List HP) {L2 : List HP} (hde : ev F dst = some (.slice (some ⟨b, o, none⟩) dl dc)) (hse : ev F src = some (.slice sa sl sc)) (hd : Nat.blt d n = true)
    (hl : news.length = Nat.min sl dl) (h1 : ∀ u ∈ news, u.oneCell' = true) (hsrc : Rd W (L1 ++ blk b cs :: L2) sa news) (hfit : o + news.length ≤ cs.length)
    (h : SG W n ((d, .int .i64 (Nat.min sl dl : Nat)) :: F) (L1 ++ blk b (splice cs o news) :: L2) K) :
    SG W n F (L1 ++ blk b cs :: L2) (W1 P ops Q ⟨some d, .call { callee := .builtin .copy, args := #[dst, src], argTypes := #[dT, sT] }, ty, pos, af, none⟩ K) :=
  sg_copy L1 hde hse hd hl h1 hsrc hfit h

/- slicing -/
theorem ps_slice_arr {x : Operand} {t len e sz b o : Nat} [hs : ArrayT P t len e sz] (hx : ev F x = some (.pointer (some ⟨b, o, none⟩)))  :
    PS P n F (.slice t x none none none) ty (.slice (some ⟨b, o, none⟩) len len) := by
  obtain ⟨i, h2, h3, h4⟩ := hs.h
  intro a ha w dst pos af g
  by_cases hl : len = 0
  · subst hl; simp [execOp, ha.ev hx, Instr.sliceAt, run_underlying h2, Instr.sureAddr, Instr.sliceBounds, sizeOf, typeInfo, h3]
  · simp [execOp, ha.ev hx, Instr.sliceAt, run_underlying h2, Instr.sureAddr, Instr.sliceBounds, sizeOf, typeInfo, h3, hl, Addr.add]
/-- xs[lo:hi], in the capacity's bounds: its address is the old one or behind it. -/
theorem ps_slice_lh {x lo hi : Operand} {t e sz len cap l h' : Nat} {a0 : Option Addr} {k k' : IntKind} {i j : Int} [hs : SliceT P t e sz] (hx : ev F x = some (.slice a0 len cap)) (hlo : ev F lo = some (.int k i)) (hhi : ev F hi = some (.int k' j)) 
    (hi1 : i = (l : Int)) (hj1 : j = (h' : Int)) (hlh : l ≤ h') (hc : h' ≤ cap) :
    PS P n F (.slice t x (some lo) (some hi) none) ty (.slice (if cap = l then a0 else a0.map (·.add (l * sz))) (h' - l) (cap - l)) := by
  obtain ⟨i0, h2, h3, h4⟩ := hs.h
  subst hi1 hj1
  intro a ha w dst pos af g
  simp [execOp, ha.ev hx, ha.ev hlo, ha.ev hhi, Instr.sliceAt, Instr.slice, run_underlying h2, Instr.sliceBounds, Instr.sliceBound, asIntOf, sizeOf, typeInfo, h3, h4, hlh, hc]
theorem ps_slice_h {x hi : Operand} {t e sz len cap h' : Nat} {a0 : Option Addr} {k' : IntKind} {j : Int} [hs : SliceT P t e sz] (hx : ev F x = some (.slice a0 len cap)) (hhi : ev F hi = some (.int k' j)) 
    (hj1 : j = (h' : Int)) (hc : h' ≤ cap) :
    PS P n F (.slice t x none (some hi) none) ty (.slice a0 h' cap) := by
  obtain ⟨i0, h2, h3, h4⟩ := hs.h
  subst hj1
  intro a ha w dst pos af g
  cases a0 with
  | none => simp [execOp, ha.ev hx, ha.ev hhi, Instr.sliceAt, Instr.slice, run_underlying h2, Instr.sliceBounds, Instr.sliceBound, asIntOf, sizeOf, typeInfo, h3, h4, hc]
  | some ad =>
    by_cases hcap : cap = 0
    · have h0 : h' = 0 := by omega
      subst hcap h0
      simp [execOp, ha.ev hx, ha.ev hhi, Instr.sliceAt, Instr.slice, run_underlying h2, Instr.sliceBounds, Instr.sliceBound, asIntOf, sizeOf, typeInfo, h3, h4]
    · simp [execOp, ha.ev hx, ha.ev hhi, Instr.sliceAt, Instr.slice, run_underlying h2, Instr.sliceBounds, Instr.sliceBound, asIntOf, sizeOf, typeInfo, h3, h4, hc, hcap, Addr.add]
theorem ps_slice_l {x lo : Operand} {t e sz len cap l : Nat} {a0 : Option Addr} {k : IntKind} {i : Int} [hs : SliceT P t e sz] (hx : ev F x = some (.slice a0 len cap)) (hlo : ev F lo = some (.int k i)) 
    (hi1 : i = (l : Int)) (hlh : l ≤ len) :
    PS P n F (.slice t x (some lo) none none) ty (.slice (if cap = l then a0 else a0.map (·.add (l * sz))) (len - l) (cap - l)) := by
  obtain ⟨i0, h2, h3, h4⟩ := hs.h
  subst hi1
  intro a ha w dst pos af g
  simp [execOp, ha.ev hx, ha.ev hlo, Instr.sliceAt, Instr.slice, run_underlying h2, Instr.sliceBounds, Instr.sliceBound, asIntOf, sizeOf, typeInfo, h3, h4, hlh]

/- conversions of bytes and strings -/
theorem sg_bytes_of_str {s t e : TypeId} {x : Operand} {str : ByteArray} {u : TypeDesc} [hs : IsT P s .string] [ht : SliceT P t e 1] [he : IsT P e (.int .u8)] (hx : ev F x = some (.string str)) (hd : Nat.blt d n = true) (hm : str.size ≤ maxLen)
    (h : ∀ b c, SG W n ((d, .slice (some ⟨b, 0, none⟩) str.size c) :: F) (sown (some ⟨b, 0, none⟩) str.size c 1 (str.data.toList.map fun b => .int .u8 (b.toNat : Int)) :: L) K) :
    SG W n F L (W1 P ops Q ⟨some d, .convert s t x, ty, pos, af, none⟩ K) := by
  obtain ⟨i0, h2, h3, h4⟩ := ht.h
  refine sg_value (X := Nat × Nat) (fun y => .slice (some ⟨y.1, 0, none⟩) str.size y.2) (fun y => sown (some ⟨y.1, 0, none⟩) str.size y.2 1 (str.data.toList.map fun b => .int .u8 (b.toNat : Int)) :: L) (fun _ => True) hd (fun w hO a ha => ?_) (fun y _ => h y.1 y.2)
  have hr := Lib.run_convert_string_bytes (P := P) w s t e str hs.h h2 he.h
  refine ⟨(w.heap.size, grownCap w str.size 0 e), Lib.bytesWorld w e str, by simp [execOp, ha.ev hx, hr], trivial, ?_⟩
  refine hO.push (h := PH.one w.heap.size (.cells (Lib.bytesCells w e str) e ((Lib.bytesCells w e str).size, (Lib.bytesCells w e str).size + 1))) rfl rfl rfl (fun b hb => Lib.bytesWorld_at_old w e str b hb) ?_ (PH.sub_one.2 (Lib.bytesWorld_at_new w e str)) (fun b hb => PH.one_other _ (by omega))
  have hg := grownCap_ge w str.size 0 e
  have hsz : str.data.toList.length = str.size := rfl
  refine ⟨by rw [List.length_map, hsz, Nat.mul_one], .inr ⟨w.heap.size, (Lib.bytesCells w e str).toList, e, ((Lib.bytesCells w e str).size, (Lib.bytesCells w e str).size + 1), rfl, hg, grownCap_le_maxLen _ _ _ _ hm, ?_, ?_, ?_, by simp⟩⟩
  · simp only [Lib.bytesCells, Array.toList_append, Array.toList_map, Array.toList_replicate, List.length_append, List.length_map, List.length_replicate, hsz]; omega
  · simp only [Lib.bytesCells, Array.toList_append, Array.toList_map, Nat.mul_one]
    rw [List.take_append_of_le_length (by rw [List.length_map, hsz]; exact Nat.le_refl _)]
    rw [List.take_of_length_le (by rw [List.length_map, hsz]; exact Nat.le_refl _)]
  · right; simp
def strOf (bs : List UInt8) : ByteArray := ⟨bs.toArray⟩
theorem sg_str_of_bytes {s t e : TypeId} {x : Operand} {a0 : Option Addr} {len cap : Nat} {bs : List UInt8} [hs : SliceT P s e 1] [ht : IsT P t .string] [he : IsT P e (.int .u8)] (hx : ev F x = some (.slice a0 len cap)) (hd : Nat.blt d n = true)
    (hl : bs.length = len) (hr : Rd W L a0 (bs.map fun b => .int .u8 (b.toNat : Int)))
    (h : SG W n ((d, .string (strOf bs)) :: F) L K) :
    SG W n F L (W1 P ops Q ⟨some d, .convert s t x, ty, pos, af, none⟩ K) := by
  obtain ⟨i0, h2, h3, h4⟩ := hs.h
  refine sg_pure _ hd (fun w hO a ha => ?_) h
  have key : (convert s t (.slice a0 len cap)).run P w = .ok (.string (strOf bs)) w := by
    rw [run_convert_bytes_string w s t e _ len cap h2 he.h ht.h]
    cases a0 with
    | none =>
      rcases hr w hO with hb | ⟨b, o, hb, _⟩
      · have : bs = [] := by simpa using hb
        subst this; simp [Conv.bytesToString]; rfl
      · simp at hb
    | some ad =>
      have hc : ∀ j u, (bs.map fun b => Value.int .u8 (b.toNat : Int))[j]? = some u → w.cell? (ad.add j) = some u := by
        rcases hr w hO with hb | ⟨b, o, hb, hc⟩
        · intro j u hj; rw [hb] at hj; simp at hj
        · simp only [Option.some.injEq] at hb; subst hb; intro j u hj; rw [addr_add]; exact hc j u hj
      have hlc := run_loadCells_list (P := P) w ad _ hc
      simp only [List.length_map, hl] at hlc
      have hm : (bs.map fun b => Value.int .u8 (b.toNat : Int)) = (bs.map fun b => (b.toNat : Int)).map (Value.int .u8) := by simp
      rw [hm] at hlc
      rw [run_bytesToString w ad len cap (bs.map fun b => (b.toNat : Int)) hlc, foldl_push_bytes]
      simp only [List.map_map]
      have hid : (bs.map ((fun n : Int => UInt8.ofNat n.toNat) ∘ fun b => (b.toNat : Int))) = bs := by rw [List.map_congr_left (g := id)]; simp; intro b _; simp
      rw [hid]
      simp [strOf, ByteArray.empty, ByteArray.emptyWithCapacity]
      rfl
  simp [execOp, ha.ev hx, key]

/-- '[]byte(..)' of a slice that the translation has laid: nothing but a mark behind its block. -/
theorem Own.markBehind {W w : World} {b n : Nat} {cs : List Value} {L : List HP} (hO : Own W w (blk b cs :: L)) : Own W (w.freeze ⟨b, cs.length, none⟩ (n + 1)) (blk b cs :: L) := by
  refine hO.change (by simp [World.freeze]) (by simp [World.freeze]) (by simp [World.freeze]) ?_
  rintro h ⟨T, fz, ht, rfl⟩ hs
  have hb := PH.sub_one.1 hs
  refine ⟨PH.one b (.cells cs.toArray T (if fz.1 == fz.2 then (cs.length, cs.length + (n + 1)) else (min fz.1 cs.length, max fz.2 (cs.length + (n + 1))))), ⟨T, _, ?_, rfl⟩, ?_, ?_⟩
  · split
    · right; exact Nat.le_refl _
    · rename_i h
      rcases ht with h1 | h1
      · simp [h1] at h
      · right; show cs.length ≤ min fz.1 cs.length; omega
  · rw [PH.sub_one]
    obtain ⟨lo, hi⟩ := fz
    simp [World.freeze, Array.getElem?_modify, hb]
  · intro c hc _
    have hcb : c ≠ b := by rintro rfl; rw [PH.one_self] at hc; simp at hc
    refine ⟨PH.one_other _ hcb, ?_⟩
    simp only [World.freeze, Nat.add_eq_zero_iff, Nat.succ_ne_self, and_false, if_false, Array.getElem?_modify]
    rw [if_neg (fun e => hcb e.symm)]
theorem sg_conv_same {t e : TypeId} {x : Operand} {b o len cap : Nat} {cs : List Value} (L1 : List HP) {L2 : List HP} [ht : SliceT P t e 1] [he : IsT P e (.int .u8)] (hx : ev F x = some (.slice (some ⟨b, o, none⟩) len cap)) (hd : Nat.blt d n = true)
    (h : SG W n ((d, .slice (some ⟨b, o, none⟩) len cap) :: F) (L1 ++ blk b cs :: L2) K) :
    SG W n F (L1 ++ blk b cs :: L2) (W1 P ops Q ⟨some d, .convert t t x, ty, pos, af, none⟩ K) := by
  obtain ⟨i0, h2, h3, h4⟩ := ht.h
  refine sg_value (X := Unit) (fun _ => .slice (some ⟨b, o, none⟩) len cap) (fun _ => L1 ++ blk b cs :: L2) (fun _ => True) hd (fun w hO a ha => ?_) (fun _ _ => h)
  obtain ⟨T, fz, hfz, hb⟩ := hO.front.blkAt
  have hsh : w.shape? b = some (T, cs.length) := by simp [World.shape?, hb]
  refine ⟨(), w.freeze ⟨b, cs.length, none⟩ 1, ?_, trivial, (Own.markBehind (n := 0) hO.front).back⟩
  simp [execOp, ha.ev hx, convert, run_underlying h2, run_underlying he.h, markStringish, hsh]

theorem sg_copy_str {dst src : Operand} {dT sT e b o dl dc : Nat} {cs news : List Value} {str : ByteArray} [hs : SliceT P dT e 1] (L1 : List HP) {L2 : List HP} (hde : ev F dst = some (.slice (some ⟨b, o, none⟩) dl dc)) (hse : ev F src = some (.string str)) (hd : Nat.blt d n = true)
    (hn : news = (str.data.toList.take (Nat.min str.size dl)).map fun b => .int .u8 (b.toNat : Int)) (hfit : o + news.length ≤ cs.length)
    (h : SG W n ((d, .int .i64 (Nat.min str.size dl : Nat)) :: F) (L1 ++ blk b (splice cs o news) :: L2) K) :
    SG W n F (L1 ++ blk b cs :: L2) (W1 P ops Q ⟨some d, .call { callee := .builtin .copy, args := #[dst, src], argTypes := #[dT, sT] }, ty, pos, af, none⟩ K) := by
  obtain ⟨i, h2, h3, h4⟩ := hs.h
  refine sg_value (X := Unit) (fun _ => .int .i64 (Nat.min str.size dl : Nat)) (fun _ => L1 ++ blk b (splice cs o news) :: L2) (fun _ => True) hd (fun w hO a ha => ?_) (fun _ _ => h)
  obtain ⟨w', hr, hO'⟩ := Own.storeCells (P := P) o news 0 cs w hO.front (by simpa using hfit) (by intro u hu; rw [hn] at hu; simp only [List.mem_map] at hu; obtain ⟨b, _, rfl⟩ := hu; rfl)
  refine ⟨(), w', ?_, trivial, by simpa using hO'.back⟩
  have hl : ((str.extract 0 (Nat.min str.size dl)).data.map fun b => Value.int .u8 (b.toNat : Int)).toList = news := by
    rw [hn]; simp [ByteArray.data_extract]
  simp only [execOp, resolve, invoke, builtin, Sem.run_bind, Sem.run_pure, Result.andThen_ok, List.map_toArray, List.map_cons, List.map_nil, ha.ev hde, ha.ev hse]
  simp only [Builtin.copy_, Builtin.lenOf, Builtin.firstCells, sizeOf, typeInfo, Sem.run_bind, run_program, Result.andThen_ok, List.getElem?_toArray, List.getElem?_cons_zero, List.getElem?_cons_succ, run_underlying h2, h3, h4, Sem.run_pure, hl, hr, goInt]

/- min, max -/
theorem ps_min2 {x y : Operand} {k : IntKind} {i j : Int} {ats : Array TypeId} (hx : ev F x = some (.int k i)) (hy : ev F y = some (.int k j))  :
    PS P n F (.call { callee := .builtin .min, args := #[x, y], argTypes := ats }) ty (.int k (min i j)) := by
  intro a ha w dst pos af g
  have : (if j < i then j else i) = min i j := by split <;> omega
  simp [execOp, resolve, invoke, builtin, Builtin.min_, Builtin.min2, ha.ev hx, ha.ev hy, this]
theorem ps_max2 {x y : Operand} {k : IntKind} {i j : Int} {ats : Array TypeId} (hx : ev F x = some (.int k i)) (hy : ev F y = some (.int k j))  :
    PS P n F (.call { callee := .builtin .max, args := #[x, y], argTypes := ats }) ty (.int k (max i j)) := by
  intro a ha w dst pos af g
  have : (if j > i then j else i) = max i j := by split <;> omega
  have h2 : (if i < j then j else i) = max i j := by split <;> omega
  simp [execOp, resolve, invoke, builtin, Builtin.max_, Builtin.max2, ha.ev hx, ha.ev hy, this, h2]
end
end Go.Proofs.Ytclehoaeppbmpaa
