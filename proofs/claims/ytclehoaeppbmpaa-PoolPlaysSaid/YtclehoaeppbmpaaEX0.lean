/- More operations: slices of structs copied, cleared, made longer; closures; slices.overlaps. -/
import Derived.Test.YtclehoaeppbmpaaAG2
import Derived.Test.YtclehoaeppbmpaaRAW
import Derived.Laws.Externs
namespace Go.Proofs.Ytclehoaeppbmpaa
set_option linter.unusedVariables false
set_option linter.unusedSimpArgs false
set_option linter.unusedSectionVars false
set_option linter.unnecessarySimpa false
open Go Go.Proofs
/- blocks that nothing was ever marked in -/
def blk0 (b : Nat) (cs : List Value) : HP := fun h => ∃ T, h = PH.one b (.cells cs.toArray T (0, 0))
theorem blk0_blk {b : Nat} {cs : List Value} (h : PH) (hp : blk0 b cs h) : blk b cs h := by
  obtain ⟨T, rfl⟩ := hp
  exact ⟨T, (0, 0), .inl rfl, rfl⟩
def sown0 (a : Option Addr) (n c sz : Nat) (xs : List Value) : HP := fun h =>
  xs.length = n * sz ∧ ((a = none ∧ n = 0 ∧ c = 0) ∨ ∃ (g : Nat) (cur : List Value), a = some ⟨g, 0, none⟩ ∧ n ≤ c ∧ c ≤ maxLen ∧ cur.length = c * sz ∧ cur.take (n * sz) = xs ∧ blk0 g cur h)
theorem sown0_sown {a : Option Addr} {n c sz : Nat} {xs : List Value} (h : PH) (hp : sown0 a n c sz xs h) : sown a n c sz xs h := by
  obtain ⟨h1, h2⟩ := hp
  refine ⟨h1, ?_⟩
  rcases h2 with h2 | ⟨g, cur, ha, hn, hc, hl, ht, T, rfl⟩
  · exact .inl h2
  · exact .inr ⟨g, cur, T, (0, 0), ha, hn, hc, hl, ht, .inl rfl, rfl⟩
theorem Own.alloc0 {W w : World} {L : List HP} (hO : Own W w L) (cs : List Value) (T : TypeId) : Own W (w.alloc (.cells cs.toArray T)) (blk0 w.heap.size cs :: L) := by
  refine hO.push (h := PH.one w.heap.size (.cells cs.toArray T)) rfl rfl rfl (fun b hb => Go.RowKit.Below.heap_alloc w _ b hb) ⟨T, rfl⟩ ?_ ?_
  · rw [PH.sub_one]; exact heap_alloc_new w _
  · intro b hb; exact PH.one_other _ (by omega)
theorem Own.setCell0 {W w : World} {b : Nat} {cs : List Value} {L : List HP} (hO : Own W w (blk0 b cs :: L)) (o : Nat) (v : Value) :
    Own W (w.setCell ⟨b, o, none⟩ v) (blk0 b (cs.set o v) :: L) := by
  refine hO.change rfl rfl rfl ?_
  rintro h ⟨T, rfl⟩ hs
  have hb := PH.sub_one.1 hs
  refine ⟨PH.one b (.cells (cs.set o v).toArray T (0, 0)), ⟨T, rfl⟩, ?_, ?_⟩
  · rw [PH.sub_one]
    simp [World.setCell, Array.getElem?_modify, hb]
  · intro c hc _
    have hcb : c ≠ b := by rintro rfl; rw [PH.one_self] at hc; simp at hc
    refine ⟨PH.one_other _ hcb, ?_⟩
    simp only [World.setCell, Array.getElem?_modify]
    rw [if_neg (fun e => hcb e.symm)]
theorem Own.blk0_blk {W w : World} {b : Nat} {cs : List Value} {L : List HP} (hO : Own W w (blk0 b cs :: L)) : Own W w (blk b cs :: L) := hO.imp fun h hp => Ytclehoaeppbmpaa.blk0_blk h hp
theorem Own.storeCells0 {P : Program} {W : World} {b : Nat} {L : List HP} (o : Nat) : ∀ (vs : List Value) (i : Nat) (cs : List Value) (w : World), Own W w (blk0 b cs :: L) →
    o + i + vs.length ≤ cs.length → (∀ v ∈ vs, v.oneCell' = true) →
    ∃ w', (Go.storeCells ⟨b, o, none⟩ vs i).run P w = .ok () w' ∧ Own W w' (blk0 b (splice cs (o + i) vs) :: L)
  | [], i, cs, w, hO, _, _ => ⟨w, rfl, by rw [splice_nil]; exact hO⟩
  | v :: vs, i, cs, w, hO, hl, h1 => by
    simp only [List.length_cons] at hl
    have hadd : (⟨b, o, none⟩ : Addr).add i = ⟨b, o + i, none⟩ := by unfold Addr.add; split <;> simp_all
    have hst : (Go.store ((⟨b, o, none⟩ : Addr).add i) v).run P w = .ok () (w.setCell ⟨b, o + i, none⟩ v) := by
      rw [hadd, run_store P w _ v _ (h1 v (by simp)), hO.blk0_blk.cell (o + i), hO.blk0_blk.fro (by omega : o + i < cs.length)]
      rw [List.getElem?_eq_getElem (by omega : o + i < cs.length)]
      simp
    obtain ⟨w', hr, hO'⟩ := Own.storeCells0 (P := P) o vs (i + 1) (cs.set (o + i) v) _ (hO.setCell0 (o + i) v) (by simp; omega) (fun x hx => h1 x (by simp [hx]))
    refine ⟨w', ?_, ?_⟩
    · simp only [Go.storeCells, Sem.run_bind, hst, Result.andThen_ok, hr]
    · rw [splice_cons]; exact hO'
theorem own_mk0 {W w : World} {g c n sz : Nat} {cur xs : List Value} {L : List HP} (hO : Own W w (blk0 g cur :: L)) (hn : n ≤ c) (hc : c ≤ maxLen) (hl : cur.length = c * sz) (hx : cur.take (n * sz) = xs) :
    Own W w (sown0 (some ⟨g, 0, none⟩) n c sz xs :: L) := by
  refine hO.imp ?_
  intro h hp
  refine ⟨?_, .inr ⟨g, cur, rfl, hn, hc, hl, hx, hp⟩⟩
  rw [← hx, List.length_take, hl]
  exact Nat.min_eq_left (Nat.mul_le_mul_right _ hn)
theorem own_nil0 {W w : World} {sz : Nat} {L : List HP} (hO : Own W w L) : Own W w (sown0 none 0 0 sz [] :: L) :=
  hO.push (h := fun _ => none) rfl rfl rfl (fun _ _ => rfl) ⟨by simp, .inl ⟨rfl, rfl, rfl⟩⟩ (fun b o h => by simp at h) (fun _ _ => rfl)
theorem rd_sown0 {W : World} {L : List HP} (i : Nat) {a : Option Addr} {n c sz : Nat} {xs : List Value} (hL : L[i]? = some (sown0 a n c sz xs)) : Rd W L a xs := by
  intro w hO
  obtain ⟨L', hO'⟩ := hO.nth hL
  exact rd_sown (W := W) (vs := xs) 0 rfl (fun _ _ h => h) w (hO'.imp fun h hp => sown0_sown h hp)
/-- A slice of its own, opened at its block. -/
theorem own_block0 {W w : World} {L : List HP} {a : Option Addr} {m c sz : Nat} {xs : List Value} (hm : 0 < m) (hO : Own W w (sown0 a m c sz xs :: L)) :
    ∃ x : Nat × List Value, (a = some ⟨x.1, 0, none⟩ ∧ m ≤ c ∧ c ≤ 9223372036854775807 ∧ x.2.length = c * sz ∧ x.2.take (m * sz) = xs) ∧ Own W w (blk0 x.1 x.2 :: L) := by
  obtain ⟨h, K, ⟨_, hx⟩, hs, hK, hS, hd⟩ := hO.uncons
  rcases hx with ⟨_, h0, _⟩ | ⟨g, cur, ha, hn, hc, hcl, htk, hb⟩
  · omega
  · exact ⟨(g, cur), ⟨ha, hn, by simpa [maxLen] using hc, hcl, htk⟩, .cons hO.os hO.tape hO.output hb hs hK hS hd⟩
theorem Own.blk0At {W w : World} {b : Nat} {cs : List Value} {L : List HP} (hO : Own W w (blk0 b cs :: L)) : ∃ T, w.heap[b]? = some (.cells cs.toArray T (0, 0)) := by
  obtain ⟨h, K, ⟨T, rfl⟩, hs, _⟩ := hO.uncons
  exact ⟨T, PH.sub_one.1 hs⟩
section
variable {P : Program} {W : World} {n : Nat} {F : Fr} {L : List HP} {ops : Array Oper} {Q : Exit → Act → World → Prop} {rest : List Oper} {K : Act → World → Prop}
variable {d : Nat} {ty : TypeId} {pos : String} {af : Array Edge}
/- append -/
theorem run_append0 {w : World} {t t2 e : TypeId} {d2 : TypeDesc} {z : Value} {sz by_ sn sc m : Nat} {sa : Option Addr} {xs news : List Value} {ty : TypeId} {x : Value}
    (ht : P.underlying t = some (.slice e)) (ht2 : P.underlying t2 = some d2) (hd2 : d2 = .slice e ∨ d2 = .string) [hz : Zero P e z sz by_] (hO : Own W w (sown0 sa sn sc sz xs :: L))
    (hlen : ∀ w : World, (Builtin.lenOf x).run P w = .ok m w) (hl : news.length = m * sz) (h1 : ∀ u ∈ news, u.oneCell' = true)
    (hsrc : ∀ w, Own W w (sown0 sa sn sc sz xs :: L) → (Builtin.firstCells sz m x).run P w = .ok news.toArray w)
    (hmax : sn + m ≤ maxLen) (hb : (sn + m) * by_ ≤ 140737488355328) :
    ∃ w' a' c', (Builtin.append_ #[t, t2] ty #[.slice sa sn sc, x]).run P w = .ok (.slice a' (sn + m) c') w' ∧ Own W w' (sown0 a' (sn + m) c' sz (xs ++ news) :: L) := by
  obtain ⟨i, i1, i2, i3, i4, i5⟩ := hz.h
  obtain ⟨h, K, ⟨hxl, hcase⟩, hs, hK, hS, hdj⟩ := hO.uncons
  have hmx : sn + m ≤ 9223372036854775807 := by simpa only [maxLen] using hmax
  have h63 : ¬ (9223372036854775807 < ((sn : Int) + (m : Int))) := by omega
  have hns := hsrc w hO
  have hnd := hsrc w.drew hO.drew
  by_cases hroom : sn + m ≤ sc
  · rcases hcase with ⟨rfl, rfl, rfl⟩ | ⟨g, cur, rfl, hn, hc, hcl, htk, hbk⟩
    · have hm : m = 0 := by omega
      subst hm
      have hnews : news = [] := List.eq_nil_of_length_eq_zero (by simpa using hl)
      subst hnews
      refine ⟨w, none, 0, ?_, by simpa using hO⟩
      rcases hd2 with rfl | rfl <;> simp [Builtin.append_, run_underlying ht, run_underlying ht2, sizeOf, typeInfo, i1, i3, hlen, hns]
    · have hO2 : Own W w (blk0 g cur :: L) := .cons hO.os hO.tape hO.output hbk hs hK hS hdj
      have hfit : sn * sz + news.length ≤ cur.length := by rw [hl, hcl, ← Nat.add_mul]; exact Nat.mul_le_mul_right _ hroom
      obtain ⟨w', hr, hO'⟩ := Own.storeCells0 (P := P) (sn * sz) news 0 cur w hO2 (by simpa using hfit) h1
      refine ⟨w', some ⟨g, 0, none⟩, sc, ?_, ?_⟩
      · have hadd : (⟨g, 0, none⟩ : Addr).add (sn * sz) = ⟨g, sn * sz, none⟩ := by rw [addr_add]; simp
        rcases hd2 with rfl | rfl <;> simp [Builtin.append_, run_underlying ht, run_underlying ht2, sizeOf, typeInfo, i1, i3, hlen, hns, hroom, hadd, hr]
      · simp only [Nat.add_zero] at hO'
        refine own_mk0 hO' hroom hc (by simpa using hcl) ?_
        rw [splice_eq _ _ _ hfit, htk, Nat.add_mul, ← hl, ← hxl, ← List.length_append, List.take_left]
  · have h48 : ¬ (281474976710656 < Builtin.nextslicecap (sn + m) sc * by_) := by have := growslice_fits (need := sn + m) (old := sc) (bytes := by_) (by omega) hb; omega
    have hold : (Builtin.firstCells sz sn (.slice sa sn sc)).run P w.drew = .ok xs.toArray w.drew := by
      refine run_first (W := W) (L := sown0 sa sn sc sz xs :: L) ?_ hO.drew hxl
      exact rd_sown0 0 rfl
    refine ⟨w.drew.alloc (.cells (xs ++ news ++ (Builtin.zeroCells z.cells (grownCap w (sn + m) sc e - (sn + m))).toList).toArray e), some ⟨w.heap.size, 0, none⟩, grownCap w (sn + m) sc e, ?_, ?_⟩
    · have hroom' : ¬ (sn + m ≤ sc) := hroom
      rcases hd2 with rfl | rfl <;> (simp [Builtin.append_, run_underlying ht, run_underlying ht2, sizeOf, typeInfo, zeroValue, i1, i2, i3, i4, hlen, hnd, hold, hroom, h63, h48, Question.forced, newRow, grownCap]; try (congr 2; apply Array.ext'; simp))
    · have hal := (hO.sownDrop.drew).alloc0 (xs ++ news ++ (Builtin.zeroCells z.cells (grownCap w (sn + m) sc e - (sn + m))).toList) e
      refine own_mk0 hal (grownCap_ge _ _ _ _) (grownCap_le_maxLen _ _ _ _ hmax) ?_ ?_
      · have := grownCap_ge w (sn + m) sc e
        simp only [List.length_append, Array.length_toList, size_zeroCells, hxl, hl, i5, ← Nat.add_mul]
        congr 1; omega
      · rw [Nat.add_mul, ← hl, ← hxl, ← List.length_append, List.take_left]
theorem sg_append0 {s x : Operand} {t e sz sn sc m c by_ : Nat} {sa xa : Option Addr} {z : Value} {xs news : List Value} [hs : SliceT P t e sz] [hz : Zero P e z sz by_] (hse : ev F s = some (.slice sa sn sc)) (hxe : ev F x = some (.slice xa m c)) (hd : Nat.blt d n = true)
    (hl : news.length = m * sz) (h1 : ∀ u ∈ news, u.oneCell' = true) (hsrc : Rd W (sown0 sa sn sc sz xs :: L) xa news) (hmax : sn + m ≤ maxLen) (hb : (sn + m) * by_ ≤ 140737488355328)
    (h : ∀ a' c', SG W n ((d, .slice a' (sn + m) c') :: F) (sown0 a' (sn + m) c' sz (xs ++ news) :: L) K) :
    SG W n F (sown0 sa sn sc sz xs :: L) (W1 P ops Q ⟨some d, .call { callee := .builtin .append, args := #[s, x], argTypes := #[t, t] }, ty, pos, af, none⟩ K) := by
  obtain ⟨i, h2, h3, h4⟩ := hs.h
  refine sg_value (X := Option Addr × Nat) (fun y => .slice y.1 (sn + m) y.2) (fun y => sown0 y.1 (sn + m) y.2 sz (xs ++ news) :: L) (fun _ => True) hd (fun w hO a ha => ?_) (fun y _ => h y.1 y.2)
  obtain ⟨w', a', c', hr, hO'⟩ := run_append0 (P := P) (ty := ty) (x := .slice xa m c) h2 h2 (.inl rfl) hO (fun w => by simp [Builtin.lenOf]) hl h1 (fun w hO => run_first hsrc hO hl) hmax hb
  exact ⟨(a', c'), w', by simp [execOp, resolve, invoke, builtin, ha.ev hse, ha.ev hxe, hr], trivial, hO'⟩
/-- 'append(s, x...)' with room: into the block at hand. -/
theorem sg_append_in {s x : Operand} {t e sz g sn sc m c by_ : Nat} {xa : Option Addr} {z : Value} {cur news : List Value} (L1 : List HP) {L2 : List HP} [hs : SliceT P t e sz] [hz : Zero P e z sz by_] (hse : ev F s = some (.slice (some ⟨g, 0, none⟩) sn sc)) (hxe : ev F x = some (.slice xa m c)) (hd : Nat.blt d n = true)
    (hl : news.length = m * sz) (h1 : ∀ u ∈ news, u.oneCell' = true) (hsrc : Rd W (L1 ++ blk g cur :: L2) xa news) (hroom : sn + m ≤ sc) (hcl : cur.length = sc * sz)
    (h : SG W n ((d, .slice (some ⟨g, 0, none⟩) (sn + m) sc) :: F) (L1 ++ blk g (splice cur (sn * sz) news) :: L2) K) :
    SG W n F (L1 ++ blk g cur :: L2) (W1 P ops Q ⟨some d, .call { callee := .builtin .append, args := #[s, x], argTypes := #[t, t] }, ty, pos, af, none⟩ K) := by
  obtain ⟨i0, h2, h3, h4⟩ := hs.h
  obtain ⟨i, i1, i2, i3, i4, i5⟩ := hz.h
  refine sg_value (X := Unit) (fun y => .slice (some ⟨g, 0, none⟩) (sn + m) sc) (fun y => L1 ++ blk g (splice cur (sn * sz) news) :: L2) (fun _ => True) hd (fun w hO a ha => ?_) (fun y _ => h)
  have hfit : sn * sz + news.length ≤ cur.length := by rw [hl, hcl, ← Nat.add_mul]; exact Nat.mul_le_mul_right _ hroom
  obtain ⟨w', hr, hO'⟩ := Own.storeCells (P := P) (sn * sz) news 0 cur w hO.front (by simpa using hfit) h1
  have hns : (Builtin.firstCells sz m (.slice xa m c)).run P w = .ok news.toArray w := run_first hsrc hO hl
  have hadd : (⟨g, 0, none⟩ : Addr).add (sn * sz) = ⟨g, sn * sz, none⟩ := by rw [addr_add]; simp
  refine ⟨(), w', ?_, trivial, by simpa using hO'.back⟩
  simp [execOp, resolve, invoke, builtin, ha.ev hse, ha.ev hxe, Builtin.append_, run_underlying h2, sizeOf, typeInfo, i1, i3, Builtin.lenOf, hns, hroom, hadd, hr]
/-- 'append(s, x...)' without room: a new block; the old one stays. -/
theorem sg_append_new {s x : Operand} {t e sz sn sc m c by_ : Nat} {sa xa : Option Addr} {z : Value} {xs news : List Value} [hs : SliceT P t e sz] [hz : Zero P e z sz by_] (hse : ev F s = some (.slice sa sn sc)) (hxe : ev F x = some (.slice xa m c)) (hd : Nat.blt d n = true)
    (hxl : xs.length = sn * sz) (hsx : Rd W L sa xs) (hl : news.length = m * sz) (hsrc : Rd W L xa news) (hroom : ¬ sn + m ≤ sc) (hmax : sn + m ≤ maxLen) (hb : (sn + m) * by_ ≤ 140737488355328)
    (h : ∀ a' c', SG W n ((d, .slice a' (sn + m) c') :: F) (sown a' (sn + m) c' sz (xs ++ news) :: L) K) :
    SG W n F L (W1 P ops Q ⟨some d, .call { callee := .builtin .append, args := #[s, x], argTypes := #[t, t] }, ty, pos, af, none⟩ K) := by
  obtain ⟨i0, h2, h3, h4⟩ := hs.h
  obtain ⟨i, i1, i2, i3, i4, i5⟩ := hz.h
  refine sg_value (X := Option Addr × Nat) (fun y => .slice y.1 (sn + m) y.2) (fun y => sown y.1 (sn + m) y.2 sz (xs ++ news) :: L) (fun _ => True) hd (fun w hO a ha => ?_) (fun y _ => h y.1 y.2)
  have hmx : sn + m ≤ 9223372036854775807 := by simpa only [maxLen] using hmax
  have h63 : ¬ (9223372036854775807 < ((sn : Int) + (m : Int))) := by omega
  have h48 : ¬ (281474976710656 < Builtin.nextslicecap (sn + m) sc * by_) := by have := growslice_fits (need := sn + m) (old := sc) (bytes := by_) (by omega) hb; omega
  have hold : (Builtin.firstCells sz sn (.slice sa sn sc)).run P w.drew = .ok xs.toArray w.drew := run_first hsx hO.drew hxl
  have hnd : (Builtin.firstCells sz m (.slice xa m c)).run P w.drew = .ok news.toArray w.drew := run_first hsrc hO.drew hl
  refine ⟨(some ⟨w.heap.size, 0, none⟩, grownCap w (sn + m) sc e), w.drew.alloc (.cells (xs ++ news ++ (Builtin.zeroCells z.cells (grownCap w (sn + m) sc e - (sn + m))).toList).toArray e), ?_, trivial, ?_⟩
  · simp [execOp, resolve, invoke, builtin, ha.ev hse, ha.ev hxe, Builtin.append_, run_underlying h2, sizeOf, typeInfo, zeroValue, i1, i2, i3, i4, Builtin.lenOf, hnd, hold, hroom, h63, h48, Question.forced, newRow, grownCap]
    try (congr 2; apply Array.ext'; simp)
  · have hal := (hO.drew).alloc (xs ++ news ++ (Builtin.zeroCells z.cells (grownCap w (sn + m) sc e - (sn + m))).toList) e
    refine own_mk hal (grownCap_ge _ _ _ _) (grownCap_le_maxLen _ _ _ _ hmax) ?_ ?_
    · have := grownCap_ge w (sn + m) sc e
      simp only [List.length_append, Array.length_toList, size_zeroCells, hxl, hl, i5, ← Nat.add_mul]
      congr 1; omega
    · rw [Nat.add_mul, ← hl, ← hxl, ← List.length_append, List.take_left]
/-- 'append(s, make(S, m)...)' without room. -/
theorem sg_append_zeros {s x : Operand} {t t2 e sz sn sc m by_ : Nat} {sa : Option Addr} {z : Value} {xs : List Value} {i : Int} [hs : SliceT P t e sz] [ht2 : IsT P t2 (.int .i64)] [hz : Zero P e z sz by_] (hse : ev F s = some (.slice sa sn sc)) (hxe : ev F x = some (.int .i64 i)) (hd : Nat.blt d n = true)
    (hi : i = (m : Int)) (hxl : xs.length = sn * sz) (hsx : Rd W L sa xs) (hroom : ¬ sn + m ≤ sc) (hm : m < 100000) (hsn : sn < 100000) (hb : (sn + m) * by_ ≤ 140737488355328)
    (h : ∀ a' c', SG W n ((d, .slice a' (sn + m) c') :: F) (sown a' (sn + m) c' sz (xs ++ (Builtin.zeroCells z.cells m).toList) :: L) K) :
    SG W n F L (W1 P ops Q ⟨some d, .call { callee := .builtin .append, args := #[s, x], argTypes := #[t, t2] }, ty, pos, af, none⟩ K) := by
  subst hi
  obtain ⟨i0, h2, h3, h4⟩ := hs.h
  obtain ⟨i, i1, i2, i3, i4, i5⟩ := hz.h
  refine sg_value (X := Option Addr × Nat) (fun y => .slice y.1 (sn + m) y.2) (fun y => sown y.1 (sn + m) y.2 sz (xs ++ (Builtin.zeroCells z.cells m).toList) :: L) (fun _ => True) hd (fun w hO a ha => ?_) (fun y _ => h y.1 y.2)
  have hmax : sn + m ≤ maxLen := by simp only [maxLen]; omega
  have hmx : sn + m ≤ 9223372036854775807 := by omega
  have h63 : ¬ (9223372036854775807 < ((sn : Int) + (m : Int))) := by omega
  have h48 : ¬ (281474976710656 < Builtin.nextslicecap (sn + m) sc * by_) := by have := growslice_fits (need := sn + m) (old := sc) (bytes := by_) (by omega) hb; omega
  have hold : (Builtin.firstCells sz sn (.slice sa sn sc)).run P w.drew = .ok xs.toArray w.drew := run_first hsx hO.drew hxl
  have hw : IntKind.i64.wrap (m : Int) = (m : Int) := IntWalk.i64_in _ (by omega)
  have hneg : ¬ ((m : Int) < 0) := by omega
  have hmb : ¬ (281474976710656 < (m : Int) * (by_ : Int)) := by
    have h : m * by_ ≤ 140737488355328 := Nat.le_trans (Nat.mul_le_mul_right _ (by omega)) hb
    rw [← Int.natCast_mul]; omega
  have hz0 : m * sz = 0 → (Builtin.zeroCells z.cells m) = #[] := by
    intro h0
    apply Array.ext'
    refine List.eq_nil_of_length_eq_zero ?_
    rw [Array.length_toList, size_zeroCells, i5]; exact h0
  refine ⟨(some ⟨w.heap.size, 0, none⟩, grownCap w (sn + m) sc e), w.drew.alloc (.cells (xs ++ (Builtin.zeroCells z.cells m).toList ++ (Builtin.zeroCells z.cells (grownCap w (sn + m) sc e - (sn + m))).toList).toArray e), ?_, trivial, ?_⟩
  · by_cases h0 : m * sz = 0
    · simp [execOp, resolve, invoke, builtin, ha.ev hse, ha.ev hxe, Builtin.append_, run_underlying h2, run_underlying ht2.h, sizeOf, typeInfo, zeroValue, i1, i2, i3, i4, asInt, asIntOf, hw, hneg, hmb, hold, hroom, h63, h48, Question.forced, newRow, grownCap, h0, hz0 h0]
      try (congr 2; apply Array.ext'; simp)
    · simp [execOp, resolve, invoke, builtin, ha.ev hse, ha.ev hxe, Builtin.append_, run_underlying h2, run_underlying ht2.h, sizeOf, typeInfo, zeroValue, i1, i2, i3, i4, asInt, asIntOf, hw, hneg, hmb, hold, hroom, h63, h48, Question.forced, newRow, grownCap, h0]
      try (congr 2; apply Array.ext'; simp)
  · have hal := (hO.drew).alloc (xs ++ (Builtin.zeroCells z.cells m).toList ++ (Builtin.zeroCells z.cells (grownCap w (sn + m) sc e - (sn + m))).toList) e
    have hzl : (Builtin.zeroCells z.cells m).toList.length = m * sz := by rw [Array.length_toList, size_zeroCells, i5]
    refine own_mk hal (grownCap_ge _ _ _ _) (grownCap_le_maxLen _ _ _ _ hmax) ?_ ?_
    · have := grownCap_ge w (sn + m) sc e
      simp only [List.length_append, Array.length_toList, size_zeroCells, hxl, i5, ← Nat.add_mul]
      congr 1; omega
    · rw [Nat.add_mul, ← hzl, ← hxl, ← List.length_append, List.take_left]
/- copy, elements of any size -/
theorem sg_copyN {dst src : Operand} {dT sT e sz b o dl dc sl sc : Nat} {sa : Option Addr} {cs news : List Value} [hs : SliceT P dT e sz] (L1 : List HP) {L2 : List HP} (hde : ev F dst = some (.slice (some ⟨b, o, none⟩) dl dc)) (hse : ev F src = some (.slice sa sl sc)) (hd : Nat.blt d n = true)
    (hl : news.length = Nat.min sl dl * sz) (h1 : ∀ u ∈ news, u.oneCell' = true) (hsrc : Rd W (L1 ++ blk b cs :: L2) sa news) (hfit : o + news.length ≤ cs.length)
    (h : SG W n ((d, .int .i64 (Nat.min sl dl : Nat)) :: F) (L1 ++ blk b (splice cs o news) :: L2) K) :
    SG W n F (L1 ++ blk b cs :: L2) (W1 P ops Q ⟨some d, .call { callee := .builtin .copy, args := #[dst, src], argTypes := #[dT, sT] }, ty, pos, af, none⟩ K) := by
  obtain ⟨i, h2, h3, h4⟩ := hs.h
  refine sg_value (X := Unit) (fun _ => .int .i64 (Nat.min sl dl : Nat)) (fun _ => L1 ++ blk b (splice cs o news) :: L2) (fun _ => True) hd (fun w hO a ha => ?_) (fun _ _ => h)
  obtain ⟨w', hr, hO'⟩ := Own.storeCells (P := P) o news 0 cs w hO.front (by simpa using hfit) h1
  have hf : (Builtin.firstCells sz (Nat.min sl dl) (.slice sa sl sc)).run P w = .ok news.toArray w := run_first hsrc hO hl
  refine ⟨(), w', ?_, trivial, by simpa using hO'.back⟩
  simp [execOp, resolve, invoke, builtin, ha.ev hde, ha.ev hse, Builtin.copy_, run_underlying h2, Builtin.lenOf, sizeOf, typeInfo, h3, h4, hf, hr, goInt]
/- clear -/
theorem sg_clear {x : Operand} {t e sz by_ b o l c : Nat} {z : Value} {cs : List Value} [hs : SliceT P t e sz] [hz : Zero P e z sz by_] (L1 : List HP) {L2 : List HP} (hx : ev F x = some (.slice (some ⟨b, o, none⟩) (l + 1) c)) (h1 : ∀ u ∈ z.cells.toList, u.oneCell' = true) (hfit : o + (l + 1) * sz ≤ cs.length)
    (h : SG W n F (L1 ++ blk b (splice cs o (Builtin.zeroCells z.cells (l + 1)).toList) :: L2) K) :
    SG W n F (L1 ++ blk b cs :: L2) (W1 P ops Q ⟨none, .call { callee := .builtin .clear, args := #[x], argTypes := #[t] }, ty, pos, af, none⟩ K) := by
  obtain ⟨i0, h2, h3, h4⟩ := hs.h
  obtain ⟨i, i1, i2, i3, i4, i5⟩ := hz.h
  have hzl : (Builtin.zeroCells z.cells (l + 1)).toList.length = (l + 1) * sz := by rw [Array.length_toList, size_zeroCells, i5]
  have hone : ∀ u ∈ (Builtin.zeroCells z.cells (l + 1)).toList, u.oneCell' = true := by
    intro u hu
    simp only [Builtin.zeroCells, Array.toList_map, List.mem_map] at hu
    obtain ⟨k, hk, rfl⟩ := hu
    have hk2 : k < (l + 1) * z.cells.size := by simpa using hk
    have hpos : 0 < z.cells.size := by
      rcases Nat.eq_zero_or_pos z.cells.size with h | h
      · rw [h] at hk2; omega
      · exact h
    have hlt := Nat.mod_lt k hpos
    rw [getElem!_pos z.cells _ hlt]
    exact h1 _ (by simp)
  intro w hO a ha
  obtain ⟨w', hr, hO'⟩ := Own.storeCells (P := P) o (Builtin.zeroCells z.cells (l + 1)).toList 0 cs w hO.front (by rw [hzl]; simpa using hfit) hone
  simp only [W1]
  rw [if_pos (by simp [Region.wanted])]
  have hex : (execOp a.eval ⟨none, .call { callee := .builtin .clear, args := #[x], argTypes := #[t] }, ty, pos, af, none⟩).run P w = .ok (.value (.tuple #[])) w' := by
    simp [execOp, resolve, invoke, builtin, ha.ev hx, Builtin.clear_, run_underlying h2, zeroValue, typeInfo, i1, i2, hr]
  simp only [Oper.wp, hex]
  exact h w' (by simpa using hO'.back) _ ha
theorem sg_clear0 {x : Operand} {t e sz c : Nat} {a : Option Addr} [hs : SliceT P t e sz] (hx : ev F x = some (.slice a 0 c)) (h : SG W n F L K) :
    SG W n F L (W1 P ops Q ⟨none, .call { callee := .builtin .clear, args := #[x], argTypes := #[t] }, ty, pos, af, none⟩ K) := by
  obtain ⟨i0, h2, h3, h4⟩ := hs.h
  intro w hO ac ha
  simp only [W1]
  rw [if_pos (by simp [Region.wanted])]
  have hex : (execOp ac.eval ⟨none, .call { callee := .builtin .clear, args := #[x], argTypes := #[t] }, ty, pos, af, none⟩).run P w = .ok (.value (.tuple #[])) w := by
    cases a <;> simp [execOp, resolve, invoke, builtin, ha.ev hx, Builtin.clear_, run_underlying h2]
  simp only [Oper.wp, hex]
  exact h w hO _ ha
/- slicing of a block -/
theorem ps_slice_l0 {x lo : Operand} {t e sz len cap l g o : Nat} {k : IntKind} {i : Int} [hs : SliceT P t e sz] (hx : ev F x = some (.slice (some ⟨g, o, none⟩) len cap)) (hlo : ev F lo = some (.int k i)) (hi1 : i = (l : Int)) (hlh : l ≤ len) (hc : l < cap) :
    PS P n F (.slice t x (some lo) none none) ty (.slice (some ⟨g, o + l * sz, none⟩) (len - l) (cap - l)) := by
  have := ps_slice_l (P := P) (n := n) (ty := ty) (t := t) hx hlo hi1 hlh
  rw [if_neg (by omega)] at this
  simpa [addr_add] using this
/- closures -/
theorem ps_makeFunc {f : Fn} {xs : List Operand} {vs : List Value} (hx : evs F xs = some vs) : PS P n F (.makeFunc f #[] xs.toArray) ty (.func f #[] vs.toArray) := by
  intro a ha w dst pos af g
  simp [execOp, ha.evs hx, Instr.makeFunc]
theorem sg_callc {X : Type} {f : FuncId} [IsFn P f] {x : Operand} {xs : List Operand} {vs ds : List Value} {ats : Array TypeId} {v : X → Value} {φ : X → Prop} {L' : X → List HP} (hf : ev F x = some (.func (.func f) #[] ds.toArray)) (hC : Tri P W f (vs ++ ds) L v φ L') (hx : evs F xs = some vs) (hd : Nat.blt d n = true)
    (h : ∀ x, φ x → SG W n ((d, v x) :: F) (L' x) K) :
    SG W n F L (W1 P ops Q ⟨some d, .call { callee := .value x, args := xs.toArray, argTypes := ats }, ty, pos, af, none⟩ K) := by
  intro w hO a ha
  simp only [W1]
  rw [if_pos (by simp [Region.wanted])]
  have hex : execOp a.eval { dst := some d, op := .call { callee := .value x, args := xs.toArray, argTypes := ats }, type := ty, pos, after := af, guard := none } = callFunc f (#[] ++ xs.toArray.map a.eval ++ ds.toArray) := by
    simp only [execOp, resolve, ha.ev hf, Deferred.ofValue]
    rfl
  have hargs : (#[] : Array Value) ++ xs.toArray.map a.eval ++ ds.toArray = (vs ++ ds).toArray := by simp [ha.evs hx]
  simp only [Oper.wp, hex, run_callFunc, Oper.upon_enter]
  rw [hargs]
  refine (hC w hO).mono ?_
  rintro e w' ⟨x, rfl, hφ, hO'⟩
  exact h x hφ w' hO' _ (ha.put hd _)
instance instEqNil (t e sz : Nat) [h : SliceT P t e sz] : BinR P .eql t (.slice none 0 0) (.slice none 0 0) (.bool true) := ⟨fun w _ _ => by
  obtain ⟨i, h1, _⟩ := h.h
  have hu := run_underlying h1
  simp [eqGuard, binOp, Op.equal, Op.maxDepth]; rw [Op.equalIn]; simp [hu]⟩
instance instEqSome (t e sz l c : Nat) (a : Addr) [h : SliceT P t e sz] : BinR P .eql t (.slice (some a) l c) (.slice none 0 0) (.bool false) := ⟨fun w _ _ => by
  obtain ⟨i, h1, _⟩ := h.h
  have hu := run_underlying h1
  simp [eqGuard, binOp, Op.equal, Op.maxDepth]; rw [Op.equalIn]; simp [hu]⟩
/- functions of the model's own -/
theorem sg_extern {f : FuncId} {fn : Func} {e : Array Value → Sem Value} {xs : List Operand} {vs : List Value} {ats : Array TypeId} {v : Value} (hf : P.funcs[f]? = some fn) (hname : (fn.name == "runtime.NumGoroutine") = false)
    (hb : fn.body.isNone = true) (hn : Extern.findNext fn = none) (he : Extern.find fn = some e) (hx : evs F xs = some vs) (hd : Nat.blt d n = true) (H : ∀ w, Own W w L → (e vs.toArray).run P w = .ok v w) (h : SG W n ((d, v) :: F) L K) :
    SG W n F L (W1 P ops Q ⟨some d, .call { callee := .value (.func f), args := xs.toArray, argTypes := ats }, ty, pos, af, none⟩ K) := by
  intro w hO a ha
  simp only [W1]
  rw [if_pos (by simp [Region.wanted])]
  have hargs : (#[] : Array Value) ++ xs.toArray.map a.eval ++ #[] = vs.toArray := by simp [ha.evs hx]
  simp only [Oper.wp, execOp_call_go]
  rw [hargs, run_callFunc_extern hf hname hb hn he, H w hO]
  simp only [Result.andThen_ok, Oper.upon_value]
  exact h w hO _ (ha.put hd _)
/-- slices.overlaps: two blocks, one of which never bore a mark. -/
theorem run_overlaps {w : World} (tS tR e : TypeId) (ht : P.underlying tS = some (.slice e)) (size : Nat) (hz : ∀ w, (Go.sizeOf e).run P w = .ok size w)
    (a b : Addr) (la ca lb cb : Nat) (hne : a.block ≠ b.block) (tA tB : TypeId) (kA kB : Nat)
    (hsa : w.shape? a.block = some (tA, kA + 1)) (hsb : w.shape? b.block = some (tB, kB + 1)) (hfr : (w.frozen? a = false ∧ w.frozen? { block := a.block, off := kA + 1 } = false) ∨ (w.frozen? b = false ∧ w.frozen? { block := b.block, off := kB + 1 } = false)) :
    (Extern.SlicesOverlaps.overlaps #[tS, tS] #[tR] #[.slice (some a) la ca, .slice (some b) lb cb]).run P w = .ok (.bool false) w := by
  have hnb : (a.block != b.block) = true := by simpa using hne
  have hnb' : (a.block == b.block) = false := by simpa using hne
  change Sem.run P (α := Value) (do
    let some t := (#[tS, tS] : Array TypeId)[0]? | stuck "slices.overlaps: no parameter types"
    let .slice elem ← underlying t | stuck "slices.overlaps: slice type expected"
    let size ← sizeOf elem
    match (some a : Option Addr), (some b : Option Addr) with
    | some a, some b =>
      if la = 0 ∨ lb = 0 ∨ size = 0 then pure (Value.bool false)
      else if a.block != b.block && (← frozen a) && (← frozen b) then unsupported .addressObserved
      else do
        if a.block != b.block then do
          noView a; noView b
          if ← mayBeOne a b then return Value.bool ((← choose (.extern "sameAddr.stringBytes" 2)) == 1)
        pure (Value.bool (a.block == b.block && a.off < b.off + lb * size && b.off < a.off + la * size))
    | _, _ => pure (Value.bool false)) w = _
  by_cases h0 : la = 0 ∨ lb = 0 ∨ size = 0
  · simp [run_underlying ht, hz, h0]
  · rcases hfr with ⟨h1, h2⟩ | ⟨h1, h2⟩
    · simp [run_underlying ht, hz, h0, hnb, hnb', frozen, noView, viewAt, mayBeOne, stringish, shape, Sem.run, hsa, hsb, h1, h2]
    · cases h3 : w.frozen? a <;> simp [run_underlying ht, hz, h0, hnb, hnb', frozen, noView, viewAt, mayBeOne, stringish, shape, Sem.run, hsa, hsb, h1, h2, h3]
theorem frozen_blk0 {w : World} {b o : Nat} {cs : List Value} (hO : Own W w (blk0 b cs :: L)) : w.frozen? ⟨b, o, none⟩ = false := by
  obtain ⟨T, hb⟩ := hO.blk0At
  simp [World.frozen?, hb]
theorem shape_blk {w : World} {b : Nat} {cs : List Value} (hO : Own W w (blk b cs :: L)) : ∃ T, w.shape? b = some (T, cs.length) := by
  obtain ⟨T, fz, _, hb⟩ := hO.blkAt
  exact ⟨T, by simp [World.shape?, hb]⟩
theorem ne_blk {w : World} {b b2 : Nat} {cs cs2 : List Value} (hO : Own W w (blk b cs :: blk b2 cs2 :: L)) : b ≠ b2 := by
  rintro rfl
  obtain ⟨h, K, ⟨T, fz, _, rfl⟩, hs, hK, hS, hd⟩ := hO.uncons
  match K, hK with
  | k :: K, hK =>
    simp only [List.map_cons, List.cons.injEq] at hK
    have h1 := (hS.1 k (by simp)).1
    rw [hK.1] at h1
    obtain ⟨T2, fz2, _, h2⟩ := h1
    rcases hd k (by simp) b with h3 | h3
    · rw [PH.one_self] at h3; simp at h3
    · rw [h2, PH.one_self] at h3; simp at h3
/-- The blocks at the head of the chunks: v's first, which never bore a mark. -/
theorem overlaps_no {w : World} {tS tR e sz v b o o2 lv cv lb cb : Nat} [hs : SliceT P tS e sz] {vc cs : List Value} (hO : Own W w (blk0 v vc :: blk b cs :: L)) (hv : 0 < vc.length) (hc : 0 < cs.length) :
    (Extern.SlicesOverlaps.overlaps #[tS, tS] #[tR] #[.slice (some ⟨v, o, none⟩) lv cv, .slice (some ⟨b, o2, none⟩) lb cb]).run P w = .ok (.bool false) w ∧
    (Extern.SlicesOverlaps.overlaps #[tS, tS] #[tR] #[.slice (some ⟨b, o2, none⟩) lb cb, .slice (some ⟨v, o, none⟩) lv cv]).run P w = .ok (.bool false) w := by
  obtain ⟨i, h2, h3, h4⟩ := hs.h
  have hz : ∀ w, (Go.sizeOf e).run P w = .ok sz w := fun w => by simp [sizeOf, typeInfo, h3, h4]
  obtain ⟨tA, hA⟩ := shape_blk hO.blk0_blk
  obtain ⟨tB, hB⟩ := shape_blk hO.tail
  have hne := ne_blk hO.blk0_blk
  have f1 := frozen_blk0 (o := o) hO
  have f2 := frozen_blk0 (o := vc.length) hO
  obtain ⟨kA, hkA⟩ : ∃ k, vc.length = k + 1 := ⟨vc.length - 1, by omega⟩
  obtain ⟨kB, hkB⟩ : ∃ k, cs.length = k + 1 := ⟨cs.length - 1, by omega⟩
  rw [hkA] at hA f2
  rw [hkB] at hB
  exact ⟨run_overlaps tS tR e h2 sz hz ⟨v, o, none⟩ ⟨b, o2, none⟩ lv cv lb cb hne tA tB kA kB hA hB (.inl ⟨f1, f2⟩),
    run_overlaps tS tR e h2 sz hz ⟨b, o2, none⟩ ⟨v, o, none⟩ lb cb lv cv (fun e => hne e.symm) tB tA kB kA hB hA (.inr ⟨f1, f2⟩)⟩
end
section
variable {P : Program} {W : World} {n : Nat} {F : Fr} {L : List HP}
theorem tri_enter4 {f : FuncId} {fn : Func} {c : Code} {v0 v1 v2 v3 : Value} {X : Type} {v : X → Value} {φ : X → Prop} {L' : X → List HP} (hf : P.funcs[f]? = some fn) (hb : fn.body = some c) (hn : fn.ntmps = n) (hl : Nat.ble 4 n = true)
    (h : SG W n [(0, v0), (1, v1), (2, v2), (3, v3)] L (WC P c (bodyPost P fn (TriR W v φ L')))) : Tri P W f [v0, v1, v2, v3] L v φ L' :=
  tri_enter hf hb hn hl (fun i u hi => by simp only [look] at hi; (repeat' split at hi) <;> simp_all [Nat.beq_eq]) h
end
/- cells written over -/
theorem splice_get (cs : List Value) (o : Nat) (vs : List Value) (h : o + vs.length ≤ cs.length) (k : Nat) : (splice cs o vs)[k]? = if o ≤ k ∧ k < o + vs.length then vs[k - o]? else cs[k]? := by
  rw [splice_eq _ _ _ h]
  split
  · rename_i hk
    rw [List.append_assoc, List.getElem?_append_right (by simp; omega), List.length_take, Nat.min_eq_left (by omega), List.getElem?_append_left (by omega)]
  · rename_i hk
    by_cases h1 : k < o
    · rw [List.append_assoc, List.getElem?_append_left (by simp; omega), List.getElem?_take, if_pos h1]
    · rw [List.getElem?_append_right (by simp; omega), List.length_append, List.length_take, Nat.min_eq_left (by omega), List.getElem?_drop]
      congr 1; omega
/-- Two stretches side by side written over, in either order. -/
theorem splice_two (cs vs ys : List Value) (p q : Nat) (hq : q = p + vs.length) (h : q + ys.length ≤ cs.length) :
    (splice (splice cs p vs) q ys).take (q + ys.length) = cs.take p ++ vs ++ ys ∧ (splice (splice cs q ys) p vs).take (q + ys.length) = cs.take p ++ vs ++ ys := by
  subst hq
  have key : ∀ zs : List Value, (∀ k, zs[k]? = if p ≤ k ∧ k < p + vs.length then vs[k - p]? else if p + vs.length ≤ k ∧ k < p + vs.length + ys.length then ys[k - (p + vs.length)]? else cs[k]?) →
      zs.take (p + vs.length + ys.length) = cs.take p ++ vs ++ ys := by
    intro zs hzs
    apply List.ext_getElem?
    intro k
    rw [List.getElem?_take]
    by_cases h1 : k < p
    · rw [if_pos (by omega), hzs, if_neg (by omega), if_neg (by omega), List.append_assoc, List.getElem?_append_left (by simp; omega), List.getElem?_take, if_pos h1]
    · by_cases h2 : k < p + vs.length
      · rw [if_pos (by omega), hzs, if_pos (by omega), List.append_assoc, List.getElem?_append_right (by simp; omega), List.length_take, Nat.min_eq_left (by omega), List.getElem?_append_left (by omega)]
      · by_cases h3 : k < p + vs.length + ys.length
        · rw [if_pos h3, hzs, if_neg (by omega), if_pos (by omega), List.getElem?_append_right (by simp; omega), List.length_append, List.length_take, Nat.min_eq_left (by omega)]
        · rw [if_neg h3, List.getElem?_eq_none]
          simp; omega
  constructor
  · refine key _ fun k => ?_
    rw [splice_get _ _ _ (by rw [splice_length]; omega), splice_get _ _ _ (by omega)]
    split
    · rename_i hk; rw [if_neg (by omega)]
    · rfl
  · refine key _ fun k => ?_
    rw [splice_get _ _ _ (by rw [splice_length]; omega), splice_get _ _ _ (by omega)]
theorem splice_take (cs vs : List Value) (o k : Nat) (h : o + vs.length ≤ cs.length) (hk : k ≤ o) : (splice cs o vs).take k = cs.take k := by
  apply List.ext_getElem?
  intro j
  rw [List.getElem?_take, List.getElem?_take]
  split
  · rw [splice_get _ _ _ h, if_neg (by omega)]
  · rfl
end Go.Proofs.Ytclehoaeppbmpaa
