/- A slice that need not begin at its block's head: cut at the front, grown at the end. -/
import Derived.Test.YtcchgkjcoknkcaaRAW
namespace Go.Proofs.Ytcchgkjcoknkcaa
set_option linter.unusedVariables false
set_option linter.unusedSimpArgs false
set_option linter.unusedSectionVars false
set_option linter.unnecessarySimpa false
open Go Go.Proofs
set_option maxRecDepth 20000
set_option maxHeartbeats 4000000
attribute [local irreducible] SG WC WO W1 WD WK PS Rd Tri Exit.then Exit.inBlock bodyPost calmQ Mid sadd
variable {W : World} {n : Nat} {F : Fr} {L : List HP} {G : Act → World → Prop}
/-- A slice of the call's own, from any place of its block on to the block's end. -/
def swin (a : Option Addr) (n c sz : Nat) (xs : List Value) : HP := fun h =>
  xs.length = n * sz ∧ ((n = 0 ∧ c = 0) ∨ ∃ (g o : Nat) (cur : List Value) (T : TypeId) (fz : Nat × Nat), a = some ⟨g, o, none⟩ ∧ n ≤ c ∧ c ≤ maxLen ∧ cur.length = o + c * sz ∧ (cur.drop o).take (n * sz) = xs ∧ thawed fz cur.length ∧ h = PH.one g (.cells cur.toArray T fz))
theorem own_win {W w : World} {g o c n sz : Nat} {cur xs : List Value} {L : List HP} (hO : Own W w (blk g cur :: L)) (hn : n ≤ c) (hc : c ≤ maxLen) (hl : cur.length = o + c * sz) (hx : (cur.drop o).take (n * sz) = xs) :
    Own W w (swin (some ⟨g, o, none⟩) n c sz xs :: L) := by
  refine hO.imp ?_
  rintro h ⟨T, fz, ht, rfl⟩
  refine ⟨?_, .inr ⟨g, o, cur, T, fz, rfl, hn, hc, hl, hx, ht, rfl⟩⟩
  rw [← hx, List.length_take, List.length_drop, hl, Nat.add_sub_cancel_left]
  exact Nat.min_eq_left (Nat.mul_le_mul_right _ hn)
theorem Own.winCells {W w : World} {a : Option Addr} {n c sz : Nat} {xs : List Value} {L : List HP} (hO : Own W w (swin a n c sz xs :: L)) :
    xs.length = n * sz ∧ ((n = 0 ∧ c = 0) ∨ ∃ g o, a = some ⟨g, o, none⟩ ∧ n ≤ c ∧ c ≤ maxLen ∧ ∀ j u, xs[j]? = some u → w.cell? ⟨g, o + j, none⟩ = some u) := by
  obtain ⟨h, K, ⟨hl, hx⟩, hs, _⟩ := hO.uncons
  refine ⟨hl, ?_⟩
  rcases hx with hx | ⟨g, o, cur, T, fz, ha, hn, hc, hcl, ht, hfz, rfl⟩
  · exact .inl hx
  · refine .inr ⟨g, o, ha, hn, hc, fun j u hj => ?_⟩
    rw [cell_of_heap (PH.sub_one.1 hs)]
    rw [← ht, List.getElem?_take] at hj
    split at hj
    · rw [List.getElem?_drop] at hj; exact hj
    · simp at hj
theorem rd_swin {L : List HP} (i : Nat) {a : Option Addr} {n c sz : Nat} {xs vs : List Value} (hL : L[i]? = some (swin a n c sz xs)) (hv : ∀ (j : Nat) (u : Value), vs[j]? = some u → xs[j]? = some u) : Rd W L a vs := by
  unfold Rd
  intro w hO
  obtain ⟨L', hO'⟩ := hO.nth hL
  obtain ⟨hl, ⟨hn, _⟩ | ⟨g, o, ha, _, _, hc⟩⟩ := hO'.winCells
  · left
    have hx : xs = [] := List.eq_nil_of_length_eq_zero (by rw [hl, hn]; simp)
    cases vs with
    | nil => rfl
    | cons v vs => have := hv 0 v rfl; rw [hx] at this; simp at this
  · exact .inr ⟨g, o, ha, fun j u hj => hc j u (hv j u hj)⟩
theorem sg_swin_some (k : Nat) {a : Option Addr} {m c sz : Nat} {xs : List Value} (hL : L[k]? = some (swin a m c sz xs)) (hne : 0 < m) (h : ∀ b o, a = some ⟨b, o, none⟩ → SG W n F L G) : SG W n F L G := by
  refine sg_open (X := Nat × Nat) (L' := fun _ => L) (φ := fun b => a = some ⟨b.1, b.2, none⟩) (fun w hO => ?_) (fun b hb => h b.1 b.2 hb)
  obtain ⟨L', hO'⟩ := hO.nth hL
  obtain ⟨_, ⟨hn, _⟩ | ⟨g, o, ha, _⟩⟩ := hO'.winCells
  · omega
  · exact ⟨(g, o), ha, hO⟩
theorem own_nilwin {W w : World} {a : Option Addr} {sz : Nat} {L : List HP} (hO : Own W w L) : Own W w (swin a 0 0 sz [] :: L) :=
  hO.push (h := fun _ => none) rfl rfl rfl (fun _ _ => rfl) ⟨by simp, .inl ⟨rfl, rfl⟩⟩ (fun b o h => by simp at h) (fun _ _ => rfl)
/-- xs[1:] -/
theorem Own.winTail {W w : World} {a : Option Addr} {n c sz : Nat} {xs : List Value} {L : List HP} (hO : Own W w (swin a n c sz xs :: L)) (h0 : 0 < n) :
    Own W w (swin (if c = 1 then a else a.map (·.add (1 * sz))) (n - 1) (c - 1) sz (xs.drop sz) :: L) := by
  refine hO.imp ?_
  rintro h ⟨hl, ⟨rfl, _⟩ | ⟨g, o, cur, T, fz, rfl, hn, hc, hcl, ht, hfz, rfl⟩⟩
  · omega
  · obtain ⟨m, rfl⟩ : ∃ m, n = m + 1 := ⟨n - 1, by omega⟩
    obtain ⟨k, rfl⟩ : ∃ k, c = k + 1 := ⟨c - 1, by omega⟩
    have hl' : (xs.drop sz).length = m * sz := by rw [List.length_drop, hl, Nat.add_mul, Nat.one_mul, Nat.add_sub_cancel]
    refine ⟨hl', ?_⟩
    by_cases hk : k = 0
    · subst hk
      exact .inl ⟨by omega, rfl⟩
    · refine .inr ⟨g, o + sz, cur, T, fz, ?_, by omega, by omega, ?_, ?_, hfz, rfl⟩
      · rw [if_neg (by omega), Option.map_some, addr_add, Nat.one_mul]
      · rw [hcl, Nat.add_sub_cancel, Nat.add_mul]; omega
      · rw [← ht, List.drop_take, List.drop_drop, Nat.add_sub_cancel]
        congr 1
        rw [Nat.add_mul, Nat.one_mul, Nat.add_sub_cancel]
section
variable {P : Program} {ops : Array Oper} {Q : Exit → Act → World → Prop} {rest : List Oper} {K : Act → World → Prop}
variable {d : Nat} {ty : TypeId} {pos : String} {af : Array Edge}
theorem run_append_win {w : World} {t t2 e : TypeId} {z : Value} {sz by_ sn sc m : Nat} {sa : Option Addr} {xs news : List Value} {ty : TypeId} {x : Value}
    (ht : P.underlying t = some (.slice e)) (ht2 : P.underlying t2 = some (.slice e)) [hz : Zero P e z sz by_] (hO : Own W w (swin sa sn sc sz xs :: L))
    (hlen : ∀ w : World, (Builtin.lenOf x).run P w = .ok m w) (hl : news.length = m * sz) (h1 : ∀ u ∈ news, u.oneCell' = true)
    (hsrc : ∀ w, Own W w (swin sa sn sc sz xs :: L) → (Builtin.firstCells sz m x).run P w = .ok news.toArray w)
    (hmax : sn + m ≤ maxLen) (hb : (sn + m) * by_ ≤ 140737488355328) :
    ∃ w' a' c', (Builtin.append_ #[t, t2] ty #[.slice sa sn sc, x]).run P w = .ok (.slice a' (sn + m) c') w' ∧ Own W w' (swin a' (sn + m) c' sz (xs ++ news) :: L) := by
  obtain ⟨i, i1, i2, i3, i4, i5⟩ := hz.h
  obtain ⟨h, K, ⟨hxl, hcase⟩, hs, hK, hS, hdj⟩ := hO.uncons
  have hmx : sn + m ≤ 9223372036854775807 := by simpa only [maxLen] using hmax
  have h63 : ¬ (9223372036854775807 < ((sn : Int) + (m : Int))) := by omega
  have hns := hsrc w hO
  have hnd := hsrc w.drew hO.drew
  by_cases hroom : sn + m ≤ sc
  · rcases hcase with ⟨rfl, rfl⟩ | ⟨g, o, cur, T, fz, rfl, hn, hc, hcl, htk, hfz, rfl⟩
    · have hm : m = 0 := by omega
      subst hm
      have hnews : news = [] := List.eq_nil_of_length_eq_zero (by simpa using hl)
      subst hnews
      refine ⟨w, sa, 0, ?_, by simpa using hO⟩
      cases sa <;> simp [Builtin.append_, run_underlying ht, run_underlying ht2, sizeOf, typeInfo, i1, i3, hlen, hns, Go.storeCells]
    · have hO2 : Own W w (blk g cur :: L) := by
        refine .cons hO.os hO.tape hO.output ?_ hs hK hS hdj
        exact ⟨T, fz, hfz, rfl⟩
      have hfit0 : sn * sz + news.length ≤ sc * sz := by rw [hl, ← Nat.add_mul]; exact Nat.mul_le_mul_right _ hroom
      have hfit : (o + sn * sz) + news.length ≤ cur.length := by omega
      obtain ⟨w', hr, hO'⟩ := Own.storeCells (P := P) (o + sn * sz) news 0 cur w hO2 (by simpa using hfit) h1
      refine ⟨w', some ⟨g, o, none⟩, sc, ?_, ?_⟩
      · have hadd : (⟨g, o, none⟩ : Addr).add (sn * sz) = ⟨g, o + sn * sz, none⟩ := by rw [addr_add]
        simp [Builtin.append_, run_underlying ht, run_underlying ht2, sizeOf, typeInfo, i1, i3, hlen, hns, hroom, hadd, hr]
      · simp only [Nat.add_zero] at hO'
        refine own_win hO' hroom hc (by simpa using hcl) ?_
        rw [splice_eq _ _ _ hfit]
        have e0 : cur.take (o + sn * sz) = cur.take o ++ xs := by rw [List.take_add, htk]
        rw [e0, List.append_assoc, List.append_assoc, List.drop_append_of_le_length (by rw [List.length_take]; omega), List.drop_of_length_le (by rw [List.length_take]; omega), List.nil_append, Nat.add_mul, ← hl, ← hxl, ← List.length_append, ← List.append_assoc, List.take_left]
  · have h48 : ¬ (281474976710656 < Builtin.nextslicecap (sn + m) sc * by_) := by have := growslice_fits (need := sn + m) (old := sc) (bytes := by_) (by omega) hb; omega
    have hold : (Builtin.firstCells sz sn (.slice sa sn sc)).run P w.drew = .ok xs.toArray w.drew := by
      refine run_first (W := W) (L := swin sa sn sc sz xs :: L) ?_ hO.drew hxl
      exact rd_swin 0 rfl fun j u hj => hj
    refine ⟨w.drew.alloc (.cells (xs ++ news ++ (Builtin.zeroCells z.cells (grownCap w (sn + m) sc e - (sn + m))).toList).toArray e), some ⟨w.heap.size, 0, none⟩, grownCap w (sn + m) sc e, ?_, ?_⟩
    · simp [Builtin.append_, run_underlying ht, run_underlying ht2, sizeOf, typeInfo, zeroValue, i1, i2, i3, i4, hlen, hnd, hold, hroom, h63, h48, Question.forced, newRow, grownCap]
      try (congr 2; apply Array.ext'; simp)
    · have hal := (hO.tail.drew).alloc (xs ++ news ++ (Builtin.zeroCells z.cells (grownCap w (sn + m) sc e - (sn + m))).toList) e
      refine own_win hal (grownCap_ge _ _ _ _) (grownCap_le_maxLen _ _ _ _ hmax) ?_ ?_
      · have := grownCap_ge w (sn + m) sc e
        rw [Nat.zero_add]
        simp only [List.length_append, Array.length_toList, size_zeroCells, hxl, hl, i5, ← Nat.add_mul]
        congr 1; omega
      · rw [List.drop_zero, Nat.add_mul, ← hl, ← hxl, ← List.length_append, List.take_left]
theorem sg_append_win {s x : Operand} {t e sz sn sc m c by_ : Nat} {sa xa : Option Addr} {z : Value} {xs news : List Value} [hs : SliceT P t e sz] [hz : Zero P e z sz by_] (hse : ev F s = some (.slice sa sn sc)) (hxe : ev F x = some (.slice xa m c)) (hd : Nat.blt d n = true)
    (hl : news.length = m * sz) (h1 : ∀ u ∈ news, u.oneCell' = true) (hsrc : Rd W (swin sa sn sc sz xs :: L) xa news) (hmax : sn + m ≤ maxLen) (hb : (sn + m) * by_ ≤ 140737488355328)
    (h : ∀ a' c', SG W n ((d, .slice a' (sn + m) c') :: F) (swin a' (sn + m) c' sz (xs ++ news) :: L) K) :
    SG W n F (swin sa sn sc sz xs :: L) (W1 P ops Q ⟨some d, .call { callee := .builtin .append, args := #[s, x], argTypes := #[t, t] }, ty, pos, af, none⟩ K) := by
  obtain ⟨i, h2, h3, h4⟩ := hs.h
  refine sg_value (X := Option Addr × Nat) (fun y => .slice y.1 (sn + m) y.2) (fun y => swin y.1 (sn + m) y.2 sz (xs ++ news) :: L) (fun _ => True) hd (fun w hO a ha => ?_) (fun y _ => h y.1 y.2)
  obtain ⟨w', a', c', hr, hO'⟩ := run_append_win (P := P) (ty := ty) (x := .slice xa m c) h2 h2 hO (fun w => by simp [Builtin.lenOf]) hl h1 (fun w hO => run_first hsrc hO hl) hmax hb
  exact ⟨(a', c'), w', by simp [execOp, resolve, invoke, builtin, ha.ev hse, ha.ev hxe, hr], trivial, hO'⟩
end
end Go.Proofs.Ytcchgkjcoknkcaa
