/- slices.Clone of bytes; slices.Delete of one pointer. -/
import Derived.Test.YtclehoaeppbmpaaPO3
namespace Go.Proofs.Ytclehoaeppbmpaa
set_option linter.unusedVariables false
set_option linter.unusedSimpArgs false
set_option linter.unusedSectionVars false
set_option linter.unnecessarySimpa false
open Go Go.Proofs
section
variable {P : Program} {n : Nat} {F : Fr} {ty : TypeId}
theorem ps_slice_lhm {x lo hi mx : Operand} {t e sz len cap l h' m : Nat} {a0 : Option Addr} {k k' k2 : IntKind} {i j q : Int} [hs : SliceT P t e sz] (hx : ev F x = some (.slice a0 len cap)) (hlo : ev F lo = some (.int k i)) (hhi : ev F hi = some (.int k' j)) (hmx : ev F mx = some (.int k2 q))
    (hi1 : i = (l : Int)) (hj1 : j = (h' : Int)) (hq1 : q = (m : Int)) (hlh : l ≤ h') (hhm : h' ≤ m) (hc : m ≤ cap) :
    PS P n F (.slice t x (some lo) (some hi) (some mx)) ty (.slice (if m = l then a0 else a0.map (·.add (l * sz))) (h' - l) (m - l)) := by
  obtain ⟨i0, h2, h3, h4⟩ := hs.h
  subst hi1 hj1 hq1
  intro a ha w dst pos af g
  simp [execOp, ha.ev hx, ha.ev hlo, ha.ev hhi, ha.ev hmx, Instr.sliceAt, Instr.slice, run_underlying h2, Instr.sliceBounds, Instr.sliceBound, asIntOf, sizeOf, typeInfo, h3, h4, hlh, hc, hhm]
end
theorem splice_del (cur xs : List Value) (i k c : Nat) (hc : cur.length = c) (hk : k + 1 ≤ c) (hi : i ≤ k) (ht : cur.take (k + 1) = xs) : (splice cur i (xs.drop (i + 1))).take k = xs.take i ++ xs.drop (i + 1) := by
  have hxl : xs.length = k + 1 := by rw [← ht, List.length_take]; omega
  have hdl : (xs.drop (i + 1)).length = k - i := by rw [List.length_drop]; omega
  apply List.ext_getElem?
  intro j
  rw [List.getElem?_take]
  split
  · rename_i hj
    rw [splice_get _ _ _ (by omega)]
    by_cases hji : i ≤ j
    · rw [if_pos ⟨hji, by omega⟩, List.getElem?_append_right (by rw [List.length_take]; omega), List.length_take]
      congr 1; omega
    · rw [if_neg (by omega), List.getElem?_append_left (by rw [List.length_take]; omega), List.getElem?_take, if_pos (by omega), ← ht, List.getElem?_take, if_pos (by omega)]
  · rename_i hj
    rw [List.getElem?_eq_none]
    rw [List.length_append, List.length_take]; omega
set_option maxRecDepth 20000
set_option maxHeartbeats 4000000
attribute [local irreducible] SG WC WO W1 WD WK PS Rd Tri Exit.then Exit.inBlock bodyPost calmQ Mid sadd
variable {W : World} {n : Nat} {F : Fr} {L : List HP} {G : Act → World → Prop}
theorem bclone_tri (bs : List UInt8) (a : Option Addr) (c : Nat) (L : List HP) (hl : bs.length ≤ 140737488355328) (hr : Rd W L a (bs.map bv)) (ha : a = none → c = 0 ∧ bs = []) :
    Tri Try.prog W 35 [.slice a bs.length c] L (X := Option Addr × Nat) (fun x => .slice x.1 bs.length x.2) (fun _ => True) (fun x => sown x.1 bs.length x.2 1 (bs.map bv) :: L) := by
  refine tri_enter1 Try.func35 rfl Try.ntmps35 rfl ?_
  cases a with
  | none =>
    obtain ⟨rfl, rfl⟩ := ha rfl
    rw [List.length_nil]
    repeat' (first | refine sg_wo ?_ | refine sg_ps (ps_move rfl) rfl ?_ | refine sg_ps (ps_assign rfl) rfl ?_ | refine sg_seq ?_ | refine sg_region ?_ | refine sg_nil ?_ | refine sg_then ?_ | refine sg_ps (ps_bin rfl rfl inferInstance) rfl ?_ | refine sg_cond_t rfl ?_ | refine sg_ret ?_ | refine ex_then_ret ?_)
    exact ex_ret1 rfl rfl (none, 0) rfl trivial (fun w hO => own_nil hO)
  | some ad =>
    repeat' (first | refine sg_wo ?_ | refine sg_ps (ps_move rfl) rfl ?_ | refine sg_ps (ps_assign rfl) rfl ?_ | refine sg_seq ?_ | refine sg_region ?_ | refine sg_nil ?_ | refine sg_then ?_ | refine sg_ps (ps_bin rfl rfl inferInstance) rfl ?_ | refine sg_cond_f rfl ?_ | refine sg_skip ?_)
    refine sg_buildSlice (parts := []) (vs := []) (cells := []) rfl (by omega) rfl rfl (fun b => ?_)
    refine sg_own_mk (m := 0) (c := 0) (sz := 1) (xs := []) (Nat.le_refl _) (Nat.zero_le _) rfl rfl ?_
    repeat' (first | refine sg_wo ?_ | refine sg_ps (ps_move rfl) rfl ?_)
    refine sg_append (news := bs.map bv) rfl rfl rfl (by simp) bv_one (Rd.mono hr) (by simp only [maxLen]; omega) (by omega) fun a' c' => ?_
    rw [List.nil_append, Nat.zero_add]
    repeat' (first | refine sg_wo ?_ | refine sg_ps (ps_assign rfl) rfl ?_ | refine sg_nil ?_ | refine sg_then ?_ | refine sg_ret ?_)
    exact ex_ret1 rfl rfl (a', c') rfl trivial (fun w hO => hO)
theorem pdel_tri (xs : List Value) (a : Option Addr) (k c i : Nat) (R : List HP) (hi : i ≤ k) (hk : k ≤ 1000000) (hxl : xs.length = k + 1) (h1 : ∀ u ∈ xs, u.oneCell' = true) :
    Tri Try.prog W 50 [.slice a (k + 1) c, i64 i, i64 ((i + 1 : Nat) : Int)] (sown a (k + 1) c 1 xs :: R) (X := Unit) (fun _ => .slice a k c) (fun _ => True)
      (fun _ => sown a k c 1 (xs.take i ++ xs.drop (i + 1)) :: R) := by
  refine tri_enter3 Try.func50 rfl Try.ntmps50 rfl ?_
  refine sg_open (L' := fun (y : Nat × List Value) => blk y.1 y.2 :: R) (fun w hO => own_block (by omega) hO) ?_
  rintro ⟨g, cur⟩ ⟨rfl, hc1, hc2, hc3, hc4⟩
  dsimp only at hc3 hc4 ⊢
  rw [Nat.mul_one] at hc3 hc4
  repeat' (first | refine sg_wo ?_ | refine sg_ps (ps_move rfl) rfl ?_ | refine sg_ps (ps_assign rfl) rfl ?_ | refine sg_seq ?_ | refine sg_region ?_ | refine sg_nil ?_ | refine sg_then ?_ | refine sg_ps (ps_len rfl) rfl ?_)
  refine sg_ps (ps_slice_lhm (l := i) (h' := i + 1) (m := k + 1) rfl rfl rfl rfl rfl rfl rfl (by omega) (by omega) hc1) rfl ?_
  repeat' (first | refine sg_wo ?_ | refine sg_ps (ps_move rfl) rfl ?_ | refine sg_ps (ps_assign rfl) rfl ?_ | refine sg_seq ?_ | refine sg_region ?_ | refine sg_nil ?_ | refine sg_then ?_ | refine sg_ps (ps_bin rfl rfl inferInstance) rfl ?_ | refine sg_ps (ps_len rfl) rfl ?_ | refine sg_skip ?_ | (refine sg_cond_dec rfl (fun hg => ?_) (fun hg => ?_) <;> first | (exfalso; omega) | (exact absurd rfl hg) | skip))
  refine sg_drawK [] [0, 1, 2, 3, 4, 5, 6, 7] (by kernel_rfl) (by kernel_rfl) (fun w hO => hO.pick [] (by decide)) ?_
  repeat' (first | refine sk_pure rfl rfl (ps_move rfl) rfl ?_)
  refine sk_pure rfl rfl (ps_slice_h (h' := i) rfl rfl rfl (by omega)) rfl ?_
  repeat' (first | refine sk_pure rfl rfl (ps_move rfl) rfl ?_)
  refine sk_pure rfl rfl (ps_slice_l (l := i + 1) rfl rfl rfl (by omega)) rfl ?_
  repeat' (first | refine sk_eff rfl rfl ?_)
  have hsrc : Rd W (blk g cur :: R) (if c = i + 1 then some ⟨g, 0, none⟩ else (some (⟨g, 0, none⟩ : Addr)).map (·.add ((i + 1) * 1))) (xs.drop (i + 1)) := by
    by_cases h : i = k
    · rw [List.drop_of_length_le (by omega)]; exact rd_nil
    · rw [if_neg (by omega), Option.map_some, addr_add, Nat.mul_one]
      refine rd_blk 0 rfl fun j u hj => ?_
      rw [List.getElem?_drop, ← hc4, List.getElem?_take] at hj
      split at hj
      · rw [Nat.zero_add]; exact hj
      · cases hj
  refine sg_append_in (news := xs.drop (i + 1)) [] rfl rfl rfl (by rw [List.length_drop, hxl, Nat.mul_one]) (fun u hu => h1 u (List.mem_of_mem_drop hu)) hsrc (by omega) (by rw [Nat.mul_one]; exact hc3) ?_
  refine sk_back (fun w hO => hO.pick [] (by decide)) ?_
  repeat' (first | refine sk_nil ?_ | refine sk_pure rfl rfl (ps_assign rfl) rfl ?_)
  refine sg_then ?_
  repeat' (first | refine sg_wo ?_ | refine sg_ps (ps_move rfl) rfl ?_ | refine sg_seq ?_ | refine sg_region ?_ | refine sg_ps (ps_len rfl) rfl ?_)
  have e : i + (k + 1 - (i + 1)) = k := by omega
  rw [e]
  refine sg_ps (ps_slice_lh (l := k) (h' := k + 1) rfl rfl rfl rfl rfl (by omega) (by omega)) rfl ?_
  rw [if_neg (by omega : ¬ c = k), show k + 1 - k = 0 + 1 by omega]
  refine sg_wo ?_
  refine sg_clear (z := .pointer none) (l := 0) (c := c - k) (b := g) (o := k) (cs := splice cur (i * 1) (xs.drop (i + 1))) [] (by simp [look, ev, addr_add]) (by decide) (by rw [splice_length, hc3]; omega) ?_
  repeat' (first | refine sg_wo ?_ | refine sg_ps (ps_move rfl) rfl ?_ | refine sg_ps (ps_assign rfl) rfl ?_ | refine sg_seq ?_ | refine sg_region ?_ | refine sg_nil ?_ | refine sg_then ?_ | refine sg_ret ?_)
  refine ex_ret1 rfl rfl () rfl trivial (fun w hO => ?_)
  refine own_mk (by exact hO) (by omega) (by simpa [maxLen] using hc2) (by rw [splice_length, splice_length, hc3, Nat.mul_one]) ?_
  have hd := splice_del cur xs i k c hc3 (by omega) hi hc4
  have hz : (Builtin.zeroCells (Value.pointer none).cells (0 + 1)).toList.length = 1 := by rw [Array.length_toList, size_zeroCells]; rfl
  rw [Nat.mul_one, Nat.mul_one, splice_take _ _ _ _ (by rw [splice_length, hc3, hz]; omega) (Nat.le_refl _), hd]
end Go.Proofs.Ytclehoaeppbmpaa
