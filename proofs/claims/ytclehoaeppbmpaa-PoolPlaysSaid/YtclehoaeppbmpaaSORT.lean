/- slices.Sort at uint64: the block of the numbers; cmp.Less. | slices.Sort at uint64: insertionSortOrdered. | slices.Sort at uint64: siftDownOrdered, heapSortOrdered. | slices.Sort at uint64: order2Ordered, medianOrdered, medianAdjacentOrdered, choosePivotOrdered. | slices.Sort at uint64: partitionOrdered. | slices.Sort at uint64: partitionEqualOrdered. | slices.Sort at uint64: partialInsertionSortOrdered. | slices.Sort at uint64: bits.Len, nextPowerOfTwo, xorshift.Next, breakPatternsOrdered. | slices.Sort at uint64: reverseRangeOrdered, pdqsortOrdered, Sort. | slices.Sort at uint64: a slice of the call's own, and nil. -/
import Derived.Test.YtclehoaeppbmpaaEX0
import Derived.Test.YtclehoaeppbmpaaDR5
import Derived.Sort.AssemblyPlain
namespace Go.Proofs.Ytclehoaeppbmpaa
set_option linter.unusedVariables false
set_option linter.unusedSimpArgs false
set_option linter.unusedSectionVars false
set_option linter.unnecessarySimpa false
open Go Go.Proofs Go.Sort
def ucs (d : Array Int) : List Value := d.toList.map fun x => Value.int .u64 x
theorem ucs_eq (d : Array Int) : ucs d = d.toList.map fun x => Value.int .u64 x := rfl
theorem ucs_len (d : Array Int) : (ucs d).length = d.size := by unfold ucs; simp
theorem uat {d : Array Int} {i : Nat} (rest : List Value) (h : i < d.size) : (ucs d ++ rest)[0 + i * 1]? = some (.int .u64 d[i]!) := by
  rw [Nat.zero_add, Nat.mul_one, List.getElem?_append_left (by rw [ucs_len]; exact h)]
  unfold ucs
  simp [h]
theorem ult {d : Array Int} {i : Nat} (rest : List Value) (h : i < d.size) : 0 + i * 1 < (ucs d ++ rest).length := by
  rw [List.length_append, ucs_len]; omega
theorem ult2 {d : Array Int} {i k : Nat} {v : Value} (rest : List Value) (h : i < d.size) : 0 + i * 1 < ((ucs d ++ rest).set k v).length := by
  rw [List.length_set]; exact ult rest h
theorem uset {d : Array Int} {i : Nat} {v : Int} (rest : List Value) (h : i < d.size) : (ucs d ++ rest).set (0 + i * 1) (.int .u64 v) = ucs (d.setIfInBounds i v) ++ rest := by
  rw [Nat.zero_add, Nat.mul_one, List.set_append_left _ _ (by rw [ucs_len]; exact h)]
  unfold ucs
  rw [Array.toList_setIfInBounds, List.map_set]
theorem uswp {d : Array Int} {i j : Nat} (rest : List Value) (hi : i < d.size) (hj : j < d.size) : ((ucs d ++ rest).set (0 + i * 1) (.int .u64 d[j]!)).set (0 + j * 1) (.int .u64 d[i]!) = ucs (swp d i j) ++ rest := by
  rw [uset rest hi, uset rest (by rw [Array.size_setIfInBounds]; exact hj)]; rfl
theorem swp_size (d : Array Int) (i j : Nat) : (swp d i j).size = d.size := by unfold swp; simp
section
variable {P : Program} {n : Nat} {F : Fr} {ty : TypeId}
theorem ps_indexAddrI {x ix : Operand} {t e sz b o len cap : Nat} {k : IntKind} {i : Int} [hs : SliceT P t e sz] (hx : ev F x = some (.slice (some ⟨b, o, none⟩) len cap)) (hi : ev F ix = some (.int k i))
     (h0 : 0 ≤ i) (hlt : i < (len : Int)) : PS P n F (.indexAddr t x ix) ty (.pointer (some ⟨b, o + i.toNat * sz, none⟩)) :=
  ps_indexAddr (j := i.toNat) hx hi (by omega) (by omega)
theorem ps_quoN {t yt : TypeId} {x y : Operand} {k : IntKind} {i j m : Int} (hx : ev F x = some (.int k i)) (hy : ev F y = some (.int k j)) (hr : j ≠ 0) (hm : i.tdiv j = m) (hw : k.wrap m = m) : PS P n F (.binOp .quo t x y yt) ty (.int k m) := by
  unfold PS
  intro a ha w dst pos af g
  simp [execOp, ha.ev hx, ha.ev hy, eqGuard, binOp, Op.intDiv, hr, hm, hw]
end
theorem wrap64 {m : Int} (h1 : -1000000000 ≤ m) (h2 : m ≤ 1000000000) : IntKind.i64.wrap m = m := by
  unfold IntKind.wrap; simp [IntKind.signed, IntKind.bits]; omega
theorem siftDown_size (hi first : Nat) : ∀ (k root : Nat) (d : Array Int), hi - root ≤ k → (siftDown ltInt hi first root d).size = d.size
  | k, root, d, hk => by
    rw [siftDown]
    split
    · rfl
    · rename_i hc
      have hlt : ∀ ch (d' : Array Int), root < ch → ch < hi → d'.size = d.size → (siftDown ltInt hi first ch d').size = d.size := fun ch d' h1 h2 h3 => by
        match k with
        | 0 => omega
        | k + 1 => rw [siftDown_size hi first k ch d' (by omega), h3]
      split
      · split
        · rfl
        · split
          · exact hlt _ _ (by omega) (by omega) (swp_size _ _ _)
          · rfl
      · split
        · rfl
        · exact hlt _ _ (by omega) (by omega) (swp_size _ _ _)
instance isFnSo1 : IsFn Try.prog 51 := ⟨_, Try.func51, rfl, rfl⟩
instance isFnSo2 : IsFn Try.prog 62 := ⟨_, Try.func62, rfl, rfl⟩
instance isFnSo3 : IsFn Try.prog 52 := ⟨_, Try.func52, rfl, rfl⟩
instance isFnSo4 : IsFn Try.prog 68 := ⟨_, Try.func68, rfl, rfl⟩
instance isFnSo5 : IsFn Try.prog 66 := ⟨_, Try.func66, rfl, rfl⟩
instance isFnSo6 : IsFn Try.prog 65 := ⟨_, Try.func65, rfl, rfl⟩
instance isFnSo7 : IsFn Try.prog 54 := ⟨_, Try.func54, rfl, rfl⟩
instance isFnSo8 : IsFn Try.prog 59 := ⟨_, Try.func59, rfl, rfl⟩
instance isFnSo9 : IsFn Try.prog 58 := ⟨_, Try.func58, rfl, rfl⟩
instance isFnSo10 : IsFn Try.prog 56 := ⟨_, Try.func56, rfl, rfl⟩
instance isFnSo11 : IsFn Try.prog 49 := ⟨_, Try.func49, rfl, rfl⟩
instance isFnSo12 : IsFn Try.prog 61 := ⟨_, Try.func61, rfl, rfl⟩
instance isFnSo13 : IsFn Try.prog 63 := ⟨_, Try.func63, rfl, rfl⟩
instance isFnSo14 : IsFn Try.prog 64 := ⟨_, Try.func64, rfl, rfl⟩
instance isFnSo15 : IsFn Try.prog 53 := ⟨_, Try.func53, rfl, rfl⟩
instance isFnSo16 : IsFn Try.prog 55 := ⟨_, Try.func55, rfl, rfl⟩
instance isFnSo17 : IsFn Try.prog 48 := ⟨_, Try.func48, rfl, rfl⟩
instance isFnSo18 : IsFn Try.prog 37 := ⟨_, Try.func37, rfl, rfl⟩
instance isFnSo19 : IsFn Try.prog 57 := ⟨_, Try.func57, rfl, rfl⟩
instance isFnSo20 : IsFn Try.prog 67 := ⟨_, Try.func67, rfl, rfl⟩
set_option maxRecDepth 20000
set_option maxHeartbeats 4000000
attribute [local irreducible] SG WC WO W1 WD WK PS Rd Tri Exit.then Exit.inBlock bodyPost calmQ Mid sadd
variable {W : World} {n : Nat} {F : Fr} {L : List HP} {G : Act → World → Prop}
theorem nan_tri (x : Int) (R : List HP) : Tri Try.prog W 67 [.int .u64 x] R (X := Unit) (fun _ => .bool false) (fun _ => True) (fun _ => R) := by
  refine tri_enter1 Try.func67 rfl Try.ntmps67 rfl ?_
  repeat' (first
    | refine sg_wo ?_
    | refine sg_ps (ps_move rfl) rfl ?_
    | refine sg_ps (ps_assign rfl) rfl ?_
    | refine sg_seq ?_
    | refine sg_region ?_
    | refine sg_nil ?_
    | refine sg_then ?_
    | refine sg_ps (ps_fieldAddr rfl) rfl ?_
    | refine sg_ps (ps_nilCheck rfl) rfl ?_
    | refine sg_load 0 rfl rfl rfl rfl ?_
    | refine sg_load 1 rfl rfl rfl rfl ?_
    | refine sg_load 2 rfl rfl rfl rfl ?_
    | refine sg_load 3 rfl rfl rfl rfl ?_
    | refine sg_load 4 rfl rfl rfl rfl ?_
    | refine sg_load 5 rfl rfl rfl rfl ?_
    | refine sg_load 6 rfl rfl rfl rfl ?_
    | refine sg_load 7 rfl rfl rfl rfl ?_
    | refine sg_ps (ps_add64 rfl rfl (by omega)) rfl ?_
    | refine sg_ps (ps_sub64 rfl rfl (by omega)) rfl ?_
    | refine sg_ps (ps_mul64 rfl rfl (by omega)) rfl ?_
    | refine sg_ps (ps_bin rfl rfl inferInstance) rfl ?_
    | refine sg_ps (ps_rem rfl rfl (by decide)) rfl ?_
    | refine sg_ps (ps_quo64 rfl rfl (by decide) (by omega)) rfl ?_
    | refine sg_ps (ps_not rfl) rfl ?_
    | refine sg_ps (ps_conv rfl) rfl ?_
    | refine sg_ps (ps_shl rfl rfl (by decide) rfl) rfl ?_
    | refine sg_ps (ps_shr rfl rfl (by decide) rfl) rfl ?_
    | refine sg_cond_t rfl ?_
    | refine sg_cond_f rfl ?_
    | refine sg_guard_yes rfl rfl ?_
    | refine sg_guard_nf rfl rfl rfl ?_
    | refine sg_guard_nt rfl rfl rfl ?_
    | refine sg_guard_nu rfl rfl rfl ?_
    | refine sg_ps (ps_pick_t rfl rfl) rfl ?_
    | refine sg_ps (ps_pick_f rfl rfl) rfl ?_
    | refine sg_ps (ps_len rfl) rfl ?_
    | refine sg_ps (ps_len_str rfl) rfl ?_
    | refine sg_ps (ps_extract rfl rfl) rfl ?_
    | refine sg_ps (ps_field rfl rfl) rfl ?_
    | refine sg_ps (ps_min2 rfl rfl) rfl ?_
    | refine sg_ps (ps_max2 rfl rfl) rfl ?_
    | refine sg_ps (ps_build rfl rfl) rfl ?_
    | refine sg_box rfl rfl (fun bx => ?_)
    | refine sg_ps (ps_indexAddr rfl rfl rfl (by omega)) rfl ?_
    | refine sg_ps (ps_indexAddr (j := 0) rfl rfl rfl (by omega)) rfl ?_
    | refine sg_ps (ps_indexAddr (j := 1) rfl rfl rfl (by omega)) rfl ?_
    | refine sg_ps (ps_indexAddr_arr rfl rfl rfl (by omega)) rfl ?_
    | refine sg_block ?_
    | refine sg_skip ?_
    | refine sg_ret ?_
    | refine sg_exit ?_
    | refine ex_then_ret ?_
    | refine ex_then_exit ?_
    | refine ex_block_ret ?_
    | refine ex_block_normal ?_
    | refine ex_block_hit ?_
    | refine ex_block_miss rfl ?_
    | refine sg_store [] rfl rfl rfl (of_decide_eq_true rfl) ?_
    | refine sg_store [_] rfl rfl rfl (of_decide_eq_true rfl) ?_
    | refine sg_store [_, _] rfl rfl rfl (of_decide_eq_true rfl) ?_
    | refine sg_store [_, _, _] rfl rfl rfl (of_decide_eq_true rfl) ?_
    | refine sg_store [_, _, _, _] rfl rfl rfl (of_decide_eq_true rfl) ?_
    | refine sg_store [_, _, _, _, _] rfl rfl rfl (of_decide_eq_true rfl) ?_
    | refine sg_store [_, _, _, _, _, _] rfl rfl rfl (of_decide_eq_true rfl) ?_
    | refine sg_store [_, _, _, _, _, _, _] rfl rfl rfl (of_decide_eq_true rfl) ?_
    | (refine sg_guard_dec rfl rfl (fun hg => ?_) (fun hg => ?_) <;> first | (exfalso; omega) | (exact absurd rfl hg) | skip)
    | (refine sg_guard_ndec rfl rfl (fun hg => ?_) (fun hg => ?_) <;> first | (exfalso; omega) | (exact absurd rfl hg) | skip)
    | (refine sg_cond_dec rfl (fun hg => ?_) (fun hg => ?_) <;> first | (exfalso; omega) | (exact absurd rfl hg) | skip)
    | (refine sg_cond_ndec rfl (fun hg => ?_) (fun hg => ?_) <;> first | (exfalso; omega) | (exact absurd rfl hg) | skip)
    | refine sg_cond_not rfl (fun hg => ?_) (fun hg => ?_)
    | refine sg_cond rfl (fun hg => ?_) (fun hg => ?_))
  rw [show decide (x = x) = true from decide_eq_true rfl]
  exact ex_ret1 rfl rfl () rfl trivial (fun w hO => hO)
theorem less_tri (x y : Int) (R : List HP) : Tri Try.prog W 57 [.int .u64 x, .int .u64 y] R (X := Unit) (fun _ => .bool (ltInt x y)) (fun _ => True) (fun _ => R) := by
  refine tri_enter2 Try.func57 rfl Try.ntmps57 rfl ?_
  repeat' (first
    | refine sg_wo ?_
    | refine sg_ps (ps_move rfl) rfl ?_
    | refine sg_ps (ps_assign rfl) rfl ?_
    | refine sg_seq ?_
    | refine sg_region ?_
    | refine sg_nil ?_
    | refine sg_then ?_
    | refine sg_ps (ps_fieldAddr rfl) rfl ?_
    | refine sg_ps (ps_nilCheck rfl) rfl ?_
    | refine sg_load 0 rfl rfl rfl rfl ?_
    | refine sg_load 1 rfl rfl rfl rfl ?_
    | refine sg_load 2 rfl rfl rfl rfl ?_
    | refine sg_load 3 rfl rfl rfl rfl ?_
    | refine sg_load 4 rfl rfl rfl rfl ?_
    | refine sg_load 5 rfl rfl rfl rfl ?_
    | refine sg_load 6 rfl rfl rfl rfl ?_
    | refine sg_load 7 rfl rfl rfl rfl ?_
    | refine sg_ps (ps_add64 rfl rfl (by omega)) rfl ?_
    | refine sg_ps (ps_sub64 rfl rfl (by omega)) rfl ?_
    | refine sg_ps (ps_mul64 rfl rfl (by omega)) rfl ?_
    | refine sg_ps (ps_bin rfl rfl inferInstance) rfl ?_
    | refine sg_ps (ps_rem rfl rfl (by decide)) rfl ?_
    | refine sg_ps (ps_quo64 rfl rfl (by decide) (by omega)) rfl ?_
    | refine sg_ps (ps_not rfl) rfl ?_
    | refine sg_ps (ps_conv rfl) rfl ?_
    | refine sg_ps (ps_shl rfl rfl (by decide) rfl) rfl ?_
    | refine sg_ps (ps_shr rfl rfl (by decide) rfl) rfl ?_
    | refine sg_cond_t rfl ?_
    | refine sg_cond_f rfl ?_
    | refine sg_guard_yes rfl rfl ?_
    | refine sg_guard_nf rfl rfl rfl ?_
    | refine sg_guard_nt rfl rfl rfl ?_
    | refine sg_guard_nu rfl rfl rfl ?_
    | refine sg_ps (ps_pick_t rfl rfl) rfl ?_
    | refine sg_ps (ps_pick_f rfl rfl) rfl ?_
    | refine sg_ps (ps_len rfl) rfl ?_
    | refine sg_ps (ps_len_str rfl) rfl ?_
    | refine sg_ps (ps_extract rfl rfl) rfl ?_
    | refine sg_ps (ps_field rfl rfl) rfl ?_
    | refine sg_ps (ps_min2 rfl rfl) rfl ?_
    | refine sg_ps (ps_max2 rfl rfl) rfl ?_
    | refine sg_ps (ps_build rfl rfl) rfl ?_
    | refine sg_box rfl rfl (fun bx => ?_)
    | refine sg_ps (ps_indexAddr rfl rfl rfl (by omega)) rfl ?_
    | refine sg_ps (ps_indexAddr (j := 0) rfl rfl rfl (by omega)) rfl ?_
    | refine sg_ps (ps_indexAddr (j := 1) rfl rfl rfl (by omega)) rfl ?_
    | refine sg_ps (ps_indexAddr_arr rfl rfl rfl (by omega)) rfl ?_
    | refine sg_block ?_
    | refine sg_skip ?_
    | refine sg_ret ?_
    | refine sg_exit ?_
    | refine ex_then_ret ?_
    | refine ex_then_exit ?_
    | refine ex_block_ret ?_
    | refine ex_block_normal ?_
    | refine ex_block_hit ?_
    | refine ex_block_miss rfl ?_
    | refine sg_store [] rfl rfl rfl (of_decide_eq_true rfl) ?_
    | refine sg_store [_] rfl rfl rfl (of_decide_eq_true rfl) ?_
    | refine sg_store [_, _] rfl rfl rfl (of_decide_eq_true rfl) ?_
    | refine sg_store [_, _, _] rfl rfl rfl (of_decide_eq_true rfl) ?_
    | refine sg_store [_, _, _, _] rfl rfl rfl (of_decide_eq_true rfl) ?_
    | refine sg_store [_, _, _, _, _] rfl rfl rfl (of_decide_eq_true rfl) ?_
    | refine sg_store [_, _, _, _, _, _] rfl rfl rfl (of_decide_eq_true rfl) ?_
    | refine sg_store [_, _, _, _, _, _, _] rfl rfl rfl (of_decide_eq_true rfl) ?_
    | (refine sg_guard_dec rfl rfl (fun hg => ?_) (fun hg => ?_) <;> first | (exfalso; omega) | (exact absurd rfl hg) | skip)
    | (refine sg_guard_ndec rfl rfl (fun hg => ?_) (fun hg => ?_) <;> first | (exfalso; omega) | (exact absurd rfl hg) | skip)
    | (refine sg_cond_dec rfl (fun hg => ?_) (fun hg => ?_) <;> first | (exfalso; omega) | (exact absurd rfl hg) | skip)
    | (refine sg_cond_ndec rfl (fun hg => ?_) (fun hg => ?_) <;> first | (exfalso; omega) | (exact absurd rfl hg) | skip)
    | refine sg_cond_not rfl (fun hg => ?_) (fun hg => ?_)
    | refine sg_cond rfl (fun hg => ?_) (fun hg => ?_))
  refine sg_call (nan_tri x _) rfl rfl (fun _ _ => ?_)
  repeat' (first
    | refine sg_wo ?_
    | refine sg_ps (ps_move rfl) rfl ?_
    | refine sg_ps (ps_assign rfl) rfl ?_
    | refine sg_seq ?_
    | refine sg_region ?_
    | refine sg_nil ?_
    | refine sg_then ?_
    | refine sg_ps (ps_fieldAddr rfl) rfl ?_
    | refine sg_ps (ps_nilCheck rfl) rfl ?_
    | refine sg_load 0 rfl rfl rfl rfl ?_
    | refine sg_load 1 rfl rfl rfl rfl ?_
    | refine sg_load 2 rfl rfl rfl rfl ?_
    | refine sg_load 3 rfl rfl rfl rfl ?_
    | refine sg_load 4 rfl rfl rfl rfl ?_
    | refine sg_load 5 rfl rfl rfl rfl ?_
    | refine sg_load 6 rfl rfl rfl rfl ?_
    | refine sg_load 7 rfl rfl rfl rfl ?_
    | refine sg_ps (ps_add64 rfl rfl (by omega)) rfl ?_
    | refine sg_ps (ps_sub64 rfl rfl (by omega)) rfl ?_
    | refine sg_ps (ps_mul64 rfl rfl (by omega)) rfl ?_
    | refine sg_ps (ps_bin rfl rfl inferInstance) rfl ?_
    | refine sg_ps (ps_rem rfl rfl (by decide)) rfl ?_
    | refine sg_ps (ps_quo64 rfl rfl (by decide) (by omega)) rfl ?_
    | refine sg_ps (ps_not rfl) rfl ?_
    | refine sg_ps (ps_conv rfl) rfl ?_
    | refine sg_ps (ps_shl rfl rfl (by decide) rfl) rfl ?_
    | refine sg_ps (ps_shr rfl rfl (by decide) rfl) rfl ?_
    | refine sg_cond_t rfl ?_
    | refine sg_cond_f rfl ?_
    | refine sg_guard_yes rfl rfl ?_
    | refine sg_guard_nf rfl rfl rfl ?_
    | refine sg_guard_nt rfl rfl rfl ?_
    | refine sg_guard_nu rfl rfl rfl ?_
    | refine sg_ps (ps_pick_t rfl rfl) rfl ?_
    | refine sg_ps (ps_pick_f rfl rfl) rfl ?_
    | refine sg_ps (ps_len rfl) rfl ?_
    | refine sg_ps (ps_len_str rfl) rfl ?_
    | refine sg_ps (ps_extract rfl rfl) rfl ?_
    | refine sg_ps (ps_field rfl rfl) rfl ?_
    | refine sg_ps (ps_min2 rfl rfl) rfl ?_
    | refine sg_ps (ps_max2 rfl rfl) rfl ?_
    | refine sg_ps (ps_build rfl rfl) rfl ?_
    | refine sg_box rfl rfl (fun bx => ?_)
    | refine sg_ps (ps_indexAddr rfl rfl rfl (by omega)) rfl ?_
    | refine sg_ps (ps_indexAddr (j := 0) rfl rfl rfl (by omega)) rfl ?_
    | refine sg_ps (ps_indexAddr (j := 1) rfl rfl rfl (by omega)) rfl ?_
    | refine sg_ps (ps_indexAddr_arr rfl rfl rfl (by omega)) rfl ?_
    | refine sg_block ?_
    | refine sg_skip ?_
    | refine sg_ret ?_
    | refine sg_exit ?_
    | refine ex_then_ret ?_
    | refine ex_then_exit ?_
    | refine ex_block_ret ?_
    | refine ex_block_normal ?_
    | refine ex_block_hit ?_
    | refine ex_block_miss rfl ?_
    | refine sg_store [] rfl rfl rfl (of_decide_eq_true rfl) ?_
    | refine sg_store [_] rfl rfl rfl (of_decide_eq_true rfl) ?_
    | refine sg_store [_, _] rfl rfl rfl (of_decide_eq_true rfl) ?_
    | refine sg_store [_, _, _] rfl rfl rfl (of_decide_eq_true rfl) ?_
    | refine sg_store [_, _, _, _] rfl rfl rfl (of_decide_eq_true rfl) ?_
    | refine sg_store [_, _, _, _, _] rfl rfl rfl (of_decide_eq_true rfl) ?_
    | refine sg_store [_, _, _, _, _, _] rfl rfl rfl (of_decide_eq_true rfl) ?_
    | refine sg_store [_, _, _, _, _, _, _] rfl rfl rfl (of_decide_eq_true rfl) ?_
    | (refine sg_guard_dec rfl rfl (fun hg => ?_) (fun hg => ?_) <;> first | (exfalso; omega) | (exact absurd rfl hg) | skip)
    | (refine sg_guard_ndec rfl rfl (fun hg => ?_) (fun hg => ?_) <;> first | (exfalso; omega) | (exact absurd rfl hg) | skip)
    | (refine sg_cond_dec rfl (fun hg => ?_) (fun hg => ?_) <;> first | (exfalso; omega) | (exact absurd rfl hg) | skip)
    | (refine sg_cond_ndec rfl (fun hg => ?_) (fun hg => ?_) <;> first | (exfalso; omega) | (exact absurd rfl hg) | skip)
    | refine sg_cond_not rfl (fun hg => ?_) (fun hg => ?_)
    | refine sg_cond rfl (fun hg => ?_) (fun hg => ?_))
  exact ex_ret1 rfl rfl () rfl trivial (fun w hO => hO)
end Go.Proofs.Ytclehoaeppbmpaa
namespace Go.Proofs.Ytclehoaeppbmpaa
set_option linter.unusedVariables false
set_option linter.unusedSimpArgs false
set_option linter.unusedSectionVars false
set_option linter.unnecessarySimpa false
open Go Go.Proofs Go.Sort
abbrev bigN : Nat := 255
set_option maxRecDepth 20000
set_option maxHeartbeats 4000000
attribute [local irreducible] SG WC WO W1 WD WK PS Rd Tri Exit.then Exit.inBlock bodyPost calmQ Mid sadd ucs
variable {W : World} {n : Nat} {F : Fr} {L : List HP} {G : Act → World → Prop}
theorem ins_tri {N : Nat} (g : Nat) (d : Array Int) (rest : List Value) (c a b : Nat) (R : List HP) (hd : d.size = N) (hN : N ≤ bigN) (ha : a ≤ N) (hb : b ≤ N) :
    Tri Try.prog W 51 [.slice (some ⟨g, 0, none⟩) N c, i64 a, i64 b] (blk g (ucs d ++ rest) :: R) (X := Unit) (fun _ => .tuple #[]) (fun _ => True) (fun _ => blk g (ucs (insertionSort ltInt d a b) ++ rest) :: R) := by
  unfold bigN at hN
  refine tri_enter3 Try.func51 rfl Try.ntmps51 rfl ?_
  generalize hr : insertionSort ltInt d a b = r
  repeat' (first | refine sg_wo ?_ | refine sg_ps (ps_move rfl) rfl ?_ | refine sg_ps (ps_assign rfl) rfl ?_ | refine sg_seq ?_ | refine sg_region ?_ | refine sg_nil ?_ | refine sg_then ?_ | refine sg_ps (ps_add64 rfl rfl (by omega)) rfl ?_ | refine sg_block ?_)
  refine sg_loop (γ := Nat × Array Int) (fun x => (a + 1 ≤ x.1 ∧ x.1 ≤ N + 1) ∧ x.2.size = N ∧ insOuter ltInt a b x.1 x.2 = r) (fun x => [(0, .slice (some ⟨g, 0, none⟩) N c), (1, i64 a), (2, i64 b), (6, i64 x.1)])
    (fun x => blk g (ucs x.2 ++ rest) :: R) (fun x => b - x.1) (a + 1, d) ⟨⟨Nat.le_refl _, by show a + 1 ≤ N + 1; omega⟩, hd, hr⟩ (.cons rfl (.cons rfl (.cons rfl (.cons rfl .nil)))) (fun w hO => hO) ?_
  rintro ⟨i, d⟩ ⟨⟨hi1, hi2⟩, hd, hr⟩
  dsimp only at hi1 hi2 hd hr ⊢
  rw [insOuter] at hr
  by_cases hib : i < b
  · rw [if_pos hib] at hr
    repeat' (first | refine sg_wo ?_ | refine sg_ps (ps_move rfl) rfl ?_ | refine sg_ps (ps_assign rfl) rfl ?_ | refine sg_seq ?_ | refine sg_region ?_ | refine sg_nil ?_ | refine sg_then ?_ | refine sg_ps (ps_bin rfl rfl inferInstance) rfl ?_ | refine sg_block ?_ | refine sg_skip ?_ | (refine sg_cond_dec rfl (fun hg => ?_) (fun hg => ?_) <;> first | (exfalso; omega) | (exact absurd rfl hg) | skip))
    refine sg_loop (γ := Nat × Array Int) (fun x => x.1 ≤ i ∧ x.2.size = N ∧ insOuter ltInt a b (i + 1) (insInner ltInt a x.1 x.2) = r) (fun x => [(0, .slice (some ⟨g, 0, none⟩) N c), (1, i64 a), (2, i64 b), (6, i64 i), (7, i64 x.1)])
      (fun x => blk g (ucs x.2 ++ rest) :: R) (fun x => x.1) (i, d) ⟨Nat.le_refl _, hd, hr⟩ (.cons rfl (.cons rfl (.cons rfl (.cons rfl (.cons rfl .nil))))) (fun w hO => hO) ?_
    rintro ⟨j, d⟩ ⟨hji, hd, hr⟩
    dsimp only at hji hd hr ⊢
    by_cases hja : a < j
    · obtain ⟨j, rfl⟩ : ∃ j', j = j' + 1 := ⟨j - 1, by omega⟩
      rw [insInner, decide_eq_true (by omega : j + 1 > a), Bool.true_and] at hr
      repeat' (first | refine sg_seq ?_)
      refine sg_drawK [blk g (ucs d ++ rest)] [0, 1, 2, 3, 4, 5, 6, 8, 9, 10, 11, 7, 12, 13, 14] (by kernel_rfl) (by kernel_rfl) (fun w hO => hO.pick [0] (by decide)) ?_
      repeat' (first | refine sk_pure rfl rfl (ps_move rfl) rfl ?_ | refine sk_pure rfl rfl (ps_bin rfl rfl inferInstance) rfl ?_ | refine sk_pure_g rfl rfl rfl rfl (ps_move rfl) rfl ?_ | refine sk_pure_g rfl rfl rfl rfl (ps_sub64 rfl rfl (by omega)) rfl ?_ | refine sk_pure_g rfl rfl rfl rfl (ps_indexAddr rfl rfl rfl (by omega)) rfl ?_ | refine sk_pure_g rfl rfl rfl rfl (ps_indexAddrI rfl rfl (by omega) (by omega)) rfl ?_ | refine sk_load_g 0 rfl rfl rfl rfl rfl (uat _ (by omega)) rfl ?_ | refine sk_eff rfl rfl ?_ | refine sg_guard_yes rfl rfl ?_ | (refine sk_dec rfl rfl rfl rfl (fun hg => ?_) (fun hg => ?_) <;> first | (exfalso; omega) | (exact absurd rfl hg) | skip))
      refine sg_call (less_tri _ _ _) rfl rfl (fun _ _ => ?_)
      refine sk_back (fun w hO => hO.pick [0] (by decide)) ?_
      repeat' (first | refine sk_nil ?_ | refine sk_pure rfl rfl (ps_pick_t rfl rfl) rfl ?_)
      refine sg_then ?_
      rw [show (((j + 1 : Nat) : Int) - 1).toNat = j by omega]
      cases hlt : ltInt d[j + 1]! d[j]! with
      | true =>
        rw [hlt, if_pos rfl] at hr
        repeat' (first | refine sg_seq ?_ | refine sg_then ?_ | refine sg_cond_t rfl ?_ | refine sg_block ?_ | refine sg_skip ?_)
        refine sg_drawK [blk g (ucs d ++ rest)] [0, 1, 2, 3, 4, 5, 6, 7, 8, 10, 11, 12, 9, 13, 14, 15, 16, 17] (by kernel_rfl) (by kernel_rfl) (fun w hO => hO.pick [0] (by decide)) ?_
        repeat' (first | refine sk_pure rfl rfl (ps_move rfl) rfl ?_ | refine sk_pure rfl rfl (ps_sub64 rfl rfl (by omega)) rfl ?_ | refine sk_pure rfl rfl (ps_indexAddr rfl rfl rfl (by omega)) rfl ?_ | refine sk_pure rfl rfl (ps_indexAddrI rfl rfl (by omega) (by omega)) rfl ?_ | refine sk_load 0 rfl rfl rfl (uat _ (by omega)) rfl ?_ | refine sg_store [] rfl rfl rfl (ult _ (by omega)) ?_ | refine sk_eff rfl rfl ?_)
        refine sk_end (by kernel_rfl) ?_
        repeat' (first | refine sk_nil ?_ | refine sk_pure rfl rfl (ps_indexAddrI rfl rfl (by omega) (by omega)) rfl ?_ | refine sg_store [] rfl rfl rfl (ult2 _ (by omega)) ?_ | refine sk_eff rfl rfl ?_ | refine sk_back (LR := []) (fun w hO => hO.pick [] (by decide)) ?_)
        rw [show (((j + 1 : Nat) : Int) - 1).toNat = j by omega, uswp rest (by omega) (by omega)]
        repeat' (first | refine sg_wo ?_ | refine sg_ps (ps_move rfl) rfl ?_ | refine sg_ps (ps_assign rfl) rfl ?_ | refine sg_region ?_ | refine sg_nil ?_ | refine sg_then ?_ | refine sg_ps (ps_sub64 rfl rfl (by omega)) rfl ?_ | refine ex_block_normal ?_)
        exact ex_mid (j, swp d (j + 1) j) ⟨by show j < j + 1; omega, by show j ≤ i; omega, by rw [swp_size]; exact hd, hr⟩ (.cons rfl (.cons rfl (.cons rfl (.cons rfl (.cons (by show some _ = some (i64 (j : Int)); rw [show (j : Int) = ((j + 1 : Nat) : Int) - 1 by omega]) .nil))))) (fun w hO => hO)
      | false =>
        rw [hlt, if_neg (by decide)] at hr
        repeat' (first | refine sg_wo ?_ | refine sg_ps (ps_move rfl) rfl ?_ | refine sg_ps (ps_assign rfl) rfl ?_ | refine sg_region ?_ | refine sg_nil ?_ | refine sg_then ?_ | refine sg_ps (ps_add64 rfl rfl (by omega)) rfl ?_ | refine sg_cond_f rfl ?_ | refine sg_exit ?_ | refine ex_then_exit ?_ | refine ex_block_normal ?_ | refine ex_block_hit ?_)
        exact ex_mid (i + 1, d) ⟨by show b - (i + 1) < b - i; omega, ⟨by show a + 1 ≤ i + 1; omega, by show i + 1 ≤ N + 1; omega⟩, hd, hr⟩ (.cons rfl (.cons rfl (.cons rfl (.cons rfl .nil)))) (fun w hO => hO)
    · have hr2 : insOuter ltInt a b (i + 1) d = r := by
        rw [← hr]
        cases j with
        | zero => rfl
        | succ j => rw [insInner, decide_eq_false (by omega), Bool.false_and, if_neg (by decide)]
      repeat' (first | refine sg_seq ?_)
      refine sg_drawK [blk g (ucs d ++ rest)] [0, 1, 2, 3, 4, 5, 6, 8, 9, 10, 11, 7, 12, 13, 14] (by kernel_rfl) (by kernel_rfl) (fun w hO => hO.pick [0] (by decide)) ?_
      repeat' (first | refine sk_nil ?_ | refine sk_pure rfl rfl (ps_move rfl) rfl ?_ | refine sk_pure rfl rfl (ps_bin rfl rfl inferInstance) rfl ?_ | refine sk_pure rfl rfl (ps_pick_f rfl rfl) rfl ?_ | refine sk_no rfl rfl rfl rfl rfl ?_ | refine sk_eff rfl rfl ?_ | refine sg_guard_nf rfl rfl rfl ?_ | refine sk_back (fun w hO => hO.pick [0] (by decide)) ?_ | (refine sk_dec rfl rfl rfl rfl (fun hg => ?_) (fun hg => ?_) <;> first | (exfalso; omega) | (exact absurd rfl hg) | skip))
      refine sg_then ?_
      repeat' (first | refine sg_wo ?_ | refine sg_ps (ps_move rfl) rfl ?_ | refine sg_ps (ps_assign rfl) rfl ?_ | refine sg_region ?_ | refine sg_nil ?_ | refine sg_then ?_ | refine sg_ps (ps_add64 rfl rfl (by omega)) rfl ?_ | refine sg_cond_f rfl ?_ | refine sg_exit ?_ | refine ex_then_exit ?_ | refine ex_block_normal ?_ | refine ex_block_hit ?_)
      exact ex_mid (i + 1, d) ⟨by show b - (i + 1) < b - i; omega, ⟨by show a + 1 ≤ i + 1; omega, by show i + 1 ≤ N + 1; omega⟩, hd, hr2⟩ (.cons rfl (.cons rfl (.cons rfl (.cons rfl .nil)))) (fun w hO => hO)
  · rw [if_neg hib] at hr
    subst hr
    repeat' (first | refine sg_wo ?_ | refine sg_ps (ps_move rfl) rfl ?_ | refine sg_seq ?_ | refine sg_region ?_ | refine sg_nil ?_ | refine sg_then ?_ | refine sg_ps (ps_bin rfl rfl inferInstance) rfl ?_ | refine sg_exit ?_ | refine ex_then_exit ?_ | refine ex_block_hit ?_ | (refine sg_cond_dec rfl (fun hg => ?_) (fun hg => ?_) <;> first | (exfalso; omega) | (exact absurd rfl hg) | skip))
    exact ex_end0 rfl () rfl trivial (fun w hO => hO)
end Go.Proofs.Ytclehoaeppbmpaa
namespace Go.Proofs.Ytclehoaeppbmpaa
set_option linter.unusedVariables false
set_option linter.unusedSimpArgs false
set_option linter.unusedSectionVars false
set_option linter.unnecessarySimpa false
open Go Go.Proofs Go.Sort
/-- siftDown behind the choice of the child -/
def sift2 (hi first root ch : Nat) (d : Array Int) : Array Int := if ltInt d[first + root]! d[first + ch]! = true then siftDown ltInt hi first ch (swp d (first + root) (first + ch)) else d
set_option maxRecDepth 20000
set_option maxHeartbeats 4000000
attribute [local irreducible] SG WC WO W1 WD WK PS Rd Tri Exit.then Exit.inBlock bodyPost calmQ Mid sadd ucs
variable {W : World} {n : Nat} {F : Fr} {L : List HP} {G : Act → World → Prop}
theorem sift_tri {N : Nat} (g : Nat) (d : Array Int) (rest : List Value) (c lo hi first : Nat) (R : List HP) (hd : d.size = N) (hN : N ≤ bigN) (hl : lo ≤ N) (hf : first + hi ≤ N) :
    Tri Try.prog W 62 [.slice (some ⟨g, 0, none⟩) N c, i64 lo, i64 hi, i64 first] (blk g (ucs d ++ rest) :: R) (X := Unit) (fun _ => .tuple #[]) (fun _ => True) (fun _ => blk g (ucs (siftDown ltInt hi first lo d) ++ rest) :: R) := by
  unfold bigN at hN
  refine tri_enter4 Try.func62 rfl Try.ntmps62 rfl ?_
  generalize hr : siftDown ltInt hi first lo d = r
  repeat' (first | refine sg_wo ?_ | refine sg_ps (ps_move rfl) rfl ?_ | refine sg_ps (ps_assign rfl) rfl ?_ | refine sg_seq ?_ | refine sg_region ?_ | refine sg_nil ?_ | refine sg_then ?_ | refine sg_block ?_)
  refine sg_loop (γ := Nat × Array Int) (fun x => x.1 ≤ N ∧ x.2.size = N ∧ siftDown ltInt hi first x.1 x.2 = r) (fun x => [(0, .slice (some ⟨g, 0, none⟩) N c), (2, i64 hi), (3, i64 first), (8, i64 x.1)])
    (fun x => blk g (ucs x.2 ++ rest) :: R) (fun x => hi - x.1) (lo, d) ⟨hl, hd, hr⟩ (.cons rfl (.cons rfl (.cons rfl (.cons rfl .nil)))) (fun w hO => hO) ?_
  rintro ⟨ro, d⟩ ⟨hro, hd, hr⟩
  dsimp only at hro hd hr ⊢
  rw [siftDown] at hr
  by_cases hc : 2 * ro + 1 ≥ hi
  · rw [dif_pos hc] at hr
    subst hr
    repeat' (first | refine sg_wo ?_ | refine sg_ps (ps_move rfl) rfl ?_ | refine sg_ps (ps_assign rfl) rfl ?_ | refine sg_seq ?_ | refine sg_region ?_ | refine sg_nil ?_ | refine sg_then ?_ | refine sg_ps (ps_add64 rfl rfl (by omega)) rfl ?_ | refine sg_ps (ps_mul64 rfl rfl (by omega)) rfl ?_ | refine sg_ps (ps_bin rfl rfl inferInstance) rfl ?_ | refine sg_block ?_ | refine sg_exit ?_ | refine ex_then_exit ?_ | refine ex_block_hit ?_ | refine ex_block_miss rfl ?_ | (refine sg_cond_dec rfl (fun hg => ?_) (fun hg => ?_) <;> first | (exfalso; omega) | (exact absurd rfl hg) | skip))
    exact ex_end0 rfl () rfl trivial (fun w hO => hO)
  rw [dif_neg hc] at hr
  refine sg_block ?_
  refine sg_seq ?_
  repeat' (first | refine sg_wo ?_ | refine sg_ps (ps_move rfl) rfl ?_ | refine sg_ps (ps_assign rfl) rfl ?_ | refine sg_region ?_ | refine sg_nil ?_ | refine sg_then ?_ | refine sg_ps (ps_add64 rfl rfl (by omega)) rfl ?_ | refine sg_ps (ps_mul64 rfl rfl (by omega)) rfl ?_)
  refine sg_seq ?_
  refine sg_seq ?_
  repeat' (first | refine sg_wo ?_ | refine sg_ps (ps_move rfl) rfl ?_ | refine sg_region ?_ | refine sg_nil ?_ | refine sg_then ?_ | refine sg_ps (ps_bin rfl rfl inferInstance) rfl ?_ | refine sg_skip ?_ | (refine sg_cond_dec rfl (fun hg => ?_) (fun hg => ?_) <;> first | (exfalso; omega) | (exact absurd rfl hg) | skip))
  refine sg_seq_mid (γ := Nat) (fun ch => ro < ch ∧ ch < hi ∧ sift2 hi first ro ch d = r) (fun ch => [(0, .slice (some ⟨g, 0, none⟩) N c), (2, i64 hi), (3, i64 first), (8, i64 ro), (9, i64 ch)]) (fun _ => blk g (ucs d ++ rest) :: R) ?_ ?_
  · have h1 : ((first : Int) + (2 * (ro : Int) + 1)).toNat = first + (2 * ro + 1) := by omega
    have h2 : ((first : Int) + (2 * (ro : Int) + 1) + 1).toNat = first + (2 * ro + 1) + 1 := by omega
    by_cases hc2 : 2 * ro + 1 + 1 < hi
    · rw [decide_eq_true hc2, Bool.true_and] at hr
      refine sg_seq ?_
      refine sg_drawK [blk g (ucs d ++ rest)] [0, 1, 2, 3, 4, 5, 6, 7, 8, 9, 11, 12, 13, 14, 15, 16, 10, 17, 18, 19] (by kernel_rfl) (by kernel_rfl) (fun w hO => hO.pick [0] (by decide)) ?_
      repeat' (first | refine sk_pure rfl rfl (ps_move rfl) rfl ?_ | refine sk_pure rfl rfl (ps_add64 rfl rfl (by omega)) rfl ?_ | refine sk_pure rfl rfl (ps_bin rfl rfl inferInstance) rfl ?_ | refine sk_pure_g rfl rfl rfl rfl (ps_move rfl) rfl ?_ | refine sk_pure_g rfl rfl rfl rfl (ps_add64 rfl rfl (by omega)) rfl ?_ | refine sk_pure_g rfl rfl rfl rfl (ps_indexAddrI rfl rfl (by omega) (by omega)) rfl ?_ | refine sk_load_g 0 rfl rfl rfl rfl rfl (uat _ (by omega)) rfl ?_ | refine sk_eff rfl rfl ?_ | refine sg_guard_yes rfl rfl ?_ | (refine sk_dec rfl rfl rfl rfl (fun hg => ?_) (fun hg => ?_) <;> first | (exfalso; omega) | (exact absurd rfl hg) | skip))
      refine sg_call (less_tri _ _ _) rfl rfl (fun _ _ => ?_)
      refine sk_back (fun w hO => hO.pick [0] (by decide)) ?_
      repeat' (first | refine sk_nil ?_ | refine sk_pure rfl rfl (ps_pick_t rfl rfl) rfl ?_)
      refine sg_then ?_
      rw [h1, h2]
      cases hlt : ltInt d[first + (2 * ro + 1)]! d[first + (2 * ro + 1) + 1]! with
      | true =>
        rw [hlt, if_pos rfl] at hr
        repeat' (first | refine sg_wo ?_ | refine sg_ps (ps_move rfl) rfl ?_ | refine sg_ps (ps_assign rfl) rfl ?_ | refine sg_region ?_ | refine sg_nil ?_ | refine sg_ps (ps_add64 rfl rfl (by omega)) rfl ?_ | refine sg_cond_t rfl ?_)
        refine ex_mid (2 * ro + 2) ⟨by omega, by omega, ?_⟩ (.cons rfl (.cons rfl (.cons rfl (.cons rfl (.cons (by show some _ = some (i64 ((2 * ro + 2 : Nat) : Int)); rw [show ((2 * ro + 2 : Nat) : Int) = 2 * (ro : Int) + 1 + 1 by omega]) .nil))))) (fun w hO => hO)
        unfold sift2
        rw [← hr]
        cases ltInt d[first + ro]! d[first + (2 * ro + 2)]! with
        | true => rw [if_pos rfl]; simp [show 2 * ro + 2 < hi by omega]
        | false => simp
      | false =>
        rw [hlt, if_neg (by decide)] at hr
        repeat' (first | refine sg_cond_f rfl ?_ | refine sg_skip ?_)
        refine ex_mid (2 * ro + 1) ⟨by omega, by omega, ?_⟩ (.cons rfl (.cons rfl (.cons rfl (.cons rfl (.cons (by show some _ = some (i64 ((2 * ro + 1 : Nat) : Int)); rw [show ((2 * ro + 1 : Nat) : Int) = 2 * (ro : Int) + 1 by omega]) .nil))))) (fun w hO => hO)
        unfold sift2
        rw [← hr]
        cases ltInt d[first + ro]! d[first + (2 * ro + 1)]! with
        | true => simp
        | false => simp
    · rw [decide_eq_false hc2, Bool.false_and, if_neg (by decide)] at hr
      refine sg_seq ?_
      refine sg_drawK [blk g (ucs d ++ rest)] [0, 1, 2, 3, 4, 5, 6, 7, 8, 9, 11, 12, 13, 14, 15, 16, 10, 17, 18, 19] (by kernel_rfl) (by kernel_rfl) (fun w hO => hO.pick [0] (by decide)) ?_
      repeat' (first | refine sk_nil ?_ | refine sk_pure rfl rfl (ps_move rfl) rfl ?_ | refine sk_pure rfl rfl (ps_add64 rfl rfl (by omega)) rfl ?_ | refine sk_pure rfl rfl (ps_bin rfl rfl inferInstance) rfl ?_ | refine sk_pure rfl rfl (ps_pick_f rfl rfl) rfl ?_ | refine sk_no rfl rfl rfl rfl rfl ?_ | refine sk_eff rfl rfl ?_ | refine sg_guard_nf rfl rfl rfl ?_ | refine sk_back (fun w hO => hO.pick [0] (by decide)) ?_ | (refine sk_dec rfl rfl rfl rfl (fun hg => ?_) (fun hg => ?_) <;> first | (exfalso; omega) | (exact absurd rfl hg) | skip))
      refine sg_then ?_
      repeat' (first | refine sg_cond_f rfl ?_ | refine sg_skip ?_)
      refine ex_mid (2 * ro + 1) ⟨by omega, by omega, ?_⟩ (.cons rfl (.cons rfl (.cons rfl (.cons rfl (.cons (by show some _ = some (i64 ((2 * ro + 1 : Nat) : Int)); rw [show ((2 * ro + 1 : Nat) : Int) = 2 * (ro : Int) + 1 by omega]) .nil))))) (fun w hO => hO)
      unfold sift2
      rw [← hr]
      cases ltInt d[first + ro]! d[first + (2 * ro + 1)]! with
      | true => simp
      | false => simp
  rintro ch ⟨hch1, hch2, hs⟩
  unfold sift2 at hs
  have h1 : ((first : Int) + (ro : Int)).toNat = first + ro := by omega
  have h2 : ((first : Int) + (ch : Int)).toNat = first + ch := by omega
  refine sg_seq ?_
  refine sg_seq ?_
  refine sg_drawK [blk g (ucs d ++ rest)] [0, 1, 2, 3, 4, 6, 7, 8, 9, 10, 5, 11, 12, 13] (by kernel_rfl) (by kernel_rfl) (fun w hO => hO.pick [0] (by decide)) ?_
  repeat' (first | refine sk_pure rfl rfl (ps_move rfl) rfl ?_ | refine sk_pure rfl rfl (ps_add64 rfl rfl (by omega)) rfl ?_ | refine sk_pure rfl rfl (ps_indexAddr rfl rfl rfl (by omega)) rfl ?_ | refine sk_load 0 rfl rfl rfl (uat _ (by omega)) rfl ?_ | refine sk_eff rfl rfl ?_)
  refine sg_call (less_tri _ _ _) rfl rfl (fun _ _ => ?_)
  refine sk_back (fun w hO => hO.pick [0] (by decide)) ?_
  repeat' (first | refine sk_nil ?_ | refine sk_pure rfl rfl (ps_not rfl) rfl ?_)
  refine sg_then ?_
  try rw [h1]
  try rw [h2]
  cases hlt : ltInt d[first + ro]! d[first + ch]! with
  | false =>
    rw [hlt, if_neg (by decide)] at hs
    subst hs
    repeat' (first | refine sg_cond_t rfl ?_ | refine sg_ret ?_ | refine ex_then_ret ?_ | refine ex_block_ret ?_)
    exact ex_ret0 rfl () rfl trivial (fun w hO => hO)
  | true =>
    rw [hlt, if_pos rfl] at hs
    repeat' (first | refine sg_seq ?_ | refine sg_then ?_ | refine sg_cond_f rfl ?_ | refine sg_skip ?_)
    refine sg_drawK [blk g (ucs d ++ rest)] [0, 1, 2, 3, 4, 5, 6, 7, 8, 9, 10, 11, 12, 14, 15, 16, 17, 18, 13, 19, 20, 21, 22, 23] (by kernel_rfl) (by kernel_rfl) (fun w hO => hO.pick [0] (by decide)) ?_
    repeat' (first | refine sk_pure rfl rfl (ps_move rfl) rfl ?_ | refine sk_pure rfl rfl (ps_add64 rfl rfl (by omega)) rfl ?_ | refine sk_pure rfl rfl (ps_indexAddr rfl rfl rfl (by omega)) rfl ?_ | refine sk_load 0 rfl rfl rfl (uat _ (by omega)) rfl ?_ | refine sg_store [] rfl rfl rfl (ult _ (by omega)) ?_ | refine sk_eff rfl rfl ?_)
    refine sk_end (by kernel_rfl) ?_
    repeat' (first | refine sk_nil ?_ | refine sk_pure rfl rfl (ps_indexAddr rfl rfl rfl (by omega)) rfl ?_ | refine sg_store [] rfl rfl rfl (ult2 _ (by omega)) ?_ | refine sk_eff rfl rfl ?_ | refine sk_back (LR := []) (fun w hO => hO.pick [] (by decide)) ?_)
    try rw [h1]
    try rw [h2]
    rw [uswp rest (by omega) (by omega)]
    repeat' (first | refine sg_wo ?_ | refine sg_ps (ps_move rfl) rfl ?_ | refine sg_ps (ps_assign rfl) rfl ?_ | refine sg_region ?_ | refine sg_nil ?_ | refine sg_then ?_ | refine ex_block_normal ?_)
    exact ex_mid (ch, swp d (first + ro) (first + ch)) ⟨by show hi - ch < hi - ro; omega, by show ch ≤ N; omega, by rw [swp_size]; exact hd, hs⟩ (.cons rfl (.cons rfl (.cons rfl (.cons rfl .nil)))) (fun w hO => hO)
theorem heap_tri {N : Nat} (g : Nat) (d : Array Int) (rest : List Value) (c a b : Nat) (R : List HP) (hd : d.size = N) (hN : N ≤ bigN) (ha : a ≤ b) (hb : b ≤ N) :
    Tri Try.prog W 52 [.slice (some ⟨g, 0, none⟩) N c, i64 a, i64 b] (blk g (ucs d ++ rest) :: R) (X := Unit) (fun _ => .tuple #[]) (fun _ => True) (fun _ => blk g (ucs (heapSort ltInt d a b) ++ rest) :: R) := by
  have hN2 := hN
  unfold bigN at hN2
  refine tri_enter3 Try.func52 rfl Try.ntmps52 rfl ?_
  generalize hr : heapSort ltInt d a b = r
  unfold heapSort at hr
  obtain ⟨hi, hhi⟩ : ∃ hi, hi = b - a := ⟨_, rfl⟩
  have hsub : (b : Int) - (a : Int) = (hi : Int) := by omega
  rw [← hhi] at hr
  refine sg_seq ?_
  repeat' (first | refine sg_wo ?_ | refine sg_ps (ps_move rfl) rfl ?_ | refine sg_ps (ps_assign rfl) rfl ?_ | refine sg_region ?_ | refine sg_nil ?_ | refine sg_then ?_)
  refine sg_seq ?_
  repeat' (first | refine sg_wo ?_ | refine sg_ps (ps_assign rfl) rfl ?_ | refine sg_region ?_ | refine sg_nil ?_ | refine sg_then ?_)
  refine sg_seq ?_
  repeat' (first | refine sg_wo ?_ | refine sg_ps (ps_move rfl) rfl ?_ | refine sg_ps (ps_assign rfl) rfl ?_ | refine sg_region ?_ | refine sg_nil ?_ | refine sg_then ?_ | refine sg_ps (ps_sub64 rfl rfl (by omega)) rfl ?_)
  rw [hsub]
  refine sg_seq_mid (γ := Array Int) (fun x => x.size = N ∧ heapPop ltInt a hi x = r) (fun _ => [(0, .slice (some ⟨g, 0, none⟩) N c), (6, i64 a), (7, i64 0), (8, i64 hi)]) (fun x => blk g (ucs x ++ rest) :: R) ?_ ?_
  · have hq : Int.tdiv ((hi : Int) - 1) 2 = (((hi - 1) / 2 + 1 : Nat) : Int) - 1 := by
      rcases Nat.eq_zero_or_pos hi with h | h
      · subst h; rfl
      · rw [Int.tdiv_eq_ediv_of_nonneg (by omega)]; omega
    repeat' (first | refine sg_wo ?_ | refine sg_ps (ps_move rfl) rfl ?_ | refine sg_seq ?_ | refine sg_region ?_ | refine sg_ps (ps_sub64 rfl rfl (by omega)) rfl ?_)
    refine sg_ps (ps_quoN rfl rfl (by decide) hq (wrap64 (by omega) (by omega))) rfl ?_
    repeat' (first | refine sg_wo ?_ | refine sg_ps (ps_assign rfl) rfl ?_ | refine sg_nil ?_ | refine sg_then ?_ | refine sg_block ?_)
    refine sg_loop (γ := Nat × Array Int) (fun x => x.1 ≤ (hi - 1) / 2 + 1 ∧ x.2.size = N ∧ heapPop ltInt a hi (heapBuild ltInt hi a x.1 x.2) = r) (fun x => [(0, .slice (some ⟨g, 0, none⟩) N c), (6, i64 a), (7, i64 0), (8, i64 hi), (9, i64 ((x.1 : Int) - 1))])
      (fun x => blk g (ucs x.2 ++ rest) :: R) (fun x => x.1) ((hi - 1) / 2 + 1, d) ⟨Nat.le_refl _, hd, hr⟩ (.cons rfl (.cons rfl (.cons rfl (.cons rfl (.cons rfl .nil))))) (fun w hO => hO) ?_
    rintro ⟨k, d⟩ ⟨hk, hd, hr⟩
    dsimp only at hk hd hr ⊢
    cases k with
    | zero =>
      repeat' (first | refine sg_wo ?_ | refine sg_ps (ps_move rfl) rfl ?_ | refine sg_seq ?_ | refine sg_region ?_ | refine sg_nil ?_ | refine sg_then ?_ | refine sg_ps (ps_bin rfl rfl inferInstance) rfl ?_ | refine sg_cond_f rfl ?_ | refine sg_exit ?_ | refine ex_then_exit ?_ | refine ex_block_hit ?_)
      exact ex_mid d ⟨hd, hr⟩ (.cons rfl (.cons rfl (.cons rfl (.cons rfl .nil)))) (fun w hO => hO)
    | succ k =>
      rw [heapBuild] at hr
      rw [show ((k + 1 : Nat) : Int) - 1 = (k : Int) by omega]
      repeat' (first | refine sg_wo ?_ | refine sg_ps (ps_move rfl) rfl ?_ | refine sg_seq ?_ | refine sg_region ?_ | refine sg_nil ?_ | refine sg_then ?_ | refine sg_ps (ps_bin rfl rfl inferInstance) rfl ?_ | refine sg_cond_t rfl ?_ | refine sg_block ?_ | refine sg_skip ?_)
      refine sg_call (sift_tri g d rest c k hi a R hd hN (by omega) (by omega)) rfl rfl (fun _ _ => ?_)
      repeat' (first | refine sg_wo ?_ | refine sg_ps (ps_move rfl) rfl ?_ | refine sg_ps (ps_assign rfl) rfl ?_ | refine sg_region ?_ | refine sg_nil ?_ | refine sg_then ?_ | refine sg_ps (ps_sub64 rfl rfl (by omega)) rfl ?_ | refine ex_block_normal ?_)
      have hsz : (siftDown ltInt hi a k d).size = N := by rw [siftDown_size hi a hi k d (by omega)]; exact hd
      exact ex_mid (k, siftDown ltInt hi a k d) ⟨by show k < k + 1; omega, by show k ≤ _; omega, hsz, hr⟩ (.cons rfl (.cons rfl (.cons rfl (.cons rfl (.cons rfl .nil))))) (fun w hO => hO)
  rintro d ⟨hd, hr⟩
  repeat' (first | refine sg_wo ?_ | refine sg_ps (ps_move rfl) rfl ?_ | refine sg_ps (ps_assign rfl) rfl ?_ | refine sg_seq ?_ | refine sg_region ?_ | refine sg_nil ?_ | refine sg_then ?_ | refine sg_ps (ps_sub64 rfl rfl (by omega)) rfl ?_ | refine sg_block ?_)
  refine sg_loop (γ := Nat × Array Int) (fun x => x.1 ≤ hi ∧ x.2.size = N ∧ heapPop ltInt a x.1 x.2 = r) (fun x => [(0, .slice (some ⟨g, 0, none⟩) N c), (6, i64 a), (7, i64 0), (8, i64 hi), (10, i64 ((x.1 : Int) - 1))])
    (fun x => blk g (ucs x.2 ++ rest) :: R) (fun x => x.1) (hi, d) ⟨Nat.le_refl _, hd, hr⟩ (.cons rfl (.cons rfl (.cons rfl (.cons rfl (.cons rfl .nil))))) (fun w hO => hO) ?_
  rintro ⟨k, d⟩ ⟨hk, hd, hr⟩
  dsimp only at hk hd hr ⊢
  cases k with
  | zero =>
    rw [heapPop] at hr
    subst hr
    repeat' (first | refine sg_wo ?_ | refine sg_ps (ps_move rfl) rfl ?_ | refine sg_seq ?_ | refine sg_region ?_ | refine sg_nil ?_ | refine sg_then ?_ | refine sg_ps (ps_bin rfl rfl inferInstance) rfl ?_ | refine sg_cond_f rfl ?_ | refine sg_exit ?_ | refine ex_then_exit ?_ | refine ex_block_hit ?_)
    exact ex_end0 rfl () rfl trivial (fun w hO => hO)
  | succ k =>
    rw [heapPop] at hr
    rw [show ((k + 1 : Nat) : Int) - 1 = (k : Int) by omega]
    have h1 : ((a : Int) + (k : Int)).toNat = a + k := by omega
    repeat' (first | refine sg_wo ?_ | refine sg_ps (ps_move rfl) rfl ?_ | refine sg_seq ?_ | refine sg_region ?_ | refine sg_nil ?_ | refine sg_then ?_ | refine sg_ps (ps_bin rfl rfl inferInstance) rfl ?_ | refine sg_cond_t rfl ?_ | refine sg_block ?_ | refine sg_skip ?_)
    refine sg_drawK [blk g (ucs d ++ rest)] [0, 1, 2, 3, 4, 5, 6, 7, 8, 9, 10, 12, 13, 14, 11, 15, 16, 17, 18, 19] (by kernel_rfl) (by kernel_rfl) (fun w hO => hO.pick [0] (by decide)) ?_
    repeat' (first | refine sk_pure rfl rfl (ps_move rfl) rfl ?_ | refine sk_pure rfl rfl (ps_add64 rfl rfl (by omega)) rfl ?_ | refine sk_pure rfl rfl (ps_indexAddr rfl rfl rfl (by omega)) rfl ?_ | refine sk_load 0 rfl rfl rfl (uat _ (by omega)) rfl ?_ | refine sg_store [] rfl rfl rfl (ult _ (by omega)) ?_ | refine sk_eff rfl rfl ?_)
    refine sk_end (by kernel_rfl) ?_
    repeat' (first | refine sk_nil ?_ | refine sk_pure rfl rfl (ps_indexAddr rfl rfl rfl (by omega)) rfl ?_ | refine sg_store [] rfl rfl rfl (ult2 _ (by omega)) ?_ | refine sk_eff rfl rfl ?_ | refine sk_back (LR := []) (fun w hO => hO.pick [] (by decide)) ?_)
    try rw [h1]
    rw [uswp rest (by omega) (by omega)]
    repeat' (first | refine sg_wo ?_ | refine sg_ps (ps_move rfl) rfl ?_ | refine sg_region ?_ | refine sg_then ?_)
    refine sg_call (sift_tri g (swp d a (a + k)) rest c 0 k a R (by rw [swp_size]; exact hd) hN (by omega) (by omega)) rfl rfl (fun _ _ => ?_)
    repeat' (first | refine sg_wo ?_ | refine sg_ps (ps_move rfl) rfl ?_ | refine sg_ps (ps_assign rfl) rfl ?_ | refine sg_region ?_ | refine sg_nil ?_ | refine sg_then ?_ | refine sg_ps (ps_sub64 rfl rfl (by omega)) rfl ?_ | refine ex_block_normal ?_)
    have hsz : (siftDown ltInt k a 0 (swp d a (a + k))).size = N := by rw [siftDown_size k a k 0 _ (by omega), swp_size]; exact hd
    exact ex_mid (k, siftDown ltInt k a 0 (swp d a (a + k))) ⟨by show k < k + 1; omega, by show k ≤ _; omega, hsz, hr⟩ (.cons rfl (.cons rfl (.cons rfl (.cons rfl (.cons rfl .nil))))) (fun w hO => hO)
end Go.Proofs.Ytclehoaeppbmpaa
namespace Go.Proofs.Ytclehoaeppbmpaa
set_option linter.unusedVariables false
set_option linter.unusedSimpArgs false
set_option linter.unusedSectionVars false
set_option linter.unnecessarySimpa false
open Go Go.Proofs Go.Sort
section
variable {P : Program} {W : World} {n : Nat} {L : List HP}
theorem tri_enter5 {f : FuncId} {fn : Func} {c : Code} {v0 v1 v2 v3 v4 : Value} {X : Type} {v : X → Value} {φ : X → Prop} {L' : X → List HP} (hf : P.funcs[f]? = some fn) (hb : fn.body = some c) (hn : fn.ntmps = n) (hl : Nat.ble 5 n = true)
    (h : SG W n [(0, v0), (1, v1), (2, v2), (3, v3), (4, v4)] L (WC P c (bodyPost P fn (TriR W v φ L')))) : Tri P W f [v0, v1, v2, v3, v4] L v φ L' :=
  tri_enter hf hb hn hl (fun i u hi => by simp only [look] at hi; (repeat' split at hi) <;> simp_all [Nat.beq_eq]) h
end
set_option maxRecDepth 20000
set_option maxHeartbeats 4000000
attribute [local irreducible] SG WC WO W1 WD WK PS Rd Tri Exit.then Exit.inBlock bodyPost calmQ Mid sadd ucs
variable {W : World} {n : Nat} {F : Fr} {L : List HP} {G : Act → World → Prop}
theorem ord2_tri {N : Nat} (g : Nat) (d : Array Int) (rest : List Value) (c a b sb s : Nat) (R : List HP) (hd : d.size = N) (hN : N ≤ bigN) (ha : a < N) (hb : b < N) (hs : s ≤ 1000) :
    Tri Try.prog W 68 [.slice (some ⟨g, 0, none⟩) N c, i64 a, i64 b, .pointer (some ⟨sb, 0, none⟩)] (blk g (ucs d ++ rest) :: blk sb [i64 s] :: R) (X := Nat × Nat × Nat) (fun x => .tuple #[i64 x.1, i64 x.2.1])
      (fun x => ((x.1 = a ∧ x.2.1 = b) ∨ (x.1 = b ∧ x.2.1 = a)) ∧ x.2.2 ≤ s + 1) (fun x => blk g (ucs d ++ rest) :: blk sb [i64 x.2.2] :: R) := by
  unfold bigN at hN
  refine tri_enter4 Try.func68 rfl Try.ntmps68 rfl ?_
  refine sg_seq ?_
  repeat' (first | refine sg_wo ?_ | refine sg_ps (ps_assign rfl) rfl ?_ | refine sg_region ?_ | refine sg_nil ?_ | refine sg_then ?_)
  refine sg_seq ?_
  refine sg_seq ?_
  refine sg_drawK [blk g (ucs d ++ rest)] [0, 1, 2, 4, 5, 6, 3, 7, 8] (by kernel_rfl) (by kernel_rfl) (fun w hO => hO.pick [0] (by decide)) ?_
  repeat' (first | refine sk_pure rfl rfl (ps_move rfl) rfl ?_ | refine sk_pure rfl rfl (ps_indexAddr rfl rfl rfl (by omega)) rfl ?_ | refine sk_load 0 rfl rfl rfl (uat _ (by omega)) rfl ?_ | refine sk_eff rfl rfl ?_)
  refine sg_call (less_tri _ _ _) rfl rfl (fun _ _ => ?_)
  refine sk_back (fun w hO => hO.pick [0] (by decide)) ?_
  repeat' (first | refine sk_nil ?_)
  refine sg_then ?_
  cases ltInt d[b]! d[a]! with
  | true =>
    repeat' (first | refine sg_wo ?_ | refine sg_ps (ps_move rfl) rfl ?_ | refine sg_ps (ps_assign rfl) rfl ?_ | refine sg_seq ?_ | refine sg_region ?_ | refine sg_nil ?_ | refine sg_then ?_ | refine sg_ps (ps_nilCheck rfl) rfl ?_ | refine sg_load 1 rfl rfl rfl rfl ?_ | refine sg_ps (ps_add64 rfl rfl (by omega)) rfl ?_ | refine sg_cond_t rfl ?_ | refine sg_ret ?_ | refine ex_then_ret ?_ | refine sg_store [_] rfl rfl rfl (of_decide_eq_true rfl) ?_)
    exact ex_ret2 rfl rfl rfl (b, a, s + 1) rfl ⟨.inr ⟨rfl, rfl⟩, Nat.le_refl _⟩ (fun w hO => hO)
  | false =>
    repeat' (first | refine sg_wo ?_ | refine sg_ps (ps_move rfl) rfl ?_ | refine sg_ps (ps_assign rfl) rfl ?_ | refine sg_seq ?_ | refine sg_region ?_ | refine sg_nil ?_ | refine sg_then ?_ | refine sg_cond_f rfl ?_ | refine sg_skip ?_ | refine sg_ret ?_)
    exact ex_ret2 rfl rfl rfl (a, b, s) rfl ⟨.inl ⟨rfl, rfl⟩, Nat.le_succ _⟩ (fun w hO => hO)
theorem med_tri {N : Nat} (g : Nat) (d : Array Int) (rest : List Value) (c a b e sb s : Nat) (R : List HP) (hd : d.size = N) (hN : N ≤ bigN) (ha : a < N) (hb : b < N) (he : e < N) (hs : s ≤ 900) :
    Tri Try.prog W 66 [.slice (some ⟨g, 0, none⟩) N c, i64 a, i64 b, i64 e, .pointer (some ⟨sb, 0, none⟩)] (blk g (ucs d ++ rest) :: blk sb [i64 s] :: R) (X := Nat × Nat) (fun x => i64 x.1)
      (fun x => (x.1 = a ∨ x.1 = b ∨ x.1 = e) ∧ x.2 ≤ s + 3) (fun x => blk g (ucs d ++ rest) :: blk sb [i64 x.2] :: R) := by
  refine tri_enter5 Try.func66 rfl Try.ntmps66 rfl ?_
  repeat' (first | refine sg_wo ?_ | refine sg_ps (ps_move rfl) rfl ?_ | refine sg_ps (ps_assign rfl) rfl ?_ | refine sg_seq ?_ | refine sg_region ?_ | refine sg_nil ?_ | refine sg_then ?_)
  refine sg_call (ord2_tri g d rest c a b sb s R hd hN ha hb (by omega)) rfl rfl ?_
  rintro ⟨a1, b1, s1⟩ ⟨h1, h2⟩
  dsimp only at h1 h2 ⊢
  repeat' (first | refine sg_wo ?_ | refine sg_ps (ps_move rfl) rfl ?_ | refine sg_ps (ps_assign rfl) rfl ?_ | refine sg_seq ?_ | refine sg_region ?_ | refine sg_nil ?_ | refine sg_then ?_ | refine sg_ps (ps_extract rfl rfl) rfl ?_)
  refine sg_call (ord2_tri g d rest c b1 e sb s1 R hd hN (by omega) he (by omega)) rfl rfl ?_
  rintro ⟨b2, e2, s2⟩ ⟨h3, h4⟩
  dsimp only at h3 h4 ⊢
  repeat' (first | refine sg_wo ?_ | refine sg_ps (ps_move rfl) rfl ?_ | refine sg_ps (ps_assign rfl) rfl ?_ | refine sg_seq ?_ | refine sg_region ?_ | refine sg_nil ?_ | refine sg_then ?_ | refine sg_ps (ps_extract rfl rfl) rfl ?_)
  refine sg_call (ord2_tri g d rest c a1 b2 sb s2 R hd hN (by omega) (by omega) (by omega)) rfl rfl ?_
  rintro ⟨a3, b3, s3⟩ ⟨h5, h6⟩
  dsimp only at h5 h6 ⊢
  repeat' (first | refine sg_wo ?_ | refine sg_ps (ps_move rfl) rfl ?_ | refine sg_ps (ps_assign rfl) rfl ?_ | refine sg_seq ?_ | refine sg_region ?_ | refine sg_nil ?_ | refine sg_then ?_ | refine sg_ps (ps_extract rfl rfl) rfl ?_ | refine sg_ret ?_)
  exact ex_ret1 rfl rfl (b3, s3) rfl ⟨by show b3 = a ∨ b3 = b ∨ b3 = e; omega, by show s3 ≤ s + 3; omega⟩ (fun w hO => hO)
theorem meda_tri {N : Nat} (g : Nat) (d : Array Int) (rest : List Value) (c a sb s : Nat) (R : List HP) (hd : d.size = N) (hN : N ≤ bigN) (ha : 1 ≤ a) (hb : a + 1 < N) (hs : s ≤ 900) :
    Tri Try.prog W 65 [.slice (some ⟨g, 0, none⟩) N c, i64 a, .pointer (some ⟨sb, 0, none⟩)] (blk g (ucs d ++ rest) :: blk sb [i64 s] :: R) (X := Nat × Nat) (fun x => i64 x.1)
      (fun x => (a ≤ x.1 + 1 ∧ x.1 ≤ a + 1) ∧ x.2 ≤ s + 3) (fun x => blk g (ucs d ++ rest) :: blk sb [i64 x.2] :: R) := by
  have hN2 := hN
  unfold bigN at hN2
  refine tri_enter3 Try.func65 rfl Try.ntmps65 rfl ?_
  repeat' (first | refine sg_wo ?_ | refine sg_ps (ps_move rfl) rfl ?_ | refine sg_ps (ps_assign rfl) rfl ?_ | refine sg_seq ?_ | refine sg_region ?_ | refine sg_nil ?_ | refine sg_then ?_ | refine sg_ps (ps_add64 rfl rfl (by omega)) rfl ?_ | refine sg_ps (ps_sub64 rfl rfl (by omega)) rfl ?_)
  rw [show (a : Int) - 1 = ((a - 1 : Nat) : Int) by omega, show (a : Int) + 1 = ((a + 1 : Nat) : Int) by omega]
  refine sg_call (med_tri g d rest c (a - 1) a (a + 1) sb s R hd hN (by omega) (by omega) hb hs) rfl rfl ?_
  rintro ⟨x, s1⟩ ⟨h1, h2⟩
  dsimp only at h1 h2 ⊢
  repeat' (first | refine sg_wo ?_ | refine sg_ps (ps_assign rfl) rfl ?_ | refine sg_nil ?_ | refine sg_then ?_ | refine sg_ret ?_)
  exact ex_ret1 rfl rfl (x, s1) rfl ⟨by show a ≤ x + 1 ∧ x ≤ a + 1; omega, h2⟩ (fun w hO => hO)
theorem piv_tri {N : Nat} (g : Nat) (d : Array Int) (rest : List Value) (c a b : Nat) (R : List HP) (hd : d.size = N) (hN : N ≤ bigN) (ha : a < b) (hb : b ≤ N) :
    Tri Try.prog W 54 [.slice (some ⟨g, 0, none⟩) N c, i64 a, i64 b] (blk g (ucs d ++ rest) :: R) (X := Nat × Int) (fun x => .tuple #[i64 x.1, i64 x.2])
      (fun x => a ≤ x.1 ∧ x.1 < b) (fun x => blk g (ucs d ++ rest) :: R) := by
  have hN2 := hN
  unfold bigN at hN2
  obtain ⟨l, hl⟩ : ∃ l, b = a + l := ⟨b - a, by omega⟩
  have hbl : (b : Int) - (a : Int) = (l : Int) := by omega
  refine tri_enter3 Try.func54 rfl Try.ntmps54 rfl ?_
  refine sg_seq ?_
  repeat' (first | refine sg_wo ?_ | refine sg_ps (ps_assign rfl) rfl ?_ | refine sg_region ?_ | refine sg_nil ?_ | refine sg_then ?_)
  refine sg_seq ?_
  repeat' (first | refine sg_wo ?_ | refine sg_ps (ps_move rfl) rfl ?_ | refine sg_ps (ps_assign rfl) rfl ?_ | refine sg_region ?_ | refine sg_nil ?_ | refine sg_then ?_ | refine sg_ps (ps_sub64 rfl rfl (by omega)) rfl ?_)
  rw [hbl]
  refine sg_seq ?_
  repeat' (first | refine sg_wo ?_ | refine sg_region ?_ | refine sg_nil ?_ | refine sg_then ?_ | refine sg_alloc rfl (fun al => ?_))
  refine sg_seq ?_
  repeat' (first | refine sg_wo ?_ | refine sg_ps (ps_move rfl) rfl ?_ | refine sg_ps (ps_assign rfl) rfl ?_ | refine sg_region ?_ | refine sg_nil ?_ | refine sg_then ?_ | refine sg_ps (ps_add64 rfl rfl (by omega)) rfl ?_ | refine sg_ps (ps_mul64 rfl rfl (by omega)) rfl ?_ | refine sg_ps (ps_quo64 rfl rfl (by decide) (by omega)) rfl ?_)
  refine sg_seq ?_
  repeat' (first | refine sg_wo ?_ | refine sg_ps (ps_move rfl) rfl ?_ | refine sg_ps (ps_assign rfl) rfl ?_ | refine sg_region ?_ | refine sg_nil ?_ | refine sg_then ?_ | refine sg_ps (ps_add64 rfl rfl (by omega)) rfl ?_ | refine sg_ps (ps_mul64 rfl rfl (by omega)) rfl ?_ | refine sg_ps (ps_quo64 rfl rfl (by decide) (by omega)) rfl ?_)
  refine sg_seq ?_
  repeat' (first | refine sg_wo ?_ | refine sg_ps (ps_move rfl) rfl ?_ | refine sg_ps (ps_assign rfl) rfl ?_ | refine sg_region ?_ | refine sg_nil ?_ | refine sg_then ?_ | refine sg_ps (ps_add64 rfl rfl (by omega)) rfl ?_ | refine sg_ps (ps_mul64 rfl rfl (by omega)) rfl ?_ | refine sg_ps (ps_quo64 rfl rfl (by decide) (by omega)) rfl ?_)
  obtain ⟨i, hi⟩ : ∃ i, i = a + l / 4 * 1 := ⟨_, rfl⟩
  obtain ⟨j, hj⟩ : ∃ j, j = a + l / 4 * 2 := ⟨_, rfl⟩
  obtain ⟨k, hk⟩ : ∃ k, k = a + l / 4 * 3 := ⟨_, rfl⟩
  rw [show (a : Int) + (l : Int) / 4 * 1 = (i : Int) by omega, show (a : Int) + (l : Int) / 4 * 2 = (j : Int) by omega, show (a : Int) + (l : Int) / 4 * 3 = (k : Int) by omega]
  refine sg_seq_mid (γ := Nat × Nat) (fun x => a ≤ x.1 ∧ x.1 < b ∧ x.2 ≤ 900) (fun x => [(9, .pointer (some ⟨al, 0, none⟩)), (11, i64 x.1)]) (fun x => blk g (ucs d ++ rest) :: blk al [i64 x.2] :: R) ?_ ?_
  · refine sg_own (L' := blk g (ucs d ++ rest) :: blk al [i64 (0 : Nat)] :: R) (fun w hO => hO.front1) ?_
    by_cases h8 : 8 ≤ l
    · refine sg_seq ?_
      repeat' (first | refine sg_wo ?_ | refine sg_ps (ps_move rfl) rfl ?_ | refine sg_region ?_ | refine sg_nil ?_ | refine sg_then ?_ | refine sg_ps (ps_bin rfl rfl inferInstance) rfl ?_ | (refine sg_cond_dec rfl (fun hg => ?_) (fun hg => ?_) <;> first | (exfalso; omega) | (exact absurd rfl hg) | skip))
      refine sg_seq_mid (γ := Nat × Nat × Nat × Nat) (fun x => (a ≤ x.1 ∧ x.1 < b) ∧ (a ≤ x.2.1 ∧ x.2.1 < b) ∧ (a ≤ x.2.2.1 ∧ x.2.2.1 < b) ∧ x.2.2.2 ≤ 800) (fun x => [(0, .slice (some ⟨g, 0, none⟩) N c), (9, .pointer (some ⟨al, 0, none⟩)), (10, i64 x.1), (11, i64 x.2.1), (12, i64 x.2.2.1)]) (fun x => blk g (ucs d ++ rest) :: blk al [i64 x.2.2.2] :: R) ?_ ?_
      · by_cases h50 : 50 ≤ l
        · skip
          repeat' (first | refine sg_wo ?_ | refine sg_ps (ps_move rfl) rfl ?_ | refine sg_seq ?_ | refine sg_region ?_ | refine sg_nil ?_ | refine sg_then ?_ | refine sg_ps (ps_bin rfl rfl inferInstance) rfl ?_ | (refine sg_cond_dec rfl (fun hg => ?_) (fun hg => ?_) <;> first | (exfalso; omega) | (exact absurd rfl hg) | skip))
          refine sg_call (meda_tri g d rest c i al 0 R hd hN (by omega) (by omega) (by omega)) rfl rfl ?_
          rintro ⟨i1, s1⟩ ⟨h1, h2⟩
          dsimp only at h1 h2 ⊢
          repeat' (first | refine sg_wo ?_ | refine sg_ps (ps_move rfl) rfl ?_ | refine sg_ps (ps_assign rfl) rfl ?_ | refine sg_seq ?_ | refine sg_region ?_ | refine sg_nil ?_ | refine sg_then ?_)
          refine sg_call (meda_tri g d rest c j al s1 R hd hN (by omega) (by omega) (by omega)) rfl rfl ?_
          rintro ⟨j1, s2⟩ ⟨h3, h4⟩
          dsimp only at h3 h4 ⊢
          repeat' (first | refine sg_wo ?_ | refine sg_ps (ps_move rfl) rfl ?_ | refine sg_ps (ps_assign rfl) rfl ?_ | refine sg_region ?_ | refine sg_nil ?_ | refine sg_then ?_)
          refine sg_call (meda_tri g d rest c k al s2 R hd hN (by omega) (by omega) (by omega)) rfl rfl ?_
          rintro ⟨k1, s3⟩ ⟨h5, h6⟩
          dsimp only at h5 h6 ⊢
          repeat' (first | refine sg_wo ?_ | refine sg_ps (ps_assign rfl) rfl ?_ | refine sg_nil ?_)
          exact ex_mid (i1, j1, k1, s3) ⟨⟨by show a ≤ i1; omega, by show i1 < b; omega⟩, ⟨by show a ≤ j1; omega, by show j1 < b; omega⟩, ⟨by show a ≤ k1; omega, by show k1 < b; omega⟩, by show s3 ≤ 800; omega⟩ (.cons rfl (.cons rfl (.cons rfl (.cons rfl (.cons rfl .nil))))) (fun w hO => hO)
        · skip
          repeat' (first | refine sg_wo ?_ | refine sg_ps (ps_move rfl) rfl ?_ | refine sg_seq ?_ | refine sg_region ?_ | refine sg_nil ?_ | refine sg_then ?_ | refine sg_ps (ps_bin rfl rfl inferInstance) rfl ?_ | refine sg_skip ?_ | (refine sg_cond_dec rfl (fun hg => ?_) (fun hg => ?_) <;> first | (exfalso; omega) | (exact absurd rfl hg) | skip))
          exact ex_mid (i, j, k, 0) ⟨⟨by show a ≤ i; omega, by show i < b; omega⟩, ⟨by show a ≤ j; omega, by show j < b; omega⟩, ⟨by show a ≤ k; omega, by show k < b; omega⟩, by show 0 ≤ 800; omega⟩ (.cons rfl (.cons rfl (.cons rfl (.cons rfl (.cons rfl .nil))))) (fun w hO => hO)
      rintro ⟨i, j, k, s⟩ ⟨⟨h1, h2⟩, ⟨h3, h4⟩, ⟨h5, h6⟩, h7⟩
      dsimp only at h1 h2 h3 h4 h5 h6 h7 ⊢
      repeat' (first | refine sg_wo ?_ | refine sg_ps (ps_move rfl) rfl ?_ | refine sg_region ?_)
      refine sg_call (med_tri g d rest c i j k al s R hd hN (by omega) (by omega) (by omega) (by omega)) rfl rfl ?_
      rintro ⟨j1, s1⟩ ⟨h8, h9⟩
      dsimp only at h8 h9 ⊢
      repeat' (first | refine sg_wo ?_ | refine sg_ps (ps_assign rfl) rfl ?_ | refine sg_nil ?_)
      exact ex_mid (j1, s1) ⟨by show a ≤ j1; omega, by show j1 < b; omega, by show s1 ≤ 900; omega⟩ (.cons rfl (.cons rfl .nil)) (fun w hO => hO)
    · skip
      repeat' (first | refine sg_wo ?_ | refine sg_ps (ps_move rfl) rfl ?_ | refine sg_seq ?_ | refine sg_region ?_ | refine sg_nil ?_ | refine sg_then ?_ | refine sg_ps (ps_bin rfl rfl inferInstance) rfl ?_ | refine sg_skip ?_ | (refine sg_cond_dec rfl (fun hg => ?_) (fun hg => ?_) <;> first | (exfalso; omega) | (exact absurd rfl hg) | skip))
      exact ex_mid (j, 0) ⟨by show a ≤ j; omega, by show j < b; omega, by show 0 ≤ 900; omega⟩ (.cons rfl (.cons rfl .nil)) (fun w hO => hO)
  rintro ⟨j, s⟩ ⟨h1, h2, h3⟩
  dsimp only at h1 h2 h3 ⊢
  repeat' (first | refine sg_wo ?_ | refine sg_ps (ps_move rfl) rfl ?_ | refine sg_ps (ps_assign rfl) rfl ?_ | refine sg_seq ?_ | refine sg_region ?_ | refine sg_nil ?_ | refine sg_then ?_ | refine sg_load 1 rfl rfl rfl rfl ?_ | refine sg_ps (ps_bin rfl rfl inferInstance) rfl ?_ | refine sg_block ?_ | refine sg_ret ?_ | refine ex_block_ret ?_ | (refine sg_cond_dec rfl (fun hg => ?_) (fun hg => ?_) <;> first | (exfalso; omega) | (exact absurd rfl hg) | skip))
  all_goals first | exact ex_ret2 rfl rfl rfl (j, 1) rfl ⟨h1, h2⟩ (fun w hO => hO.front1.tail) | exact ex_ret2 rfl rfl rfl (j, 2) rfl ⟨h1, h2⟩ (fun w hO => hO.front1.tail) | exact ex_ret2 rfl rfl rfl (j, 0) rfl ⟨h1, h2⟩ (fun w hO => hO.front1.tail)
end Go.Proofs.Ytclehoaeppbmpaa
namespace Go.Proofs.Ytclehoaeppbmpaa
set_option linter.unusedVariables false
set_option linter.unusedSimpArgs false
set_option linter.unusedSectionVars false
set_option linter.unnecessarySimpa false
open Go Go.Proofs Go.Sort
set_option maxRecDepth 20000
set_option maxHeartbeats 4000000
attribute [local irreducible] SG WC WO W1 WD WK PS Rd Tri Exit.then Exit.inBlock bodyPost calmQ Mid sadd ucs
variable {W : World} {n : Nat} {F : Fr} {L : List HP} {G : Act → World → Prop}
theorem part_tri {N : Nat} (g : Nat) (d0 : Array Int) (rest : List Value) (c a b pv : Nat) (R : List HP) (hd0 : d0.size = N) (hN : N ≤ bigN) (ha : a ≤ pv) (hp : pv < b) (hb : b ≤ N) :
    Tri Try.prog W 59 [.slice (some ⟨g, 0, none⟩) N c, i64 a, i64 b, i64 pv] (blk g (ucs d0 ++ rest) :: R) (X := Unit) (fun _ => .tuple #[i64 (partition ltInt d0 a b pv).1, .bool (partition ltInt d0 a b pv).2.1]) (fun _ => True) (fun _ => blk g (ucs (partition ltInt d0 a b pv).2.2 ++ rest) :: R) := by
  unfold bigN at hN
  refine tri_enter4 Try.func59 rfl Try.ntmps59 rfl ?_
  generalize hr : partition ltInt d0 a b pv = r
  refine sg_seq ?_
  repeat' (first | refine sg_wo ?_ | refine sg_ps (ps_assign rfl) rfl ?_ | refine sg_region ?_ | refine sg_nil ?_ | refine sg_then ?_)
  refine sg_seq ?_
  refine sg_drawK [blk g (ucs d0 ++ rest)] [0, 1, 2, 3, 4, 5, 6, 8, 9, 10, 7, 11, 12, 13, 14, 15] (by kernel_rfl) (by kernel_rfl) (fun w hO => hO.pick [0] (by decide)) ?_
  repeat' (first | refine sk_pure rfl rfl (ps_move rfl) rfl ?_ | refine sk_pure rfl rfl (ps_indexAddr rfl rfl rfl (by omega)) rfl ?_ | refine sk_load 0 rfl rfl rfl (uat _ (by omega)) rfl ?_ | refine sg_store [] rfl rfl rfl (ult _ (by omega)) ?_ | refine sk_eff rfl rfl ?_)
  refine sk_end (by kernel_rfl) ?_
  repeat' (first | refine sk_nil ?_ | refine sk_pure rfl rfl (ps_indexAddr rfl rfl rfl (by omega)) rfl ?_ | refine sg_store [] rfl rfl rfl (ult2 _ (by omega)) ?_ | refine sk_eff rfl rfl ?_ | refine sk_back (LR := []) (fun w hO => hO.pick [] (by decide)) ?_)
  rw [uswp rest (by omega) (by omega)]
  refine sg_then ?_
  refine sg_seq ?_
  repeat' (first | refine sg_wo ?_ | refine sg_ps (ps_move rfl) rfl ?_ | refine sg_ps (ps_assign rfl) rfl ?_ | refine sg_region ?_ | refine sg_nil ?_ | refine sg_then ?_ | refine sg_ps (ps_add64 rfl rfl (by omega)) rfl ?_ | refine sg_ps (ps_sub64 rfl rfl (by omega)) rfl ?_)
  unfold partition at hr
  have hd1 := swp_size d0 a pv
  rw [hd0] at hd1
  refine sg_frame (F' := [(0, .slice (some ⟨g, 0, none⟩) N c), (1, i64 a), (2, i64 b), (10, i64 ((a : Int) + 1)), (11, i64 ((b : Int) - 1))]) (.cons rfl (.cons rfl (.cons rfl (.cons rfl (.cons rfl .nil))))) ?_
  obtain ⟨d, hdd⟩ : ∃ d, swp d0 a pv = d := ⟨_, rfl⟩
  rw [hdd] at hr hd1 ⊢
  clear hdd hd0
  have hd := hd1
  dsimp only at hr
  obtain ⟨j, hj⟩ : ∃ j, b - 1 = j := ⟨_, rfl⟩
  obtain ⟨i, hi⟩ : ∃ i, a + 1 = i := ⟨_, rfl⟩
  rw [hj, hi] at hr
  rw [show (a : Int) + 1 = (i : Int) by omega, show (b : Int) - 1 = (j : Int) by omega]
  generalize hp' : (fun x => ltInt x d[a]!) = p at hr
  generalize hq' : (fun x => !ltInt x d[a]!) = q at hr
  have hpx : ∀ k : Nat, ltInt d[k]! d[a]! = p d[k]! := fun k => by rw [← hp']
  have hqx : ∀ k : Nat, (!ltInt d[k]! d[a]!) = q d[k]! := fun k => by rw [← hq']
  obtain ⟨i2, hi2⟩ : ∃ i2, scanUp p d j i = i2 := ⟨_, rfl⟩
  rw [hi2] at hr
  refine sg_seq_mid (γ := Unit) (fun _ => i ≤ i2 ∧ i2 ≤ j + 1 ∧ (i2 ≤ j → p d[i2]! = false)) (fun _ => [(0, .slice (some ⟨g, 0, none⟩) N c), (1, i64 a), (2, i64 b), (10, i64 i2), (11, i64 j)]) (fun _ => blk g (ucs d ++ rest) :: R) ?_ ?_
  · refine sg_block ?_
    refine sg_loop (γ := Nat) (fun x => i ≤ x ∧ x ≤ j + 1 ∧ scanUp p d j x = i2) (fun x => [(0, .slice (some ⟨g, 0, none⟩) N c), (1, i64 a), (2, i64 b), (10, i64 x), (11, i64 j)]) (fun _ => blk g (ucs d ++ rest) :: R) (fun x => j + 1 - x) i ⟨Nat.le_refl _, by omega, hi2⟩ (.cons rfl (.cons rfl (.cons rfl (.cons rfl (.cons rfl .nil))))) (fun w hO => hO) ?_
    rintro x ⟨hx1, hx2, hx3⟩
    rw [scanUp] at hx3
    by_cases hxj : x ≤ j
    · rw [decide_eq_true hxj, Bool.true_and] at hx3
      repeat' (first | refine sg_seq ?_)
      refine sg_drawK [blk g (ucs d ++ rest)] [0, 1, 2, 3, 4, 5, 6, 8, 9, 10, 7, 11, 12, 13] (by kernel_rfl) (by kernel_rfl) (fun w hO => hO.pick [0] (by decide)) ?_
      repeat' (first | refine sk_pure rfl rfl (ps_move rfl) rfl ?_ | refine sk_pure rfl rfl (ps_bin rfl rfl inferInstance) rfl ?_ | refine sk_pure_g rfl rfl rfl rfl (ps_move rfl) rfl ?_ | refine sk_pure_g rfl rfl rfl rfl (ps_indexAddr rfl rfl rfl (by omega)) rfl ?_ | refine sk_load_g 0 rfl rfl rfl rfl rfl (uat _ (by omega)) rfl ?_ | refine sk_eff rfl rfl ?_ | refine sg_guard_yes rfl rfl ?_ | (refine sk_dec rfl rfl rfl rfl (fun hg => ?_) (fun hg => ?_) <;> first | (exfalso; omega) | (exact absurd rfl hg) | skip))
      refine sg_call (less_tri _ _ _) rfl rfl (fun _ _ => ?_)
      refine sk_back (fun w hO => hO.pick [0] (by decide)) ?_
      repeat' (first | refine sk_nil ?_ | refine sk_pure rfl rfl (ps_pick_t rfl rfl) rfl ?_)
      rw [hpx x]
      cases hb : p d[x]! with
      | true =>
        rw [hb, if_pos rfl] at hx3
        repeat' (first | refine sg_wo ?_ | refine sg_ps (ps_move rfl) rfl ?_ | refine sg_ps (ps_assign rfl) rfl ?_ | refine sg_region ?_ | refine sg_nil ?_ | refine sg_then ?_ | refine sg_ps (ps_add64 rfl rfl (by omega)) rfl ?_ | refine sg_cond_t rfl ?_ | refine sg_block ?_ | refine sg_skip ?_ | refine ex_block_normal ?_)
        exact ex_mid (x + 1) ⟨by omega, by omega, by omega, hx3⟩ (.cons rfl (.cons rfl (.cons rfl (.cons rfl (.cons rfl .nil))))) (fun w hO => hO)
      | false =>
        rw [hb, if_neg (by decide)] at hx3
        subst hx3
        repeat' (first | refine sg_then ?_ | refine sg_cond_f rfl ?_ | refine sg_exit ?_ | refine ex_then_exit ?_ | refine ex_block_hit ?_)
        exact ex_mid () ⟨hx1, hx2, fun _ => hb⟩ (.cons rfl (.cons rfl (.cons rfl (.cons rfl (.cons rfl .nil))))) (fun w hO => hO)
    · rw [decide_eq_false hxj, Bool.false_and, if_neg (by decide)] at hx3
      subst hx3
      repeat' (first | refine sg_seq ?_)
      refine sg_drawK [blk g (ucs d ++ rest)] [0, 1, 2, 3, 4, 5, 6, 8, 9, 10, 7, 11, 12, 13] (by kernel_rfl) (by kernel_rfl) (fun w hO => hO.pick [0] (by decide)) ?_
      repeat' (first | refine sk_nil ?_ | refine sk_pure rfl rfl (ps_move rfl) rfl ?_ | refine sk_pure rfl rfl (ps_bin rfl rfl inferInstance) rfl ?_ | refine sk_pure rfl rfl (ps_pick_f rfl rfl) rfl ?_ | refine sk_no rfl rfl rfl rfl rfl ?_ | refine sk_eff rfl rfl ?_ | refine sg_guard_nf rfl rfl rfl ?_ | refine sk_back (fun w hO => hO.pick [0] (by decide)) ?_ | (refine sk_dec rfl rfl rfl rfl (fun hg => ?_) (fun hg => ?_) <;> first | (exfalso; omega) | (exact absurd rfl hg) | skip))
      repeat' (first | refine sg_then ?_ | refine sg_cond_f rfl ?_ | refine sg_exit ?_ | refine ex_then_exit ?_ | refine ex_block_hit ?_)
      exact ex_mid () ⟨hx1, hx2, fun h => absurd h hxj⟩ (.cons rfl (.cons rfl (.cons rfl (.cons rfl (.cons rfl .nil))))) (fun w hO => hO)
  rintro - ⟨hi3, hi4, hi5⟩
  obtain ⟨j2, hj2⟩ : ∃ j2, scanDown q d i2 j = j2 := ⟨_, rfl⟩
  rw [hj2] at hr
  refine sg_seq_mid (γ := Unit) (fun _ => j2 ≤ j ∧ i2 ≤ j2 + 1 ∧ (i2 ≤ j2 → q d[j2]! = false)) (fun _ => [(0, .slice (some ⟨g, 0, none⟩) N c), (1, i64 a), (2, i64 b), (10, i64 i2), (11, i64 j2)]) (fun _ => blk g (ucs d ++ rest) :: R) ?_ ?_
  · refine sg_block ?_
    refine sg_loop (γ := Nat) (fun x => x ≤ j ∧ i2 ≤ x + 1 ∧ scanDown q d i2 x = j2) (fun x => [(0, .slice (some ⟨g, 0, none⟩) N c), (1, i64 a), (2, i64 b), (10, i64 i2), (11, i64 x)]) (fun _ => blk g (ucs d ++ rest) :: R) (fun x => x) j ⟨Nat.le_refl _, hi4, hj2⟩ (.cons rfl (.cons rfl (.cons rfl (.cons rfl (.cons rfl .nil))))) (fun w hO => hO) ?_
    rintro x ⟨hx1, hx2, hx3⟩
    by_cases hxj : i2 ≤ x
    · obtain ⟨x, rfl⟩ : ∃ x', x = x' + 1 := ⟨x - 1, by omega⟩
      rw [scanDown, decide_eq_true hxj, Bool.true_and] at hx3
      repeat' (first | refine sg_seq ?_)
      refine sg_drawK [blk g (ucs d ++ rest)] [0, 1, 2, 3, 4, 5, 6, 8, 9, 10, 7, 11, 12, 13, 14] (by kernel_rfl) (by kernel_rfl) (fun w hO => hO.pick [0] (by decide)) ?_
      repeat' (first | refine sk_pure rfl rfl (ps_move rfl) rfl ?_ | refine sk_pure rfl rfl (ps_bin rfl rfl inferInstance) rfl ?_ | refine sk_pure_g rfl rfl rfl rfl (ps_move rfl) rfl ?_ | refine sk_pure_g rfl rfl rfl rfl (ps_indexAddr rfl rfl rfl (by omega)) rfl ?_ | refine sk_load_g 0 rfl rfl rfl rfl rfl (uat _ (by omega)) rfl ?_ | refine sk_eff rfl rfl ?_ | refine sg_guard_yes rfl rfl ?_ | (refine sk_dec rfl rfl rfl rfl (fun hg => ?_) (fun hg => ?_) <;> first | (exfalso; omega) | (exact absurd rfl hg) | skip))
      refine sg_call (less_tri _ _ _) rfl rfl (fun _ _ => ?_)
      refine sk_back (fun w hO => hO.pick [0] (by decide)) ?_
      repeat' (first | refine sk_nil ?_ | refine sk_pure rfl rfl (ps_pick_t rfl rfl) rfl ?_ | refine sk_pure_g rfl rfl rfl rfl (ps_not rfl) rfl ?_)
      rw [hqx (x + 1)]
      cases hb : q d[x + 1]! with
      | true =>
        rw [hb, if_pos rfl] at hx3
        repeat' (first | refine sg_wo ?_ | refine sg_ps (ps_move rfl) rfl ?_ | refine sg_ps (ps_assign rfl) rfl ?_ | refine sg_region ?_ | refine sg_nil ?_ | refine sg_then ?_ | refine sg_ps (ps_sub64 rfl rfl (by omega)) rfl ?_ | refine sg_cond_t rfl ?_ | refine sg_block ?_ | refine sg_skip ?_ | refine ex_block_normal ?_)
        exact ex_mid x ⟨by omega, by omega, by omega, hx3⟩ (.cons rfl (.cons rfl (.cons rfl (.cons rfl (.cons (by show some _ = some (i64 (x : Int)); rw [show (x : Int) = ((x + 1 : Nat) : Int) - 1 by omega]) .nil))))) (fun w hO => hO)
      | false =>
        rw [hb, if_neg (by decide)] at hx3
        subst hx3
        repeat' (first | refine sg_then ?_ | refine sg_cond_f rfl ?_ | refine sg_exit ?_ | refine ex_then_exit ?_ | refine ex_block_hit ?_)
        exact ex_mid () ⟨hx1, hx2, fun _ => hb⟩ (.cons rfl (.cons rfl (.cons rfl (.cons rfl (.cons rfl .nil))))) (fun w hO => hO)
    · have hx4 : j2 = x := by
        rw [← hx3]
        cases x with
        | zero => rfl
        | succ x => rw [scanDown, decide_eq_false hxj, Bool.false_and, if_neg (by decide)]
      subst hx4
      repeat' (first | refine sg_seq ?_)
      refine sg_drawK [blk g (ucs d ++ rest)] [0, 1, 2, 3, 4, 5, 6, 8, 9, 10, 7, 11, 12, 13, 14] (by kernel_rfl) (by kernel_rfl) (fun w hO => hO.pick [0] (by decide)) ?_
      repeat' (first | refine sk_nil ?_ | refine sk_pure rfl rfl (ps_move rfl) rfl ?_ | refine sk_pure rfl rfl (ps_bin rfl rfl inferInstance) rfl ?_ | refine sk_pure rfl rfl (ps_pick_f rfl rfl) rfl ?_ | refine sk_no rfl rfl rfl rfl rfl ?_ | refine sk_eff rfl rfl ?_ | refine sg_guard_nf rfl rfl rfl ?_ | refine sk_back (fun w hO => hO.pick [0] (by decide)) ?_ | (refine sk_dec rfl rfl rfl rfl (fun hg => ?_) (fun hg => ?_) <;> first | (exfalso; omega) | (exact absurd rfl hg) | skip))
      repeat' (first | refine sg_then ?_ | refine sg_cond_f rfl ?_ | refine sg_exit ?_ | refine ex_then_exit ?_ | refine ex_block_hit ?_)
      exact ex_mid () ⟨hx1, hx2, fun h => absurd h hxj⟩ (.cons rfl (.cons rfl (.cons rfl (.cons rfl (.cons rfl .nil))))) (fun w hO => hO)
  rintro - ⟨hj3, hj4, hj5⟩
  by_cases hgt : i2 > j2
  · rw [if_pos hgt] at hr
    subst hr
    dsimp only
    repeat' (first | refine sg_wo ?_ | refine sg_ps (ps_move rfl) rfl ?_ | refine sg_seq ?_ | refine sg_region ?_ | refine sg_nil ?_ | refine sg_then ?_ | refine sg_ps (ps_bin rfl rfl inferInstance) rfl ?_ | (refine sg_cond_dec rfl (fun hg => ?_) (fun hg => ?_) <;> first | (exfalso; omega) | (exact absurd rfl hg) | skip))
    refine sg_drawK [blk g (ucs d ++ rest)] [0, 1, 2, 3, 4, 5, 6, 8, 9, 10, 7, 11, 12, 13, 14, 15] (by kernel_rfl) (by kernel_rfl) (fun w hO => hO.pick [0] (by decide)) ?_
    repeat' (first | refine sk_pure rfl rfl (ps_move rfl) rfl ?_ | refine sk_pure rfl rfl (ps_indexAddr rfl rfl rfl (by omega)) rfl ?_ | refine sk_load 0 rfl rfl rfl (uat _ (by omega)) rfl ?_ | refine sg_store [] rfl rfl rfl (ult _ (by omega)) ?_ | refine sk_eff rfl rfl ?_)
    refine sk_end (by kernel_rfl) ?_
    repeat' (first | refine sk_nil ?_ | refine sk_pure rfl rfl (ps_indexAddr rfl rfl rfl (by omega)) rfl ?_ | refine sg_store [] rfl rfl rfl (ult2 _ (by omega)) ?_ | refine sk_eff rfl rfl ?_ | refine sk_back (LR := []) (fun w hO => hO.pick [] (by decide)) ?_)
    rw [uswp rest (by omega) (by omega)]
    repeat' (first | refine sg_wo ?_ | refine sg_ps (ps_move rfl) rfl ?_ | refine sg_ps (ps_assign rfl) rfl ?_ | refine sg_seq ?_ | refine sg_region ?_ | refine sg_nil ?_ | refine sg_then ?_ | refine sg_ret ?_ | refine ex_then_ret ?_)
    exact ex_ret2 rfl rfl rfl () rfl trivial (fun w hO => hO)
  rw [if_neg hgt] at hr
  have hne : i2 ≠ j2 := by
    rintro rfl
    have h1 := hi5 (by omega)
    have h2 := hj5 (by omega)
    rw [← hqx, Bool.not_eq_false'] at h2
    rw [← hpx, h2] at h1
    cases h1
  refine sg_seq ?_
  refine sg_seq ?_
  repeat' (first | refine sg_wo ?_ | refine sg_ps (ps_move rfl) rfl ?_ | refine sg_region ?_ | refine sg_nil ?_ | refine sg_then ?_ | refine sg_ps (ps_bin rfl rfl inferInstance) rfl ?_ | refine sg_skip ?_ | (refine sg_cond_dec rfl (fun hg => ?_) (fun hg => ?_) <;> first | (exfalso; omega) | (exact absurd rfl hg) | skip))
  refine sg_seq ?_
  refine sg_drawK [blk g (ucs d ++ rest)] [0, 1, 2, 3, 4, 5, 6, 8, 9, 10, 7, 11, 12, 13, 14, 15] (by kernel_rfl) (by kernel_rfl) (fun w hO => hO.pick [0] (by decide)) ?_
  repeat' (first | refine sk_pure rfl rfl (ps_move rfl) rfl ?_ | refine sk_pure rfl rfl (ps_indexAddr rfl rfl rfl (by omega)) rfl ?_ | refine sk_load 0 rfl rfl rfl (uat _ (by omega)) rfl ?_ | refine sg_store [] rfl rfl rfl (ult _ (by omega)) ?_ | refine sk_eff rfl rfl ?_)
  refine sk_end (by kernel_rfl) ?_
  repeat' (first | refine sk_nil ?_ | refine sk_pure rfl rfl (ps_indexAddr rfl rfl rfl (by omega)) rfl ?_ | refine sg_store [] rfl rfl rfl (ult2 _ (by omega)) ?_ | refine sk_eff rfl rfl ?_ | refine sk_back (LR := []) (fun w hO => hO.pick [] (by decide)) ?_)
  rw [uswp rest (by omega) (by omega)]
  refine sg_then ?_
  refine sg_seq ?_
  repeat' (first | refine sg_wo ?_ | refine sg_ps (ps_move rfl) rfl ?_ | refine sg_ps (ps_assign rfl) rfl ?_ | refine sg_region ?_ | refine sg_nil ?_ | refine sg_then ?_ | refine sg_ps (ps_add64 rfl rfl (by omega)) rfl ?_)
  refine sg_seq ?_
  repeat' (first | refine sg_wo ?_ | refine sg_ps (ps_move rfl) rfl ?_ | refine sg_ps (ps_assign rfl) rfl ?_ | refine sg_region ?_ | refine sg_nil ?_ | refine sg_then ?_ | refine sg_ps (ps_sub64 rfl rfl (by omega)) rfl ?_)
  have hd2 := swp_size d i2 j2
  rw [hd] at hd2
  generalize hpl : partLoop ltInt a (i2 + 1) (j2 - 1) (swp d i2 j2) = pl at hr
  refine sg_seq_mid (γ := Nat × Array Int) (fun x => x = pl ∧ a ≤ x.1 ∧ x.1 < b ∧ x.2.size = N) (fun x => [(0, .slice (some ⟨g, 0, none⟩) N c), (1, i64 a), (11, i64 x.1)]) (fun x => blk g (ucs x.2 ++ rest) :: R) ?_ ?_
  · refine sg_block ?_
    refine sg_loop (γ := Nat × Nat × Array Int) (fun x => a < x.1 ∧ x.1 ≤ x.2.1 + 1 ∧ x.2.1 < b ∧ x.2.2.size = N ∧ partLoop ltInt a x.1 x.2.1 x.2.2 = pl) (fun x => [(0, .slice (some ⟨g, 0, none⟩) N c), (1, i64 a), (2, i64 b), (10, i64 x.1), (11, i64 x.2.1)])
      (fun x => blk g (ucs x.2.2 ++ rest) :: R) (fun x => x.2.1 + 1 - x.1) (i2 + 1, j2 - 1, swp d i2 j2) ⟨by show a < i2 + 1; omega, by show i2 + 1 ≤ j2 - 1 + 1; omega, by show j2 - 1 < b; omega, hd2, hpl⟩
      (.cons rfl (.cons rfl (.cons rfl (.cons rfl (.cons (by show some _ = some (i64 ((j2 - 1 : Nat) : Int)); rw [show ((j2 - 1 : Nat) : Int) = (j2 : Int) - 1 by omega]) .nil))))) (fun w hO => hO) ?_
    rintro ⟨i, j, d⟩ ⟨hai, hij, hjb, hd, hr⟩
    dsimp only at hai hij hjb hd hr ⊢
    rw [partLoop_eq] at hr
    generalize hp' : (fun x => ltInt x d[a]!) = p at hr
    generalize hq' : (fun x => !ltInt x d[a]!) = q at hr
    have hpx : ∀ k : Nat, ltInt d[k]! d[a]! = p d[k]! := fun k => by rw [← hp']
    have hqx : ∀ k : Nat, (!ltInt d[k]! d[a]!) = q d[k]! := fun k => by rw [← hq']
    refine sg_block ?_
    obtain ⟨i2, hi2⟩ : ∃ i2, scanUp p d j i = i2 := ⟨_, rfl⟩
    rw [hi2] at hr
    refine sg_seq_mid (γ := Unit) (fun _ => i ≤ i2 ∧ i2 ≤ j + 1 ∧ (i2 ≤ j → p d[i2]! = false)) (fun _ => [(0, .slice (some ⟨g, 0, none⟩) N c), (1, i64 a), (2, i64 b), (10, i64 i2), (11, i64 j)]) (fun _ => blk g (ucs d ++ rest) :: R) ?_ ?_
    · refine sg_block ?_
      refine sg_loop (γ := Nat) (fun x => i ≤ x ∧ x ≤ j + 1 ∧ scanUp p d j x = i2) (fun x => [(0, .slice (some ⟨g, 0, none⟩) N c), (1, i64 a), (2, i64 b), (10, i64 x), (11, i64 j)]) (fun _ => blk g (ucs d ++ rest) :: R) (fun x => j + 1 - x) i ⟨Nat.le_refl _, by omega, hi2⟩ (.cons rfl (.cons rfl (.cons rfl (.cons rfl (.cons rfl .nil))))) (fun w hO => hO) ?_
      rintro x ⟨hx1, hx2, hx3⟩
      rw [scanUp] at hx3
      by_cases hxj : x ≤ j
      · rw [decide_eq_true hxj, Bool.true_and] at hx3
        repeat' (first | refine sg_seq ?_)
        refine sg_drawK [blk g (ucs d ++ rest)] [0, 1, 2, 3, 4, 5, 6, 8, 9, 10, 7, 11, 12, 13] (by kernel_rfl) (by kernel_rfl) (fun w hO => hO.pick [0] (by decide)) ?_
        repeat' (first | refine sk_pure rfl rfl (ps_move rfl) rfl ?_ | refine sk_pure rfl rfl (ps_bin rfl rfl inferInstance) rfl ?_ | refine sk_pure_g rfl rfl rfl rfl (ps_move rfl) rfl ?_ | refine sk_pure_g rfl rfl rfl rfl (ps_indexAddr rfl rfl rfl (by omega)) rfl ?_ | refine sk_load_g 0 rfl rfl rfl rfl rfl (uat _ (by omega)) rfl ?_ | refine sk_eff rfl rfl ?_ | refine sg_guard_yes rfl rfl ?_ | (refine sk_dec rfl rfl rfl rfl (fun hg => ?_) (fun hg => ?_) <;> first | (exfalso; omega) | (exact absurd rfl hg) | skip))
        refine sg_call (less_tri _ _ _) rfl rfl (fun _ _ => ?_)
        refine sk_back (fun w hO => hO.pick [0] (by decide)) ?_
        repeat' (first | refine sk_nil ?_ | refine sk_pure rfl rfl (ps_pick_t rfl rfl) rfl ?_)
        rw [hpx x]
        cases hb : p d[x]! with
        | true =>
          rw [hb, if_pos rfl] at hx3
          repeat' (first | refine sg_wo ?_ | refine sg_ps (ps_move rfl) rfl ?_ | refine sg_ps (ps_assign rfl) rfl ?_ | refine sg_region ?_ | refine sg_nil ?_ | refine sg_then ?_ | refine sg_ps (ps_add64 rfl rfl (by omega)) rfl ?_ | refine sg_cond_t rfl ?_ | refine sg_block ?_ | refine sg_skip ?_ | refine ex_block_normal ?_)
          exact ex_mid (x + 1) ⟨by omega, by omega, by omega, hx3⟩ (.cons rfl (.cons rfl (.cons rfl (.cons rfl (.cons rfl .nil))))) (fun w hO => hO)
        | false =>
          rw [hb, if_neg (by decide)] at hx3
          subst hx3
          repeat' (first | refine sg_then ?_ | refine sg_cond_f rfl ?_ | refine sg_exit ?_ | refine ex_then_exit ?_ | refine ex_block_hit ?_)
          exact ex_mid () ⟨hx1, hx2, fun _ => hb⟩ (.cons rfl (.cons rfl (.cons rfl (.cons rfl (.cons rfl .nil))))) (fun w hO => hO)
      · rw [decide_eq_false hxj, Bool.false_and, if_neg (by decide)] at hx3
        subst hx3
        repeat' (first | refine sg_seq ?_)
        refine sg_drawK [blk g (ucs d ++ rest)] [0, 1, 2, 3, 4, 5, 6, 8, 9, 10, 7, 11, 12, 13] (by kernel_rfl) (by kernel_rfl) (fun w hO => hO.pick [0] (by decide)) ?_
        repeat' (first | refine sk_nil ?_ | refine sk_pure rfl rfl (ps_move rfl) rfl ?_ | refine sk_pure rfl rfl (ps_bin rfl rfl inferInstance) rfl ?_ | refine sk_pure rfl rfl (ps_pick_f rfl rfl) rfl ?_ | refine sk_no rfl rfl rfl rfl rfl ?_ | refine sk_eff rfl rfl ?_ | refine sg_guard_nf rfl rfl rfl ?_ | refine sk_back (fun w hO => hO.pick [0] (by decide)) ?_ | (refine sk_dec rfl rfl rfl rfl (fun hg => ?_) (fun hg => ?_) <;> first | (exfalso; omega) | (exact absurd rfl hg) | skip))
        repeat' (first | refine sg_then ?_ | refine sg_cond_f rfl ?_ | refine sg_exit ?_ | refine ex_then_exit ?_ | refine ex_block_hit ?_)
        exact ex_mid () ⟨hx1, hx2, fun h => absurd h hxj⟩ (.cons rfl (.cons rfl (.cons rfl (.cons rfl (.cons rfl .nil))))) (fun w hO => hO)
    rintro - ⟨hi3, hi4, hi5⟩
    obtain ⟨j2, hj2⟩ : ∃ j2, scanDown q d i2 j = j2 := ⟨_, rfl⟩
    rw [hj2] at hr
    refine sg_seq_mid (γ := Unit) (fun _ => j2 ≤ j ∧ i2 ≤ j2 + 1 ∧ (i2 ≤ j2 → q d[j2]! = false)) (fun _ => [(0, .slice (some ⟨g, 0, none⟩) N c), (1, i64 a), (2, i64 b), (10, i64 i2), (11, i64 j2)]) (fun _ => blk g (ucs d ++ rest) :: R) ?_ ?_
    · refine sg_block ?_
      refine sg_loop (γ := Nat) (fun x => x ≤ j ∧ i2 ≤ x + 1 ∧ scanDown q d i2 x = j2) (fun x => [(0, .slice (some ⟨g, 0, none⟩) N c), (1, i64 a), (2, i64 b), (10, i64 i2), (11, i64 x)]) (fun _ => blk g (ucs d ++ rest) :: R) (fun x => x) j ⟨Nat.le_refl _, hi4, hj2⟩ (.cons rfl (.cons rfl (.cons rfl (.cons rfl (.cons rfl .nil))))) (fun w hO => hO) ?_
      rintro x ⟨hx1, hx2, hx3⟩
      by_cases hxj : i2 ≤ x
      · obtain ⟨x, rfl⟩ : ∃ x', x = x' + 1 := ⟨x - 1, by omega⟩
        rw [scanDown, decide_eq_true hxj, Bool.true_and] at hx3
        repeat' (first | refine sg_seq ?_)
        refine sg_drawK [blk g (ucs d ++ rest)] [0, 1, 2, 3, 4, 5, 6, 8, 9, 10, 7, 11, 12, 13, 14] (by kernel_rfl) (by kernel_rfl) (fun w hO => hO.pick [0] (by decide)) ?_
        repeat' (first | refine sk_pure rfl rfl (ps_move rfl) rfl ?_ | refine sk_pure rfl rfl (ps_bin rfl rfl inferInstance) rfl ?_ | refine sk_pure_g rfl rfl rfl rfl (ps_move rfl) rfl ?_ | refine sk_pure_g rfl rfl rfl rfl (ps_indexAddr rfl rfl rfl (by omega)) rfl ?_ | refine sk_load_g 0 rfl rfl rfl rfl rfl (uat _ (by omega)) rfl ?_ | refine sk_eff rfl rfl ?_ | refine sg_guard_yes rfl rfl ?_ | (refine sk_dec rfl rfl rfl rfl (fun hg => ?_) (fun hg => ?_) <;> first | (exfalso; omega) | (exact absurd rfl hg) | skip))
        refine sg_call (less_tri _ _ _) rfl rfl (fun _ _ => ?_)
        refine sk_back (fun w hO => hO.pick [0] (by decide)) ?_
        repeat' (first | refine sk_nil ?_ | refine sk_pure rfl rfl (ps_pick_t rfl rfl) rfl ?_ | refine sk_pure_g rfl rfl rfl rfl (ps_not rfl) rfl ?_)
        rw [hqx (x + 1)]
        cases hb : q d[x + 1]! with
        | true =>
          rw [hb, if_pos rfl] at hx3
          repeat' (first | refine sg_wo ?_ | refine sg_ps (ps_move rfl) rfl ?_ | refine sg_ps (ps_assign rfl) rfl ?_ | refine sg_region ?_ | refine sg_nil ?_ | refine sg_then ?_ | refine sg_ps (ps_sub64 rfl rfl (by omega)) rfl ?_ | refine sg_cond_t rfl ?_ | refine sg_block ?_ | refine sg_skip ?_ | refine ex_block_normal ?_)
          exact ex_mid x ⟨by omega, by omega, by omega, hx3⟩ (.cons rfl (.cons rfl (.cons rfl (.cons rfl (.cons (by show some _ = some (i64 (x : Int)); rw [show (x : Int) = ((x + 1 : Nat) : Int) - 1 by omega]) .nil))))) (fun w hO => hO)
        | false =>
          rw [hb, if_neg (by decide)] at hx3
          subst hx3
          repeat' (first | refine sg_then ?_ | refine sg_cond_f rfl ?_ | refine sg_exit ?_ | refine ex_then_exit ?_ | refine ex_block_hit ?_)
          exact ex_mid () ⟨hx1, hx2, fun _ => hb⟩ (.cons rfl (.cons rfl (.cons rfl (.cons rfl (.cons rfl .nil))))) (fun w hO => hO)
      · have hx4 : j2 = x := by
          rw [← hx3]
          cases x with
          | zero => rfl
          | succ x => rw [scanDown, decide_eq_false hxj, Bool.false_and, if_neg (by decide)]
        subst hx4
        repeat' (first | refine sg_seq ?_)
        refine sg_drawK [blk g (ucs d ++ rest)] [0, 1, 2, 3, 4, 5, 6, 8, 9, 10, 7, 11, 12, 13, 14] (by kernel_rfl) (by kernel_rfl) (fun w hO => hO.pick [0] (by decide)) ?_
        repeat' (first | refine sk_nil ?_ | refine sk_pure rfl rfl (ps_move rfl) rfl ?_ | refine sk_pure rfl rfl (ps_bin rfl rfl inferInstance) rfl ?_ | refine sk_pure rfl rfl (ps_pick_f rfl rfl) rfl ?_ | refine sk_no rfl rfl rfl rfl rfl ?_ | refine sk_eff rfl rfl ?_ | refine sg_guard_nf rfl rfl rfl ?_ | refine sk_back (fun w hO => hO.pick [0] (by decide)) ?_ | (refine sk_dec rfl rfl rfl rfl (fun hg => ?_) (fun hg => ?_) <;> first | (exfalso; omega) | (exact absurd rfl hg) | skip))
        repeat' (first | refine sg_then ?_ | refine sg_cond_f rfl ?_ | refine sg_exit ?_ | refine ex_then_exit ?_ | refine ex_block_hit ?_)
        exact ex_mid () ⟨hx1, hx2, fun h => absurd h hxj⟩ (.cons rfl (.cons rfl (.cons rfl (.cons rfl (.cons rfl .nil))))) (fun w hO => hO)
    rintro - ⟨hj3, hj4, hj5⟩
    by_cases hgt : i2 > j2
    · rw [if_pos hgt] at hr
      repeat' (first | refine sg_wo ?_ | refine sg_ps (ps_move rfl) rfl ?_ | refine sg_seq ?_ | refine sg_region ?_ | refine sg_nil ?_ | refine sg_then ?_ | refine sg_ps (ps_bin rfl rfl inferInstance) rfl ?_ | refine sg_exit ?_ | refine ex_then_exit ?_ | refine ex_block_hit ?_ | refine ex_block_miss rfl ?_ | (refine sg_cond_dec rfl (fun hg => ?_) (fun hg => ?_) <;> first | (exfalso; omega) | (exact absurd rfl hg) | skip))
      exact ex_mid (j2, d) ⟨hr, by show a ≤ j2; omega, by show j2 < b; omega, hd⟩ (.cons rfl (.cons rfl (.cons rfl .nil))) (fun w hO => hO)
    rw [if_neg hgt] at hr
    have hne : i2 ≠ j2 := by
      rintro rfl
      have h1 := hi5 (by omega)
      have h2 := hj5 (by omega)
      rw [← hqx, Bool.not_eq_false'] at h2
      rw [← hpx, h2] at h1
      cases h1
    refine sg_seq ?_
    refine sg_seq ?_
    repeat' (first | refine sg_wo ?_ | refine sg_ps (ps_move rfl) rfl ?_ | refine sg_region ?_ | refine sg_nil ?_ | refine sg_then ?_ | refine sg_ps (ps_bin rfl rfl inferInstance) rfl ?_ | refine sg_skip ?_ | (refine sg_cond_dec rfl (fun hg => ?_) (fun hg => ?_) <;> first | (exfalso; omega) | (exact absurd rfl hg) | skip))
    refine sg_seq ?_
    refine sg_drawK [blk g (ucs d ++ rest)] [0, 1, 2, 3, 4, 5, 6, 8, 9, 10, 7, 11, 12, 13, 14, 15] (by kernel_rfl) (by kernel_rfl) (fun w hO => hO.pick [0] (by decide)) ?_
    repeat' (first | refine sk_pure rfl rfl (ps_move rfl) rfl ?_ | refine sk_pure rfl rfl (ps_indexAddr rfl rfl rfl (by omega)) rfl ?_ | refine sk_load 0 rfl rfl rfl (uat _ (by omega)) rfl ?_ | refine sg_store [] rfl rfl rfl (ult _ (by omega)) ?_ | refine sk_eff rfl rfl ?_)
    refine sk_end (by kernel_rfl) ?_
    repeat' (first | refine sk_nil ?_ | refine sk_pure rfl rfl (ps_indexAddr rfl rfl rfl (by omega)) rfl ?_ | refine sg_store [] rfl rfl rfl (ult2 _ (by omega)) ?_ | refine sk_eff rfl rfl ?_ | refine sk_back (LR := []) (fun w hO => hO.pick [] (by decide)) ?_)
    rw [uswp rest (by omega) (by omega)]
    refine sg_then ?_
    have hd2 := swp_size d i2 j2
    rw [hd] at hd2
    repeat' (first | refine sg_wo ?_ | refine sg_ps (ps_move rfl) rfl ?_ | refine sg_ps (ps_assign rfl) rfl ?_ | refine sg_seq ?_ | refine sg_region ?_ | refine sg_nil ?_ | refine sg_then ?_ | refine sg_ps (ps_add64 rfl rfl (by omega)) rfl ?_ | refine sg_ps (ps_sub64 rfl rfl (by omega)) rfl ?_ | refine ex_block_normal ?_)
    exact ex_mid (i2 + 1, j2 - 1, swp d i2 j2) ⟨by show j2 - 1 + 1 - (i2 + 1) < j + 1 - i; omega, by show a < i2 + 1; omega, by show i2 + 1 ≤ j2 - 1 + 1; omega, by show j2 - 1 < b; omega, hd2, hr⟩
      (.cons rfl (.cons rfl (.cons rfl (.cons rfl (.cons (by show some _ = some (i64 ((j2 - 1 : Nat) : Int)); rw [show ((j2 - 1 : Nat) : Int) = (j2 : Int) - 1 by omega]) .nil))))) (fun w hO => hO)
  rintro ⟨k, d3⟩ ⟨rfl, hk1, hk2, hd3⟩
  dsimp only at hk1 hk2 hd3 hr ⊢
  subst hr
  refine sg_seq ?_
  refine sg_drawK [blk g (ucs d3 ++ rest)] [0, 1, 2, 3, 4, 5, 6, 8, 9, 10, 7, 11, 12, 13, 14, 15] (by kernel_rfl) (by kernel_rfl) (fun w hO => hO.pick [0] (by decide)) ?_
  repeat' (first | refine sk_pure rfl rfl (ps_move rfl) rfl ?_ | refine sk_pure rfl rfl (ps_indexAddr rfl rfl rfl (by omega)) rfl ?_ | refine sk_load 0 rfl rfl rfl (uat _ (by omega)) rfl ?_ | refine sg_store [] rfl rfl rfl (ult _ (by omega)) ?_ | refine sk_eff rfl rfl ?_)
  refine sk_end (by kernel_rfl) ?_
  repeat' (first | refine sk_nil ?_ | refine sk_pure rfl rfl (ps_indexAddr rfl rfl rfl (by omega)) rfl ?_ | refine sg_store [] rfl rfl rfl (ult2 _ (by omega)) ?_ | refine sk_eff rfl rfl ?_ | refine sk_back (LR := []) (fun w hO => hO.pick [] (by decide)) ?_)
  rw [uswp rest (by omega) (by omega)]
  refine sg_then ?_
  repeat' (first | refine sg_wo ?_ | refine sg_ps (ps_move rfl) rfl ?_ | refine sg_ps (ps_assign rfl) rfl ?_ | refine sg_seq ?_ | refine sg_region ?_ | refine sg_nil ?_ | refine sg_then ?_ | refine sg_ret ?_)
  exact ex_ret2 rfl rfl rfl () rfl trivial (fun w hO => hO)
end Go.Proofs.Ytclehoaeppbmpaa
namespace Go.Proofs.Ytclehoaeppbmpaa
set_option linter.unusedVariables false
set_option linter.unusedSimpArgs false
set_option linter.unusedSectionVars false
set_option linter.unnecessarySimpa false
open Go Go.Proofs Go.Sort
set_option maxRecDepth 20000
set_option maxHeartbeats 4000000
attribute [local irreducible] SG WC WO W1 WD WK PS Rd Tri Exit.then Exit.inBlock bodyPost calmQ Mid sadd ucs
variable {W : World} {n : Nat} {F : Fr} {L : List HP} {G : Act → World → Prop}
theorem peq_tri {N : Nat} (g : Nat) (d : Array Int) (rest : List Value) (c a b pv : Nat) (R : List HP) (hd : d.size = N) (hN : N ≤ bigN) (ha : a ≤ pv) (hp : pv < b) (hb : b ≤ N) :
    Tri Try.prog W 58 [.slice (some ⟨g, 0, none⟩) N c, i64 a, i64 b, i64 pv] (blk g (ucs d ++ rest) :: R) (X := Unit) (fun _ => i64 (partitionEqual ltInt d a b pv).1) (fun _ => True) (fun _ => blk g (ucs (partitionEqual ltInt d a b pv).2 ++ rest) :: R) := by
  unfold bigN at hN
  refine tri_enter4 Try.func58 rfl Try.ntmps58 rfl ?_
  generalize hr : partitionEqual ltInt d a b pv = r
  refine sg_seq ?_
  repeat' (first | refine sg_wo ?_ | refine sg_ps (ps_assign rfl) rfl ?_ | refine sg_region ?_ | refine sg_nil ?_ | refine sg_then ?_)
  refine sg_seq ?_
  refine sg_drawK [blk g (ucs d ++ rest)] [0, 1, 2, 3, 4, 5, 6, 8, 9, 10, 7, 11, 12, 13, 14, 15] (by kernel_rfl) (by kernel_rfl) (fun w hO => hO.pick [0] (by decide)) ?_
  repeat' (first | refine sk_pure rfl rfl (ps_move rfl) rfl ?_ | refine sk_pure rfl rfl (ps_indexAddr rfl rfl rfl (by omega)) rfl ?_ | refine sk_load 0 rfl rfl rfl (uat _ (by omega)) rfl ?_ | refine sg_store [] rfl rfl rfl (ult _ (by omega)) ?_ | refine sk_eff rfl rfl ?_)
  refine sk_end (by kernel_rfl) ?_
  repeat' (first | refine sk_nil ?_ | refine sk_pure rfl rfl (ps_indexAddr rfl rfl rfl (by omega)) rfl ?_ | refine sg_store [] rfl rfl rfl (ult2 _ (by omega)) ?_ | refine sk_eff rfl rfl ?_ | refine sk_back (LR := []) (fun w hO => hO.pick [] (by decide)) ?_)
  rw [uswp rest (by omega) (by omega)]
  refine sg_then ?_
  refine sg_seq ?_
  repeat' (first | refine sg_wo ?_ | refine sg_ps (ps_move rfl) rfl ?_ | refine sg_ps (ps_assign rfl) rfl ?_ | refine sg_region ?_ | refine sg_nil ?_ | refine sg_then ?_ | refine sg_ps (ps_add64 rfl rfl (by omega)) rfl ?_ | refine sg_ps (ps_sub64 rfl rfl (by omega)) rfl ?_)
  unfold partitionEqual at hr
  have hd1 := swp_size d a pv
  rw [hd] at hd1
  generalize swp d a pv = d1 at hr hd1
  refine sg_seq ?_
  refine sg_block ?_
  refine sg_loop (γ := Nat × Nat × Array Int) (fun x => a < x.1 ∧ x.1 ≤ x.2.1 + 1 ∧ x.2.1 < b ∧ x.2.2.size = N ∧ partEqLoop ltInt a x.1 x.2.1 x.2.2 = r) (fun x => [(0, .slice (some ⟨g, 0, none⟩) N c), (1, i64 a), (2, i64 b), (9, i64 x.1), (10, i64 x.2.1)])
    (fun x => blk g (ucs x.2.2 ++ rest) :: R) (fun x => x.2.1 + 1 - x.1) (a + 1, b - 1, d1) ⟨by show a < a + 1; omega, by show a + 1 ≤ b - 1 + 1; omega, by show b - 1 < b; omega, hd1, hr⟩
    (.cons rfl (.cons rfl (.cons rfl (.cons rfl (.cons (by show some _ = some (i64 ((b - 1 : Nat) : Int)); rw [show ((b - 1 : Nat) : Int) = (b : Int) - 1 by omega]) .nil))))) (fun w hO => hO) ?_
  clear hr hd1
  rintro ⟨i, j, d⟩ ⟨hai, hij, hjb, hd, hr⟩
  dsimp only at hai hij hjb hd hr ⊢
  rw [partEqLoop_eq] at hr
  generalize hp' : (fun x => !ltInt d[a]! x) = p at hr
  generalize hq' : (fun x => ltInt d[a]! x) = q at hr
  have hpx : ∀ k : Nat, (!ltInt d[a]! d[k]!) = p d[k]! := fun k => by rw [← hp']
  have hqx : ∀ k : Nat, ltInt d[a]! d[k]! = q d[k]! := fun k => by rw [← hq']
  refine sg_block ?_
  obtain ⟨i2, hi2⟩ : ∃ i2, scanUp p d j i = i2 := ⟨_, rfl⟩
  rw [hi2] at hr
  refine sg_seq_mid (γ := Unit) (fun _ => i ≤ i2 ∧ i2 ≤ j + 1 ∧ (i2 ≤ j → p d[i2]! = false)) (fun _ => [(0, .slice (some ⟨g, 0, none⟩) N c), (1, i64 a), (2, i64 b), (9, i64 i2), (10, i64 j)]) (fun _ => blk g (ucs d ++ rest) :: R) ?_ ?_
  · refine sg_block ?_
    refine sg_loop (γ := Nat) (fun x => i ≤ x ∧ x ≤ j + 1 ∧ scanUp p d j x = i2) (fun x => [(0, .slice (some ⟨g, 0, none⟩) N c), (1, i64 a), (2, i64 b), (9, i64 x), (10, i64 j)]) (fun _ => blk g (ucs d ++ rest) :: R) (fun x => j + 1 - x) i ⟨Nat.le_refl _, by omega, hi2⟩ (.cons rfl (.cons rfl (.cons rfl (.cons rfl (.cons rfl .nil))))) (fun w hO => hO) ?_
    rintro x ⟨hx1, hx2, hx3⟩
    rw [scanUp] at hx3
    by_cases hxj : x ≤ j
    · rw [decide_eq_true hxj, Bool.true_and] at hx3
      repeat' (first | refine sg_seq ?_)
      refine sg_drawK [blk g (ucs d ++ rest)] [0, 1, 2, 3, 4, 5, 6, 8, 9, 10, 7, 11, 12, 13, 14] (by kernel_rfl) (by kernel_rfl) (fun w hO => hO.pick [0] (by decide)) ?_
      repeat' (first | refine sk_pure rfl rfl (ps_move rfl) rfl ?_ | refine sk_pure rfl rfl (ps_bin rfl rfl inferInstance) rfl ?_ | refine sk_pure_g rfl rfl rfl rfl (ps_move rfl) rfl ?_ | refine sk_pure_g rfl rfl rfl rfl (ps_indexAddr rfl rfl rfl (by omega)) rfl ?_ | refine sk_load_g 0 rfl rfl rfl rfl rfl (uat _ (by omega)) rfl ?_ | refine sk_eff rfl rfl ?_ | refine sg_guard_yes rfl rfl ?_ | (refine sk_dec rfl rfl rfl rfl (fun hg => ?_) (fun hg => ?_) <;> first | (exfalso; omega) | (exact absurd rfl hg) | skip))
      refine sg_call (less_tri _ _ _) rfl rfl (fun _ _ => ?_)
      refine sk_back (fun w hO => hO.pick [0] (by decide)) ?_
      repeat' (first | refine sk_nil ?_ | refine sk_pure rfl rfl (ps_pick_t rfl rfl) rfl ?_ | refine sk_pure_g rfl rfl rfl rfl (ps_not rfl) rfl ?_)
      rw [hpx x]
      cases hb : p d[x]! with
      | true =>
        rw [hb, if_pos rfl] at hx3
        repeat' (first | refine sg_wo ?_ | refine sg_ps (ps_move rfl) rfl ?_ | refine sg_ps (ps_assign rfl) rfl ?_ | refine sg_region ?_ | refine sg_nil ?_ | refine sg_then ?_ | refine sg_ps (ps_add64 rfl rfl (by omega)) rfl ?_ | refine sg_cond_t rfl ?_ | refine sg_block ?_ | refine sg_skip ?_ | refine ex_block_normal ?_)
        exact ex_mid (x + 1) ⟨by omega, by omega, by omega, hx3⟩ (.cons rfl (.cons rfl (.cons rfl (.cons rfl (.cons rfl .nil))))) (fun w hO => hO)
      | false =>
        rw [hb, if_neg (by decide)] at hx3
        subst hx3
        repeat' (first | refine sg_then ?_ | refine sg_cond_f rfl ?_ | refine sg_exit ?_ | refine ex_then_exit ?_ | refine ex_block_hit ?_)
        exact ex_mid () ⟨hx1, hx2, fun _ => hb⟩ (.cons rfl (.cons rfl (.cons rfl (.cons rfl (.cons rfl .nil))))) (fun w hO => hO)
    · rw [decide_eq_false hxj, Bool.false_and, if_neg (by decide)] at hx3
      subst hx3
      repeat' (first | refine sg_seq ?_)
      refine sg_drawK [blk g (ucs d ++ rest)] [0, 1, 2, 3, 4, 5, 6, 8, 9, 10, 7, 11, 12, 13, 14] (by kernel_rfl) (by kernel_rfl) (fun w hO => hO.pick [0] (by decide)) ?_
      repeat' (first | refine sk_nil ?_ | refine sk_pure rfl rfl (ps_move rfl) rfl ?_ | refine sk_pure rfl rfl (ps_bin rfl rfl inferInstance) rfl ?_ | refine sk_pure rfl rfl (ps_pick_f rfl rfl) rfl ?_ | refine sk_no rfl rfl rfl rfl rfl ?_ | refine sk_eff rfl rfl ?_ | refine sg_guard_nf rfl rfl rfl ?_ | refine sk_back (fun w hO => hO.pick [0] (by decide)) ?_ | (refine sk_dec rfl rfl rfl rfl (fun hg => ?_) (fun hg => ?_) <;> first | (exfalso; omega) | (exact absurd rfl hg) | skip))
      repeat' (first | refine sg_then ?_ | refine sg_cond_f rfl ?_ | refine sg_exit ?_ | refine ex_then_exit ?_ | refine ex_block_hit ?_)
      exact ex_mid () ⟨hx1, hx2, fun h => absurd h hxj⟩ (.cons rfl (.cons rfl (.cons rfl (.cons rfl (.cons rfl .nil))))) (fun w hO => hO)
  rintro - ⟨hi3, hi4, hi5⟩
  obtain ⟨j2, hj2⟩ : ∃ j2, scanDown q d i2 j = j2 := ⟨_, rfl⟩
  rw [hj2] at hr
  refine sg_seq_mid (γ := Unit) (fun _ => j2 ≤ j ∧ i2 ≤ j2 + 1 ∧ (i2 ≤ j2 → q d[j2]! = false)) (fun _ => [(0, .slice (some ⟨g, 0, none⟩) N c), (1, i64 a), (2, i64 b), (9, i64 i2), (10, i64 j2)]) (fun _ => blk g (ucs d ++ rest) :: R) ?_ ?_
  · refine sg_block ?_
    refine sg_loop (γ := Nat) (fun x => x ≤ j ∧ i2 ≤ x + 1 ∧ scanDown q d i2 x = j2) (fun x => [(0, .slice (some ⟨g, 0, none⟩) N c), (1, i64 a), (2, i64 b), (9, i64 i2), (10, i64 x)]) (fun _ => blk g (ucs d ++ rest) :: R) (fun x => x) j ⟨Nat.le_refl _, hi4, hj2⟩ (.cons rfl (.cons rfl (.cons rfl (.cons rfl (.cons rfl .nil))))) (fun w hO => hO) ?_
    rintro x ⟨hx1, hx2, hx3⟩
    by_cases hxj : i2 ≤ x
    · obtain ⟨x, rfl⟩ : ∃ x', x = x' + 1 := ⟨x - 1, by omega⟩
      rw [scanDown, decide_eq_true hxj, Bool.true_and] at hx3
      repeat' (first | refine sg_seq ?_)
      refine sg_drawK [blk g (ucs d ++ rest)] [0, 1, 2, 3, 4, 5, 6, 8, 9, 10, 7, 11, 12, 13] (by kernel_rfl) (by kernel_rfl) (fun w hO => hO.pick [0] (by decide)) ?_
      repeat' (first | refine sk_pure rfl rfl (ps_move rfl) rfl ?_ | refine sk_pure rfl rfl (ps_bin rfl rfl inferInstance) rfl ?_ | refine sk_pure_g rfl rfl rfl rfl (ps_move rfl) rfl ?_ | refine sk_pure_g rfl rfl rfl rfl (ps_indexAddr rfl rfl rfl (by omega)) rfl ?_ | refine sk_load_g 0 rfl rfl rfl rfl rfl (uat _ (by omega)) rfl ?_ | refine sk_eff rfl rfl ?_ | refine sg_guard_yes rfl rfl ?_ | (refine sk_dec rfl rfl rfl rfl (fun hg => ?_) (fun hg => ?_) <;> first | (exfalso; omega) | (exact absurd rfl hg) | skip))
      refine sg_call (less_tri _ _ _) rfl rfl (fun _ _ => ?_)
      refine sk_back (fun w hO => hO.pick [0] (by decide)) ?_
      repeat' (first | refine sk_nil ?_ | refine sk_pure rfl rfl (ps_pick_t rfl rfl) rfl ?_)
      rw [hqx (x + 1)]
      cases hb : q d[x + 1]! with
      | true =>
        rw [hb, if_pos rfl] at hx3
        repeat' (first | refine sg_wo ?_ | refine sg_ps (ps_move rfl) rfl ?_ | refine sg_ps (ps_assign rfl) rfl ?_ | refine sg_region ?_ | refine sg_nil ?_ | refine sg_then ?_ | refine sg_ps (ps_sub64 rfl rfl (by omega)) rfl ?_ | refine sg_cond_t rfl ?_ | refine sg_block ?_ | refine sg_skip ?_ | refine ex_block_normal ?_)
        exact ex_mid x ⟨by omega, by omega, by omega, hx3⟩ (.cons rfl (.cons rfl (.cons rfl (.cons rfl (.cons (by show some _ = some (i64 (x : Int)); rw [show (x : Int) = ((x + 1 : Nat) : Int) - 1 by omega]) .nil))))) (fun w hO => hO)
      | false =>
        rw [hb, if_neg (by decide)] at hx3
        subst hx3
        repeat' (first | refine sg_then ?_ | refine sg_cond_f rfl ?_ | refine sg_exit ?_ | refine ex_then_exit ?_ | refine ex_block_hit ?_)
        exact ex_mid () ⟨hx1, hx2, fun _ => hb⟩ (.cons rfl (.cons rfl (.cons rfl (.cons rfl (.cons rfl .nil))))) (fun w hO => hO)
    · have hx4 : j2 = x := by
        rw [← hx3]
        cases x with
        | zero => rfl
        | succ x => rw [scanDown, decide_eq_false hxj, Bool.false_and, if_neg (by decide)]
      subst hx4
      repeat' (first | refine sg_seq ?_)
      refine sg_drawK [blk g (ucs d ++ rest)] [0, 1, 2, 3, 4, 5, 6, 8, 9, 10, 7, 11, 12, 13] (by kernel_rfl) (by kernel_rfl) (fun w hO => hO.pick [0] (by decide)) ?_
      repeat' (first | refine sk_nil ?_ | refine sk_pure rfl rfl (ps_move rfl) rfl ?_ | refine sk_pure rfl rfl (ps_bin rfl rfl inferInstance) rfl ?_ | refine sk_pure rfl rfl (ps_pick_f rfl rfl) rfl ?_ | refine sk_no rfl rfl rfl rfl rfl ?_ | refine sk_eff rfl rfl ?_ | refine sg_guard_nf rfl rfl rfl ?_ | refine sk_back (fun w hO => hO.pick [0] (by decide)) ?_ | (refine sk_dec rfl rfl rfl rfl (fun hg => ?_) (fun hg => ?_) <;> first | (exfalso; omega) | (exact absurd rfl hg) | skip))
      repeat' (first | refine sg_then ?_ | refine sg_cond_f rfl ?_ | refine sg_exit ?_ | refine ex_then_exit ?_ | refine ex_block_hit ?_)
      exact ex_mid () ⟨hx1, hx2, fun h => absurd h hxj⟩ (.cons rfl (.cons rfl (.cons rfl (.cons rfl (.cons rfl .nil))))) (fun w hO => hO)
  rintro - ⟨hj3, hj4, hj5⟩
  by_cases hgt : i2 > j2
  · rw [if_pos hgt] at hr
    subst hr
    dsimp only
    repeat' (first | refine sg_wo ?_ | refine sg_ps (ps_move rfl) rfl ?_ | refine sg_ps (ps_assign rfl) rfl ?_ | refine sg_seq ?_ | refine sg_region ?_ | refine sg_nil ?_ | refine sg_then ?_ | refine sg_ps (ps_bin rfl rfl inferInstance) rfl ?_ | refine sg_ret ?_ | refine sg_exit ?_ | refine ex_then_exit ?_ | refine ex_block_hit ?_ | refine ex_block_miss rfl ?_ | (refine sg_cond_dec rfl (fun hg => ?_) (fun hg => ?_) <;> first | (exfalso; omega) | (exact absurd rfl hg) | skip))
    exact ex_ret1 rfl rfl () rfl trivial (fun w hO => hO)
  rw [if_neg hgt] at hr
  have hne : i2 ≠ j2 := by
    rintro rfl
    have h1 := hi5 (by omega)
    have h2 := hj5 (by omega)
    rw [← hqx] at h2
    rw [← hpx, h2] at h1
    cases h1
  refine sg_seq ?_
  refine sg_seq ?_
  repeat' (first | refine sg_wo ?_ | refine sg_ps (ps_move rfl) rfl ?_ | refine sg_region ?_ | refine sg_nil ?_ | refine sg_then ?_ | refine sg_ps (ps_bin rfl rfl inferInstance) rfl ?_ | refine sg_skip ?_ | (refine sg_cond_dec rfl (fun hg => ?_) (fun hg => ?_) <;> first | (exfalso; omega) | (exact absurd rfl hg) | skip))
  refine sg_seq ?_
  refine sg_drawK [blk g (ucs d ++ rest)] [0, 1, 2, 3, 4, 5, 6, 8, 9, 10, 7, 11, 12, 13, 14, 15] (by kernel_rfl) (by kernel_rfl) (fun w hO => hO.pick [0] (by decide)) ?_
  repeat' (first | refine sk_pure rfl rfl (ps_move rfl) rfl ?_ | refine sk_pure rfl rfl (ps_indexAddr rfl rfl rfl (by omega)) rfl ?_ | refine sk_load 0 rfl rfl rfl (uat _ (by omega)) rfl ?_ | refine sg_store [] rfl rfl rfl (ult _ (by omega)) ?_ | refine sk_eff rfl rfl ?_)
  refine sk_end (by kernel_rfl) ?_
  repeat' (first | refine sk_nil ?_ | refine sk_pure rfl rfl (ps_indexAddr rfl rfl rfl (by omega)) rfl ?_ | refine sg_store [] rfl rfl rfl (ult2 _ (by omega)) ?_ | refine sk_eff rfl rfl ?_ | refine sk_back (LR := []) (fun w hO => hO.pick [] (by decide)) ?_)
  rw [uswp rest (by omega) (by omega)]
  refine sg_then ?_
  have hd2 := swp_size d i2 j2
  rw [hd] at hd2
  repeat' (first | refine sg_wo ?_ | refine sg_ps (ps_move rfl) rfl ?_ | refine sg_ps (ps_assign rfl) rfl ?_ | refine sg_seq ?_ | refine sg_region ?_ | refine sg_nil ?_ | refine sg_then ?_ | refine sg_ps (ps_add64 rfl rfl (by omega)) rfl ?_ | refine sg_ps (ps_sub64 rfl rfl (by omega)) rfl ?_ | refine ex_block_normal ?_)
  exact ex_mid (i2 + 1, j2 - 1, swp d i2 j2) ⟨by show j2 - 1 + 1 - (i2 + 1) < j + 1 - i; omega, by show a < i2 + 1; omega, by show i2 + 1 ≤ j2 - 1 + 1; omega, by show j2 - 1 < b; omega, hd2, hr⟩
    (.cons rfl (.cons rfl (.cons rfl (.cons rfl (.cons (by show some _ = some (i64 ((j2 - 1 : Nat) : Int)); rw [show ((j2 - 1 : Nat) : Int) = (j2 : Int) - 1 by omega]) .nil))))) (fun w hO => hO)
end Go.Proofs.Ytclehoaeppbmpaa
namespace Go.Proofs.Ytclehoaeppbmpaa
set_option linter.unusedVariables false
set_option linter.unusedSimpArgs false
set_option linter.unusedSectionVars false
set_option linter.unnecessarySimpa false
open Go Go.Proofs Go.Sort
theorem shiftDown_size : ∀ (j : Nat) (d : Array Int), (shiftDown ltInt j d).size = d.size
  | 0, d => rfl
  | j + 1, d => by
    rw [shiftDown]
    split
    · rfl
    · rw [shiftDown_size j, swp_size]
theorem shiftUp_size (b : Nat) : ∀ (k j : Nat) (d : Array Int), b - j ≤ k → (shiftUp ltInt b j d).size = d.size
  | k, j, d, hk => by
    rw [shiftUp]
    split
    · split
      · rfl
      · match k with
        | 0 => omega
        | k + 1 => rw [shiftUp_size b k (j + 1) _ (by omega), swp_size]
    · rfl
set_option maxRecDepth 20000
set_option maxHeartbeats 4000000
attribute [local irreducible] SG WC WO W1 WD WK PS Rd Tri Exit.then Exit.inBlock bodyPost calmQ Mid sadd ucs
variable {W : World} {n : Nat} {F : Fr} {L : List HP} {G : Act → World → Prop}
theorem pins_tri {N : Nat} (g : Nat) (d0 : Array Int) (rest : List Value) (c a b : Nat) (R : List HP) (hd0 : d0.size = N) (hN : N ≤ bigN) (ha : a < b) (hb : b ≤ N) :
    Tri Try.prog W 56 [.slice (some ⟨g, 0, none⟩) N c, i64 a, i64 b] (blk g (ucs d0 ++ rest) :: R) (X := Unit) (fun _ => .bool (partialInsertionSort ltInt d0 a b).2) (fun _ => True) (fun _ => blk g (ucs (partialInsertionSort ltInt d0 a b).1 ++ rest) :: R) := by
  unfold bigN at hN
  refine tri_enter3 Try.func56 rfl Try.ntmps56 rfl ?_
  generalize hr0 : partialInsertionSort ltInt d0 a b = r
  unfold partialInsertionSort at hr0
  refine sg_seq ?_
  repeat' (first | refine sg_wo ?_ | refine sg_ps (ps_assign rfl) rfl ?_ | refine sg_region ?_ | refine sg_nil ?_ | refine sg_then ?_)
  refine sg_seq ?_
  repeat' (first | refine sg_wo ?_ | refine sg_ps (ps_move rfl) rfl ?_ | refine sg_ps (ps_assign rfl) rfl ?_ | refine sg_region ?_ | refine sg_nil ?_ | refine sg_then ?_ | refine sg_ps (ps_add64 rfl rfl (by omega)) rfl ?_)
  refine sg_seq ?_
  refine sg_seq ?_
  repeat' (first | refine sg_wo ?_ | refine sg_ps (ps_assign rfl) rfl ?_ | refine sg_region ?_ | refine sg_nil ?_ | refine sg_then ?_ | refine sg_block ?_)
  refine sg_loop (γ := Nat × Nat × Array Int) (fun x => x.1 ≤ 5 ∧ (a < x.2.1 ∧ x.2.1 ≤ b) ∧ x.2.2.size = N ∧ partialIns ltInt a b (5 - x.1) x.2.1 x.2.2 = r) (fun x => [(0, .slice (some ⟨g, 0, none⟩) N c), (1, i64 a), (2, i64 b), (7, i64 x.2.1), (8, i64 x.1)])
    (fun x => blk g (ucs x.2.2 ++ rest) :: R) (fun x => 5 - x.1) (0, a + 1, d0) ⟨by show 0 ≤ 5; omega, ⟨by show a < a + 1; omega, by show a + 1 ≤ b; omega⟩, hd0, hr0⟩
    (.cons rfl (.cons rfl (.cons rfl (.cons rfl (.cons rfl .nil))))) (fun w hO => hO) ?_
  rintro ⟨s, i, d⟩ ⟨hs, ⟨hai, hib⟩, hd, hr⟩
  dsimp only at hs hai hib hd hr ⊢
  by_cases hs5 : s < 5
  · obtain ⟨m, hm⟩ : ∃ m, 5 - s = m + 1 := ⟨5 - s - 1, by omega⟩
    rw [hm, partialIns] at hr
    refine sg_seq ?_
    refine sg_seq ?_
    repeat' (first | refine sg_wo ?_ | refine sg_ps (ps_move rfl) rfl ?_ | refine sg_region ?_ | refine sg_nil ?_ | refine sg_then ?_ | refine sg_ps (ps_bin rfl rfl inferInstance) rfl ?_ | refine sg_skip ?_ | (refine sg_cond_dec rfl (fun hg => ?_) (fun hg => ?_) <;> first | (exfalso; omega) | (exact absurd rfl hg) | skip))
    refine sg_seq ?_
    refine sg_block ?_
    obtain ⟨i2, hi2⟩ : ∃ i2, scanSorted ltInt d b i = i2 := ⟨_, rfl⟩
    dsimp only at hr
    rw [hi2] at hr
    refine sg_seq_mid (γ := Unit) (fun _ => i ≤ i2 ∧ i2 ≤ b) (fun _ => [(0, .slice (some ⟨g, 0, none⟩) N c), (1, i64 a), (2, i64 b), (7, i64 i2), (8, i64 s)]) (fun _ => blk g (ucs d ++ rest) :: R) ?_ ?_
    · refine sg_block ?_
      refine sg_loop (γ := Nat) (fun x => i ≤ x ∧ x ≤ b ∧ scanSorted ltInt d b x = i2) (fun x => [(0, .slice (some ⟨g, 0, none⟩) N c), (1, i64 a), (2, i64 b), (7, i64 x), (8, i64 s)]) (fun _ => blk g (ucs d ++ rest) :: R) (fun x => b - x) i ⟨Nat.le_refl _, hib, hi2⟩ (.cons rfl (.cons rfl (.cons rfl (.cons rfl (.cons rfl .nil))))) (fun w hO => hO) ?_
      rintro x ⟨hx1, hx2, hx3⟩
      rw [scanSorted] at hx3
      by_cases hxb : x < b
      · rw [decide_eq_true hxb, Bool.true_and] at hx3
        repeat' (first | refine sg_seq ?_)
        refine sg_drawK [blk g (ucs d ++ rest)] [0, 1, 2, 3, 4, 5, 6, 8, 9, 10, 11, 7, 12, 13, 14, 15] (by kernel_rfl) (by kernel_rfl) (fun w hO => hO.pick [0] (by decide)) ?_
        repeat' (first | refine sk_pure rfl rfl (ps_move rfl) rfl ?_ | refine sk_pure rfl rfl (ps_bin rfl rfl inferInstance) rfl ?_ | refine sk_pure_g rfl rfl rfl rfl (ps_move rfl) rfl ?_ | refine sk_pure_g rfl rfl rfl rfl (ps_sub64 rfl rfl (by omega)) rfl ?_ | refine sk_pure_g rfl rfl rfl rfl (ps_indexAddr rfl rfl rfl (by omega)) rfl ?_ | refine sk_pure_g rfl rfl rfl rfl (ps_indexAddrI rfl rfl (by omega) (by omega)) rfl ?_ | refine sk_load_g 0 rfl rfl rfl rfl rfl (uat _ (by omega)) rfl ?_ | refine sk_eff rfl rfl ?_ | refine sg_guard_yes rfl rfl ?_ | (refine sk_dec rfl rfl rfl rfl (fun hg => ?_) (fun hg => ?_) <;> first | (exfalso; omega) | (exact absurd rfl hg) | skip))
        refine sg_call (less_tri _ _ _) rfl rfl (fun _ _ => ?_)
        refine sk_back (fun w hO => hO.pick [0] (by decide)) ?_
        repeat' (first | refine sk_nil ?_ | refine sk_pure rfl rfl (ps_pick_t rfl rfl) rfl ?_ | refine sk_pure_g rfl rfl rfl rfl (ps_not rfl) rfl ?_)
        rw [show ((x : Int) - 1).toNat = x - 1 by omega]
        cases hlt : ltInt d[x]! d[x - 1]! with
        | false =>
          rw [hlt, Bool.not_false, if_pos rfl] at hx3
          repeat' (first | refine sg_wo ?_ | refine sg_ps (ps_move rfl) rfl ?_ | refine sg_ps (ps_assign rfl) rfl ?_ | refine sg_region ?_ | refine sg_nil ?_ | refine sg_then ?_ | refine sg_ps (ps_add64 rfl rfl (by omega)) rfl ?_ | refine sg_cond_t rfl ?_ | refine sg_block ?_ | refine sg_skip ?_ | refine ex_block_normal ?_)
          exact ex_mid (x + 1) ⟨by omega, by omega, by omega, hx3⟩ (.cons rfl (.cons rfl (.cons rfl (.cons rfl (.cons rfl .nil))))) (fun w hO => hO)
        | true =>
          rw [hlt, Bool.not_true, if_neg (by decide)] at hx3
          subst hx3
          repeat' (first | refine sg_then ?_ | refine sg_cond_f rfl ?_ | refine sg_exit ?_ | refine ex_then_exit ?_ | refine ex_block_hit ?_)
          exact ex_mid () ⟨hx1, hx2⟩ (.cons rfl (.cons rfl (.cons rfl (.cons rfl (.cons rfl .nil))))) (fun w hO => hO)
      · rw [decide_eq_false hxb, Bool.false_and, if_neg (by decide)] at hx3
        subst hx3
        repeat' (first | refine sg_seq ?_)
        refine sg_drawK [blk g (ucs d ++ rest)] [0, 1, 2, 3, 4, 5, 6, 8, 9, 10, 11, 7, 12, 13, 14, 15] (by kernel_rfl) (by kernel_rfl) (fun w hO => hO.pick [0] (by decide)) ?_
        repeat' (first | refine sk_nil ?_ | refine sk_pure rfl rfl (ps_move rfl) rfl ?_ | refine sk_pure rfl rfl (ps_bin rfl rfl inferInstance) rfl ?_ | refine sk_pure rfl rfl (ps_pick_f rfl rfl) rfl ?_ | refine sk_no rfl rfl rfl rfl rfl ?_ | refine sk_eff rfl rfl ?_ | refine sg_guard_nf rfl rfl rfl ?_ | refine sk_back (fun w hO => hO.pick [0] (by decide)) ?_ | (refine sk_dec rfl rfl rfl rfl (fun hg => ?_) (fun hg => ?_) <;> first | (exfalso; omega) | (exact absurd rfl hg) | skip))
        repeat' (first | refine sg_then ?_ | refine sg_cond_f rfl ?_ | refine sg_exit ?_ | refine ex_then_exit ?_ | refine ex_block_hit ?_)
        exact ex_mid () ⟨hx1, hx2⟩ (.cons rfl (.cons rfl (.cons rfl (.cons rfl (.cons rfl .nil))))) (fun w hO => hO)
    rintro - ⟨hi3, hi4⟩
    by_cases hib2 : i2 = b
    · rw [if_pos hib2] at hr
      subst hr
      subst hib2
      repeat' (first | refine sg_wo ?_ | refine sg_ps (ps_move rfl) rfl ?_ | refine sg_ps (ps_assign rfl) rfl ?_ | refine sg_seq ?_ | refine sg_region ?_ | refine sg_nil ?_ | refine sg_then ?_ | refine sg_ps (ps_bin rfl rfl inferInstance) rfl ?_ | refine sg_ret ?_ | refine ex_then_ret ?_ | refine ex_block_ret ?_ | (refine sg_cond_dec rfl (fun hg => ?_) (fun hg => ?_) <;> first | (exfalso; omega) | (exact absurd rfl hg) | skip))
      exact ex_ret1 rfl rfl () rfl trivial (fun w hO => hO)
    rw [if_neg hib2] at hr
    refine sg_seq ?_
    refine sg_seq ?_
    repeat' (first | refine sg_wo ?_ | refine sg_ps (ps_move rfl) rfl ?_ | refine sg_region ?_ | refine sg_nil ?_ | refine sg_then ?_ | refine sg_ps (ps_bin rfl rfl inferInstance) rfl ?_ | refine sg_skip ?_ | (refine sg_cond_dec rfl (fun hg => ?_) (fun hg => ?_) <;> first | (exfalso; omega) | (exact absurd rfl hg) | skip))
    by_cases h50 : b - a < 50
    · rw [if_pos h50] at hr
      subst hr
      repeat' (first | refine sg_wo ?_ | refine sg_ps (ps_move rfl) rfl ?_ | refine sg_ps (ps_assign rfl) rfl ?_ | refine sg_seq ?_ | refine sg_region ?_ | refine sg_nil ?_ | refine sg_then ?_ | refine sg_ps (ps_sub64 rfl rfl (by omega)) rfl ?_ | refine sg_ps (ps_bin rfl rfl inferInstance) rfl ?_ | refine sg_ret ?_ | refine ex_then_ret ?_ | refine ex_block_ret ?_ | (refine sg_cond_dec rfl (fun hg => ?_) (fun hg => ?_) <;> first | (exfalso; omega) | (exact absurd rfl hg) | skip))
      exact ex_ret1 rfl rfl () rfl trivial (fun w hO => hO)
    rw [if_neg h50] at hr
    refine sg_seq ?_
    refine sg_seq ?_
    repeat' (first | refine sg_wo ?_ | refine sg_ps (ps_move rfl) rfl ?_ | refine sg_region ?_ | refine sg_nil ?_ | refine sg_then ?_ | refine sg_ps (ps_sub64 rfl rfl (by omega)) rfl ?_ | refine sg_ps (ps_bin rfl rfl inferInstance) rfl ?_ | refine sg_skip ?_ | (refine sg_cond_dec rfl (fun hg => ?_) (fun hg => ?_) <;> first | (exfalso; omega) | (exact absurd rfl hg) | skip))
    refine sg_seq ?_
    refine sg_drawK [blk g (ucs d ++ rest)] [0, 1, 2, 3, 4, 5, 6, 7, 8, 10, 11, 12, 9, 13, 14, 15, 16, 17] (by kernel_rfl) (by kernel_rfl) (fun w hO => hO.pick [0] (by decide)) ?_
    repeat' (first | refine sk_pure rfl rfl (ps_move rfl) rfl ?_ | refine sk_pure rfl rfl (ps_sub64 rfl rfl (by omega)) rfl ?_ | refine sk_pure rfl rfl (ps_indexAddr rfl rfl rfl (by omega)) rfl ?_ | refine sk_pure rfl rfl (ps_indexAddrI rfl rfl (by omega) (by omega)) rfl ?_ | refine sk_load 0 rfl rfl rfl (uat _ (by omega)) rfl ?_ | refine sg_store [] rfl rfl rfl (ult _ (by omega)) ?_ | refine sk_eff rfl rfl ?_)
    refine sk_end (by kernel_rfl) ?_
    repeat' (first | refine sk_nil ?_ | refine sk_pure rfl rfl (ps_indexAddrI rfl rfl (by omega) (by omega)) rfl ?_ | refine sg_store [] rfl rfl rfl (ult2 _ (by omega)) ?_ | refine sk_eff rfl rfl ?_ | refine sk_back (LR := []) (fun w hO => hO.pick [] (by decide)) ?_)
    rw [show ((i2 : Int) - 1).toNat = i2 - 1 by omega, uswp rest (by omega) (by omega)]
    refine sg_then ?_
    have hd1 := swp_size d i2 (i2 - 1)
    rw [hd] at hd1
    generalize swp d i2 (i2 - 1) = d1 at hr hd1
    have hd2 : (if i2 - a ≥ 2 then shiftDown ltInt (i2 - 1) d1 else d1).size = N := by
      split
      · rw [shiftDown_size]; exact hd1
      · exact hd1
    refine sg_seq_mid (γ := Unit) (fun _ => True) (fun _ => [(0, .slice (some ⟨g, 0, none⟩) N c), (1, i64 a), (2, i64 b), (7, i64 i2), (8, i64 s)]) (fun _ => blk g (ucs (if i2 - a ≥ 2 then shiftDown ltInt (i2 - 1) d1 else d1) ++ rest) :: R) ?_ ?_
    · by_cases h2 : i2 - a ≥ 2
      · rw [if_pos h2]
        repeat' (first | refine sg_wo ?_ | refine sg_ps (ps_move rfl) rfl ?_ | refine sg_ps (ps_assign rfl) rfl ?_ | refine sg_seq ?_ | refine sg_region ?_ | refine sg_nil ?_ | refine sg_then ?_ | refine sg_ps (ps_sub64 rfl rfl (by omega)) rfl ?_ | refine sg_ps (ps_bin rfl rfl inferInstance) rfl ?_ | refine sg_block ?_ | (refine sg_cond_dec rfl (fun hg => ?_) (fun hg => ?_) <;> first | (exfalso; omega) | (exact absurd rfl hg) | skip))
        generalize hr2 : shiftDown ltInt (i2 - 1) d1 = r2
        refine sg_loop (γ := Nat × Array Int) (fun x => x.1 < N ∧ x.2.size = N ∧ shiftDown ltInt x.1 x.2 = r2) (fun x => [(0, .slice (some ⟨g, 0, none⟩) N c), (1, i64 a), (2, i64 b), (7, i64 i2), (8, i64 s), (9, i64 x.1)]) (fun x => blk g (ucs x.2 ++ rest) :: R) (fun x => x.1) (i2 - 1, d1) ⟨by show i2 - 1 < N; omega, hd1, hr2⟩
          (.cons rfl (.cons rfl (.cons rfl (.cons rfl (.cons rfl (.cons (by show some _ = some (i64 ((i2 - 1 : Nat) : Int)); rw [show ((i2 - 1 : Nat) : Int) = (i2 : Int) - 1 by omega]) .nil)))))) (fun w hO => hO) ?_
        rintro ⟨x, d⟩ ⟨hxn, hd, hx3⟩
        dsimp only at hxn hd hx3 ⊢
        cases x with
        | zero =>
          repeat' (first | refine sg_wo ?_ | refine sg_ps (ps_move rfl) rfl ?_ | refine sg_seq ?_ | refine sg_region ?_ | refine sg_nil ?_ | refine sg_then ?_ | refine sg_ps (ps_bin rfl rfl inferInstance) rfl ?_ | refine sg_cond_f rfl ?_ | refine sg_exit ?_ | refine ex_then_exit ?_ | refine ex_block_hit ?_)
          exact ex_mid () trivial (.cons rfl (.cons rfl (.cons rfl (.cons rfl (.cons rfl .nil))))) (fun w hO => by rw [← hx3]; exact hO)
        | succ x =>
          rw [shiftDown] at hx3
          repeat' (first | refine sg_wo ?_ | refine sg_ps (ps_move rfl) rfl ?_ | refine sg_seq ?_ | refine sg_region ?_ | refine sg_nil ?_ | refine sg_then ?_ | refine sg_ps (ps_bin rfl rfl inferInstance) rfl ?_ | refine sg_block ?_ | refine sg_skip ?_ | (refine sg_cond_dec rfl (fun hg => ?_) (fun hg => ?_) <;> first | (exfalso; omega) | (exact absurd rfl hg) | skip))
          refine sg_drawK [blk g (ucs d ++ rest)] [0, 1, 2, 4, 5, 6, 7, 3, 8, 9, 10] (by kernel_rfl) (by kernel_rfl) (fun w hO => hO.pick [0] (by decide)) ?_
          repeat' (first | refine sk_pure rfl rfl (ps_move rfl) rfl ?_ | refine sk_pure rfl rfl (ps_sub64 rfl rfl (by omega)) rfl ?_ | refine sk_pure rfl rfl (ps_indexAddr rfl rfl rfl (by omega)) rfl ?_ | refine sk_pure rfl rfl (ps_indexAddrI rfl rfl (by omega) (by omega)) rfl ?_ | refine sk_load 0 rfl rfl rfl (uat _ (by omega)) rfl ?_ | refine sk_eff rfl rfl ?_)
          refine sg_call (less_tri _ _ _) rfl rfl (fun _ _ => ?_)
          refine sk_back (fun w hO => hO.pick [0] (by decide)) ?_
          repeat' (first | refine sk_nil ?_ | refine sk_pure rfl rfl (ps_not rfl) rfl ?_)
          rw [show (((x + 1 : Nat) : Int) - 1).toNat = x by omega]
          cases hlt : ltInt d[x + 1]! d[x]! with
          | false =>
            rw [hlt, Bool.not_false, if_pos rfl] at hx3
            subst hx3
            repeat' (first | refine sg_then ?_ | refine sg_cond_t rfl ?_ | refine sg_exit ?_ | refine ex_then_exit ?_ | refine ex_block_hit ?_ | refine ex_block_miss rfl ?_)
            exact ex_mid () trivial (.cons rfl (.cons rfl (.cons rfl (.cons rfl (.cons rfl .nil))))) (fun w hO => hO)
          | true =>
            rw [hlt, Bool.not_true, if_neg (by decide)] at hx3
            repeat' (first | refine sg_then ?_ | refine sg_cond_f rfl ?_ | refine sg_skip ?_)
            refine sg_drawK [blk g (ucs d ++ rest)] [0, 1, 2, 3, 4, 5, 6, 7, 8, 10, 11, 12, 9, 13, 14, 15, 16, 17] (by kernel_rfl) (by kernel_rfl) (fun w hO => hO.pick [0] (by decide)) ?_
            repeat' (first | refine sk_pure rfl rfl (ps_move rfl) rfl ?_ | refine sk_pure rfl rfl (ps_sub64 rfl rfl (by omega)) rfl ?_ | refine sk_pure rfl rfl (ps_indexAddr rfl rfl rfl (by omega)) rfl ?_ | refine sk_pure rfl rfl (ps_indexAddrI rfl rfl (by omega) (by omega)) rfl ?_ | refine sk_load 0 rfl rfl rfl (uat _ (by omega)) rfl ?_ | refine sg_store [] rfl rfl rfl (ult _ (by omega)) ?_ | refine sk_eff rfl rfl ?_)
            refine sk_end (by kernel_rfl) ?_
            repeat' (first | refine sk_nil ?_ | refine sk_pure rfl rfl (ps_indexAddrI rfl rfl (by omega) (by omega)) rfl ?_ | refine sg_store [] rfl rfl rfl (ult2 _ (by omega)) ?_ | refine sk_eff rfl rfl ?_ | refine sk_back (LR := []) (fun w hO => hO.pick [] (by decide)) ?_)
            rw [show (((x + 1 : Nat) : Int) - 1).toNat = x by omega, uswp rest (by omega) (by omega)]
            repeat' (first | refine sg_wo ?_ | refine sg_ps (ps_move rfl) rfl ?_ | refine sg_ps (ps_assign rfl) rfl ?_ | refine sg_region ?_ | refine sg_nil ?_ | refine sg_then ?_ | refine sg_ps (ps_sub64 rfl rfl (by omega)) rfl ?_ | refine ex_block_normal ?_)
            exact ex_mid (x, swp d (x + 1) x) ⟨by show x < x + 1; omega, by show x < N; omega, by rw [swp_size]; exact hd, hx3⟩ (.cons rfl (.cons rfl (.cons rfl (.cons rfl (.cons rfl (.cons (by show some _ = some (i64 (x : Int)); rw [show (x : Int) = ((x + 1 : Nat) : Int) - 1 by omega]) .nil)))))) (fun w hO => hO)
      · rw [if_neg h2]
        repeat' (first | refine sg_wo ?_ | refine sg_ps (ps_move rfl) rfl ?_ | refine sg_seq ?_ | refine sg_region ?_ | refine sg_nil ?_ | refine sg_then ?_ | refine sg_ps (ps_sub64 rfl rfl (by omega)) rfl ?_ | refine sg_ps (ps_bin rfl rfl inferInstance) rfl ?_ | refine sg_skip ?_ | (refine sg_cond_dec rfl (fun hg => ?_) (fun hg => ?_) <;> first | (exfalso; omega) | (exact absurd rfl hg) | skip))
        exact ex_mid () trivial (.cons rfl (.cons rfl (.cons rfl (.cons rfl (.cons rfl .nil))))) (fun w hO => hO)
    rintro - -
    generalize (if i2 - a ≥ 2 then shiftDown ltInt (i2 - 1) d1 else d1) = d2 at hr hd2
    have hd3 : (if b - i2 ≥ 2 then shiftUp ltInt b (i2 + 1) d2 else d2).size = N := by
      split
      · rw [shiftUp_size b b _ _ (by omega)]; exact hd2
      · exact hd2
    by_cases h2 : b - i2 ≥ 2
    · rw [if_pos h2] at hr hd3
      repeat' (first | refine sg_wo ?_ | refine sg_ps (ps_move rfl) rfl ?_ | refine sg_ps (ps_assign rfl) rfl ?_ | refine sg_seq ?_ | refine sg_region ?_ | refine sg_nil ?_ | refine sg_then ?_ | refine sg_ps (ps_add64 rfl rfl (by omega)) rfl ?_ | refine sg_ps (ps_sub64 rfl rfl (by omega)) rfl ?_ | refine sg_ps (ps_bin rfl rfl inferInstance) rfl ?_ | refine sg_block ?_ | (refine sg_cond_dec rfl (fun hg => ?_) (fun hg => ?_) <;> first | (exfalso; omega) | (exact absurd rfl hg) | skip))
      generalize hr2 : shiftUp ltInt b (i2 + 1) d2 = r2 at hr hd3
      refine sg_loop (γ := Nat × Array Int) (fun x => (1 ≤ x.1 ∧ x.1 ≤ b) ∧ x.2.size = N ∧ shiftUp ltInt b x.1 x.2 = r2) (fun x => [(0, .slice (some ⟨g, 0, none⟩) N c), (1, i64 a), (2, i64 b), (7, i64 i2), (8, i64 s), (10, i64 x.1)]) (fun x => blk g (ucs x.2 ++ rest) :: R) (fun x => b - x.1) (i2 + 1, d2) ⟨⟨by show 1 ≤ i2 + 1; omega, by show i2 + 1 ≤ b; omega⟩, hd2, hr2⟩
        (.cons rfl (.cons rfl (.cons rfl (.cons rfl (.cons rfl (.cons rfl .nil)))))) (fun w hO => hO) ?_
      rintro ⟨x, d⟩ ⟨⟨hx0, hxn⟩, hd, hx3⟩
      dsimp only at hx0 hxn hd hx3 ⊢
      rw [shiftUp] at hx3
      have hfin : ∀ w, Own W w (blk g (ucs r2 ++ rest) :: R) → Own W w (blk g (ucs r2 ++ rest) :: R) := fun w hO => hO
      by_cases hxb : x < b
      · rw [if_pos hxb] at hx3
        repeat' (first | refine sg_wo ?_ | refine sg_ps (ps_move rfl) rfl ?_ | refine sg_seq ?_ | refine sg_region ?_ | refine sg_nil ?_ | refine sg_then ?_ | refine sg_ps (ps_bin rfl rfl inferInstance) rfl ?_ | refine sg_block ?_ | refine sg_skip ?_ | (refine sg_cond_dec rfl (fun hg => ?_) (fun hg => ?_) <;> first | (exfalso; omega) | (exact absurd rfl hg) | skip))
        refine sg_drawK [blk g (ucs d ++ rest)] [0, 1, 2, 4, 5, 6, 7, 3, 8, 9, 10] (by kernel_rfl) (by kernel_rfl) (fun w hO => hO.pick [0] (by decide)) ?_
        repeat' (first | refine sk_pure rfl rfl (ps_move rfl) rfl ?_ | refine sk_pure rfl rfl (ps_sub64 rfl rfl (by omega)) rfl ?_ | refine sk_pure rfl rfl (ps_indexAddr rfl rfl rfl (by omega)) rfl ?_ | refine sk_pure rfl rfl (ps_indexAddrI rfl rfl (by omega) (by omega)) rfl ?_ | refine sk_load 0 rfl rfl rfl (uat _ (by omega)) rfl ?_ | refine sk_eff rfl rfl ?_)
        refine sg_call (less_tri _ _ _) rfl rfl (fun _ _ => ?_)
        refine sk_back (fun w hO => hO.pick [0] (by decide)) ?_
        repeat' (first | refine sk_nil ?_ | refine sk_pure rfl rfl (ps_not rfl) rfl ?_)
        rw [show ((x : Int) - 1).toNat = x - 1 by omega]
        cases hlt : ltInt d[x]! d[x - 1]! with
        | false =>
          rw [hlt, Bool.not_false, if_pos rfl] at hx3
          subst hx3
          repeat' (first | refine sg_wo ?_ | refine sg_ps (ps_move rfl) rfl ?_ | refine sg_ps (ps_assign rfl) rfl ?_ | refine sg_region ?_ | refine sg_nil ?_ | refine sg_then ?_ | refine sg_ps (ps_add64 rfl rfl (by omega)) rfl ?_ | refine sg_cond_t rfl ?_ | refine sg_exit ?_ | refine ex_then_exit ?_ | refine ex_block_normal ?_ | refine ex_block_hit ?_ | refine ex_block_miss rfl ?_)
          exact ex_mid (s + 1, i2, d) ⟨by show 5 - (s + 1) < 5 - s; omega, by show s + 1 ≤ 5; omega, ⟨by show a < i2; omega, hi4⟩, hd, by show partialIns ltInt a b (5 - (s + 1)) i2 d = r; rw [show 5 - (s + 1) = m by omega]; exact hr⟩ (.cons rfl (.cons rfl (.cons rfl (.cons rfl (.cons rfl .nil))))) (fun w hO => hO)
        | true =>
          rw [hlt, Bool.not_true, if_neg (by decide)] at hx3
          repeat' (first | refine sg_then ?_ | refine sg_cond_f rfl ?_ | refine sg_skip ?_)
          refine sg_drawK [blk g (ucs d ++ rest)] [0, 1, 2, 3, 4, 5, 6, 7, 8, 10, 11, 12, 9, 13, 14, 15, 16, 17] (by kernel_rfl) (by kernel_rfl) (fun w hO => hO.pick [0] (by decide)) ?_
          repeat' (first | refine sk_pure rfl rfl (ps_move rfl) rfl ?_ | refine sk_pure rfl rfl (ps_sub64 rfl rfl (by omega)) rfl ?_ | refine sk_pure rfl rfl (ps_indexAddr rfl rfl rfl (by omega)) rfl ?_ | refine sk_pure rfl rfl (ps_indexAddrI rfl rfl (by omega) (by omega)) rfl ?_ | refine sk_load 0 rfl rfl rfl (uat _ (by omega)) rfl ?_ | refine sg_store [] rfl rfl rfl (ult _ (by omega)) ?_ | refine sk_eff rfl rfl ?_)
          refine sk_end (by kernel_rfl) ?_
          repeat' (first | refine sk_nil ?_ | refine sk_pure rfl rfl (ps_indexAddrI rfl rfl (by omega) (by omega)) rfl ?_ | refine sg_store [] rfl rfl rfl (ult2 _ (by omega)) ?_ | refine sk_eff rfl rfl ?_ | refine sk_back (LR := []) (fun w hO => hO.pick [] (by decide)) ?_)
          rw [show ((x : Int) - 1).toNat = x - 1 by omega, uswp rest (by omega) (by omega)]
          repeat' (first | refine sg_wo ?_ | refine sg_ps (ps_move rfl) rfl ?_ | refine sg_ps (ps_assign rfl) rfl ?_ | refine sg_region ?_ | refine sg_nil ?_ | refine sg_then ?_ | refine sg_ps (ps_add64 rfl rfl (by omega)) rfl ?_ | refine ex_block_normal ?_)
          exact ex_mid (x + 1, swp d x (x - 1)) ⟨by show b - (x + 1) < b - x; omega, ⟨by show 1 ≤ x + 1; omega, by show x + 1 ≤ b; omega⟩, by rw [swp_size]; exact hd, hx3⟩ (.cons rfl (.cons rfl (.cons rfl (.cons rfl (.cons rfl (.cons rfl .nil)))))) (fun w hO => hO)
      · rw [if_neg hxb] at hx3
        subst hx3
        repeat' (first | refine sg_wo ?_ | refine sg_ps (ps_move rfl) rfl ?_ | refine sg_ps (ps_assign rfl) rfl ?_ | refine sg_seq ?_ | refine sg_region ?_ | refine sg_nil ?_ | refine sg_then ?_ | refine sg_ps (ps_add64 rfl rfl (by omega)) rfl ?_ | refine sg_ps (ps_bin rfl rfl inferInstance) rfl ?_ | refine sg_exit ?_ | refine ex_then_exit ?_ | refine ex_block_normal ?_ | refine ex_block_hit ?_ | (refine sg_cond_dec rfl (fun hg => ?_) (fun hg => ?_) <;> first | (exfalso; omega) | (exact absurd rfl hg) | skip))
        exact ex_mid (s + 1, i2, d) ⟨by show 5 - (s + 1) < 5 - s; omega, by show s + 1 ≤ 5; omega, ⟨by show a < i2; omega, hi4⟩, hd, by show partialIns ltInt a b (5 - (s + 1)) i2 d = r; rw [show 5 - (s + 1) = m by omega]; exact hr⟩ (.cons rfl (.cons rfl (.cons rfl (.cons rfl (.cons rfl .nil))))) (fun w hO => hO)
    · rw [if_neg h2] at hr hd3
      repeat' (first | refine sg_wo ?_ | refine sg_ps (ps_move rfl) rfl ?_ | refine sg_ps (ps_assign rfl) rfl ?_ | refine sg_seq ?_ | refine sg_region ?_ | refine sg_nil ?_ | refine sg_then ?_ | refine sg_ps (ps_add64 rfl rfl (by omega)) rfl ?_ | refine sg_ps (ps_sub64 rfl rfl (by omega)) rfl ?_ | refine sg_ps (ps_bin rfl rfl inferInstance) rfl ?_ | refine sg_skip ?_ | refine ex_block_normal ?_ | (refine sg_cond_dec rfl (fun hg => ?_) (fun hg => ?_) <;> first | (exfalso; omega) | (exact absurd rfl hg) | skip))
      exact ex_mid (s + 1, i2, d2) ⟨by show 5 - (s + 1) < 5 - s; omega, by show s + 1 ≤ 5; omega, ⟨by show a < i2; omega, hi4⟩, hd2, by show partialIns ltInt a b (5 - (s + 1)) i2 d2 = r; rw [show 5 - (s + 1) = m by omega]; exact hr⟩ (.cons rfl (.cons rfl (.cons rfl (.cons rfl (.cons rfl .nil))))) (fun w hO => hO)
  · obtain rfl : s = 5 := by omega
    have hr' : partialIns ltInt a b 0 i d = r := hr
    rw [partialIns] at hr'
    subst hr'
    repeat' (first | refine sg_wo ?_ | refine sg_ps (ps_move rfl) rfl ?_ | refine sg_ps (ps_assign rfl) rfl ?_ | refine sg_seq ?_ | refine sg_region ?_ | refine sg_nil ?_ | refine sg_then ?_ | refine sg_ps (ps_bin rfl rfl inferInstance) rfl ?_ | refine sg_cond_f rfl ?_ | refine sg_ret ?_ | refine sg_exit ?_ | refine ex_then_exit ?_ | refine ex_block_hit ?_)
    exact ex_ret1 rfl rfl () rfl trivial (fun w hO => hO)
end Go.Proofs.Ytclehoaeppbmpaa
namespace Go.Proofs.Ytclehoaeppbmpaa
set_option linter.unusedVariables false
set_option linter.unusedSimpArgs false
set_option linter.unusedSectionVars false
set_option linter.unnecessarySimpa false
open Go Go.Proofs Go.Sort
@[irreducible] def geA (a : Int) : Bool := decide (a ≥ 4294967296)
@[irreducible] def geB (a : Int) : Bool := decide (a ≥ 65536)
theorem geA_f {a : Int} (h : a ≤ 255) : geA a = false := by unfold geA; exact decide_eq_false (by omega)
theorem geB_f {a : Int} (h : a ≤ 255) : geB a = false := by unfold geB; exact decide_eq_false (by omega)
instance (priority := high) instGeA (P : Program) (k : IntKind) (t : TypeId) (a : Int) : BinR P .geq t (.int k a) (.int k 4294967296) (.bool (geA a)) := ⟨fun w _ _ => by unfold geA; simp [eqGuard, binOp, Op.intCmp]⟩
instance (priority := high) instGeB (P : Program) (k : IntKind) (t : TypeId) (a : Int) : BinR P .geq t (.int k a) (.int k 65536) (.bool (geB a)) := ⟨fun w _ _ => by unfold geB; simp [eqGuard, binOp, Op.intCmp]⟩
@[irreducible] def andM (a b : Int) : Int := IntKind.u64.wrap (BitVec.ofInt IntKind.u64.bits a &&& BitVec.ofInt IntKind.u64.bits b).toNat
instance (priority := high) instAndM (P : Program) (t : TypeId) (a b : Int) : BinR P .and t (.int .u64 a) (.int .u64 b) (.int .u64 (andM a b)) := ⟨fun w _ _ => by unfold andM; simp [eqGuard, binOp, Op.intBits]⟩
theorem wrapU {m : Nat} (h : m ≤ 1000) : IntKind.u64.wrap (m : Int) = (m : Int) := by
  unfold IntKind.wrap; simp [IntKind.signed, IntKind.bits]; omega
theorem andM_le (a : Int) (m : Nat) (hm : m ≤ 1000) : ∃ k : Nat, andM a m = (k : Int) ∧ k ≤ m := by
  have h1 : (BitVec.ofInt IntKind.u64.bits a &&& BitVec.ofInt IntKind.u64.bits (m : Int)).toNat ≤ m := by
    rw [BitVec.toNat_and]
    have h2 : (BitVec.ofInt IntKind.u64.bits (m : Int)).toNat = m := by
      rw [BitVec.toNat_ofInt]
      have : ((m : Int) % ((2 ^ IntKind.u64.bits : Nat) : Int)) = (m : Int) := Int.emod_eq_of_lt (by omega) (by simp only [IntKind.bits]; omega)
      rw [this]; rfl
    rw [h2]; exact Nat.and_le_right
  refine ⟨_, ?_, h1⟩
  unfold andM
  exact wrapU (Nat.le_trans h1 hm)
def tab8 : ByteArray := ⟨((List.range 256).map fun i => UInt8.ofNat (bitsLen i)).toArray⟩
theorem bitsLen_le {n : Nat} (h : n ≤ 255) : bitsLen n ≤ 8 := by
  unfold bitsLen
  split
  · omega
  · have := (Nat.log2_lt (by assumption : n ≠ 0) (k := 8)).2 (by omega)
    omega
theorem tab8_size : tab8.size = 256 := by
  unfold tab8
  show Array.size _ = _
  simp
theorem tab8_at {n : Nat} (h : n ≤ 255) (h2 : n < tab8.size) : (tab8[n].toNat : Int) = (bitsLen n : Int) := by
  have h4 : tab8.data[n]? = some (UInt8.ofNat (bitsLen n)) := by
    unfold tab8
    simp [show n < 256 by omega]
  have h3 : tab8[n] = UInt8.ofNat (bitsLen n) := by
    obtain ⟨h5, h6⟩ := Array.getElem?_eq_some_iff.1 h4
    exact h6
  have := bitsLen_le h
  rw [h3, UInt8.toNat_ofNat']
  show ((bitsLen n % 256 : Nat) : Int) = _
  omega
set_option maxRecDepth 20000
set_option maxHeartbeats 4000000
attribute [local irreducible] SG WC WO W1 WD WK PS Rd Tri Exit.then Exit.inBlock bodyPost calmQ Mid sadd ucs bitsLen
variable {W : World} {n : Nat} {F : Fr} {L : List HP} {G : Act → World → Prop}
theorem len64_tri (m : Nat) (R : List HP) (hm : m ≤ 255) : Tri Try.prog W 61 [.int .u64 m] R (X := Unit) (fun _ => i64 (bitsLen m)) (fun _ => True) (fun _ => R) := by
  refine tri_enter1 Try.func61 rfl Try.ntmps61 rfl ?_
  refine sg_seq ?_
  repeat' (first | refine sg_wo ?_ | refine sg_ps (ps_assign rfl) rfl ?_ | refine sg_region ?_ | refine sg_nil ?_ | refine sg_then ?_)
  refine sg_seq ?_
  refine sg_seq ?_
  refine sg_region ?_
  refine sg_wo ?_
  refine sg_ps (ps_move rfl) rfl ?_
  refine sg_wo ?_
  refine sg_ps (ps_bin rfl rfl inferInstance) rfl ?_
  rw [geA_f (by omega)]
  repeat' (first | refine sg_nil ?_ | refine sg_then ?_ | refine sg_cond_f rfl ?_ | refine sg_skip ?_)
  refine sg_seq ?_
  refine sg_seq ?_
  refine sg_region ?_
  refine sg_wo ?_
  refine sg_ps (ps_move rfl) rfl ?_
  refine sg_wo ?_
  refine sg_ps (ps_bin rfl rfl inferInstance) rfl ?_
  rw [geB_f (by omega)]
  repeat' (first | refine sg_nil ?_ | refine sg_then ?_ | refine sg_cond_f rfl ?_ | refine sg_skip ?_)
  refine sg_seq ?_
  refine sg_seq ?_
  repeat' (first | refine sg_wo ?_ | refine sg_ps (ps_move rfl) rfl ?_ | refine sg_region ?_ | refine sg_nil ?_ | refine sg_then ?_ | refine sg_ps (ps_bin rfl rfl inferInstance) rfl ?_ | refine sg_skip ?_ | (refine sg_cond_dec rfl (fun hg => ?_) (fun hg => ?_) <;> first | (exfalso; omega) | (exact absurd rfl hg) | skip))
  refine sg_seq ?_
  repeat' (first | refine sg_wo ?_ | refine sg_ps (ps_move rfl) rfl ?_ | refine sg_region ?_ | refine sg_ps (ps_conv rfl) rfl ?_)
  have hw : IntKind.u8.wrap (m : Int) = (m : Int) := by unfold IntKind.wrap; simp [IntKind.signed, IntKind.bits]; omega
  rw [hw]
  refine sg_ps (ps_index_str (s := tab8) (j := m) (by kernel_rfl) rfl rfl (by rw [tab8_size]; omega)) rfl ?_
  rw [tab8_at hm]
  have hbl := bitsLen_le hm
  repeat' (first | refine sg_wo ?_ | refine sg_ps (ps_assign rfl) rfl ?_ | refine sg_nil ?_ | refine sg_then ?_ | refine sg_ps (ps_bin rfl rfl inferInstance) rfl ?_ | refine sg_ps (ps_conv rfl) rfl ?_ | refine sg_ret ?_)
  have hw2 : IntKind.i64.wrap (bitsLen m : Int) = (bitsLen m : Int) := wrap64 (by omega) (by omega)
  try rw [hw2]
  skip
  refine ex_ret1 rfl rfl () ?_ trivial (fun w hO => hO)
  simp only [Int.zero_add, hw2]
theorem len_tri (m : Nat) (R : List HP) (hm : m ≤ 255) : Tri Try.prog W 49 [.int .u64 m] R (X := Unit) (fun _ => i64 (bitsLen m)) (fun _ => True) (fun _ => R) := by
  refine tri_enter1 Try.func49 rfl Try.ntmps49 rfl ?_
  repeat' (first | refine sg_wo ?_ | refine sg_ps (ps_move rfl) rfl ?_ | refine sg_ps (ps_assign rfl) rfl ?_ | refine sg_seq ?_ | refine sg_region ?_ | refine sg_nil ?_ | refine sg_then ?_ | refine sg_cond_f rfl ?_ | refine sg_skip ?_)
  refine sg_call (len64_tri m R hm) rfl rfl (fun _ _ => ?_)
  repeat' (first | refine sg_wo ?_ | refine sg_ps (ps_assign rfl) rfl ?_ | refine sg_nil ?_ | refine sg_then ?_ | refine sg_ret ?_)
  exact ex_ret1 rfl rfl () rfl trivial (fun w hO => hO)
theorem next_tri (m : Nat) (R : List HP) (hm8 : 8 ≤ m) (hm : m ≤ 255) : Tri Try.prog W 63 [i64 m] R (X := Nat) (fun x => .int .u64 x) (fun x => m < x ∧ x ≤ 2 * m) (fun _ => R) := by
  have hw : IntKind.u64.wrap (m : Int) = (m : Int) := by unfold IntKind.wrap; simp [IntKind.signed, IntKind.bits]; omega
  have hbl := bitsLen_le hm
  refine tri_enter1 Try.func63 rfl Try.ntmps63 rfl ?_
  repeat' (first | refine sg_wo ?_ | refine sg_ps (ps_move rfl) rfl ?_ | refine sg_ps (ps_assign rfl) rfl ?_ | refine sg_seq ?_ | refine sg_region ?_ | refine sg_nil ?_ | refine sg_then ?_ | refine sg_ps (ps_conv rfl) rfl ?_)
  rw [hw]
  refine sg_call (len_tri m R hm) rfl rfl (fun _ _ => ?_)
  refine sg_wo ?_
  refine sg_ps (ps_shl (m := bitsLen m) rfl rfl (by omega) (by simp only [IntKind.bits, Int.toNat_natCast]; omega)) rfl ?_
  have hb : m < 2 ^ bitsLen m ∧ 2 ^ bitsLen m ≤ 2 * m := by
    have e : bitsLen m = Nat.log2 m + 1 := by unfold bitsLen; rw [if_neg (by omega)]
    rw [e]
    refine ⟨Nat.lt_log2_self, ?_⟩
    have := Nat.log2_self_le (n := m) (by omega)
    rw [Nat.pow_succ]; omega
  have e2 : IntKind.u64.wrap (1 * 2 ^ bitsLen m) = ((2 ^ bitsLen m : Nat) : Int) := by
    rw [Int.one_mul]
    have : (2 : Int) ^ bitsLen m = ((2 ^ bitsLen m : Nat) : Int) := by simp
    rw [this]
    exact wrapU (by omega)
  rw [e2]
  generalize 2 ^ bitsLen m = x at hb
  repeat' (first | refine sg_wo ?_ | refine sg_ps (ps_assign rfl) rfl ?_ | refine sg_nil ?_ | refine sg_then ?_ | refine sg_ret ?_)
  exact ex_ret1 rfl rfl x rfl hb (fun w hO => hO)
theorem xor_tri (rb : Nat) (v : Int) (R : List HP) : Tri Try.prog W 64 [dp rb] (blk rb [.int .u64 v] :: R) (X := Int) (fun x => .int .u64 x) (fun _ => True) (fun x => blk rb [.int .u64 x] :: R) := by
  refine tri_enter1 Try.func64 rfl Try.ntmps64 rfl ?_
  repeat' (first | refine sg_wo ?_ | refine sg_ps (ps_assign rfl) rfl ?_ | refine sg_seq ?_ | refine sg_region ?_ | refine sg_nil ?_ | refine sg_then ?_)
  refine sg_drawK [blk rb [.int .u64 v]] [0, 1, 3, 4, 5, 6, 2, 7, 8, 9] (by kernel_rfl) (by kernel_rfl) (fun w hO => hO.pick [0] (by decide)) ?_
  repeat' (first | refine sk_pure rfl rfl (ps_move rfl) rfl ?_ | refine sk_pure rfl rfl (ps_nilCheck rfl) rfl ?_ | refine sk_pure rfl rfl (ps_bin rfl rfl inferInstance) rfl ?_ | refine sk_pure rfl rfl (ps_shl rfl rfl (by decide) rfl) rfl ?_ | refine sk_load 0 rfl rfl rfl rfl rfl ?_ | refine sk_eff rfl rfl ?_ | refine sg_store [] rfl rfl rfl (of_decide_eq_true rfl) ?_)
  generalize IntKind.u64.wrap _ = v1
  refine sk_end (by kernel_rfl) ?_
  repeat' (first | refine sk_nil ?_)
  repeat' (first | refine sg_seq ?_ | refine sg_then ?_)
  refine sg_own (L' := blk rb [.int .u64 v1] :: R) (fun w hO => hO) ?_
  refine sg_drawK [blk rb [.int .u64 v1]] [0, 1, 3, 4, 5, 6, 2, 7, 8, 9] (by kernel_rfl) (by kernel_rfl) (fun w hO => hO.pick [0] (by decide)) ?_
  repeat' (first | refine sk_pure rfl rfl (ps_move rfl) rfl ?_ | refine sk_pure rfl rfl (ps_nilCheck rfl) rfl ?_ | refine sk_pure rfl rfl (ps_bin rfl rfl inferInstance) rfl ?_ | refine sk_pure rfl rfl (ps_shr rfl rfl (by decide) rfl) rfl ?_ | refine sk_load 0 rfl rfl rfl rfl rfl ?_ | refine sk_eff rfl rfl ?_ | refine sg_store [] rfl rfl rfl (of_decide_eq_true rfl) ?_)
  generalize IntKind.u64.wrap _ = v2
  refine sk_end (by kernel_rfl) ?_
  repeat' (first | refine sk_nil ?_)
  repeat' (first | refine sg_seq ?_ | refine sg_then ?_)
  refine sg_own (L' := blk rb [.int .u64 v2] :: R) (fun w hO => hO) ?_
  refine sg_drawK [blk rb [.int .u64 v2]] [0, 1, 3, 4, 5, 6, 2, 7, 8, 9] (by kernel_rfl) (by kernel_rfl) (fun w hO => hO.pick [0] (by decide)) ?_
  repeat' (first | refine sk_pure rfl rfl (ps_move rfl) rfl ?_ | refine sk_pure rfl rfl (ps_nilCheck rfl) rfl ?_ | refine sk_pure rfl rfl (ps_bin rfl rfl inferInstance) rfl ?_ | refine sk_pure rfl rfl (ps_shl rfl rfl (by decide) rfl) rfl ?_ | refine sk_load 0 rfl rfl rfl rfl rfl ?_ | refine sk_eff rfl rfl ?_ | refine sg_store [] rfl rfl rfl (of_decide_eq_true rfl) ?_)
  generalize hv3 : IntKind.u64.wrap (BitVec.toNat _ : Int) = v3
  refine sk_end (by kernel_rfl) ?_
  repeat' (first | refine sk_nil ?_)
  repeat' (first | refine sg_wo ?_ | refine sg_ps (ps_move rfl) rfl ?_ | refine sg_ps (ps_assign rfl) rfl ?_ | refine sg_seq ?_ | refine sg_region ?_ | refine sg_nil ?_ | refine sg_then ?_ | refine sg_ps (ps_nilCheck rfl) rfl ?_ | refine sg_load 0 rfl rfl rfl rfl ?_ | refine sg_ret ?_)
  exact ex_ret1 rfl rfl v3 rfl trivial (fun w hO => hO)
theorem brk_tri {N : Nat} (g : Nat) (d0 : Array Int) (rest : List Value) (c a b : Nat) (R : List HP) (hd0 : d0.size = N) (hN : N ≤ bigN) (ha : a ≤ b) (hb : b ≤ N) :
    Tri Try.prog W 53 [.slice (some ⟨g, 0, none⟩) N c, i64 a, i64 b] (blk g (ucs d0 ++ rest) :: R) (X := Array Int) (fun _ => .tuple #[]) (fun d => d.size = N ∧ PermIn a b d0 d) (fun d => blk g (ucs d ++ rest) :: R) := by
  have hN2 := hN
  unfold bigN at hN2
  obtain ⟨l, hl⟩ : ∃ l, b = a + l := ⟨b - a, by omega⟩
  have hbl : (b : Int) - (a : Int) = (l : Int) := by omega
  refine tri_enter3 Try.func53 rfl Try.ntmps53 rfl ?_
  refine sg_seq ?_
  repeat' (first | refine sg_wo ?_ | refine sg_ps (ps_move rfl) rfl ?_ | refine sg_ps (ps_assign rfl) rfl ?_ | refine sg_region ?_ | refine sg_nil ?_ | refine sg_then ?_ | refine sg_ps (ps_sub64 rfl rfl (by omega)) rfl ?_)
  rw [hbl]
  refine sg_seq ?_
  repeat' (first | refine sg_wo ?_ | refine sg_ps (ps_move rfl) rfl ?_ | refine sg_region ?_ | refine sg_nil ?_ | refine sg_then ?_ | refine sg_ps (ps_bin rfl rfl inferInstance) rfl ?_ | refine sg_skip ?_ | (refine sg_cond_dec rfl (fun hg => ?_) (fun hg => ?_) <;> first | (exfalso; omega) | (exact absurd rfl hg) | skip))
  · have h8 : 8 ≤ l := by omega
    have hw : IntKind.u64.wrap (l : Int) = (l : Int) := wrapU (by omega)
    refine sg_seq ?_
    repeat' (first | refine sg_wo ?_ | refine sg_ps (ps_move rfl) rfl ?_ | refine sg_region ?_ | refine sg_nil ?_ | refine sg_then ?_ | refine sg_ps (ps_conv rfl) rfl ?_ | refine sg_alloc rfl (fun al => ?_) | refine sg_store [] rfl rfl rfl (of_decide_eq_true rfl) ?_)
    refine sg_seq ?_
    repeat' (first | refine sg_wo ?_ | refine sg_ps (ps_move rfl) rfl ?_ | refine sg_region ?_)
    refine sg_call (next_tri l _ h8 (by omega)) rfl rfl ?_
    rintro m ⟨hm1, hm2⟩
    repeat' (first | refine sg_wo ?_ | refine sg_ps (ps_assign rfl) rfl ?_ | refine sg_nil ?_ | refine sg_then ?_)
    refine sg_seq ?_
    repeat' (first | refine sg_wo ?_ | refine sg_ps (ps_move rfl) rfl ?_ | refine sg_ps (ps_assign rfl) rfl ?_ | refine sg_region ?_ | refine sg_nil ?_ | refine sg_then ?_ | refine sg_ps (ps_add64 rfl rfl (by omega)) rfl ?_ | refine sg_ps (ps_sub64 rfl rfl (by omega)) rfl ?_ | refine sg_ps (ps_mul64 rfl rfl (by omega)) rfl ?_ | refine sg_ps (ps_quo64 rfl rfl (by decide) (by omega)) rfl ?_ | refine sg_block ?_)
    obtain ⟨i0, hi0⟩ : ∃ i0, i0 = a + l / 4 * 2 - 1 := ⟨_, rfl⟩
    rw [show (a : Int) + (l : Int) / 4 * 2 - 1 = (i0 : Int) by omega]
    refine sg_loop (γ := Nat × Array Int × Int) (fun x => (i0 ≤ x.1 ∧ x.1 ≤ i0 + 3) ∧ x.2.1.size = N ∧ PermIn a b d0 x.2.1) (fun x => [(0, .slice (some ⟨g, 0, none⟩) N c), (1, i64 a), (6, i64 l), (7, dp al), (8, .int .u64 m), (9, i64 x.1)])
      (fun x => blk al [.int .u64 x.2.2] :: blk g (ucs x.2.1 ++ rest) :: R) (fun x => i0 + 3 - x.1) (i0, d0, IntKind.u64.wrap (l : Int)) ⟨⟨Nat.le_refl _, by show i0 ≤ i0 + 3; omega⟩, hd0, permIn_refl d0 a b⟩ (.cons rfl (.cons rfl (.cons rfl (.cons rfl (.cons rfl (.cons rfl .nil)))))) (fun w hO => hO) ?_
    rintro ⟨i, d, v⟩ ⟨⟨hi1, hi2⟩, hd, hp⟩
    dsimp only at hi1 hi2 hd hp ⊢
    refine sg_seq ?_
    refine sg_seq ?_
    repeat' (first | refine sg_wo ?_ | refine sg_ps (ps_move rfl) rfl ?_ | refine sg_region ?_ | refine sg_nil ?_ | refine sg_then ?_ | refine sg_ps (ps_add64 rfl rfl (by omega)) rfl ?_ | refine sg_ps (ps_mul64 rfl rfl (by omega)) rfl ?_ | refine sg_ps (ps_bin rfl rfl inferInstance) rfl ?_ | refine sg_ps (ps_quo64 rfl rfl (by decide) (by omega)) rfl ?_ | refine sg_skip ?_ | refine sg_exit ?_ | refine ex_then_exit ?_ | refine ex_block_hit ?_ | (refine sg_cond_dec rfl (fun hg => ?_) (fun hg => ?_) <;> first | (exfalso; omega) | (exact absurd rfl hg) | skip))
    · refine sg_seq ?_
      refine sg_block ?_
      refine sg_seq ?_
      repeat' (first | refine sg_wo ?_ | refine sg_region ?_)
      refine sg_call (xor_tri al v _) rfl rfl ?_
      rintro v1 -
      refine sg_wo ?_
      refine sg_ps (ps_move rfl) rfl ?_
      refine sg_wo ?_
      refine sg_ps (ps_bin rfl rfl inferInstance) rfl ?_
      rw [show IntKind.u64.wrap ((m : Int) - 1) = ((m - 1 : Nat) : Int) by rw [show (m : Int) - 1 = ((m - 1 : Nat) : Int) by omega]; exact wrapU (by omega)]
      refine sg_wo ?_
      refine sg_ps (ps_bin rfl rfl inferInstance) rfl ?_
      obtain ⟨o, ho, hol⟩ := andM_le v1 (m - 1) (by omega)
      rw [ho]
      repeat' (first | refine sg_wo ?_ | refine sg_ps (ps_assign rfl) rfl ?_ | refine sg_nil ?_ | refine sg_then ?_ | refine sg_ps (ps_conv rfl) rfl ?_)
      rw [show IntKind.i64.wrap (o : Int) = (o : Int) from wrap64 (by omega) (by omega)]
      refine sg_seq_mid (γ := Nat) (fun x => x < l) (fun x => [(0, .slice (some ⟨g, 0, none⟩) N c), (1, i64 a), (6, i64 l), (7, dp al), (8, .int .u64 m), (9, i64 i), (10, i64 x)]) (fun x => blk al [.int .u64 v1] :: blk g (ucs d ++ rest) :: R) ?_ ?_
      · skip
        repeat' (first | refine sg_wo ?_ | refine sg_ps (ps_move rfl) rfl ?_ | refine sg_ps (ps_assign rfl) rfl ?_ | refine sg_seq ?_ | refine sg_region ?_ | refine sg_nil ?_ | refine sg_then ?_ | refine sg_ps (ps_sub64 rfl rfl (by omega)) rfl ?_ | refine sg_ps (ps_bin rfl rfl inferInstance) rfl ?_ | refine sg_skip ?_ | (refine sg_cond_dec rfl (fun hg => ?_) (fun hg => ?_) <;> first | (exfalso; omega) | (exact absurd rfl hg) | skip))
        · exact ex_mid (o - l) (by omega) (.cons rfl (.cons rfl (.cons rfl (.cons rfl (.cons rfl (.cons rfl (.cons (by show some _ = some (i64 ((o - l : Nat) : Int)); rw [show ((o - l : Nat) : Int) = (o : Int) - (l : Int) by omega]) .nil))))))) (fun w hO => hO)
        · exact ex_mid o (by omega) (.cons rfl (.cons rfl (.cons rfl (.cons rfl (.cons rfl (.cons rfl (.cons rfl .nil))))))) (fun w hO => hO)
      rintro x hx
      refine sg_own (fun w hO => hO.front1) ?_
      refine sg_drawK [blk g (ucs d ++ rest)] [0, 1, 2, 3, 4, 5, 6, 7, 8, 9, 10, 12, 13, 14, 11, 15, 16, 17, 18, 19] (by kernel_rfl) (by kernel_rfl) (fun w hO => hO.pick [0] (by decide)) ?_
      repeat' (first | refine sk_pure rfl rfl (ps_move rfl) rfl ?_ | refine sk_pure rfl rfl (ps_add64 rfl rfl (by omega)) rfl ?_ | refine sk_pure rfl rfl (ps_indexAddr rfl rfl rfl (by omega)) rfl ?_ | refine sk_load 0 rfl rfl rfl (uat _ (by omega)) rfl ?_ | refine sg_store [] rfl rfl rfl (ult _ (by omega)) ?_ | refine sk_eff rfl rfl ?_)
      refine sk_end (by kernel_rfl) ?_
      repeat' (first | refine sk_nil ?_ | refine sk_pure rfl rfl (ps_indexAddr rfl rfl rfl (by omega)) rfl ?_ | refine sg_store [] rfl rfl rfl (ult2 _ (by omega)) ?_ | refine sk_eff rfl rfl ?_ | refine sk_back (LR := []) (fun w hO => hO.pick [] (by decide)) ?_)
      rw [uswp rest (by omega) (by omega)]
      repeat' (first | refine sg_wo ?_ | refine sg_ps (ps_move rfl) rfl ?_ | refine sg_ps (ps_assign rfl) rfl ?_ | refine sg_region ?_ | refine sg_nil ?_ | refine sg_then ?_ | refine sg_ps (ps_add64 rfl rfl (by omega)) rfl ?_ | refine ex_block_normal ?_)
      exact ex_mid (i + 1, swp d i (a + x), v1) ⟨by show i0 + 3 - (i + 1) < i0 + 3 - i; omega, ⟨by show i0 ≤ i + 1; omega, by show i + 1 ≤ i0 + 3; omega⟩, by rw [swp_size]; exact hd, permIn_trans _ _ _ a b hp (swp_permIn d a b i (a + x) (by omega) (by omega) (by omega) (by omega) (by omega))⟩
        (.cons rfl (.cons rfl (.cons rfl (.cons rfl (.cons rfl (.cons rfl .nil)))))) (fun w hO => hO.front1)
    · exact ex_end0 rfl d rfl ⟨hd, hp⟩ (fun w hO => hO.tail)
  · exact ex_end0 rfl d0 rfl ⟨hd0, permIn_refl d0 a b⟩ (fun w hO => hO)
end Go.Proofs.Ytclehoaeppbmpaa
namespace Go.Proofs.Ytclehoaeppbmpaa
set_option linter.unusedVariables false
set_option linter.unusedSimpArgs false
set_option linter.unusedSectionVars false
set_option linter.unnecessarySimpa false
open Go Go.Proofs Go.Sort
set_option maxRecDepth 20000
set_option maxHeartbeats 4000000
attribute [local irreducible] SG WC WO W1 WD WK PS Rd Tri Exit.then Exit.inBlock bodyPost calmQ Mid sadd ucs
variable {W : World} {n : Nat} {F : Fr} {L : List HP} {G : Act → World → Prop}
theorem rev_tri {N : Nat} (g : Nat) (d0 : Array Int) (rest : List Value) (c a b : Nat) (R : List HP) (hd0 : d0.size = N) (hN : N ≤ bigN) (ha : a < b) (hb : b ≤ N) :
    Tri Try.prog W 55 [.slice (some ⟨g, 0, none⟩) N c, i64 a, i64 b] (blk g (ucs d0 ++ rest) :: R) (X := Array Int) (fun _ => .tuple #[]) (fun d => d.size = N ∧ PermIn a b d0 d) (fun d => blk g (ucs d ++ rest) :: R) := by
  unfold bigN at hN
  have hper := reverseRange_holds d0 a b (by omega) (by omega)
  have hrs : (reverseRange d0 a b).size = N := by rw [hper.1]; exact hd0
  refine tri_enter3 Try.func55 rfl Try.ntmps55 rfl ?_
  generalize hr : reverseRange d0 a b = r at hper hrs
  unfold reverseRange at hr
  repeat' (first | refine sg_wo ?_ | refine sg_ps (ps_move rfl) rfl ?_ | refine sg_ps (ps_assign rfl) rfl ?_ | refine sg_seq ?_ | refine sg_region ?_ | refine sg_nil ?_ | refine sg_then ?_ | refine sg_ps (ps_sub64 rfl rfl (by omega)) rfl ?_ | refine sg_block ?_)
  refine sg_loop (γ := Nat × Nat × Array Int) (fun x => (x.1 ≤ N ∧ x.2.1 < N) ∧ x.2.2.size = N ∧ reverseLoop x.1 x.2.1 x.2.2 = r) (fun x => [(0, .slice (some ⟨g, 0, none⟩) N c), (6, i64 x.1), (7, i64 x.2.1)])
    (fun x => blk g (ucs x.2.2 ++ rest) :: R) (fun x => x.2.1 - x.1) (a, b - 1, d0) ⟨⟨by show a ≤ N; omega, by show b - 1 < N; omega⟩, hd0, hr⟩ (.cons rfl (.cons rfl (.cons (by show some _ = some (i64 ((b - 1 : Nat) : Int)); rw [show ((b - 1 : Nat) : Int) = (b : Int) - 1 by omega]) .nil))) (fun w hO => hO) ?_
  rintro ⟨i, j, d⟩ ⟨⟨hi, hj⟩, hd, hr⟩
  dsimp only at hi hj hd hr ⊢
  rw [reverseLoop] at hr
  by_cases hij : i < j
  · rw [if_pos hij] at hr
    repeat' (first | refine sg_wo ?_ | refine sg_ps (ps_move rfl) rfl ?_ | refine sg_seq ?_ | refine sg_region ?_ | refine sg_nil ?_ | refine sg_then ?_ | refine sg_ps (ps_bin rfl rfl inferInstance) rfl ?_ | refine sg_block ?_ | refine sg_skip ?_ | (refine sg_cond_dec rfl (fun hg => ?_) (fun hg => ?_) <;> first | (exfalso; omega) | (exact absurd rfl hg) | skip))
    refine sg_drawK [blk g (ucs d ++ rest)] [0, 1, 2, 3, 4, 5, 6, 8, 9, 10, 7, 11, 12, 13, 14, 15] (by kernel_rfl) (by kernel_rfl) (fun w hO => hO.pick [0] (by decide)) ?_
    repeat' (first | refine sk_pure rfl rfl (ps_move rfl) rfl ?_ | refine sk_pure rfl rfl (ps_indexAddr rfl rfl rfl (by omega)) rfl ?_ | refine sk_load 0 rfl rfl rfl (uat _ (by omega)) rfl ?_ | refine sg_store [] rfl rfl rfl (ult _ (by omega)) ?_ | refine sk_eff rfl rfl ?_)
    refine sk_end (by kernel_rfl) ?_
    repeat' (first | refine sk_nil ?_ | refine sk_pure rfl rfl (ps_indexAddr rfl rfl rfl (by omega)) rfl ?_ | refine sg_store [] rfl rfl rfl (ult2 _ (by omega)) ?_ | refine sk_eff rfl rfl ?_ | refine sk_back (LR := []) (fun w hO => hO.pick [] (by decide)) ?_)
    rw [uswp rest (by omega) (by omega)]
    repeat' (first | refine sg_wo ?_ | refine sg_ps (ps_move rfl) rfl ?_ | refine sg_ps (ps_assign rfl) rfl ?_ | refine sg_seq ?_ | refine sg_region ?_ | refine sg_nil ?_ | refine sg_then ?_ | refine sg_ps (ps_add64 rfl rfl (by omega)) rfl ?_ | refine sg_ps (ps_sub64 rfl rfl (by omega)) rfl ?_ | refine ex_block_normal ?_)
    exact ex_mid (i + 1, j - 1, swp d i j) ⟨by show j - 1 - (i + 1) < j - i; omega, ⟨by show i + 1 ≤ N; omega, by show j - 1 < N; omega⟩, by rw [swp_size]; exact hd, hr⟩
      (.cons rfl (.cons rfl (.cons (by show some _ = some (i64 ((j - 1 : Nat) : Int)); rw [show ((j - 1 : Nat) : Int) = (j : Int) - 1 by omega]) .nil))) (fun w hO => hO)
  · rw [if_neg hij] at hr
    subst hr
    repeat' (first | refine sg_wo ?_ | refine sg_ps (ps_move rfl) rfl ?_ | refine sg_seq ?_ | refine sg_region ?_ | refine sg_nil ?_ | refine sg_then ?_ | refine sg_ps (ps_bin rfl rfl inferInstance) rfl ?_ | refine sg_exit ?_ | refine ex_then_exit ?_ | refine ex_block_hit ?_ | (refine sg_cond_dec rfl (fun hg => ?_) (fun hg => ?_) <;> first | (exfalso; omega) | (exact absurd rfl hg) | skip))
    exact ex_end0 rfl d rfl ⟨hd, hper⟩ (fun w hO => hO)
theorem pdq_tri {N : Nat} (g : Nat) (rest : List Value) (c : Nat) (R : List HP) (hN : N ≤ bigN) : ∀ (m : Nat) (d0 : Array Int) (a b lim : Nat), b - a ≤ m → a ≤ b → b ≤ N → d0.size = N → lim ≤ 100 → Below ltInt a b d0 →
    Tri Try.prog W 48 [.slice (some ⟨g, 0, none⟩) N c, i64 a, i64 b, i64 lim] (blk g (ucs d0 ++ rest) :: R) (X := Array Int) (fun _ => .tuple #[]) (fun d => PermIn a b d0 d ∧ SortedIn ltInt a b d) (fun d => blk g (ucs d ++ rest) :: R) := by
  intro m
  induction m using Nat.strongRecOn with
  | _ m ih =>
  intro d0 a b lim hm hab hb hd0 hlim hB0
  have hN2 := hN
  unfold bigN at hN2
  refine tri_enter4 Try.func48 rfl Try.ntmps48 rfl ?_
  repeat' (first | refine sg_wo ?_ | refine sg_ps (ps_assign rfl) rfl ?_ | refine sg_seq ?_ | refine sg_region ?_ | refine sg_nil ?_ | refine sg_then ?_ | refine sg_block ?_)
  refine sg_loop (γ := Nat × Nat × Nat × Bool × Bool × Array Int) (fun x => (a ≤ x.1 ∧ x.1 ≤ x.2.1 ∧ x.2.1 ≤ b ∧ x.2.2.1 ≤ 100) ∧ x.2.2.2.2.2.size = N ∧ Below ltInt x.1 x.2.1 x.2.2.2.2.2 ∧ ∀ Z, PermIn x.1 x.2.1 x.2.2.2.2.2 Z → SortedIn ltInt x.1 x.2.1 Z → PermIn a b d0 Z ∧ SortedIn ltInt a b Z)
    (fun x => [(0, .slice (some ⟨g, 0, none⟩) N c), (1, i64 x.1), (2, i64 x.2.1), (3, i64 x.2.2.1), (8, .bool x.2.2.2.1), (9, .bool x.2.2.2.2.1)]) (fun x => blk g (ucs x.2.2.2.2.2 ++ rest) :: R) (fun x => x.2.1 - x.1)
    (a, b, lim, true, true, d0) ⟨⟨Nat.le_refl _, hab, Nat.le_refl _, hlim⟩, hd0, hB0, fun Z h1 h2 => ⟨h1, h2⟩⟩ (.cons rfl (.cons rfl (.cons rfl (.cons rfl (.cons rfl (.cons rfl .nil)))))) (fun w hO => hO) ?_
  rintro ⟨a1, b1, lim, wb, wp, d⟩ ⟨⟨h1, h2, h3, h4⟩, hd, hB, hfin⟩
  dsimp only at h1 h2 h3 h4 hd hB hfin ⊢
  obtain ⟨l, hl⟩ : ∃ l, l = b1 - a1 := ⟨_, rfl⟩
  refine sg_block ?_
  refine sg_seq ?_
  repeat' (first | refine sg_wo ?_ | refine sg_ps (ps_move rfl) rfl ?_ | refine sg_ps (ps_assign rfl) rfl ?_ | refine sg_region ?_ | refine sg_nil ?_ | refine sg_then ?_ | refine sg_ps (ps_sub64 rfl rfl (by omega)) rfl ?_)
  rw [show (b1 : Int) - (a1 : Int) = (l : Int) by omega]
  refine sg_seq ?_
  refine sg_seq ?_
  repeat' (first | refine sg_wo ?_ | refine sg_ps (ps_move rfl) rfl ?_ | refine sg_region ?_ | refine sg_nil ?_ | refine sg_then ?_ | refine sg_ps (ps_bin rfl rfl inferInstance) rfl ?_ | refine sg_skip ?_ | (refine sg_cond_dec rfl (fun hg => ?_) (fun hg => ?_) <;> first | (exfalso; omega) | (exact absurd rfl hg) | skip))
  · skip
    repeat' (first | refine sg_wo ?_ | refine sg_ps (ps_move rfl) rfl ?_ | refine sg_seq ?_ | refine sg_region ?_)
    refine sg_call (ins_tri g d rest c a1 b1 R hd hN (by omega) (by omega)) rfl rfl (fun _ _ => ?_)
    repeat' (first | refine sg_nil ?_ | refine sg_then ?_ | refine sg_ret ?_ | refine ex_then_ret ?_ | refine ex_block_ret ?_)
    have hi := insertionSort_holds swo_ltInt d a1 b1 h2 (by omega)
    exact ex_ret0 rfl _ rfl (hfin _ hi.1 hi.2) (fun w hO => hO)
  refine sg_seq ?_
  refine sg_seq ?_
  by_cases hl0 : lim = 0
  · subst hl0
    repeat' (first | refine sg_wo ?_ | refine sg_ps (ps_move rfl) rfl ?_ | refine sg_seq ?_ | refine sg_region ?_ | refine sg_nil ?_ | refine sg_then ?_ | refine sg_ps (ps_bin rfl rfl inferInstance) rfl ?_ | refine sg_cond_t rfl ?_)
    refine sg_call (heap_tri g d rest c a1 b1 R hd hN h2 (by omega)) rfl rfl (fun _ _ => ?_)
    repeat' (first | refine sg_nil ?_ | refine sg_then ?_ | refine sg_ret ?_ | refine ex_then_ret ?_ | refine ex_block_ret ?_)
    have hi := heapSort_holds swo_ltInt d a1 b1 h2 (by omega)
    exact ex_ret0 rfl _ rfl (hfin _ hi.1 hi.2) (fun w hO => hO)
  repeat' (first | refine sg_wo ?_ | refine sg_ps (ps_move rfl) rfl ?_ | refine sg_region ?_ | refine sg_nil ?_ | refine sg_then ?_ | refine sg_ps (ps_bin rfl rfl inferInstance) rfl ?_ | refine sg_skip ?_ | (refine sg_cond_dec rfl (fun hg => ?_) (fun hg => ?_) <;> first | (exfalso; omega) | (exact absurd rfl hg) | skip))
  have hlt : a1 < b1 := by omega
  refine sg_seq_mid (γ := Nat × Array Int) (fun x => x.1 ≤ 100 ∧ x.2.size = N ∧ PermIn a1 b1 d x.2) (fun x => [(0, .slice (some ⟨g, 0, none⟩) N c), (1, i64 a1), (2, i64 b1), (3, i64 x.1), (8, .bool wb), (9, .bool wp), (10, i64 l)]) (fun x => blk g (ucs x.2 ++ rest) :: R) ?_ ?_
  · cases wb with
    | false =>
      repeat' (first | refine sg_wo ?_ | refine sg_ps (ps_move rfl) rfl ?_ | refine sg_seq ?_ | refine sg_region ?_ | refine sg_nil ?_ | refine sg_then ?_ | refine sg_ps (ps_not rfl) rfl ?_ | refine sg_cond_t rfl ?_)
      refine sg_call (brk_tri g d rest c a1 b1 R hd hN h2 (by omega)) rfl rfl ?_
      rintro d1 ⟨k1, k2⟩
      repeat' (first | refine sg_wo ?_ | refine sg_ps (ps_move rfl) rfl ?_ | refine sg_ps (ps_assign rfl) rfl ?_ | refine sg_region ?_ | refine sg_nil ?_ | refine sg_then ?_ | refine sg_ps (ps_sub64 rfl rfl (by omega)) rfl ?_)
      exact ex_mid (lim - 1, d1) ⟨by show lim - 1 ≤ 100; omega, k1, k2⟩ (.cons rfl (.cons rfl (.cons rfl (.cons (by show some _ = some (i64 ((lim - 1 : Nat) : Int)); rw [show ((lim - 1 : Nat) : Int) = (lim : Int) - 1 by omega]) (.cons rfl (.cons rfl (.cons rfl .nil))))))) (fun w hO => hO)
    | true =>
      repeat' (first | refine sg_wo ?_ | refine sg_ps (ps_move rfl) rfl ?_ | refine sg_seq ?_ | refine sg_region ?_ | refine sg_nil ?_ | refine sg_then ?_ | refine sg_ps (ps_not rfl) rfl ?_ | refine sg_cond_f rfl ?_ | refine sg_skip ?_)
      exact ex_mid (lim, d) ⟨h4, hd, permIn_refl d a1 b1⟩ (.cons rfl (.cons rfl (.cons rfl (.cons rfl (.cons rfl (.cons rfl (.cons rfl .nil))))))) (fun w hO => hO)
  clear hl0
  rintro ⟨lim, d1⟩ ⟨h4, hd1, hp1⟩
  dsimp only at h4 hd1 hp1 ⊢
  refine sg_seq ?_
  repeat' (first | refine sg_wo ?_ | refine sg_ps (ps_move rfl) rfl ?_ | refine sg_region ?_)
  refine sg_call (piv_tri g d1 rest c a1 b1 R hd1 hN hlt (by omega)) rfl rfl ?_
  rintro ⟨p, hint⟩ ⟨hpa, hpb⟩
  dsimp only at hpa hpb ⊢
  repeat' (first | refine sg_wo ?_ | refine sg_ps (ps_move rfl) rfl ?_ | refine sg_ps (ps_assign rfl) rfl ?_ | refine sg_nil ?_ | refine sg_then ?_ | refine sg_ps (ps_extract rfl rfl) rfl ?_)
  refine sg_seq_mid (γ := Nat × Int × Array Int) (fun x => (a1 ≤ x.1 ∧ x.1 < b1) ∧ x.2.2.size = N ∧ PermIn a1 b1 d x.2.2) (fun x => [(0, .slice (some ⟨g, 0, none⟩) N c), (1, i64 a1), (2, i64 b1), (3, i64 lim), (8, .bool wb), (9, .bool wp), (10, i64 l), (11, i64 x.1), (12, i64 x.2.1)]) (fun x => blk g (ucs x.2.2 ++ rest) :: R) ?_ ?_
  · by_cases hh : hint = 2
    · subst hh
      repeat' (first | refine sg_wo ?_ | refine sg_ps (ps_move rfl) rfl ?_ | refine sg_seq ?_ | refine sg_region ?_ | refine sg_nil ?_ | refine sg_then ?_ | refine sg_ps (ps_bin rfl rfl inferInstance) rfl ?_ | refine sg_cond_t rfl ?_)
      refine sg_call (rev_tri g d1 rest c a1 b1 R hd1 hN hlt (by omega)) rfl rfl ?_
      rintro d2 ⟨k1, k2⟩
      repeat' (first | refine sg_wo ?_ | refine sg_ps (ps_move rfl) rfl ?_ | refine sg_ps (ps_assign rfl) rfl ?_ | refine sg_seq ?_ | refine sg_region ?_ | refine sg_nil ?_ | refine sg_then ?_ | refine sg_ps (ps_sub64 rfl rfl (by omega)) rfl ?_)
      exact ex_mid (b1 - 1 - (p - a1), 1, d2) ⟨⟨by show a1 ≤ b1 - 1 - (p - a1); omega, by show b1 - 1 - (p - a1) < b1; omega⟩, k1, permIn_trans _ _ _ a1 b1 hp1 k2⟩
        (.cons rfl (.cons rfl (.cons rfl (.cons rfl (.cons rfl (.cons rfl (.cons rfl (.cons (by show some _ = some (i64 ((b1 - 1 - (p - a1) : Nat) : Int)); rw [show ((b1 - 1 - (p - a1) : Nat) : Int) = (b1 : Int) - 1 - ((p : Int) - (a1 : Int)) by omega]) (.cons rfl .nil))))))))) (fun w hO => hO)
    · skip
      repeat' (first | refine sg_wo ?_ | refine sg_ps (ps_move rfl) rfl ?_ | refine sg_seq ?_ | refine sg_region ?_ | refine sg_nil ?_ | refine sg_then ?_ | refine sg_ps (ps_bin rfl rfl inferInstance) rfl ?_ | refine sg_skip ?_ | (refine sg_cond_dec rfl (fun hg => ?_) (fun hg => ?_) <;> first | (exfalso; omega) | (exact absurd rfl hg) | skip))
      exact ex_mid (p, hint, d1) ⟨⟨hpa, hpb⟩, hd1, hp1⟩ (.cons rfl (.cons rfl (.cons rfl (.cons rfl (.cons rfl (.cons rfl (.cons rfl (.cons rfl (.cons rfl .nil))))))))) (fun w hO => hO)
  clear hpa hpb hd1 hp1
  rintro ⟨p, hint, d2⟩ ⟨⟨hpa, hpb⟩, hd2, hp2⟩
  dsimp only at hpa hpb hd2 hp2 ⊢
  have hB2 := hB.perm (by omega) hp2
  refine sg_seq_mid (γ := Array Int) (fun x => x.size = N ∧ PermIn a1 b1 d x) (fun x => [(0, .slice (some ⟨g, 0, none⟩) N c), (1, i64 a1), (2, i64 b1), (3, i64 lim), (8, .bool wb), (9, .bool wp), (10, i64 l), (11, i64 p)]) (fun x => blk g (ucs x ++ rest) :: R) ?_ ?_
  · cases wb with
    | false =>
      repeat' (first | refine sg_wo ?_ | refine sg_ps (ps_move rfl) rfl ?_ | refine sg_seq ?_ | refine sg_region ?_ | refine sg_nil ?_ | refine sg_then ?_ | refine sg_cond_f rfl ?_ | refine sg_guard_nf rfl rfl rfl ?_ | refine sg_ps (ps_pick_f rfl rfl) rfl ?_ | refine sg_skip ?_)
      exact ex_mid d2 ⟨hd2, hp2⟩ (.cons rfl (.cons rfl (.cons rfl (.cons rfl (.cons rfl (.cons rfl (.cons rfl (.cons rfl .nil)))))))) (fun w hO => hO)
    | true =>
      cases wp with
      | false =>
        repeat' (first | refine sg_wo ?_ | refine sg_ps (ps_move rfl) rfl ?_ | refine sg_seq ?_ | refine sg_region ?_ | refine sg_nil ?_ | refine sg_then ?_ | refine sg_cond_f rfl ?_ | refine sg_guard_yes rfl rfl ?_ | refine sg_guard_nf rfl rfl rfl ?_ | refine sg_ps (ps_pick_t rfl rfl) rfl ?_ | refine sg_ps (ps_pick_f rfl rfl) rfl ?_ | refine sg_skip ?_)
        exact ex_mid d2 ⟨hd2, hp2⟩ (.cons rfl (.cons rfl (.cons rfl (.cons rfl (.cons rfl (.cons rfl (.cons rfl (.cons rfl .nil)))))))) (fun w hO => hO)
      | true =>
        by_cases hh : hint = 1
        · subst hh
          repeat' (first | refine sg_wo ?_ | refine sg_ps (ps_move rfl) rfl ?_ | refine sg_seq ?_ | refine sg_region ?_ | refine sg_nil ?_ | refine sg_then ?_ | refine sg_ps (ps_bin rfl rfl inferInstance) rfl ?_ | refine sg_cond_t rfl ?_ | refine sg_guard_yes rfl rfl ?_ | refine sg_ps (ps_pick_t rfl rfl) rfl ?_)
          refine sg_call (pins_tri g d2 rest c a1 b1 R hd2 hN hlt (by omega)) rfl rfl (fun _ _ => ?_)
          have hpi := partialInsertionSort_holds swo_ltInt d2 a1 b1 hlt (by omega) hB2
          generalize partialInsertionSort ltInt d2 a1 b1 = q at hpi
          obtain ⟨d3, ok⟩ := q
          dsimp only at hpi ⊢
          cases ok with
          | true =>
            repeat' (first | refine sg_nil ?_ | refine sg_then ?_ | refine sg_cond_t rfl ?_ | refine sg_ret ?_ | refine ex_then_ret ?_ | refine ex_block_ret ?_)
            exact ex_ret0 rfl d3 rfl (hfin d3 (permIn_trans _ _ _ a1 b1 hp2 hpi.1) (hpi.2 rfl)) (fun w hO => hO)
          | false =>
            repeat' (first | refine sg_nil ?_ | refine sg_then ?_ | refine sg_cond_f rfl ?_ | refine sg_skip ?_)
            exact ex_mid d3 ⟨hpi.1.1.trans hd2, permIn_trans _ _ _ a1 b1 hp2 hpi.1⟩ (.cons rfl (.cons rfl (.cons rfl (.cons rfl (.cons rfl (.cons rfl (.cons rfl (.cons rfl .nil)))))))) (fun w hO => hO)
        · skip
          repeat' (first | refine sg_wo ?_ | refine sg_ps (ps_move rfl) rfl ?_ | refine sg_seq ?_ | refine sg_region ?_ | refine sg_nil ?_ | refine sg_then ?_ | refine sg_ps (ps_bin rfl rfl inferInstance) rfl ?_ | refine sg_guard_yes rfl rfl ?_ | refine sg_ps (ps_pick_t rfl rfl) rfl ?_ | refine sg_skip ?_ | (refine sg_cond_dec rfl (fun hg => ?_) (fun hg => ?_) <;> first | (exfalso; omega) | (exact absurd rfl hg) | skip))
          exact ex_mid d2 ⟨hd2, hp2⟩ (.cons rfl (.cons rfl (.cons rfl (.cons rfl (.cons rfl (.cons rfl (.cons rfl (.cons rfl .nil)))))))) (fun w hO => hO)
  clear hB2 hd2 hp2
  rintro d3 ⟨hd3, hp3⟩
  have hB3 := hB.perm (by omega) hp3
  have hnext : ∀ (wb wp : Bool) (a2 b2 : Nat) (d5 : Array Int), a1 ≤ a2 → a2 ≤ b2 → b2 ≤ b1 → b2 - a2 < b1 - a1 → d5.size = N → Below ltInt a2 b2 d5 → (∀ Z, PermIn a2 b2 d5 Z → SortedIn ltInt a2 b2 Z → PermIn a1 b1 d3 Z ∧ SortedIn ltInt a1 b1 Z) →
      b2 - a2 < b1 - a1 ∧ (a ≤ a2 ∧ a2 ≤ b2 ∧ b2 ≤ b ∧ lim ≤ 100) ∧ d5.size = N ∧ Below ltInt a2 b2 d5 ∧ ∀ Z, PermIn a2 b2 d5 Z → SortedIn ltInt a2 b2 Z → PermIn a b d0 Z ∧ SortedIn ltInt a b Z :=
    fun wb wp a2 b2 d5 q1 q2 q3 q4 q5 q6 q7 => ⟨q4, ⟨by omega, q2, by omega, h4⟩, q5, q6, fun Z z1 z2 => hfin Z (permIn_trans _ _ _ a1 b1 hp3 (q7 Z z1 z2).1) (q7 Z z1 z2).2⟩
  refine sg_seq_mid (γ := Unit) (fun _ => True) (fun _ => [(0, .slice (some ⟨g, 0, none⟩) N c), (1, i64 a1), (2, i64 b1), (3, i64 lim), (8, .bool wb), (9, .bool wp), (10, i64 l), (11, i64 p)]) (fun _ => blk g (ucs d3 ++ rest) :: R) ?_ ?_
  · by_cases ha0 : 0 < a1
    · refine sg_seq ?_
      refine sg_drawK [blk g (ucs d3 ++ rest)] [0, 1, 2, 3, 4, 5, 6, 8, 9, 10, 7, 11, 12, 13, 14] (by kernel_rfl) (by kernel_rfl) (fun w hO => hO.pick [0] (by decide)) ?_
      repeat' (first | refine sk_pure rfl rfl (ps_move rfl) rfl ?_ | refine sk_pure rfl rfl (ps_bin rfl rfl inferInstance) rfl ?_ | refine sk_pure_g rfl rfl rfl rfl (ps_move rfl) rfl ?_ | refine sk_pure_g rfl rfl rfl rfl (ps_sub64 rfl rfl (by omega)) rfl ?_ | refine sk_pure_g rfl rfl rfl rfl (ps_indexAddr rfl rfl rfl (by omega)) rfl ?_ | refine sk_pure_g rfl rfl rfl rfl (ps_indexAddrI rfl rfl (by omega) (by omega)) rfl ?_ | refine sk_load_g 0 rfl rfl rfl rfl rfl (uat _ (by omega)) rfl ?_ | refine sk_eff rfl rfl ?_ | refine sg_guard_yes rfl rfl ?_ | (refine sk_dec rfl rfl rfl rfl (fun hg => ?_) (fun hg => ?_) <;> first | (exfalso; omega) | (exact absurd rfl hg) | skip))
      refine sg_call (less_tri _ _ _) rfl rfl (fun _ _ => ?_)
      refine sk_back (fun w hO => hO.pick [0] (by decide)) ?_
      repeat' (first | refine sk_nil ?_ | refine sk_pure rfl rfl (ps_pick_t rfl rfl) rfl ?_ | refine sk_pure_g rfl rfl rfl rfl (ps_not rfl) rfl ?_)
      refine sg_then ?_
      rw [show ((a1 : Int) - 1).toNat = a1 - 1 by omega]
      cases hnl : ltInt d3[a1 - 1]! d3[p]! with
      | true =>
        repeat' (first | refine sg_cond_f rfl ?_ | refine sg_skip ?_)
        exact ex_mid () trivial (.cons rfl (.cons rfl (.cons rfl (.cons rfl (.cons rfl (.cons rfl (.cons rfl (.cons rfl .nil)))))))) (fun w hO => hO)
      | false =>
        repeat' (first | refine sg_wo ?_ | refine sg_ps (ps_move rfl) rfl ?_ | refine sg_seq ?_ | refine sg_region ?_ | refine sg_cond_t rfl ?_)
        refine sg_call (peq_tri g d3 rest c a1 b1 p R hd3 hN hpa hpb (by omega)) rfl rfl (fun _ _ => ?_)
        obtain ⟨⟨mid, d5⟩, hx⟩ : ∃ q, partitionEqual ltInt d3 a1 b1 p = q := ⟨_, rfl⟩
        have hre := round_eq swo_ltInt (partitionEqual_holds _) ha0 hpa hpb (by omega) hB3 hnl hx
        rw [hx]
        dsimp only
        obtain ⟨e1, e2, e3, e4, e5⟩ := hre
        repeat' (first | refine sg_wo ?_ | refine sg_ps (ps_move rfl) rfl ?_ | refine sg_ps (ps_assign rfl) rfl ?_ | refine sg_seq ?_ | refine sg_region ?_ | refine sg_nil ?_ | refine sg_then ?_ | refine sg_exit ?_ | refine ex_then_exit ?_ | refine ex_block_hit ?_)
        exact ex_mid (mid, b1, lim, wb, wp, d5) (hnext wb wp mid b1 d5 (by omega) e2 (Nat.le_refl _) (by omega) (e3.trans hd3) e4 e5) (.cons rfl (.cons rfl (.cons rfl (.cons rfl (.cons rfl (.cons rfl .nil)))))) (fun w hO => hO)
    · refine sg_seq ?_
      refine sg_drawK [blk g (ucs d3 ++ rest)] [0, 1, 2, 3, 4, 5, 6, 8, 9, 10, 7, 11, 12, 13, 14] (by kernel_rfl) (by kernel_rfl) (fun w hO => hO.pick [0] (by decide)) ?_
      repeat' (first | refine sk_nil ?_ | refine sk_pure rfl rfl (ps_move rfl) rfl ?_ | refine sk_pure rfl rfl (ps_bin rfl rfl inferInstance) rfl ?_ | refine sk_pure rfl rfl (ps_pick_f rfl rfl) rfl ?_ | refine sk_no rfl rfl rfl rfl rfl ?_ | refine sk_eff rfl rfl ?_ | refine sg_guard_nf rfl rfl rfl ?_ | refine sk_back (fun w hO => hO.pick [0] (by decide)) ?_ | (refine sk_dec rfl rfl rfl rfl (fun hg => ?_) (fun hg => ?_) <;> first | (exfalso; omega) | (exact absurd rfl hg) | skip))
      repeat' (first | refine sg_then ?_ | refine sg_cond_f rfl ?_ | refine sg_skip ?_)
      exact ex_mid () trivial (.cons rfl (.cons rfl (.cons rfl (.cons rfl (.cons rfl (.cons rfl (.cons rfl (.cons rfl .nil)))))))) (fun w hO => hO)
  rintro - -
  refine sg_seq ?_
  repeat' (first | refine sg_wo ?_ | refine sg_ps (ps_move rfl) rfl ?_ | refine sg_region ?_)
  refine sg_call (part_tri g d3 rest c a1 b1 p R hd3 hN hpa hpb (by omega)) rfl rfl (fun _ _ => ?_)
  obtain ⟨⟨mid, ap, d5⟩, hx⟩ : ∃ q, partition ltInt d3 a1 b1 p = q := ⟨_, rfl⟩
  have hre := round_part swo_ltInt (partition_holds _) hpa hpb (by omega) hB3 hx
  rw [hx]
  dsimp only
  obtain ⟨e1, e2, e3, e4, e5, e6, e7⟩ := hre
  have hd5 : d5.size = N := e3.trans hd3
  by_cases hside : mid - a1 < b1 - mid
  · skip
    repeat' (first | refine sg_wo ?_ | refine sg_ps (ps_move rfl) rfl ?_ | refine sg_ps (ps_assign rfl) rfl ?_ | refine sg_seq ?_ | refine sg_region ?_ | refine sg_nil ?_ | refine sg_then ?_ | refine sg_ps (ps_sub64 rfl rfl (by omega)) rfl ?_ | refine sg_ps (ps_bin rfl rfl inferInstance) rfl ?_ | refine sg_ps (ps_quo64 rfl rfl (by decide) (by omega)) rfl ?_ | refine sg_ps (ps_extract rfl rfl) rfl ?_ | (refine sg_cond_dec rfl (fun hg => ?_) (fun hg => ?_) <;> first | (exfalso; omega) | (exact absurd rfl hg) | skip))
    refine sg_call (ih (mid - a1) (by omega) d5 a1 mid lim (Nat.le_refl _) e1 (by omega) hd5 h4 e4) rfl rfl ?_
    rintro d6 ⟨q1, q2⟩
    repeat' (first | refine sg_wo ?_ | refine sg_ps (ps_move rfl) rfl ?_ | refine sg_ps (ps_assign rfl) rfl ?_ | refine sg_region ?_ | refine sg_nil ?_ | refine sg_then ?_ | refine sg_ps (ps_add64 rfl rfl (by omega)) rfl ?_ | refine ex_block_normal ?_)
    obtain ⟨q3, q4⟩ := e6 d6 q1 q2
    exact ex_mid (mid + 1, b1, lim, _, ap, d6) (hnext true ap (mid + 1) b1 d6 (by omega) (by omega) (Nat.le_refl _) (by omega) (q1.1.trans hd5) q3 q4) (.cons rfl (.cons rfl (.cons rfl (.cons rfl (.cons rfl (.cons rfl .nil)))))) (fun w hO => hO)
  · skip
    repeat' (first | refine sg_wo ?_ | refine sg_ps (ps_move rfl) rfl ?_ | refine sg_ps (ps_assign rfl) rfl ?_ | refine sg_seq ?_ | refine sg_region ?_ | refine sg_nil ?_ | refine sg_then ?_ | refine sg_ps (ps_add64 rfl rfl (by omega)) rfl ?_ | refine sg_ps (ps_sub64 rfl rfl (by omega)) rfl ?_ | refine sg_ps (ps_bin rfl rfl inferInstance) rfl ?_ | refine sg_ps (ps_quo64 rfl rfl (by decide) (by omega)) rfl ?_ | refine sg_ps (ps_extract rfl rfl) rfl ?_ | (refine sg_cond_dec rfl (fun hg => ?_) (fun hg => ?_) <;> first | (exfalso; omega) | (exact absurd rfl hg) | skip))
    rw [show (mid : Int) + 1 = ((mid + 1 : Nat) : Int) by omega]
    refine sg_call (ih (b1 - (mid + 1)) (by omega) d5 (mid + 1) b1 lim (Nat.le_refl _) (by omega) (by omega) hd5 h4 e5) rfl rfl ?_
    rintro d6 ⟨q1, q2⟩
    repeat' (first | refine sg_wo ?_ | refine sg_ps (ps_move rfl) rfl ?_ | refine sg_ps (ps_assign rfl) rfl ?_ | refine sg_region ?_ | refine sg_nil ?_ | refine sg_then ?_ | refine ex_block_normal ?_)
    obtain ⟨q3, q4⟩ := e7 d6 q1 q2
    exact ex_mid (a1, mid, lim, _, ap, d6) (hnext true ap a1 mid d6 (Nat.le_refl _) e1 (by omega) (by omega) (q1.1.trans hd5) q3 q4) (.cons rfl (.cons rfl (.cons rfl (.cons rfl (.cons rfl (.cons rfl .nil)))))) (fun w hO => hO)
theorem sort_tri (g : Nat) (zs : List Int) (rest : List Value) (c : Nat) (R : List HP) (hN : zs.length ≤ bigN) :
    Tri Try.prog W 37 [.slice (some ⟨g, 0, none⟩) zs.length c] (blk g (zs.map (fun x => Value.int .u64 x) ++ rest) :: R) (X := Unit) (fun _ => .tuple #[]) (fun _ => True) (fun _ => blk g ((zs.mergeSort fun x y => decide (x ≤ y)).map (fun x => Value.int .u64 x) ++ rest) :: R) := by
  have hN2 := hN
  unfold bigN at hN2
  have hw : IntKind.u64.wrap (zs.length : Int) = (zs.length : Int) := wrapU (by omega)
  refine tri_enter1 Try.func37 rfl Try.ntmps37 rfl ?_
  repeat' (first | refine sg_wo ?_ | refine sg_ps (ps_move rfl) rfl ?_ | refine sg_ps (ps_assign rfl) rfl ?_ | refine sg_seq ?_ | refine sg_region ?_ | refine sg_nil ?_ | refine sg_then ?_ | refine sg_ps (ps_conv rfl) rfl ?_ | refine sg_ps (ps_len rfl) rfl ?_)
  rw [hw]
  refine sg_call (len_tri zs.length _ hN2) rfl rfl (fun _ _ => ?_)
  have hbl := bitsLen_le hN2
  repeat' (first | refine sg_wo ?_)
  have hs : zs.toArray.size = zs.length := by simp
  refine sg_call ((pdq_tri (N := zs.length) g rest c R hN zs.length zs.toArray 0 zs.length (bitsLen zs.length) (by omega) (by omega) (Nat.le_refl _) hs (by omega) (.inl rfl)).pre (fun w hO => by rw [ucs_eq]; exact hO)) rfl rfl ?_
  rintro d ⟨h1, h2⟩
  have he : d.toList = zs.mergeSort fun x y => decide (x ≤ y) := by
    have hu := sorted_unique_holds (lt := ltInt) swo_ltInt (fun x y hx hy => by unfold ltInt at hx hy; simp at hx hy; omega) zs.toArray d (by rw [hs]; exact h1) (by rw [hs]; exact h2)
    rw [hu]
    congr 1
    funext x y
    unfold ltInt
    by_cases hxy : x ≤ y
    · simp only [hxy, decide_true]
      rw [decide_eq_false (by omega)]; rfl
    · simp only [hxy, decide_false]
      rw [decide_eq_true (by omega)]; rfl
  repeat' (first | refine sg_nil ?_)
  refine ex_end0 rfl () rfl trivial (fun w hO => ?_)
  rw [← he, ← ucs_eq]
  exact hO
end Go.Proofs.Ytclehoaeppbmpaa
namespace Go.Proofs.Ytclehoaeppbmpaa
set_option linter.unusedVariables false
set_option linter.unusedSimpArgs false
set_option linter.unusedSectionVars false
set_option linter.unnecessarySimpa false
open Go Go.Proofs Go.Sort
abbrev sortL (zs : List Int) : List Int := zs.mergeSort fun x y => decide (x ≤ y)
set_option maxRecDepth 20000
set_option maxHeartbeats 4000000
attribute [local irreducible] SG WC WO W1 WD WK PS Rd Tri Exit.then Exit.inBlock bodyPost calmQ Mid sadd
variable {W : World} {n : Nat} {F : Fr} {L : List HP} {G : Act → World → Prop}
theorem ins_nil (R : List HP) : Tri Try.prog W 51 [.slice none 0 0, i64 0, i64 0] R (X := Unit) (fun _ => .tuple #[]) (fun _ => True) (fun _ => R) := by
  refine tri_enter3 Try.func51 rfl Try.ntmps51 rfl ?_
  repeat' (first | refine sg_wo ?_ | refine sg_ps (ps_move rfl) rfl ?_ | refine sg_ps (ps_assign rfl) rfl ?_ | refine sg_seq ?_ | refine sg_region ?_ | refine sg_nil ?_ | refine sg_then ?_ | refine sg_ps (ps_add64 rfl rfl (by omega)) rfl ?_ | refine sg_block ?_)
  refine sg_loop (γ := Unit) (fun _ => True) (fun _ => [(2, i64 0), (6, i64 1)]) (fun _ => R) (fun _ => 0) () trivial (.cons rfl (.cons rfl .nil)) (fun w hO => hO) ?_
  rintro - -
  repeat' (first | refine sg_wo ?_ | refine sg_ps (ps_move rfl) rfl ?_ | refine sg_seq ?_ | refine sg_region ?_ | refine sg_nil ?_ | refine sg_then ?_ | refine sg_ps (ps_bin rfl rfl inferInstance) rfl ?_ | refine sg_cond_f rfl ?_ | refine sg_exit ?_ | refine ex_then_exit ?_ | refine ex_block_hit ?_)
  exact ex_end0 rfl () rfl trivial (fun w hO => hO)
theorem pdq_nil (R : List HP) : Tri Try.prog W 48 [.slice none 0 0, i64 0, i64 0, i64 0] R (X := Unit) (fun _ => .tuple #[]) (fun _ => True) (fun _ => R) := by
  refine tri_enter4 Try.func48 rfl Try.ntmps48 rfl ?_
  repeat' (first | refine sg_wo ?_ | refine sg_ps (ps_assign rfl) rfl ?_ | refine sg_seq ?_ | refine sg_region ?_ | refine sg_nil ?_ | refine sg_then ?_ | refine sg_block ?_)
  refine sg_loop (γ := Unit) (fun _ => True) (fun _ => [(0, .slice none 0 0), (1, i64 0), (2, i64 0)]) (fun _ => R) (fun _ => 0) () trivial (.cons rfl (.cons rfl (.cons rfl .nil))) (fun w hO => hO) ?_
  rintro - -
  repeat' (first | refine sg_wo ?_ | refine sg_ps (ps_move rfl) rfl ?_ | refine sg_ps (ps_assign rfl) rfl ?_ | refine sg_seq ?_ | refine sg_region ?_ | refine sg_nil ?_ | refine sg_then ?_ | refine sg_ps (ps_sub64 rfl rfl (by omega)) rfl ?_ | refine sg_ps (ps_bin rfl rfl inferInstance) rfl ?_ | refine sg_cond_t rfl ?_ | refine sg_block ?_)
  refine sg_call (ins_nil R) rfl rfl (fun _ _ => ?_)
  repeat' (first | refine sg_nil ?_ | refine sg_then ?_ | refine sg_ret ?_ | refine ex_then_ret ?_ | refine ex_block_ret ?_)
  exact ex_ret0 rfl () rfl trivial (fun w hO => hO)
theorem sort_nil (R : List HP) : Tri Try.prog W 37 [.slice none 0 0] R (X := Unit) (fun _ => .tuple #[]) (fun _ => True) (fun _ => R) := by
  refine tri_enter1 Try.func37 rfl Try.ntmps37 rfl ?_
  repeat' (first | refine sg_wo ?_ | refine sg_ps (ps_move rfl) rfl ?_ | refine sg_ps (ps_assign rfl) rfl ?_ | refine sg_seq ?_ | refine sg_region ?_ | refine sg_nil ?_ | refine sg_then ?_ | refine sg_ps (ps_conv rfl) rfl ?_ | refine sg_ps (ps_len rfl) rfl ?_)
  rw [show IntKind.u64.wrap ((0 : Nat) : Int) = ((0 : Nat) : Int) from rfl]
  refine sg_call (len_tri 0 _ (by omega)) rfl rfl (fun _ _ => ?_)
  rw [show bitsLen 0 = 0 from rfl]
  repeat' (first | refine sg_wo ?_)
  refine sg_call (pdq_nil R) rfl rfl (fun _ _ => ?_)
  repeat' (first | refine sg_nil ?_)
  exact ex_end0 rfl () rfl trivial (fun w hO => hO)
theorem sortL_len (zs : List Int) : (sortL zs).length = zs.length := List.length_mergeSort zs
/-- Any slice of the call's own is sorted in its place. -/
theorem sorts_tri (a : Option Addr) (zs : List Int) (c : Nat) (R : List HP) (hN : zs.length ≤ bigN) :
    Tri Try.prog W 37 [.slice a zs.length c] (sown a zs.length c 1 (zs.map fun x => Value.int .u64 x) :: R) (X := Unit) (fun _ => .tuple #[]) (fun _ => True) (fun _ => sown a zs.length c 1 ((sortL zs).map fun x => Value.int .u64 x) :: R) := by
  unfold Tri
  intro w hO
  obtain ⟨h, K, ⟨hl, hx⟩, hs, hK, hS, hd⟩ := hO.uncons
  rcases hx with ⟨rfl, h2, rfl⟩ | ⟨g, cur, T, fz, rfl, hn, hc, hcl, htk, hfz, rfl⟩
  · have hz : zs = [] := List.eq_nil_of_length_eq_zero h2
    subst hz
    have ht := sort_nil (W := W) (sown none ([] : List Int).length 0 1 (([] : List Int).map fun x => Value.int .u64 x) :: R)
    unfold Tri at ht
    refine (ht w hO).mono ?_
    rintro e w' ⟨x, rfl, hφ, hO'⟩
    exact ⟨(), rfl, trivial, by simpa [sortL] using hO'⟩
  · have hO2 : Own W w (blk g (zs.map (fun x => Value.int .u64 x) ++ cur.drop zs.length) :: R) := by
      have e1 : zs.map (fun x => Value.int .u64 x) ++ cur.drop zs.length = cur := by
        rw [← htk, Nat.mul_one, List.take_append_drop]
      rw [e1]
      exact .cons hO.os hO.tape hO.output ⟨T, fz, hfz, rfl⟩ hs hK hS hd
    have ht := sort_tri (W := W) g zs (cur.drop zs.length) c R hN
    unfold Tri at ht
    refine (ht w hO2).mono ?_
    rintro e w' ⟨x, rfl, hφ, hO'⟩
    refine ⟨(), rfl, trivial, own_mk hO' hn hc ?_ ?_⟩
    · rw [List.length_append, List.length_map, List.length_drop]
      have := sortL_len zs
      unfold sortL at this
      rw [this]; rw [Nat.mul_one] at hcl ⊢; omega
    · rw [Nat.mul_one]
      have := sortL_len zs
      rw [List.take_append_of_le_length (by rw [List.length_map]; unfold sortL at this; omega), List.take_of_length_le (by rw [List.length_map]; unfold sortL at this; omega)]
end Go.Proofs.Ytclehoaeppbmpaa
