/- Package msg: Add. -/
import Derived.Test.YtlafdffjkdiigaaMG
namespace Go.Proofs.Ytlafdffjkdiigaa
set_option linter.unusedVariables false
set_option linter.unusedSimpArgs false
set_option linter.unusedSectionVars false
set_option linter.unnecessarySimpa false
open Go Go.Proofs
set_option maxRecDepth 20000
set_option maxHeartbeats 4000000
attribute [local irreducible] SG WC WO W1 WD WK PS Rd Tri Exit.then Exit.inBlock bodyPost calmQ Mid sadd
variable {W : World} {n : Nat} {F : Fr} {L : List HP} {G : Act → World → Prop}
theorem conv8 (x : Nat) : Value.int .u8 (IntKind.u8.wrap (x : Int)) = bv (UInt8.ofNat x) := by
  rw [wrap_u _ rfl, bv_ofNat]; rfl
theorem u64_shl8 (x : Nat) (h : x < 2 ^ 56) : IntKind.u64.wrap ((x : Int) * 2 ^ min (Int.toNat 8) IntKind.u64.bits) = ((x * 256 : Nat) : Int) := by
  have e : ((x : Int) * 2 ^ min (Int.toNat 8) IntKind.u64.bits) = ((x * 256 : Nat) : Int) := by
    rw [Int.natCast_mul]; rfl
  rw [e, wrap_u _ rfl, Nat.mod_eq_of_lt]
  show x * 256 < 2 ^ 64
  omega
theorem u64_or8 (x y : Nat) (h : x < 2 ^ 56) (hy : y < 256) : IntKind.u64.wrap ((BitVec.ofInt IntKind.u64.bits ((x * 256 : Nat) : Int) ||| BitVec.ofInt IntKind.u64.bits (y : Int)).toNat : Int) = ((x * 256 + y : Nat) : Int) := by
  have e : (BitVec.ofInt IntKind.u64.bits ((x * 256 : Nat) : Int) ||| BitVec.ofInt IntKind.u64.bits (y : Int)).toNat = x * 256 + y := by
    show (BitVec.ofInt 64 ((x * 256 : Nat) : Int) ||| BitVec.ofInt 64 (y : Int)).toNat = x * 256 + y
    rw [BitVec.ofInt_natCast, BitVec.ofInt_natCast, BitVec.toNat_or, BitVec.toNat_ofNat, BitVec.toNat_ofNat, Nat.mod_eq_of_lt (by omega), Nat.mod_eq_of_lt (by omega)]
    have := Nat.two_pow_add_eq_or_of_lt (i := 8) (b := y) (by omega) x
    rw [show 2 ^ 8 * x = x * 256 by omega] at this
    exact this.symm
  rw [e, wrap_u _ rfl, Nat.mod_eq_of_lt]
  show x * 256 + y < 2 ^ 64
  omega
theorem u64_u8 (b : UInt8) : IntKind.u64.wrap (b.toNat : Int) = ((b.toNat : Nat) : Int) := by
  have := b.toNat_lt
  rw [wrap_u _ rfl, Nat.mod_eq_of_lt]
  show b.toNat < 2 ^ 64
  omega
/-- The eight bytes from o on, x added to their number. -/
def addAt (bs : List UInt8) (o x : Nat) : List UInt8 := bs.take o ++ (be 8 (unbe ((bs.drop o).take 8) + x) ++ bs.drop (o + 8))
def ST.add (s : ST) (m : MS) : ST := if s.has = false ∨ m.off < 0 ∨ m.off > (s.val.length : Int) - 8 then s else ⟨true, addAt s.val m.off.toNat m.num⟩
theorem take_set (l r : List Value) (k : Nat) (v : Value) (h : k < l.length) : (l.take (k + 1) ++ r).set k v = l.take k ++ (v :: r) := by
  rw [List.take_add_one, List.getElem?_eq_getElem h, Option.toList_some, List.append_assoc, List.set_append_right _ _ (by rw [List.length_take]; omega)]
  simp [Nat.min_eq_left (Nat.le_of_lt h)]
theorem sadd_pos (g o c k : Nat) (h : c ≠ k) : sadd (some ⟨g, o, none⟩) c k = some ⟨g, o + k, none⟩ := by
  unfold sadd
  rw [if_neg h]; simp [addr_add]
def putCells (cur : List Value) (o X j : Nat) : List Value := cur.take (o + 8 - j) ++ ((be j X).map bv ++ cur.drop (o + 8))
theorem putCells_step (cur : List Value) (o X j : Nat) (h : o + 8 ≤ cur.length) (hj : j < 8) : (putCells cur o X j).set (o + (7 - j)) (bv (UInt8.ofNat (X / 256 ^ j))) = putCells cur o X (j + 1) := by
  unfold putCells
  rw [show o + 8 - j = (o + (7 - j)) + 1 by omega, take_set _ _ _ _ (by omega), show o + 8 - (j + 1) = o + (7 - j) by omega]
  have := be_add 1 j X
  rw [Nat.add_comm 1 j] at this
  rw [← this]
  simp [be]
theorem putCells_len (cur : List Value) (o X j : Nat) (h : o + 8 ≤ cur.length) (hj : j ≤ 8) : (putCells cur o X j).length = cur.length := by
  unfold putCells
  simp; omega
theorem putCells_end (bs : List UInt8) (rest : List Value) (o x : Nat) (h : o + 8 ≤ bs.length) :
    putCells (bs.map bv ++ rest) o ((unbe ((bs.drop o).take 8) + x) % 2 ^ 64) 8 = (addAt bs o x).map bv ++ rest := by
  have e1 : (bs.map bv ++ rest).take o = (bs.take o).map bv := by rw [List.take_append_of_le_length (by simp; omega), List.map_take]
  have e2 : (bs.map bv ++ rest).drop (o + 8) = (bs.drop (o + 8)).map bv ++ rest := by rw [List.drop_append_of_le_length (by simp; omega), List.map_drop]
  have e3 := be_mod 8 (unbe ((bs.drop o).take 8) + x)
  unfold putCells addAt
  rw [show o + 8 - 8 = o by omega, e1, e2, show (2 : Nat) ^ 64 = 256 ^ 8 by decide, e3]
  simp
theorem cells_pre {xs : List UInt8} {rest : List Value} : ∀ (j : Nat) (u : Value), (xs.map bv)[j]? = some u → (xs.map bv ++ rest)[0 + j]? = some u := by
  intro j u hj
  rw [Nat.zero_add, List.getElem?_append_left (List.getElem?_eq_some_iff.1 hj).1]; exact hj
theorem add_tri (s : ST) (m : MS) (hs : s.val.length ≤ 140737488355328) (hm : m.off ≤ 9223372036854775807) (R : List HP) : Tri Try.prog W 19 [s.v, m.v] R (X := Unit) (fun _ => (s.add m).v) (fun _ => True) (fun _ => R) := by
  have hsz := strOf_size s.val
  refine tri_enter2 Try.func19 rfl Try.ntmps19 rfl ?_
  repeat' (first
    | refine sg_wo ?_
    | refine sg_ps (ps_move rfl) rfl ?_
    | refine sg_ps (ps_assign rfl) rfl ?_
    | refine sg_seq ?_
    | refine sg_region ?_
    | refine sg_nil ?_
    | refine sg_then ?_
    | refine sg_ps (ps_fieldAddr rfl) rfl ?_
    | refine sg_ps (ps_nilCheck rfl) rfl ?_
    | refine sg_load 0 rfl rfl rfl rfl ?_
    | refine sg_load 1 rfl rfl rfl rfl ?_
    | refine sg_load 2 rfl rfl rfl rfl ?_
    | refine sg_load 3 rfl rfl rfl rfl ?_
    | refine sg_load 4 rfl rfl rfl rfl ?_
    | refine sg_load 5 rfl rfl rfl rfl ?_
    | refine sg_load 6 rfl rfl rfl rfl ?_
    | refine sg_load 7 rfl rfl rfl rfl ?_
    | refine sg_ps (ps_add64 rfl rfl (by omega)) rfl ?_
    | refine sg_ps (ps_sub64 rfl rfl (by omega)) rfl ?_
    | refine sg_ps (ps_mul64 rfl rfl (by omega)) rfl ?_
    | refine sg_ps (ps_bin rfl rfl inferInstance) rfl ?_
    | refine sg_ps (ps_rem rfl rfl (by decide)) rfl ?_
    | refine sg_ps (ps_quo64 rfl rfl (by decide) (by omega)) rfl ?_
    | refine sg_ps (ps_not rfl) rfl ?_
    | refine sg_ps (ps_conv rfl) rfl ?_
    | refine sg_ps (ps_shl rfl rfl (by decide) rfl) rfl ?_
    | refine sg_ps (ps_shr rfl rfl (by decide) rfl) rfl ?_
    | refine sg_cond_t rfl ?_
    | refine sg_cond_f rfl ?_
    | refine sg_guard_yes rfl rfl ?_
    | refine sg_guard_nf rfl rfl rfl ?_
    | refine sg_guard_nt rfl rfl rfl ?_
    | refine sg_guard_nu rfl rfl rfl ?_
    | refine sg_ps (ps_pick_t rfl rfl) rfl ?_
    | refine sg_ps (ps_pick_f rfl rfl) rfl ?_
    | refine sg_ps (ps_len rfl) rfl ?_
    | refine sg_ps (ps_len_str rfl) rfl ?_
    | refine sg_ps (ps_extract rfl rfl) rfl ?_
    | refine sg_ps (ps_field rfl rfl) rfl ?_
    | refine sg_ps (ps_min2 rfl rfl) rfl ?_
    | refine sg_ps (ps_max2 rfl rfl) rfl ?_
    | refine sg_ps (ps_build rfl rfl) rfl ?_
    | refine sg_box rfl rfl (fun bx => ?_)
    | refine sg_ps (ps_indexAddr rfl rfl rfl (by omega)) rfl ?_
    | refine sg_ps (ps_indexAddr (j := 0) rfl rfl rfl (by omega)) rfl ?_
    | refine sg_ps (ps_indexAddr (j := 1) rfl rfl rfl (by omega)) rfl ?_
    | refine sg_ps (ps_indexAddr_arr rfl rfl rfl (by omega)) rfl ?_
    | refine sg_load_whole 0 rfl rfl rfl rfl ?_
    | refine sg_load_whole 1 rfl rfl rfl rfl ?_
    | refine sg_load_whole 2 rfl rfl rfl rfl ?_
    | refine sg_load_whole 3 rfl rfl rfl rfl ?_
    | refine sg_load_whole 4 rfl rfl rfl rfl ?_
    | refine sg_load_whole 5 rfl rfl rfl rfl ?_
    | refine sg_load_whole 6 rfl rfl rfl rfl ?_
    | refine sg_load_whole 7 rfl rfl rfl rfl ?_
    | refine sg_store_whole [] rfl rfl rfl rfl rfl ?_
    | refine sg_store_whole [_] rfl rfl rfl rfl rfl ?_
    | refine sg_store_whole [_, _] rfl rfl rfl rfl rfl ?_
    | refine sg_store_whole [_, _, _] rfl rfl rfl rfl rfl ?_
    | refine sg_store_whole [_, _, _, _] rfl rfl rfl rfl rfl ?_
    | refine sg_store_whole [_, _, _, _, _] rfl rfl rfl rfl rfl ?_
    | refine sg_store_whole [_, _, _, _, _, _] rfl rfl rfl rfl rfl ?_
    | refine sg_alloc rfl (fun al => ?_)
    | refine sg_block ?_
    | refine sg_skip ?_
    | refine sg_ret ?_
    | refine sg_exit ?_
    | refine ex_then_ret ?_
    | refine ex_then_exit ?_
    | refine ex_block_ret ?_
    | refine ex_block_normal ?_
    | refine ex_block_hit ?_
    | refine ex_block_miss rfl ?_
    | refine sg_store [] rfl rfl rfl (of_decide_eq_true rfl) ?_
    | refine sg_store [_] rfl rfl rfl (of_decide_eq_true rfl) ?_
    | refine sg_store [_, _] rfl rfl rfl (of_decide_eq_true rfl) ?_
    | refine sg_store [_, _, _] rfl rfl rfl (of_decide_eq_true rfl) ?_
    | refine sg_store [_, _, _, _] rfl rfl rfl (of_decide_eq_true rfl) ?_
    | refine sg_store [_, _, _, _, _] rfl rfl rfl (of_decide_eq_true rfl) ?_
    | refine sg_store [_, _, _, _, _, _] rfl rfl rfl (of_decide_eq_true rfl) ?_
    | refine sg_store [_, _, _, _, _, _, _] rfl rfl rfl (of_decide_eq_true rfl) ?_
    | (refine sg_guard_dec rfl rfl (fun hg => ?_) (fun hg => ?_) <;> first | (exfalso; omega) | (exact absurd rfl hg) | skip)
    | (refine sg_guard_ndec rfl rfl (fun hg => ?_) (fun hg => ?_) <;> first | (exfalso; omega) | (exact absurd rfl hg) | skip)
    | (refine sg_cond_dec rfl (fun hg => ?_) (fun hg => ?_) <;> first | (exfalso; omega) | (exact absurd rfl hg) | skip)
    | (refine sg_cond_ndec rfl (fun hg => ?_) (fun hg => ?_) <;> first | (exfalso; omega) | (exact absurd rfl hg) | skip)
    | refine sg_cond_not rfl (fun hg => ?_) (fun hg => ?_)
    | refine sg_cond rfl (fun hg => ?_) (fun hg => ?_))
  rename_i b0
  refine sg_know 14 rfl (fun h => ?_) (fun h => ?_)
  · have e : s.add m = s := if_pos (.inl (by simpa using h))
    rw [e]
    repeat' (first
      | refine sg_wo ?_
      | refine sg_ps (ps_move rfl) rfl ?_
      | refine sg_ps (ps_assign rfl) rfl ?_
      | refine sg_seq ?_
      | refine sg_region ?_
      | refine sg_nil ?_
      | refine sg_then ?_
      | refine sg_ps (ps_fieldAddr rfl) rfl ?_
      | refine sg_ps (ps_nilCheck rfl) rfl ?_
      | refine sg_load 0 rfl rfl rfl rfl ?_
      | refine sg_load 1 rfl rfl rfl rfl ?_
      | refine sg_load 2 rfl rfl rfl rfl ?_
      | refine sg_load 3 rfl rfl rfl rfl ?_
      | refine sg_load 4 rfl rfl rfl rfl ?_
      | refine sg_load 5 rfl rfl rfl rfl ?_
      | refine sg_load 6 rfl rfl rfl rfl ?_
      | refine sg_load 7 rfl rfl rfl rfl ?_
      | refine sg_ps (ps_add64 rfl rfl (by omega)) rfl ?_
      | refine sg_ps (ps_sub64 rfl rfl (by omega)) rfl ?_
      | refine sg_ps (ps_mul64 rfl rfl (by omega)) rfl ?_
      | refine sg_ps (ps_bin rfl rfl inferInstance) rfl ?_
      | refine sg_ps (ps_rem rfl rfl (by decide)) rfl ?_
      | refine sg_ps (ps_quo64 rfl rfl (by decide) (by omega)) rfl ?_
      | refine sg_ps (ps_not rfl) rfl ?_
      | refine sg_ps (ps_conv rfl) rfl ?_
      | refine sg_ps (ps_shl rfl rfl (by decide) rfl) rfl ?_
      | refine sg_ps (ps_shr rfl rfl (by decide) rfl) rfl ?_
      | refine sg_cond_t rfl ?_
      | refine sg_cond_f rfl ?_
      | refine sg_guard_yes rfl rfl ?_
      | refine sg_guard_nf rfl rfl rfl ?_
      | refine sg_guard_nt rfl rfl rfl ?_
      | refine sg_guard_nu rfl rfl rfl ?_
      | refine sg_ps (ps_pick_t rfl rfl) rfl ?_
      | refine sg_ps (ps_pick_f rfl rfl) rfl ?_
      | refine sg_ps (ps_len rfl) rfl ?_
      | refine sg_ps (ps_len_str rfl) rfl ?_
      | refine sg_ps (ps_extract rfl rfl) rfl ?_
      | refine sg_ps (ps_field rfl rfl) rfl ?_
      | refine sg_ps (ps_min2 rfl rfl) rfl ?_
      | refine sg_ps (ps_max2 rfl rfl) rfl ?_
      | refine sg_ps (ps_build rfl rfl) rfl ?_
      | refine sg_box rfl rfl (fun bx => ?_)
      | refine sg_ps (ps_indexAddr rfl rfl rfl (by omega)) rfl ?_
      | refine sg_ps (ps_indexAddr (j := 0) rfl rfl rfl (by omega)) rfl ?_
      | refine sg_ps (ps_indexAddr (j := 1) rfl rfl rfl (by omega)) rfl ?_
      | refine sg_ps (ps_indexAddr_arr rfl rfl rfl (by omega)) rfl ?_
      | refine sg_load_whole 0 rfl rfl rfl rfl ?_
      | refine sg_load_whole 1 rfl rfl rfl rfl ?_
      | refine sg_load_whole 2 rfl rfl rfl rfl ?_
      | refine sg_load_whole 3 rfl rfl rfl rfl ?_
      | refine sg_load_whole 4 rfl rfl rfl rfl ?_
      | refine sg_load_whole 5 rfl rfl rfl rfl ?_
      | refine sg_load_whole 6 rfl rfl rfl rfl ?_
      | refine sg_load_whole 7 rfl rfl rfl rfl ?_
      | refine sg_store_whole [] rfl rfl rfl rfl rfl ?_
      | refine sg_store_whole [_] rfl rfl rfl rfl rfl ?_
      | refine sg_store_whole [_, _] rfl rfl rfl rfl rfl ?_
      | refine sg_store_whole [_, _, _] rfl rfl rfl rfl rfl ?_
      | refine sg_store_whole [_, _, _, _] rfl rfl rfl rfl rfl ?_
      | refine sg_store_whole [_, _, _, _, _] rfl rfl rfl rfl rfl ?_
      | refine sg_store_whole [_, _, _, _, _, _] rfl rfl rfl rfl rfl ?_
      | refine sg_alloc rfl (fun al => ?_)
      | refine sg_block ?_
      | refine sg_skip ?_
      | refine sg_ret ?_
      | refine sg_exit ?_
      | refine ex_then_ret ?_
      | refine ex_then_exit ?_
      | refine ex_block_ret ?_
      | refine ex_block_normal ?_
      | refine ex_block_hit ?_
      | refine ex_block_miss rfl ?_
      | refine sg_store [] rfl rfl rfl (of_decide_eq_true rfl) ?_
      | refine sg_store [_] rfl rfl rfl (of_decide_eq_true rfl) ?_
      | refine sg_store [_, _] rfl rfl rfl (of_decide_eq_true rfl) ?_
      | refine sg_store [_, _, _] rfl rfl rfl (of_decide_eq_true rfl) ?_
      | refine sg_store [_, _, _, _] rfl rfl rfl (of_decide_eq_true rfl) ?_
      | refine sg_store [_, _, _, _, _] rfl rfl rfl (of_decide_eq_true rfl) ?_
      | refine sg_store [_, _, _, _, _, _] rfl rfl rfl (of_decide_eq_true rfl) ?_
      | refine sg_store [_, _, _, _, _, _, _] rfl rfl rfl (of_decide_eq_true rfl) ?_
      | (refine sg_guard_dec rfl rfl (fun hg => ?_) (fun hg => ?_) <;> first | (exfalso; omega) | (exact absurd rfl hg) | skip)
      | (refine sg_guard_ndec rfl rfl (fun hg => ?_) (fun hg => ?_) <;> first | (exfalso; omega) | (exact absurd rfl hg) | skip)
      | (refine sg_cond_dec rfl (fun hg => ?_) (fun hg => ?_) <;> first | (exfalso; omega) | (exact absurd rfl hg) | skip)
      | (refine sg_cond_ndec rfl (fun hg => ?_) (fun hg => ?_) <;> first | (exfalso; omega) | (exact absurd rfl hg) | skip)
      | refine sg_cond_not rfl (fun hg => ?_) (fun hg => ?_)
      | refine sg_cond rfl (fun hg => ?_) (fun hg => ?_))
    exact ex_retc 0 rfl rfl rfl rfl () rfl trivial (fun w hO => hO.tail.tail.tail)
  · have hh : s.has = true := by simpa using h
    repeat' (first
      | refine sg_wo ?_
      | refine sg_ps (ps_move rfl) rfl ?_
      | refine sg_ps (ps_assign rfl) rfl ?_
      | refine sg_seq ?_
      | refine sg_region ?_
      | refine sg_nil ?_
      | refine sg_then ?_
      | refine sg_ps (ps_fieldAddr rfl) rfl ?_
      | refine sg_ps (ps_nilCheck rfl) rfl ?_
      | refine sg_load 0 rfl rfl rfl rfl ?_
      | refine sg_load 1 rfl rfl rfl rfl ?_
      | refine sg_load 2 rfl rfl rfl rfl ?_
      | refine sg_load 3 rfl rfl rfl rfl ?_
      | refine sg_load 4 rfl rfl rfl rfl ?_
      | refine sg_load 5 rfl rfl rfl rfl ?_
      | refine sg_load 6 rfl rfl rfl rfl ?_
      | refine sg_load 7 rfl rfl rfl rfl ?_
      | refine sg_ps (ps_add64 rfl rfl (by omega)) rfl ?_
      | refine sg_ps (ps_sub64 rfl rfl (by omega)) rfl ?_
      | refine sg_ps (ps_mul64 rfl rfl (by omega)) rfl ?_
      | refine sg_ps (ps_bin rfl rfl inferInstance) rfl ?_
      | refine sg_ps (ps_rem rfl rfl (by decide)) rfl ?_
      | refine sg_ps (ps_quo64 rfl rfl (by decide) (by omega)) rfl ?_
      | refine sg_ps (ps_not rfl) rfl ?_
      | refine sg_ps (ps_conv rfl) rfl ?_
      | refine sg_ps (ps_shl rfl rfl (by decide) rfl) rfl ?_
      | refine sg_ps (ps_shr rfl rfl (by decide) rfl) rfl ?_
      | refine sg_cond_t rfl ?_
      | refine sg_cond_f rfl ?_
      | refine sg_guard_yes rfl rfl ?_
      | refine sg_guard_nf rfl rfl rfl ?_
      | refine sg_guard_nt rfl rfl rfl ?_
      | refine sg_guard_nu rfl rfl rfl ?_
      | refine sg_ps (ps_pick_t rfl rfl) rfl ?_
      | refine sg_ps (ps_pick_f rfl rfl) rfl ?_
      | refine sg_ps (ps_len rfl) rfl ?_
      | refine sg_ps (ps_len_str rfl) rfl ?_
      | refine sg_ps (ps_extract rfl rfl) rfl ?_
      | refine sg_ps (ps_field rfl rfl) rfl ?_
      | refine sg_ps (ps_min2 rfl rfl) rfl ?_
      | refine sg_ps (ps_max2 rfl rfl) rfl ?_
      | refine sg_ps (ps_build rfl rfl) rfl ?_
      | refine sg_box rfl rfl (fun bx => ?_)
      | refine sg_ps (ps_indexAddr rfl rfl rfl (by omega)) rfl ?_
      | refine sg_ps (ps_indexAddr (j := 0) rfl rfl rfl (by omega)) rfl ?_
      | refine sg_ps (ps_indexAddr (j := 1) rfl rfl rfl (by omega)) rfl ?_
      | refine sg_ps (ps_indexAddr_arr rfl rfl rfl (by omega)) rfl ?_
      | refine sg_load_whole 0 rfl rfl rfl rfl ?_
      | refine sg_load_whole 1 rfl rfl rfl rfl ?_
      | refine sg_load_whole 2 rfl rfl rfl rfl ?_
      | refine sg_load_whole 3 rfl rfl rfl rfl ?_
      | refine sg_load_whole 4 rfl rfl rfl rfl ?_
      | refine sg_load_whole 5 rfl rfl rfl rfl ?_
      | refine sg_load_whole 6 rfl rfl rfl rfl ?_
      | refine sg_load_whole 7 rfl rfl rfl rfl ?_
      | refine sg_store_whole [] rfl rfl rfl rfl rfl ?_
      | refine sg_store_whole [_] rfl rfl rfl rfl rfl ?_
      | refine sg_store_whole [_, _] rfl rfl rfl rfl rfl ?_
      | refine sg_store_whole [_, _, _] rfl rfl rfl rfl rfl ?_
      | refine sg_store_whole [_, _, _, _] rfl rfl rfl rfl rfl ?_
      | refine sg_store_whole [_, _, _, _, _] rfl rfl rfl rfl rfl ?_
      | refine sg_store_whole [_, _, _, _, _, _] rfl rfl rfl rfl rfl ?_
      | refine sg_alloc rfl (fun al => ?_)
      | refine sg_block ?_
      | refine sg_skip ?_
      | refine sg_ret ?_
      | refine sg_exit ?_
      | refine ex_then_ret ?_
      | refine ex_then_exit ?_
      | refine ex_block_ret ?_
      | refine ex_block_normal ?_
      | refine ex_block_hit ?_
      | refine ex_block_miss rfl ?_
      | refine sg_store [] rfl rfl rfl (of_decide_eq_true rfl) ?_
      | refine sg_store [_] rfl rfl rfl (of_decide_eq_true rfl) ?_
      | refine sg_store [_, _] rfl rfl rfl (of_decide_eq_true rfl) ?_
      | refine sg_store [_, _, _] rfl rfl rfl (of_decide_eq_true rfl) ?_
      | refine sg_store [_, _, _, _] rfl rfl rfl (of_decide_eq_true rfl) ?_
      | refine sg_store [_, _, _, _, _] rfl rfl rfl (of_decide_eq_true rfl) ?_
      | refine sg_store [_, _, _, _, _, _] rfl rfl rfl (of_decide_eq_true rfl) ?_
      | refine sg_store [_, _, _, _, _, _, _] rfl rfl rfl (of_decide_eq_true rfl) ?_
      | (refine sg_guard_dec rfl rfl (fun hg => ?_) (fun hg => ?_) <;> first | (exfalso; omega) | (exact absurd rfl hg) | skip)
      | (refine sg_guard_ndec rfl rfl (fun hg => ?_) (fun hg => ?_) <;> first | (exfalso; omega) | (exact absurd rfl hg) | skip)
      | (refine sg_cond_dec rfl (fun hg => ?_) (fun hg => ?_) <;> first | (exfalso; omega) | (exact absurd rfl hg) | skip)
      | (refine sg_cond_ndec rfl (fun hg => ?_) (fun hg => ?_) <;> first | (exfalso; omega) | (exact absurd rfl hg) | skip)
      | refine sg_cond_not rfl (fun hg => ?_) (fun hg => ?_)
      | refine sg_cond rfl (fun hg => ?_) (fun hg => ?_))
    · have e : s.add m = s := if_pos (.inr (.inl (by omega)))
      rw [e]
      exact ex_retc 0 rfl rfl rfl rfl () rfl trivial (fun w hO => hO.tail.tail.tail)
    · have e : s.add m = s := if_pos (.inr (.inr (by omega)))
      rw [e]
      exact ex_retc 0 rfl rfl rfl rfl () rfl trivial (fun w hO => hO.tail.tail.tail)
    · obtain ⟨o, ho⟩ : ∃ o : Nat, m.off = (o : Int) := ⟨m.off.toNat, by omega⟩
      have hol : o + 8 ≤ s.val.length := by omega
      have e : s.add m = ⟨true, addAt s.val o m.num⟩ := by
        unfold ST.add
        rw [if_neg (by rw [hh]; simp; omega), ho]; rfl
      rw [e]
      refine sg_bytes_of_str (u := .bool) rfl rfl (by rw [hsz]; simp only [maxLen]; omega) (fun g0 c => ?_)
      refine sg_open (fun w hO => own_block (by omega) hO) ?_
      rintro ⟨g, cur⟩ ⟨hg0, h3, h4, h5, h6⟩
      dsimp only at hg0 h3 h4 h5 h6 ⊢
      simp only [Option.some.injEq, Addr.mk.injEq, and_true] at hg0
      subst hg0
      rw [hsz] at h3 h6 ⊢
      obtain ⟨rest, hrest⟩ : ∃ rest, cur = s.val.map bv ++ rest := ⟨cur.drop (s.val.length * 1), by rw [← List.take_append_drop (s.val.length * 1) cur, h6]; simp [strOf]⟩
      subst hrest
      have hcl : o + 8 ≤ (s.val.map bv ++ rest).length := by simp; omega
      clear h6
      repeat' (first
        | refine sg_wo ?_
        | refine sg_ps (ps_move rfl) rfl ?_
        | refine sg_ps (ps_assign rfl) rfl ?_
        | refine sg_seq ?_
        | refine sg_region ?_
        | refine sg_nil ?_
        | refine sg_then ?_
        | refine sg_ps (ps_fieldAddr rfl) rfl ?_
        | refine sg_ps (ps_nilCheck rfl) rfl ?_
        | refine sg_load 0 rfl rfl rfl rfl ?_
        | refine sg_load 1 rfl rfl rfl rfl ?_
        | refine sg_load 2 rfl rfl rfl rfl ?_
        | refine sg_load 3 rfl rfl rfl rfl ?_
        | refine sg_load 4 rfl rfl rfl rfl ?_
        | refine sg_load 5 rfl rfl rfl rfl ?_
        | refine sg_load 6 rfl rfl rfl rfl ?_
        | refine sg_load 7 rfl rfl rfl rfl ?_
        | refine sg_ps (ps_add64 rfl rfl (by omega)) rfl ?_
        | refine sg_ps (ps_sub64 rfl rfl (by omega)) rfl ?_
        | refine sg_ps (ps_mul64 rfl rfl (by omega)) rfl ?_
        | refine sg_ps (ps_bin rfl rfl inferInstance) rfl ?_
        | refine sg_ps (ps_rem rfl rfl (by decide)) rfl ?_
        | refine sg_ps (ps_quo64 rfl rfl (by decide) (by omega)) rfl ?_
        | refine sg_ps (ps_not rfl) rfl ?_
        | refine sg_ps (ps_conv rfl) rfl ?_
        | refine sg_ps (ps_shl rfl rfl (by decide) rfl) rfl ?_
        | refine sg_ps (ps_shr rfl rfl (by decide) rfl) rfl ?_
        | refine sg_cond_t rfl ?_
        | refine sg_cond_f rfl ?_
        | refine sg_guard_yes rfl rfl ?_
        | refine sg_guard_nf rfl rfl rfl ?_
        | refine sg_guard_nt rfl rfl rfl ?_
        | refine sg_guard_nu rfl rfl rfl ?_
        | refine sg_ps (ps_pick_t rfl rfl) rfl ?_
        | refine sg_ps (ps_pick_f rfl rfl) rfl ?_
        | refine sg_ps (ps_len rfl) rfl ?_
        | refine sg_ps (ps_len_str rfl) rfl ?_
        | refine sg_ps (ps_extract rfl rfl) rfl ?_
        | refine sg_ps (ps_field rfl rfl) rfl ?_
        | refine sg_ps (ps_min2 rfl rfl) rfl ?_
        | refine sg_ps (ps_max2 rfl rfl) rfl ?_
        | refine sg_ps (ps_build rfl rfl) rfl ?_
        | refine sg_box rfl rfl (fun bx => ?_)
        | refine sg_ps (ps_indexAddr rfl rfl rfl (by omega)) rfl ?_
        | refine sg_ps (ps_indexAddr (j := 0) rfl rfl rfl (by omega)) rfl ?_
        | refine sg_ps (ps_indexAddr (j := 1) rfl rfl rfl (by omega)) rfl ?_
        | refine sg_ps (ps_indexAddr_arr rfl rfl rfl (by omega)) rfl ?_
        | refine sg_load_whole 0 rfl rfl rfl rfl ?_
        | refine sg_load_whole 1 rfl rfl rfl rfl ?_
        | refine sg_load_whole 2 rfl rfl rfl rfl ?_
        | refine sg_load_whole 3 rfl rfl rfl rfl ?_
        | refine sg_load_whole 4 rfl rfl rfl rfl ?_
        | refine sg_load_whole 5 rfl rfl rfl rfl ?_
        | refine sg_load_whole 6 rfl rfl rfl rfl ?_
        | refine sg_load_whole 7 rfl rfl rfl rfl ?_
        | refine sg_store_whole [] rfl rfl rfl rfl rfl ?_
        | refine sg_store_whole [_] rfl rfl rfl rfl rfl ?_
        | refine sg_store_whole [_, _] rfl rfl rfl rfl rfl ?_
        | refine sg_store_whole [_, _, _] rfl rfl rfl rfl rfl ?_
        | refine sg_store_whole [_, _, _, _] rfl rfl rfl rfl rfl ?_
        | refine sg_store_whole [_, _, _, _, _] rfl rfl rfl rfl rfl ?_
        | refine sg_store_whole [_, _, _, _, _, _] rfl rfl rfl rfl rfl ?_
        | refine sg_alloc rfl (fun al => ?_)
        | refine sg_block ?_
        | refine sg_skip ?_
        | refine sg_ret ?_
        | refine sg_exit ?_
        | refine ex_then_ret ?_
        | refine ex_then_exit ?_
        | refine ex_block_ret ?_
        | refine ex_block_normal ?_
        | refine ex_block_hit ?_
        | refine ex_block_miss rfl ?_
        | refine sg_store [] rfl rfl rfl (of_decide_eq_true rfl) ?_
        | refine sg_store [_] rfl rfl rfl (of_decide_eq_true rfl) ?_
        | refine sg_store [_, _] rfl rfl rfl (of_decide_eq_true rfl) ?_
        | refine sg_store [_, _, _] rfl rfl rfl (of_decide_eq_true rfl) ?_
        | refine sg_store [_, _, _, _] rfl rfl rfl (of_decide_eq_true rfl) ?_
        | refine sg_store [_, _, _, _, _] rfl rfl rfl (of_decide_eq_true rfl) ?_
        | refine sg_store [_, _, _, _, _, _] rfl rfl rfl (of_decide_eq_true rfl) ?_
        | refine sg_store [_, _, _, _, _, _, _] rfl rfl rfl (of_decide_eq_true rfl) ?_
        | (refine sg_guard_dec rfl rfl (fun hg => ?_) (fun hg => ?_) <;> first | (exfalso; omega) | (exact absurd rfl hg) | skip)
        | (refine sg_guard_ndec rfl rfl (fun hg => ?_) (fun hg => ?_) <;> first | (exfalso; omega) | (exact absurd rfl hg) | skip)
        | (refine sg_cond_dec rfl (fun hg => ?_) (fun hg => ?_) <;> first | (exfalso; omega) | (exact absurd rfl hg) | skip)
        | (refine sg_cond_ndec rfl (fun hg => ?_) (fun hg => ?_) <;> first | (exfalso; omega) | (exact absurd rfl hg) | skip)
        | refine sg_cond_not rfl (fun hg => ?_) (fun hg => ?_)
        | refine sg_cond rfl (fun hg => ?_) (fun hg => ?_))
      rw [ho]
      repeat' (first
        | refine sg_wo ?_
        | refine sg_ps (ps_move rfl) rfl ?_
        | refine sg_ps (ps_assign rfl) rfl ?_
        | refine sg_seq ?_
        | refine sg_region ?_
        | refine sg_nil ?_
        | refine sg_then ?_
        | refine sg_ps (ps_fieldAddr rfl) rfl ?_
        | refine sg_ps (ps_nilCheck rfl) rfl ?_
        | refine sg_load 0 rfl rfl rfl rfl ?_
        | refine sg_load 1 rfl rfl rfl rfl ?_
        | refine sg_load 2 rfl rfl rfl rfl ?_
        | refine sg_load 3 rfl rfl rfl rfl ?_
        | refine sg_load 4 rfl rfl rfl rfl ?_
        | refine sg_load 5 rfl rfl rfl rfl ?_
        | refine sg_load 6 rfl rfl rfl rfl ?_
        | refine sg_load 7 rfl rfl rfl rfl ?_
        | refine sg_ps (ps_add64 rfl rfl (by omega)) rfl ?_
        | refine sg_ps (ps_sub64 rfl rfl (by omega)) rfl ?_
        | refine sg_ps (ps_mul64 rfl rfl (by omega)) rfl ?_
        | refine sg_ps (ps_bin rfl rfl inferInstance) rfl ?_
        | refine sg_ps (ps_rem rfl rfl (by decide)) rfl ?_
        | refine sg_ps (ps_quo64 rfl rfl (by decide) (by omega)) rfl ?_
        | refine sg_ps (ps_not rfl) rfl ?_
        | refine sg_ps (ps_conv rfl) rfl ?_
        | refine sg_ps (ps_shl rfl rfl (by decide) rfl) rfl ?_
        | refine sg_ps (ps_shr rfl rfl (by decide) rfl) rfl ?_
        | refine sg_cond_t rfl ?_
        | refine sg_cond_f rfl ?_
        | refine sg_guard_yes rfl rfl ?_
        | refine sg_guard_nf rfl rfl rfl ?_
        | refine sg_guard_nt rfl rfl rfl ?_
        | refine sg_guard_nu rfl rfl rfl ?_
        | refine sg_ps (ps_pick_t rfl rfl) rfl ?_
        | refine sg_ps (ps_pick_f rfl rfl) rfl ?_
        | refine sg_ps (ps_len rfl) rfl ?_
        | refine sg_ps (ps_len_str rfl) rfl ?_
        | refine sg_ps (ps_extract rfl rfl) rfl ?_
        | refine sg_ps (ps_field rfl rfl) rfl ?_
        | refine sg_ps (ps_min2 rfl rfl) rfl ?_
        | refine sg_ps (ps_max2 rfl rfl) rfl ?_
        | refine sg_ps (ps_build rfl rfl) rfl ?_
        | refine sg_box rfl rfl (fun bx => ?_)
        | refine sg_ps (ps_indexAddr rfl rfl rfl (by omega)) rfl ?_
        | refine sg_ps (ps_indexAddr (j := 0) rfl rfl rfl (by omega)) rfl ?_
        | refine sg_ps (ps_indexAddr (j := 1) rfl rfl rfl (by omega)) rfl ?_
        | refine sg_ps (ps_indexAddr_arr rfl rfl rfl (by omega)) rfl ?_
        | refine sg_load_whole 0 rfl rfl rfl rfl ?_
        | refine sg_load_whole 1 rfl rfl rfl rfl ?_
        | refine sg_load_whole 2 rfl rfl rfl rfl ?_
        | refine sg_load_whole 3 rfl rfl rfl rfl ?_
        | refine sg_load_whole 4 rfl rfl rfl rfl ?_
        | refine sg_load_whole 5 rfl rfl rfl rfl ?_
        | refine sg_load_whole 6 rfl rfl rfl rfl ?_
        | refine sg_load_whole 7 rfl rfl rfl rfl ?_
        | refine sg_store_whole [] rfl rfl rfl rfl rfl ?_
        | refine sg_store_whole [_] rfl rfl rfl rfl rfl ?_
        | refine sg_store_whole [_, _] rfl rfl rfl rfl rfl ?_
        | refine sg_store_whole [_, _, _] rfl rfl rfl rfl rfl ?_
        | refine sg_store_whole [_, _, _, _] rfl rfl rfl rfl rfl ?_
        | refine sg_store_whole [_, _, _, _, _] rfl rfl rfl rfl rfl ?_
        | refine sg_store_whole [_, _, _, _, _, _] rfl rfl rfl rfl rfl ?_
        | refine sg_alloc rfl (fun al => ?_)
        | refine sg_block ?_
        | refine sg_skip ?_
        | refine sg_ret ?_
        | refine sg_exit ?_
        | refine ex_then_ret ?_
        | refine ex_then_exit ?_
        | refine ex_block_ret ?_
        | refine ex_block_normal ?_
        | refine ex_block_hit ?_
        | refine ex_block_miss rfl ?_
        | refine sg_store [] rfl rfl rfl (of_decide_eq_true rfl) ?_
        | refine sg_store [_] rfl rfl rfl (of_decide_eq_true rfl) ?_
        | refine sg_store [_, _] rfl rfl rfl (of_decide_eq_true rfl) ?_
        | refine sg_store [_, _, _] rfl rfl rfl (of_decide_eq_true rfl) ?_
        | refine sg_store [_, _, _, _] rfl rfl rfl (of_decide_eq_true rfl) ?_
        | refine sg_store [_, _, _, _, _] rfl rfl rfl (of_decide_eq_true rfl) ?_
        | refine sg_store [_, _, _, _, _, _] rfl rfl rfl (of_decide_eq_true rfl) ?_
        | refine sg_store [_, _, _, _, _, _, _] rfl rfl rfl (of_decide_eq_true rfl) ?_
        | (refine sg_guard_dec rfl rfl (fun hg => ?_) (fun hg => ?_) <;> first | (exfalso; omega) | (exact absurd rfl hg) | skip)
        | (refine sg_guard_ndec rfl rfl (fun hg => ?_) (fun hg => ?_) <;> first | (exfalso; omega) | (exact absurd rfl hg) | skip)
        | (refine sg_cond_dec rfl (fun hg => ?_) (fun hg => ?_) <;> first | (exfalso; omega) | (exact absurd rfl hg) | skip)
        | (refine sg_cond_ndec rfl (fun hg => ?_) (fun hg => ?_) <;> first | (exfalso; omega) | (exact absurd rfl hg) | skip)
        | refine sg_cond_not rfl (fun hg => ?_) (fun hg => ?_)
        | refine sg_cond rfl (fun hg => ?_) (fun hg => ?_))
      refine sg_ps (ps_slice_lh1 (l := o) (h' := o + 8) rfl rfl rfl rfl (by omega) (by omega) (by omega)) rfl ?_
      rw [sadd_pos _ _ _ _ (by omega), show o + 8 - o = 8 by omega]
      repeat' (first
        | refine sg_wo ?_
        | refine sg_ps (ps_move rfl) rfl ?_
        | refine sg_ps (ps_assign rfl) rfl ?_
        | refine sg_seq ?_
        | refine sg_region ?_
        | refine sg_nil ?_
        | refine sg_then ?_
        | refine sg_ps (ps_fieldAddr rfl) rfl ?_
        | refine sg_ps (ps_nilCheck rfl) rfl ?_
        | refine sg_load 0 rfl rfl rfl rfl ?_
        | refine sg_load 1 rfl rfl rfl rfl ?_
        | refine sg_load 2 rfl rfl rfl rfl ?_
        | refine sg_load 3 rfl rfl rfl rfl ?_
        | refine sg_load 4 rfl rfl rfl rfl ?_
        | refine sg_load 5 rfl rfl rfl rfl ?_
        | refine sg_load 6 rfl rfl rfl rfl ?_
        | refine sg_load 7 rfl rfl rfl rfl ?_
        | refine sg_ps (ps_add64 rfl rfl (by omega)) rfl ?_
        | refine sg_ps (ps_sub64 rfl rfl (by omega)) rfl ?_
        | refine sg_ps (ps_mul64 rfl rfl (by omega)) rfl ?_
        | refine sg_ps (ps_bin rfl rfl inferInstance) rfl ?_
        | refine sg_ps (ps_rem rfl rfl (by decide)) rfl ?_
        | refine sg_ps (ps_quo64 rfl rfl (by decide) (by omega)) rfl ?_
        | refine sg_ps (ps_not rfl) rfl ?_
        | refine sg_ps (ps_conv rfl) rfl ?_
        | refine sg_ps (ps_shl rfl rfl (by decide) rfl) rfl ?_
        | refine sg_ps (ps_shr rfl rfl (by decide) rfl) rfl ?_
        | refine sg_cond_t rfl ?_
        | refine sg_cond_f rfl ?_
        | refine sg_guard_yes rfl rfl ?_
        | refine sg_guard_nf rfl rfl rfl ?_
        | refine sg_guard_nt rfl rfl rfl ?_
        | refine sg_guard_nu rfl rfl rfl ?_
        | refine sg_ps (ps_pick_t rfl rfl) rfl ?_
        | refine sg_ps (ps_pick_f rfl rfl) rfl ?_
        | refine sg_ps (ps_len rfl) rfl ?_
        | refine sg_ps (ps_len_str rfl) rfl ?_
        | refine sg_ps (ps_extract rfl rfl) rfl ?_
        | refine sg_ps (ps_field rfl rfl) rfl ?_
        | refine sg_ps (ps_min2 rfl rfl) rfl ?_
        | refine sg_ps (ps_max2 rfl rfl) rfl ?_
        | refine sg_ps (ps_build rfl rfl) rfl ?_
        | refine sg_box rfl rfl (fun bx => ?_)
        | refine sg_ps (ps_indexAddr rfl rfl rfl (by omega)) rfl ?_
        | refine sg_ps (ps_indexAddr (j := 0) rfl rfl rfl (by omega)) rfl ?_
        | refine sg_ps (ps_indexAddr (j := 1) rfl rfl rfl (by omega)) rfl ?_
        | refine sg_ps (ps_indexAddr_arr rfl rfl rfl (by omega)) rfl ?_
        | refine sg_load_whole 0 rfl rfl rfl rfl ?_
        | refine sg_load_whole 1 rfl rfl rfl rfl ?_
        | refine sg_load_whole 2 rfl rfl rfl rfl ?_
        | refine sg_load_whole 3 rfl rfl rfl rfl ?_
        | refine sg_load_whole 4 rfl rfl rfl rfl ?_
        | refine sg_load_whole 5 rfl rfl rfl rfl ?_
        | refine sg_load_whole 6 rfl rfl rfl rfl ?_
        | refine sg_load_whole 7 rfl rfl rfl rfl ?_
        | refine sg_store_whole [] rfl rfl rfl rfl rfl ?_
        | refine sg_store_whole [_] rfl rfl rfl rfl rfl ?_
        | refine sg_store_whole [_, _] rfl rfl rfl rfl rfl ?_
        | refine sg_store_whole [_, _, _] rfl rfl rfl rfl rfl ?_
        | refine sg_store_whole [_, _, _, _] rfl rfl rfl rfl rfl ?_
        | refine sg_store_whole [_, _, _, _, _] rfl rfl rfl rfl rfl ?_
        | refine sg_store_whole [_, _, _, _, _, _] rfl rfl rfl rfl rfl ?_
        | refine sg_alloc rfl (fun al => ?_)
        | refine sg_block ?_
        | refine sg_skip ?_
        | refine sg_ret ?_
        | refine sg_exit ?_
        | refine ex_then_ret ?_
        | refine ex_then_exit ?_
        | refine ex_block_ret ?_
        | refine ex_block_normal ?_
        | refine ex_block_hit ?_
        | refine ex_block_miss rfl ?_
        | refine sg_store [] rfl rfl rfl (of_decide_eq_true rfl) ?_
        | refine sg_store [_] rfl rfl rfl (of_decide_eq_true rfl) ?_
        | refine sg_store [_, _] rfl rfl rfl (of_decide_eq_true rfl) ?_
        | refine sg_store [_, _, _] rfl rfl rfl (of_decide_eq_true rfl) ?_
        | refine sg_store [_, _, _, _] rfl rfl rfl (of_decide_eq_true rfl) ?_
        | refine sg_store [_, _, _, _, _] rfl rfl rfl (of_decide_eq_true rfl) ?_
        | refine sg_store [_, _, _, _, _, _] rfl rfl rfl (of_decide_eq_true rfl) ?_
        | refine sg_store [_, _, _, _, _, _, _] rfl rfl rfl (of_decide_eq_true rfl) ?_
        | (refine sg_guard_dec rfl rfl (fun hg => ?_) (fun hg => ?_) <;> first | (exfalso; omega) | (exact absurd rfl hg) | skip)
        | (refine sg_guard_ndec rfl rfl (fun hg => ?_) (fun hg => ?_) <;> first | (exfalso; omega) | (exact absurd rfl hg) | skip)
        | (refine sg_cond_dec rfl (fun hg => ?_) (fun hg => ?_) <;> first | (exfalso; omega) | (exact absurd rfl hg) | skip)
        | (refine sg_cond_ndec rfl (fun hg => ?_) (fun hg => ?_) <;> first | (exfalso; omega) | (exact absurd rfl hg) | skip)
        | refine sg_cond_not rfl (fun hg => ?_) (fun hg => ?_)
        | refine sg_cond rfl (fun hg => ?_) (fun hg => ?_))
      refine sg_loop (γ := Nat) (fun j => j ≤ 8) (fun j => [(3, dp bx), (4, dp al), (5, .slice (some ⟨g0, 0, none⟩) s.val.length c), (6, .slice (some ⟨g0, 0 + o, none⟩) 8 (c - o)), (7, u64 (unbe ((s.val.drop o).take j) : Int)), (39, .slice (some ⟨g0, 0 + o, none⟩) 8 (c - o)), (40, i64 8), (41, i64 j)])
        (fun _ => [blk g0 (s.val.map bv ++ rest), blk al (Value.agg #[Value.bool false, Value.string ByteArray.empty]).cells.toList, blk bx m.v.cells.toList, blk b0 s.v.cells.toList] ++ R) (fun j => 8 - j) 0 (by omega)
        (.cons rfl (.cons rfl (.cons rfl (.cons rfl (.cons rfl (.cons rfl (.cons rfl (.cons rfl .nil)))))))) (fun w hO => hO) ?_
      intro j hj
      repeat' (first
        | refine sg_wo ?_
        | refine sg_ps (ps_move rfl) rfl ?_
        | refine sg_ps (ps_assign rfl) rfl ?_
        | refine sg_seq ?_
        | refine sg_region ?_
        | refine sg_nil ?_
        | refine sg_then ?_
        | refine sg_ps (ps_fieldAddr rfl) rfl ?_
        | refine sg_ps (ps_nilCheck rfl) rfl ?_
        | refine sg_load 0 rfl rfl rfl rfl ?_
        | refine sg_load 1 rfl rfl rfl rfl ?_
        | refine sg_load 2 rfl rfl rfl rfl ?_
        | refine sg_load 3 rfl rfl rfl rfl ?_
        | refine sg_load 4 rfl rfl rfl rfl ?_
        | refine sg_load 5 rfl rfl rfl rfl ?_
        | refine sg_load 6 rfl rfl rfl rfl ?_
        | refine sg_load 7 rfl rfl rfl rfl ?_
        | refine sg_ps (ps_add64 rfl rfl (by omega)) rfl ?_
        | refine sg_ps (ps_sub64 rfl rfl (by omega)) rfl ?_
        | refine sg_ps (ps_mul64 rfl rfl (by omega)) rfl ?_
        | refine sg_ps (ps_bin rfl rfl inferInstance) rfl ?_
        | refine sg_ps (ps_rem rfl rfl (by decide)) rfl ?_
        | refine sg_ps (ps_quo64 rfl rfl (by decide) (by omega)) rfl ?_
        | refine sg_ps (ps_not rfl) rfl ?_
        | refine sg_ps (ps_conv rfl) rfl ?_
        | refine sg_ps (ps_shl rfl rfl (by decide) rfl) rfl ?_
        | refine sg_ps (ps_shr rfl rfl (by decide) rfl) rfl ?_
        | refine sg_cond_t rfl ?_
        | refine sg_cond_f rfl ?_
        | refine sg_guard_yes rfl rfl ?_
        | refine sg_guard_nf rfl rfl rfl ?_
        | refine sg_guard_nt rfl rfl rfl ?_
        | refine sg_guard_nu rfl rfl rfl ?_
        | refine sg_ps (ps_pick_t rfl rfl) rfl ?_
        | refine sg_ps (ps_pick_f rfl rfl) rfl ?_
        | refine sg_ps (ps_len rfl) rfl ?_
        | refine sg_ps (ps_len_str rfl) rfl ?_
        | refine sg_ps (ps_extract rfl rfl) rfl ?_
        | refine sg_ps (ps_field rfl rfl) rfl ?_
        | refine sg_ps (ps_min2 rfl rfl) rfl ?_
        | refine sg_ps (ps_max2 rfl rfl) rfl ?_
        | refine sg_ps (ps_build rfl rfl) rfl ?_
        | refine sg_box rfl rfl (fun bx => ?_)
        | refine sg_ps (ps_indexAddr rfl rfl rfl (by omega)) rfl ?_
        | refine sg_ps (ps_indexAddr (j := 0) rfl rfl rfl (by omega)) rfl ?_
        | refine sg_ps (ps_indexAddr (j := 1) rfl rfl rfl (by omega)) rfl ?_
        | refine sg_ps (ps_indexAddr_arr rfl rfl rfl (by omega)) rfl ?_
        | refine sg_load_whole 0 rfl rfl rfl rfl ?_
        | refine sg_load_whole 1 rfl rfl rfl rfl ?_
        | refine sg_load_whole 2 rfl rfl rfl rfl ?_
        | refine sg_load_whole 3 rfl rfl rfl rfl ?_
        | refine sg_load_whole 4 rfl rfl rfl rfl ?_
        | refine sg_load_whole 5 rfl rfl rfl rfl ?_
        | refine sg_load_whole 6 rfl rfl rfl rfl ?_
        | refine sg_load_whole 7 rfl rfl rfl rfl ?_
        | refine sg_store_whole [] rfl rfl rfl rfl rfl ?_
        | refine sg_store_whole [_] rfl rfl rfl rfl rfl ?_
        | refine sg_store_whole [_, _] rfl rfl rfl rfl rfl ?_
        | refine sg_store_whole [_, _, _] rfl rfl rfl rfl rfl ?_
        | refine sg_store_whole [_, _, _, _] rfl rfl rfl rfl rfl ?_
        | refine sg_store_whole [_, _, _, _, _] rfl rfl rfl rfl rfl ?_
        | refine sg_store_whole [_, _, _, _, _, _] rfl rfl rfl rfl rfl ?_
        | refine sg_alloc rfl (fun al => ?_)
        | refine sg_block ?_
        | refine sg_skip ?_
        | refine sg_ret ?_
        | refine sg_exit ?_
        | refine ex_then_ret ?_
        | refine ex_then_exit ?_
        | refine ex_block_ret ?_
        | refine ex_block_normal ?_
        | refine ex_block_hit ?_
        | refine ex_block_miss rfl ?_
        | refine sg_store [] rfl rfl rfl (of_decide_eq_true rfl) ?_
        | refine sg_store [_] rfl rfl rfl (of_decide_eq_true rfl) ?_
        | refine sg_store [_, _] rfl rfl rfl (of_decide_eq_true rfl) ?_
        | refine sg_store [_, _, _] rfl rfl rfl (of_decide_eq_true rfl) ?_
        | refine sg_store [_, _, _, _] rfl rfl rfl (of_decide_eq_true rfl) ?_
        | refine sg_store [_, _, _, _, _] rfl rfl rfl (of_decide_eq_true rfl) ?_
        | refine sg_store [_, _, _, _, _, _] rfl rfl rfl (of_decide_eq_true rfl) ?_
        | refine sg_store [_, _, _, _, _, _, _] rfl rfl rfl (of_decide_eq_true rfl) ?_
        | (refine sg_guard_dec rfl rfl (fun hg => ?_) (fun hg => ?_) <;> first | (exfalso; omega) | (exact absurd rfl hg) | skip)
        | (refine sg_guard_ndec rfl rfl (fun hg => ?_) (fun hg => ?_) <;> first | (exfalso; omega) | (exact absurd rfl hg) | skip)
        | (refine sg_cond_dec rfl (fun hg => ?_) (fun hg => ?_) <;> first | (exfalso; omega) | (exact absurd rfl hg) | skip)
        | (refine sg_cond_ndec rfl (fun hg => ?_) (fun hg => ?_) <;> first | (exfalso; omega) | (exact absurd rfl hg) | skip)
        | refine sg_cond_not rfl (fun hg => ?_) (fun hg => ?_)
        | refine sg_cond rfl (fun hg => ?_) (fun hg => ?_))
      · have hjl : o + j < s.val.length := by omega
        have hr : Rd W ([blk g0 (s.val.map bv ++ rest), blk al (Value.agg #[Value.bool false, Value.string ByteArray.empty]).cells.toList, blk bx m.v.cells.toList, blk b0 s.v.cells.toList] ++ R) (some ⟨g0, 0 + o + j * 1, none⟩) [bv s.val[o + j]] := by
          refine rd_blk_one 0 rfl ?_
          rw [Nat.mul_one, Nat.zero_add, List.getElem?_append_left (by simp; omega)]
          exact bv_get hjl
        refine sg_load_rd rfl hr rfl ?_
        repeat' (first
          | refine sg_wo ?_
          | refine sg_ps (ps_move rfl) rfl ?_
          | refine sg_ps (ps_assign rfl) rfl ?_
          | refine sg_seq ?_
          | refine sg_region ?_
          | refine sg_nil ?_
          | refine sg_then ?_
          | refine sg_ps (ps_fieldAddr rfl) rfl ?_
          | refine sg_ps (ps_nilCheck rfl) rfl ?_
          | refine sg_load 0 rfl rfl rfl rfl ?_
          | refine sg_load 1 rfl rfl rfl rfl ?_
          | refine sg_load 2 rfl rfl rfl rfl ?_
          | refine sg_load 3 rfl rfl rfl rfl ?_
          | refine sg_load 4 rfl rfl rfl rfl ?_
          | refine sg_load 5 rfl rfl rfl rfl ?_
          | refine sg_load 6 rfl rfl rfl rfl ?_
          | refine sg_load 7 rfl rfl rfl rfl ?_
          | refine sg_ps (ps_add64 rfl rfl (by omega)) rfl ?_
          | refine sg_ps (ps_sub64 rfl rfl (by omega)) rfl ?_
          | refine sg_ps (ps_mul64 rfl rfl (by omega)) rfl ?_
          | refine sg_ps (ps_bin rfl rfl inferInstance) rfl ?_
          | refine sg_ps (ps_rem rfl rfl (by decide)) rfl ?_
          | refine sg_ps (ps_quo64 rfl rfl (by decide) (by omega)) rfl ?_
          | refine sg_ps (ps_not rfl) rfl ?_
          | refine sg_ps (ps_conv rfl) rfl ?_
          | refine sg_ps (ps_shl rfl rfl (by decide) rfl) rfl ?_
          | refine sg_ps (ps_shr rfl rfl (by decide) rfl) rfl ?_
          | refine sg_cond_t rfl ?_
          | refine sg_cond_f rfl ?_
          | refine sg_guard_yes rfl rfl ?_
          | refine sg_guard_nf rfl rfl rfl ?_
          | refine sg_guard_nt rfl rfl rfl ?_
          | refine sg_guard_nu rfl rfl rfl ?_
          | refine sg_ps (ps_pick_t rfl rfl) rfl ?_
          | refine sg_ps (ps_pick_f rfl rfl) rfl ?_
          | refine sg_ps (ps_len rfl) rfl ?_
          | refine sg_ps (ps_len_str rfl) rfl ?_
          | refine sg_ps (ps_extract rfl rfl) rfl ?_
          | refine sg_ps (ps_field rfl rfl) rfl ?_
          | refine sg_ps (ps_min2 rfl rfl) rfl ?_
          | refine sg_ps (ps_max2 rfl rfl) rfl ?_
          | refine sg_ps (ps_build rfl rfl) rfl ?_
          | refine sg_box rfl rfl (fun bx => ?_)
          | refine sg_ps (ps_indexAddr rfl rfl rfl (by omega)) rfl ?_
          | refine sg_ps (ps_indexAddr (j := 0) rfl rfl rfl (by omega)) rfl ?_
          | refine sg_ps (ps_indexAddr (j := 1) rfl rfl rfl (by omega)) rfl ?_
          | refine sg_ps (ps_indexAddr_arr rfl rfl rfl (by omega)) rfl ?_
          | refine sg_load_whole 0 rfl rfl rfl rfl ?_
          | refine sg_load_whole 1 rfl rfl rfl rfl ?_
          | refine sg_load_whole 2 rfl rfl rfl rfl ?_
          | refine sg_load_whole 3 rfl rfl rfl rfl ?_
          | refine sg_load_whole 4 rfl rfl rfl rfl ?_
          | refine sg_load_whole 5 rfl rfl rfl rfl ?_
          | refine sg_load_whole 6 rfl rfl rfl rfl ?_
          | refine sg_load_whole 7 rfl rfl rfl rfl ?_
          | refine sg_store_whole [] rfl rfl rfl rfl rfl ?_
          | refine sg_store_whole [_] rfl rfl rfl rfl rfl ?_
          | refine sg_store_whole [_, _] rfl rfl rfl rfl rfl ?_
          | refine sg_store_whole [_, _, _] rfl rfl rfl rfl rfl ?_
          | refine sg_store_whole [_, _, _, _] rfl rfl rfl rfl rfl ?_
          | refine sg_store_whole [_, _, _, _, _] rfl rfl rfl rfl rfl ?_
          | refine sg_store_whole [_, _, _, _, _, _] rfl rfl rfl rfl rfl ?_
          | refine sg_alloc rfl (fun al => ?_)
          | refine sg_block ?_
          | refine sg_skip ?_
          | refine sg_ret ?_
          | refine sg_exit ?_
          | refine ex_then_ret ?_
          | refine ex_then_exit ?_
          | refine ex_block_ret ?_
          | refine ex_block_normal ?_
          | refine ex_block_hit ?_
          | refine ex_block_miss rfl ?_
          | refine sg_store [] rfl rfl rfl (of_decide_eq_true rfl) ?_
          | refine sg_store [_] rfl rfl rfl (of_decide_eq_true rfl) ?_
          | refine sg_store [_, _] rfl rfl rfl (of_decide_eq_true rfl) ?_
          | refine sg_store [_, _, _] rfl rfl rfl (of_decide_eq_true rfl) ?_
          | refine sg_store [_, _, _, _] rfl rfl rfl (of_decide_eq_true rfl) ?_
          | refine sg_store [_, _, _, _, _] rfl rfl rfl (of_decide_eq_true rfl) ?_
          | refine sg_store [_, _, _, _, _, _] rfl rfl rfl (of_decide_eq_true rfl) ?_
          | refine sg_store [_, _, _, _, _, _, _] rfl rfl rfl (of_decide_eq_true rfl) ?_
          | (refine sg_guard_dec rfl rfl (fun hg => ?_) (fun hg => ?_) <;> first | (exfalso; omega) | (exact absurd rfl hg) | skip)
          | (refine sg_guard_ndec rfl rfl (fun hg => ?_) (fun hg => ?_) <;> first | (exfalso; omega) | (exact absurd rfl hg) | skip)
          | (refine sg_cond_dec rfl (fun hg => ?_) (fun hg => ?_) <;> first | (exfalso; omega) | (exact absurd rfl hg) | skip)
          | (refine sg_cond_ndec rfl (fun hg => ?_) (fun hg => ?_) <;> first | (exfalso; omega) | (exact absurd rfl hg) | skip)
          | refine sg_cond_not rfl (fun hg => ?_) (fun hg => ?_)
          | refine sg_cond rfl (fun hg => ?_) (fun hg => ?_))
        have hlt : unbe ((s.val.drop o).take j) < 2 ^ 56 := by
          have := unbe_lt ((s.val.drop o).take j)
          rw [List.length_take, Nat.min_eq_left (by simp; omega)] at this
          have h7 : 256 ^ j ≤ 256 ^ 7 := Nat.pow_le_pow_right (by omega) (by omega)
          omega
        have hy := s.val[o + j].toNat_lt
        have hstep : unbe ((s.val.drop o).take (j + 1)) = unbe ((s.val.drop o).take j) * 256 + s.val[o + j].toNat := by
          rw [unbe_take_succ (by simp; omega)]; simp
        rw [u64_u8, u64_shl8 _ hlt, u64_or8 _ _ hlt hy, ← hstep]
        exact ex_mid (j + 1) ⟨by omega, by omega⟩ (.cons rfl (.cons rfl (.cons rfl (.cons rfl (.cons rfl (.cons rfl (.cons rfl (.cons rfl .nil)))))))) (fun w hO => hO)
      · have hj8 : j = 8 := by omega
        subst hj8
        have hX : IntKind.u64.wrap ((unbe ((s.val.drop o).take 8) : Int) + (m.num : Int)) = (((unbe ((s.val.drop o).take 8) + m.num) % 2 ^ 64 : Nat) : Int) := by
          rw [← Int.natCast_add, wrap_u _ rfl]; rfl
        rw [hX]
        have hend := putCells_end s.val rest o m.num hol
        generalize (unbe ((s.val.drop o).take 8) + m.num) % 2 ^ 64 = X at hend
        refine sg_loop (γ := Nat) (fun j => j ≤ 8) (fun j => [(4, dp al), (5, .slice (some ⟨g0, 0, none⟩) s.val.length c), (6, .slice (some ⟨g0, 0 + o, none⟩) 8 (c - o)), (7, u64 (X : Int)), (56, i64 8), (57, i64 j)])
          (fun j => [blk g0 (putCells (s.val.map bv ++ rest) o X j), blk al (Value.agg #[Value.bool false, Value.string ByteArray.empty]).cells.toList] ++ R) (fun j => 8 - j) 0 (by omega)
          (.cons rfl (.cons rfl (.cons rfl (.cons rfl (.cons rfl (.cons rfl .nil)))))) (fun w hO => by
            have e0 : putCells (s.val.map bv ++ rest) o X 0 = s.val.map bv ++ rest := by unfold putCells; simp [be]
            rw [e0]; exact hO.front3.tail.front2.tail) ?_
        intro j hj
        have hpl := putCells_len (s.val.map bv ++ rest) o X j hcl hj
        repeat' (first
          | refine sg_wo ?_
          | refine sg_ps (ps_move rfl) rfl ?_
          | refine sg_ps (ps_assign rfl) rfl ?_
          | refine sg_seq ?_
          | refine sg_region ?_
          | refine sg_nil ?_
          | refine sg_then ?_
          | refine sg_ps (ps_fieldAddr rfl) rfl ?_
          | refine sg_ps (ps_nilCheck rfl) rfl ?_
          | refine sg_load 0 rfl rfl rfl rfl ?_
          | refine sg_load 1 rfl rfl rfl rfl ?_
          | refine sg_load 2 rfl rfl rfl rfl ?_
          | refine sg_load 3 rfl rfl rfl rfl ?_
          | refine sg_load 4 rfl rfl rfl rfl ?_
          | refine sg_load 5 rfl rfl rfl rfl ?_
          | refine sg_load 6 rfl rfl rfl rfl ?_
          | refine sg_load 7 rfl rfl rfl rfl ?_
          | refine sg_ps (ps_add64 rfl rfl (by omega)) rfl ?_
          | refine sg_ps (ps_sub64 rfl rfl (by omega)) rfl ?_
          | refine sg_ps (ps_mul64 rfl rfl (by omega)) rfl ?_
          | refine sg_ps (ps_bin rfl rfl inferInstance) rfl ?_
          | refine sg_ps (ps_rem rfl rfl (by decide)) rfl ?_
          | refine sg_ps (ps_quo64 rfl rfl (by decide) (by omega)) rfl ?_
          | refine sg_ps (ps_not rfl) rfl ?_
          | refine sg_ps (ps_conv rfl) rfl ?_
          | refine sg_ps (ps_shl rfl rfl (by decide) rfl) rfl ?_
          | refine sg_ps (ps_shr rfl rfl (by decide) rfl) rfl ?_
          | refine sg_cond_t rfl ?_
          | refine sg_cond_f rfl ?_
          | refine sg_guard_yes rfl rfl ?_
          | refine sg_guard_nf rfl rfl rfl ?_
          | refine sg_guard_nt rfl rfl rfl ?_
          | refine sg_guard_nu rfl rfl rfl ?_
          | refine sg_ps (ps_pick_t rfl rfl) rfl ?_
          | refine sg_ps (ps_pick_f rfl rfl) rfl ?_
          | refine sg_ps (ps_len rfl) rfl ?_
          | refine sg_ps (ps_len_str rfl) rfl ?_
          | refine sg_ps (ps_extract rfl rfl) rfl ?_
          | refine sg_ps (ps_field rfl rfl) rfl ?_
          | refine sg_ps (ps_min2 rfl rfl) rfl ?_
          | refine sg_ps (ps_max2 rfl rfl) rfl ?_
          | refine sg_ps (ps_build rfl rfl) rfl ?_
          | refine sg_box rfl rfl (fun bx => ?_)
          | refine sg_ps (ps_indexAddr rfl rfl rfl (by omega)) rfl ?_
          | refine sg_ps (ps_indexAddr (j := 0) rfl rfl rfl (by omega)) rfl ?_
          | refine sg_ps (ps_indexAddr (j := 1) rfl rfl rfl (by omega)) rfl ?_
          | refine sg_ps (ps_indexAddr_arr rfl rfl rfl (by omega)) rfl ?_
          | refine sg_load_whole 0 rfl rfl rfl rfl ?_
          | refine sg_load_whole 1 rfl rfl rfl rfl ?_
          | refine sg_load_whole 2 rfl rfl rfl rfl ?_
          | refine sg_load_whole 3 rfl rfl rfl rfl ?_
          | refine sg_load_whole 4 rfl rfl rfl rfl ?_
          | refine sg_load_whole 5 rfl rfl rfl rfl ?_
          | refine sg_load_whole 6 rfl rfl rfl rfl ?_
          | refine sg_load_whole 7 rfl rfl rfl rfl ?_
          | refine sg_store_whole [] rfl rfl rfl rfl rfl ?_
          | refine sg_store_whole [_] rfl rfl rfl rfl rfl ?_
          | refine sg_store_whole [_, _] rfl rfl rfl rfl rfl ?_
          | refine sg_store_whole [_, _, _] rfl rfl rfl rfl rfl ?_
          | refine sg_store_whole [_, _, _, _] rfl rfl rfl rfl rfl ?_
          | refine sg_store_whole [_, _, _, _, _] rfl rfl rfl rfl rfl ?_
          | refine sg_store_whole [_, _, _, _, _, _] rfl rfl rfl rfl rfl ?_
          | refine sg_alloc rfl (fun al => ?_)
          | refine sg_block ?_
          | refine sg_skip ?_
          | refine sg_ret ?_
          | refine sg_exit ?_
          | refine ex_then_ret ?_
          | refine ex_then_exit ?_
          | refine ex_block_ret ?_
          | refine ex_block_normal ?_
          | refine ex_block_hit ?_
          | refine ex_block_miss rfl ?_
          | refine sg_store [] rfl rfl rfl (of_decide_eq_true rfl) ?_
          | refine sg_store [_] rfl rfl rfl (of_decide_eq_true rfl) ?_
          | refine sg_store [_, _] rfl rfl rfl (of_decide_eq_true rfl) ?_
          | refine sg_store [_, _, _] rfl rfl rfl (of_decide_eq_true rfl) ?_
          | refine sg_store [_, _, _, _] rfl rfl rfl (of_decide_eq_true rfl) ?_
          | refine sg_store [_, _, _, _, _] rfl rfl rfl (of_decide_eq_true rfl) ?_
          | refine sg_store [_, _, _, _, _, _] rfl rfl rfl (of_decide_eq_true rfl) ?_
          | refine sg_store [_, _, _, _, _, _, _] rfl rfl rfl (of_decide_eq_true rfl) ?_
          | (refine sg_guard_dec rfl rfl (fun hg => ?_) (fun hg => ?_) <;> first | (exfalso; omega) | (exact absurd rfl hg) | skip)
          | (refine sg_guard_ndec rfl rfl (fun hg => ?_) (fun hg => ?_) <;> first | (exfalso; omega) | (exact absurd rfl hg) | skip)
          | (refine sg_cond_dec rfl (fun hg => ?_) (fun hg => ?_) <;> first | (exfalso; omega) | (exact absurd rfl hg) | skip)
          | (refine sg_cond_ndec rfl (fun hg => ?_) (fun hg => ?_) <;> first | (exfalso; omega) | (exact absurd rfl hg) | skip)
          | refine sg_cond_not rfl (fun hg => ?_) (fun hg => ?_)
          | refine sg_cond rfl (fun hg => ?_) (fun hg => ?_))
        · refine sg_ps (ps_shr (m := 8 * j) rfl rfl (by omega) (by show min (Int.toNat (8 * (j : Int))) 64 = 8 * j; omega)) rfl ?_
          repeat' (first
            | refine sg_wo ?_
            | refine sg_ps (ps_move rfl) rfl ?_
            | refine sg_ps (ps_assign rfl) rfl ?_
            | refine sg_seq ?_
            | refine sg_region ?_
            | refine sg_nil ?_
            | refine sg_then ?_
            | refine sg_ps (ps_fieldAddr rfl) rfl ?_
            | refine sg_ps (ps_nilCheck rfl) rfl ?_
            | refine sg_load 0 rfl rfl rfl rfl ?_
            | refine sg_load 1 rfl rfl rfl rfl ?_
            | refine sg_load 2 rfl rfl rfl rfl ?_
            | refine sg_load 3 rfl rfl rfl rfl ?_
            | refine sg_load 4 rfl rfl rfl rfl ?_
            | refine sg_load 5 rfl rfl rfl rfl ?_
            | refine sg_load 6 rfl rfl rfl rfl ?_
            | refine sg_load 7 rfl rfl rfl rfl ?_
            | refine sg_ps (ps_add64 rfl rfl (by omega)) rfl ?_
            | refine sg_ps (ps_sub64 rfl rfl (by omega)) rfl ?_
            | refine sg_ps (ps_mul64 rfl rfl (by omega)) rfl ?_
            | refine sg_ps (ps_bin rfl rfl inferInstance) rfl ?_
            | refine sg_ps (ps_rem rfl rfl (by decide)) rfl ?_
            | refine sg_ps (ps_quo64 rfl rfl (by decide) (by omega)) rfl ?_
            | refine sg_ps (ps_not rfl) rfl ?_
            | refine sg_ps (ps_conv rfl) rfl ?_
            | refine sg_ps (ps_shl rfl rfl (by decide) rfl) rfl ?_
            | refine sg_ps (ps_shr rfl rfl (by decide) rfl) rfl ?_
            | refine sg_cond_t rfl ?_
            | refine sg_cond_f rfl ?_
            | refine sg_guard_yes rfl rfl ?_
            | refine sg_guard_nf rfl rfl rfl ?_
            | refine sg_guard_nt rfl rfl rfl ?_
            | refine sg_guard_nu rfl rfl rfl ?_
            | refine sg_ps (ps_pick_t rfl rfl) rfl ?_
            | refine sg_ps (ps_pick_f rfl rfl) rfl ?_
            | refine sg_ps (ps_len rfl) rfl ?_
            | refine sg_ps (ps_len_str rfl) rfl ?_
            | refine sg_ps (ps_extract rfl rfl) rfl ?_
            | refine sg_ps (ps_field rfl rfl) rfl ?_
            | refine sg_ps (ps_min2 rfl rfl) rfl ?_
            | refine sg_ps (ps_max2 rfl rfl) rfl ?_
            | refine sg_ps (ps_build rfl rfl) rfl ?_
            | refine sg_box rfl rfl (fun bx => ?_)
            | refine sg_ps (ps_indexAddr rfl rfl rfl (by omega)) rfl ?_
            | refine sg_ps (ps_indexAddr (j := 0) rfl rfl rfl (by omega)) rfl ?_
            | refine sg_ps (ps_indexAddr (j := 1) rfl rfl rfl (by omega)) rfl ?_
            | refine sg_ps (ps_indexAddr_arr rfl rfl rfl (by omega)) rfl ?_
            | refine sg_load_whole 0 rfl rfl rfl rfl ?_
            | refine sg_load_whole 1 rfl rfl rfl rfl ?_
            | refine sg_load_whole 2 rfl rfl rfl rfl ?_
            | refine sg_load_whole 3 rfl rfl rfl rfl ?_
            | refine sg_load_whole 4 rfl rfl rfl rfl ?_
            | refine sg_load_whole 5 rfl rfl rfl rfl ?_
            | refine sg_load_whole 6 rfl rfl rfl rfl ?_
            | refine sg_load_whole 7 rfl rfl rfl rfl ?_
            | refine sg_store_whole [] rfl rfl rfl rfl rfl ?_
            | refine sg_store_whole [_] rfl rfl rfl rfl rfl ?_
            | refine sg_store_whole [_, _] rfl rfl rfl rfl rfl ?_
            | refine sg_store_whole [_, _, _] rfl rfl rfl rfl rfl ?_
            | refine sg_store_whole [_, _, _, _] rfl rfl rfl rfl rfl ?_
            | refine sg_store_whole [_, _, _, _, _] rfl rfl rfl rfl rfl ?_
            | refine sg_store_whole [_, _, _, _, _, _] rfl rfl rfl rfl rfl ?_
            | refine sg_alloc rfl (fun al => ?_)
            | refine sg_block ?_
            | refine sg_skip ?_
            | refine sg_ret ?_
            | refine sg_exit ?_
            | refine ex_then_ret ?_
            | refine ex_then_exit ?_
            | refine ex_block_ret ?_
            | refine ex_block_normal ?_
            | refine ex_block_hit ?_
            | refine ex_block_miss rfl ?_
            | refine sg_store [] rfl rfl rfl (of_decide_eq_true rfl) ?_
            | refine sg_store [_] rfl rfl rfl (of_decide_eq_true rfl) ?_
            | refine sg_store [_, _] rfl rfl rfl (of_decide_eq_true rfl) ?_
            | refine sg_store [_, _, _] rfl rfl rfl (of_decide_eq_true rfl) ?_
            | refine sg_store [_, _, _, _] rfl rfl rfl (of_decide_eq_true rfl) ?_
            | refine sg_store [_, _, _, _, _] rfl rfl rfl (of_decide_eq_true rfl) ?_
            | refine sg_store [_, _, _, _, _, _] rfl rfl rfl (of_decide_eq_true rfl) ?_
            | refine sg_store [_, _, _, _, _, _, _] rfl rfl rfl (of_decide_eq_true rfl) ?_
            | (refine sg_guard_dec rfl rfl (fun hg => ?_) (fun hg => ?_) <;> first | (exfalso; omega) | (exact absurd rfl hg) | skip)
            | (refine sg_guard_ndec rfl rfl (fun hg => ?_) (fun hg => ?_) <;> first | (exfalso; omega) | (exact absurd rfl hg) | skip)
            | (refine sg_cond_dec rfl (fun hg => ?_) (fun hg => ?_) <;> first | (exfalso; omega) | (exact absurd rfl hg) | skip)
            | (refine sg_cond_ndec rfl (fun hg => ?_) (fun hg => ?_) <;> first | (exfalso; omega) | (exact absurd rfl hg) | skip)
            | refine sg_cond_not rfl (fun hg => ?_) (fun hg => ?_)
            | refine sg_cond rfl (fun hg => ?_) (fun hg => ?_))
          have ev : Value.int .u8 (IntKind.u8.wrap ((X : Int).fdiv (2 ^ (8 * j)))) = bv (UInt8.ofNat (X / 256 ^ j)) := by
            rw [shr_nat, conv8, Nat.pow_mul]
          rw [ev]
          refine sg_ps (ps_indexAddr (j := 7 - j) rfl rfl (by omega) (by omega)) rfl ?_
          repeat' (first
            | refine sg_wo ?_
            | refine sg_ps (ps_move rfl) rfl ?_
            | refine sg_ps (ps_assign rfl) rfl ?_
            | refine sg_seq ?_
            | refine sg_region ?_
            | refine sg_nil ?_
            | refine sg_then ?_
            | refine sg_ps (ps_fieldAddr rfl) rfl ?_
            | refine sg_ps (ps_nilCheck rfl) rfl ?_
            | refine sg_load 0 rfl rfl rfl rfl ?_
            | refine sg_load 1 rfl rfl rfl rfl ?_
            | refine sg_load 2 rfl rfl rfl rfl ?_
            | refine sg_load 3 rfl rfl rfl rfl ?_
            | refine sg_load 4 rfl rfl rfl rfl ?_
            | refine sg_load 5 rfl rfl rfl rfl ?_
            | refine sg_load 6 rfl rfl rfl rfl ?_
            | refine sg_load 7 rfl rfl rfl rfl ?_
            | refine sg_ps (ps_add64 rfl rfl (by omega)) rfl ?_
            | refine sg_ps (ps_sub64 rfl rfl (by omega)) rfl ?_
            | refine sg_ps (ps_mul64 rfl rfl (by omega)) rfl ?_
            | refine sg_ps (ps_bin rfl rfl inferInstance) rfl ?_
            | refine sg_ps (ps_rem rfl rfl (by decide)) rfl ?_
            | refine sg_ps (ps_quo64 rfl rfl (by decide) (by omega)) rfl ?_
            | refine sg_ps (ps_not rfl) rfl ?_
            | refine sg_ps (ps_conv rfl) rfl ?_
            | refine sg_ps (ps_shl rfl rfl (by decide) rfl) rfl ?_
            | refine sg_ps (ps_shr rfl rfl (by decide) rfl) rfl ?_
            | refine sg_cond_t rfl ?_
            | refine sg_cond_f rfl ?_
            | refine sg_guard_yes rfl rfl ?_
            | refine sg_guard_nf rfl rfl rfl ?_
            | refine sg_guard_nt rfl rfl rfl ?_
            | refine sg_guard_nu rfl rfl rfl ?_
            | refine sg_ps (ps_pick_t rfl rfl) rfl ?_
            | refine sg_ps (ps_pick_f rfl rfl) rfl ?_
            | refine sg_ps (ps_len rfl) rfl ?_
            | refine sg_ps (ps_len_str rfl) rfl ?_
            | refine sg_ps (ps_extract rfl rfl) rfl ?_
            | refine sg_ps (ps_field rfl rfl) rfl ?_
            | refine sg_ps (ps_min2 rfl rfl) rfl ?_
            | refine sg_ps (ps_max2 rfl rfl) rfl ?_
            | refine sg_ps (ps_build rfl rfl) rfl ?_
            | refine sg_box rfl rfl (fun bx => ?_)
            | refine sg_ps (ps_indexAddr rfl rfl rfl (by omega)) rfl ?_
            | refine sg_ps (ps_indexAddr (j := 0) rfl rfl rfl (by omega)) rfl ?_
            | refine sg_ps (ps_indexAddr (j := 1) rfl rfl rfl (by omega)) rfl ?_
            | refine sg_ps (ps_indexAddr_arr rfl rfl rfl (by omega)) rfl ?_
            | refine sg_load_whole 0 rfl rfl rfl rfl ?_
            | refine sg_load_whole 1 rfl rfl rfl rfl ?_
            | refine sg_load_whole 2 rfl rfl rfl rfl ?_
            | refine sg_load_whole 3 rfl rfl rfl rfl ?_
            | refine sg_load_whole 4 rfl rfl rfl rfl ?_
            | refine sg_load_whole 5 rfl rfl rfl rfl ?_
            | refine sg_load_whole 6 rfl rfl rfl rfl ?_
            | refine sg_load_whole 7 rfl rfl rfl rfl ?_
            | refine sg_store_whole [] rfl rfl rfl rfl rfl ?_
            | refine sg_store_whole [_] rfl rfl rfl rfl rfl ?_
            | refine sg_store_whole [_, _] rfl rfl rfl rfl rfl ?_
            | refine sg_store_whole [_, _, _] rfl rfl rfl rfl rfl ?_
            | refine sg_store_whole [_, _, _, _] rfl rfl rfl rfl rfl ?_
            | refine sg_store_whole [_, _, _, _, _] rfl rfl rfl rfl rfl ?_
            | refine sg_store_whole [_, _, _, _, _, _] rfl rfl rfl rfl rfl ?_
            | refine sg_alloc rfl (fun al => ?_)
            | refine sg_block ?_
            | refine sg_skip ?_
            | refine sg_ret ?_
            | refine sg_exit ?_
            | refine ex_then_ret ?_
            | refine ex_then_exit ?_
            | refine ex_block_ret ?_
            | refine ex_block_normal ?_
            | refine ex_block_hit ?_
            | refine ex_block_miss rfl ?_
            | refine sg_store [] rfl rfl rfl (of_decide_eq_true rfl) ?_
            | refine sg_store [_] rfl rfl rfl (of_decide_eq_true rfl) ?_
            | refine sg_store [_, _] rfl rfl rfl (of_decide_eq_true rfl) ?_
            | refine sg_store [_, _, _] rfl rfl rfl (of_decide_eq_true rfl) ?_
            | refine sg_store [_, _, _, _] rfl rfl rfl (of_decide_eq_true rfl) ?_
            | refine sg_store [_, _, _, _, _] rfl rfl rfl (of_decide_eq_true rfl) ?_
            | refine sg_store [_, _, _, _, _, _] rfl rfl rfl (of_decide_eq_true rfl) ?_
            | refine sg_store [_, _, _, _, _, _, _] rfl rfl rfl (of_decide_eq_true rfl) ?_
            | (refine sg_guard_dec rfl rfl (fun hg => ?_) (fun hg => ?_) <;> first | (exfalso; omega) | (exact absurd rfl hg) | skip)
            | (refine sg_guard_ndec rfl rfl (fun hg => ?_) (fun hg => ?_) <;> first | (exfalso; omega) | (exact absurd rfl hg) | skip)
            | (refine sg_cond_dec rfl (fun hg => ?_) (fun hg => ?_) <;> first | (exfalso; omega) | (exact absurd rfl hg) | skip)
            | (refine sg_cond_ndec rfl (fun hg => ?_) (fun hg => ?_) <;> first | (exfalso; omega) | (exact absurd rfl hg) | skip)
            | refine sg_cond_not rfl (fun hg => ?_) (fun hg => ?_)
            | refine sg_cond rfl (fun hg => ?_) (fun hg => ?_))
          refine sg_store [] rfl rfl rfl (by rw [hpl]; omega) ?_
          repeat' (first
            | refine sg_wo ?_
            | refine sg_ps (ps_move rfl) rfl ?_
            | refine sg_ps (ps_assign rfl) rfl ?_
            | refine sg_seq ?_
            | refine sg_region ?_
            | refine sg_nil ?_
            | refine sg_then ?_
            | refine sg_ps (ps_fieldAddr rfl) rfl ?_
            | refine sg_ps (ps_nilCheck rfl) rfl ?_
            | refine sg_load 0 rfl rfl rfl rfl ?_
            | refine sg_load 1 rfl rfl rfl rfl ?_
            | refine sg_load 2 rfl rfl rfl rfl ?_
            | refine sg_load 3 rfl rfl rfl rfl ?_
            | refine sg_load 4 rfl rfl rfl rfl ?_
            | refine sg_load 5 rfl rfl rfl rfl ?_
            | refine sg_load 6 rfl rfl rfl rfl ?_
            | refine sg_load 7 rfl rfl rfl rfl ?_
            | refine sg_ps (ps_add64 rfl rfl (by omega)) rfl ?_
            | refine sg_ps (ps_sub64 rfl rfl (by omega)) rfl ?_
            | refine sg_ps (ps_mul64 rfl rfl (by omega)) rfl ?_
            | refine sg_ps (ps_bin rfl rfl inferInstance) rfl ?_
            | refine sg_ps (ps_rem rfl rfl (by decide)) rfl ?_
            | refine sg_ps (ps_quo64 rfl rfl (by decide) (by omega)) rfl ?_
            | refine sg_ps (ps_not rfl) rfl ?_
            | refine sg_ps (ps_conv rfl) rfl ?_
            | refine sg_ps (ps_shl rfl rfl (by decide) rfl) rfl ?_
            | refine sg_ps (ps_shr rfl rfl (by decide) rfl) rfl ?_
            | refine sg_cond_t rfl ?_
            | refine sg_cond_f rfl ?_
            | refine sg_guard_yes rfl rfl ?_
            | refine sg_guard_nf rfl rfl rfl ?_
            | refine sg_guard_nt rfl rfl rfl ?_
            | refine sg_guard_nu rfl rfl rfl ?_
            | refine sg_ps (ps_pick_t rfl rfl) rfl ?_
            | refine sg_ps (ps_pick_f rfl rfl) rfl ?_
            | refine sg_ps (ps_len rfl) rfl ?_
            | refine sg_ps (ps_len_str rfl) rfl ?_
            | refine sg_ps (ps_extract rfl rfl) rfl ?_
            | refine sg_ps (ps_field rfl rfl) rfl ?_
            | refine sg_ps (ps_min2 rfl rfl) rfl ?_
            | refine sg_ps (ps_max2 rfl rfl) rfl ?_
            | refine sg_ps (ps_build rfl rfl) rfl ?_
            | refine sg_box rfl rfl (fun bx => ?_)
            | refine sg_ps (ps_indexAddr rfl rfl rfl (by omega)) rfl ?_
            | refine sg_ps (ps_indexAddr (j := 0) rfl rfl rfl (by omega)) rfl ?_
            | refine sg_ps (ps_indexAddr (j := 1) rfl rfl rfl (by omega)) rfl ?_
            | refine sg_ps (ps_indexAddr_arr rfl rfl rfl (by omega)) rfl ?_
            | refine sg_load_whole 0 rfl rfl rfl rfl ?_
            | refine sg_load_whole 1 rfl rfl rfl rfl ?_
            | refine sg_load_whole 2 rfl rfl rfl rfl ?_
            | refine sg_load_whole 3 rfl rfl rfl rfl ?_
            | refine sg_load_whole 4 rfl rfl rfl rfl ?_
            | refine sg_load_whole 5 rfl rfl rfl rfl ?_
            | refine sg_load_whole 6 rfl rfl rfl rfl ?_
            | refine sg_load_whole 7 rfl rfl rfl rfl ?_
            | refine sg_store_whole [] rfl rfl rfl rfl rfl ?_
            | refine sg_store_whole [_] rfl rfl rfl rfl rfl ?_
            | refine sg_store_whole [_, _] rfl rfl rfl rfl rfl ?_
            | refine sg_store_whole [_, _, _] rfl rfl rfl rfl rfl ?_
            | refine sg_store_whole [_, _, _, _] rfl rfl rfl rfl rfl ?_
            | refine sg_store_whole [_, _, _, _, _] rfl rfl rfl rfl rfl ?_
            | refine sg_store_whole [_, _, _, _, _, _] rfl rfl rfl rfl rfl ?_
            | refine sg_alloc rfl (fun al => ?_)
            | refine sg_block ?_
            | refine sg_skip ?_
            | refine sg_ret ?_
            | refine sg_exit ?_
            | refine ex_then_ret ?_
            | refine ex_then_exit ?_
            | refine ex_block_ret ?_
            | refine ex_block_normal ?_
            | refine ex_block_hit ?_
            | refine ex_block_miss rfl ?_
            | refine sg_store [] rfl rfl rfl (of_decide_eq_true rfl) ?_
            | refine sg_store [_] rfl rfl rfl (of_decide_eq_true rfl) ?_
            | refine sg_store [_, _] rfl rfl rfl (of_decide_eq_true rfl) ?_
            | refine sg_store [_, _, _] rfl rfl rfl (of_decide_eq_true rfl) ?_
            | refine sg_store [_, _, _, _] rfl rfl rfl (of_decide_eq_true rfl) ?_
            | refine sg_store [_, _, _, _, _] rfl rfl rfl (of_decide_eq_true rfl) ?_
            | refine sg_store [_, _, _, _, _, _] rfl rfl rfl (of_decide_eq_true rfl) ?_
            | refine sg_store [_, _, _, _, _, _, _] rfl rfl rfl (of_decide_eq_true rfl) ?_
            | (refine sg_guard_dec rfl rfl (fun hg => ?_) (fun hg => ?_) <;> first | (exfalso; omega) | (exact absurd rfl hg) | skip)
            | (refine sg_guard_ndec rfl rfl (fun hg => ?_) (fun hg => ?_) <;> first | (exfalso; omega) | (exact absurd rfl hg) | skip)
            | (refine sg_cond_dec rfl (fun hg => ?_) (fun hg => ?_) <;> first | (exfalso; omega) | (exact absurd rfl hg) | skip)
            | (refine sg_cond_ndec rfl (fun hg => ?_) (fun hg => ?_) <;> first | (exfalso; omega) | (exact absurd rfl hg) | skip)
            | refine sg_cond_not rfl (fun hg => ?_) (fun hg => ?_)
            | refine sg_cond rfl (fun hg => ?_) (fun hg => ?_))
          refine ex_mid (j + 1) ⟨by omega, by omega⟩ (.cons rfl (.cons rfl (.cons rfl (.cons rfl (.cons rfl (.cons rfl .nil)))))) (fun w hO => ?_)
          rw [← putCells_step _ _ _ _ hcl (by omega)]
          rw [show 0 + o + (7 - j) * 1 = o + (7 - j) by omega] at hO
          exact hO
        · have hj8 : j = 8 := by omega
          subst hj8
          rw [hend]
          have hal : (addAt s.val o m.num).length = s.val.length := by unfold addAt; simp; omega
          refine sg_str_of_bytes (bs := addAt s.val o m.num) rfl rfl hal (rd_blk 0 rfl cells_pre) ?_
          repeat' (first
            | refine sg_wo ?_
            | refine sg_ps (ps_move rfl) rfl ?_
            | refine sg_ps (ps_assign rfl) rfl ?_
            | refine sg_seq ?_
            | refine sg_region ?_
            | refine sg_nil ?_
            | refine sg_then ?_
            | refine sg_ps (ps_fieldAddr rfl) rfl ?_
            | refine sg_ps (ps_nilCheck rfl) rfl ?_
            | refine sg_load 0 rfl rfl rfl rfl ?_
            | refine sg_load 1 rfl rfl rfl rfl ?_
            | refine sg_load 2 rfl rfl rfl rfl ?_
            | refine sg_load 3 rfl rfl rfl rfl ?_
            | refine sg_load 4 rfl rfl rfl rfl ?_
            | refine sg_load 5 rfl rfl rfl rfl ?_
            | refine sg_load 6 rfl rfl rfl rfl ?_
            | refine sg_load 7 rfl rfl rfl rfl ?_
            | refine sg_ps (ps_add64 rfl rfl (by omega)) rfl ?_
            | refine sg_ps (ps_sub64 rfl rfl (by omega)) rfl ?_
            | refine sg_ps (ps_mul64 rfl rfl (by omega)) rfl ?_
            | refine sg_ps (ps_bin rfl rfl inferInstance) rfl ?_
            | refine sg_ps (ps_rem rfl rfl (by decide)) rfl ?_
            | refine sg_ps (ps_quo64 rfl rfl (by decide) (by omega)) rfl ?_
            | refine sg_ps (ps_not rfl) rfl ?_
            | refine sg_ps (ps_conv rfl) rfl ?_
            | refine sg_ps (ps_shl rfl rfl (by decide) rfl) rfl ?_
            | refine sg_ps (ps_shr rfl rfl (by decide) rfl) rfl ?_
            | refine sg_cond_t rfl ?_
            | refine sg_cond_f rfl ?_
            | refine sg_guard_yes rfl rfl ?_
            | refine sg_guard_nf rfl rfl rfl ?_
            | refine sg_guard_nt rfl rfl rfl ?_
            | refine sg_guard_nu rfl rfl rfl ?_
            | refine sg_ps (ps_pick_t rfl rfl) rfl ?_
            | refine sg_ps (ps_pick_f rfl rfl) rfl ?_
            | refine sg_ps (ps_len rfl) rfl ?_
            | refine sg_ps (ps_len_str rfl) rfl ?_
            | refine sg_ps (ps_extract rfl rfl) rfl ?_
            | refine sg_ps (ps_field rfl rfl) rfl ?_
            | refine sg_ps (ps_min2 rfl rfl) rfl ?_
            | refine sg_ps (ps_max2 rfl rfl) rfl ?_
            | refine sg_ps (ps_build rfl rfl) rfl ?_
            | refine sg_box rfl rfl (fun bx => ?_)
            | refine sg_ps (ps_indexAddr rfl rfl rfl (by omega)) rfl ?_
            | refine sg_ps (ps_indexAddr (j := 0) rfl rfl rfl (by omega)) rfl ?_
            | refine sg_ps (ps_indexAddr (j := 1) rfl rfl rfl (by omega)) rfl ?_
            | refine sg_ps (ps_indexAddr_arr rfl rfl rfl (by omega)) rfl ?_
            | refine sg_load_whole 0 rfl rfl rfl rfl ?_
            | refine sg_load_whole 1 rfl rfl rfl rfl ?_
            | refine sg_load_whole 2 rfl rfl rfl rfl ?_
            | refine sg_load_whole 3 rfl rfl rfl rfl ?_
            | refine sg_load_whole 4 rfl rfl rfl rfl ?_
            | refine sg_load_whole 5 rfl rfl rfl rfl ?_
            | refine sg_load_whole 6 rfl rfl rfl rfl ?_
            | refine sg_load_whole 7 rfl rfl rfl rfl ?_
            | refine sg_store_whole [] rfl rfl rfl rfl rfl ?_
            | refine sg_store_whole [_] rfl rfl rfl rfl rfl ?_
            | refine sg_store_whole [_, _] rfl rfl rfl rfl rfl ?_
            | refine sg_store_whole [_, _, _] rfl rfl rfl rfl rfl ?_
            | refine sg_store_whole [_, _, _, _] rfl rfl rfl rfl rfl ?_
            | refine sg_store_whole [_, _, _, _, _] rfl rfl rfl rfl rfl ?_
            | refine sg_store_whole [_, _, _, _, _, _] rfl rfl rfl rfl rfl ?_
            | refine sg_alloc rfl (fun al => ?_)
            | refine sg_block ?_
            | refine sg_skip ?_
            | refine sg_ret ?_
            | refine sg_exit ?_
            | refine ex_then_ret ?_
            | refine ex_then_exit ?_
            | refine ex_block_ret ?_
            | refine ex_block_normal ?_
            | refine ex_block_hit ?_
            | refine ex_block_miss rfl ?_
            | refine sg_store [] rfl rfl rfl (of_decide_eq_true rfl) ?_
            | refine sg_store [_] rfl rfl rfl (of_decide_eq_true rfl) ?_
            | refine sg_store [_, _] rfl rfl rfl (of_decide_eq_true rfl) ?_
            | refine sg_store [_, _, _] rfl rfl rfl (of_decide_eq_true rfl) ?_
            | refine sg_store [_, _, _, _] rfl rfl rfl (of_decide_eq_true rfl) ?_
            | refine sg_store [_, _, _, _, _] rfl rfl rfl (of_decide_eq_true rfl) ?_
            | refine sg_store [_, _, _, _, _, _] rfl rfl rfl (of_decide_eq_true rfl) ?_
            | refine sg_store [_, _, _, _, _, _, _] rfl rfl rfl (of_decide_eq_true rfl) ?_
            | (refine sg_guard_dec rfl rfl (fun hg => ?_) (fun hg => ?_) <;> first | (exfalso; omega) | (exact absurd rfl hg) | skip)
            | (refine sg_guard_ndec rfl rfl (fun hg => ?_) (fun hg => ?_) <;> first | (exfalso; omega) | (exact absurd rfl hg) | skip)
            | (refine sg_cond_dec rfl (fun hg => ?_) (fun hg => ?_) <;> first | (exfalso; omega) | (exact absurd rfl hg) | skip)
            | (refine sg_cond_ndec rfl (fun hg => ?_) (fun hg => ?_) <;> first | (exfalso; omega) | (exact absurd rfl hg) | skip)
            | refine sg_cond_not rfl (fun hg => ?_) (fun hg => ?_)
            | refine sg_cond rfl (fun hg => ?_) (fun hg => ?_))
          exact ex_retc 1 rfl rfl rfl rfl () rfl trivial (fun w hO => hO.tail.tail)
end Go.Proofs.Ytlafdffjkdiigaa
