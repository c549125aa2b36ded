/- Package msg: Grow, worker, entry. -/
import Derived.Test.YtlafdffjkdiigaaMG
namespace Go.Proofs.Ytlafdffjkdiigaa
set_option linter.unusedVariables false
set_option linter.unusedSimpArgs false
set_option linter.unusedSectionVars false
set_option linter.unnecessarySimpa false
open Go Go.Proofs
set_option maxRecDepth 20000
set_option maxHeartbeats 4000000
attribute [local irreducible] SG WC WO W1 WD WK PS Rd Tri Exit.then Exit.inBlock bodyPost calmQ Mid sadd
variable {W : World} {n : Nat} {F : Fr} {L : List HP} {G : Act → World → Prop}
def bump : List UInt8 → List UInt8
  | [] => []
  | b :: t => UInt8.ofNat (b.toNat + 1) :: t
def ST.grow (s : ST) (m : MS) : ST := if s.has = false ∨ s.val = [] ∨ ((s.val.getD 0 0).toNat : Int) ≠ m.off ∨ 512 < s.val.length + m.val.length then s else ⟨true, bump (s.val ++ m.val)⟩
theorem i64_u8 (b : UInt8) : IntKind.i64.wrap (b.toNat : Int) = (b.toNat : Int) := by
  have := b.toNat_lt
  rw [IntWalk.i64_in _ (by omega)]
theorem strOf_get {s : List UInt8} {j : Nat} (h : j < (strOf s).size) (h2 : j < s.length) : (strOf s)[j] = s[j] := by
  simp [strOf, ByteArray.getElem_eq_getElem_data]
theorem ps_index_strOf {P : Program} {ty : TypeId} {x ix : Operand} {t j : Nat} {k : IntKind} {i : Int} {s : List UInt8} [hs : IsT P t .string] (hx : ev F x = some (.string (strOf s))) (hi : ev F ix = some (.int k i)) (hj : i = (j : Int)) (hlt : j < s.length) :
    PS P n F (.index t x ix) ty (bv s[j]) := by
  have h : j < (strOf s).size := by rw [strOf_size]; exact hlt
  rw [← strOf_get h hlt]
  exact ps_index_str hx hi hj h
theorem u8_succ (b : UInt8) : Value.int .u8 (IntKind.u8.wrap ((b.toNat : Int) + 1)) = bv (UInt8.ofNat (b.toNat + 1)) := by
  rw [show (b.toNat : Int) + 1 = ((b.toNat + 1 : Nat) : Int) by omega, wrap_u _ rfl, bv_ofNat]; rfl
theorem grow_tri (s : ST) (m : MS) (hs : s.val.length ≤ 140737488355328) (hm : m.val.length ≤ 140737488355328) (R : List HP) : Tri Try.prog W 20 [s.v, m.v] R (X := Unit) (fun _ => (s.grow m).v) (fun _ => True) (fun _ => R) := by
  have hsz := strOf_size s.val
  have hmz := strOf_size m.val
  refine tri_enter2 Try.func20 rfl Try.ntmps20 rfl ?_
  repeat' (first
    | refine sg_wo ?_
    | refine sg_ps (ps_move rfl) rfl ?_
    | refine sg_ps (ps_assign rfl) rfl ?_
    | refine sg_seq ?_
    | refine sg_region ?_
    | refine sg_nil ?_
    | refine sg_then ?_
    | refine sg_ps (ps_fieldAddr rfl) rfl ?_
    | refine sg_ps (ps_nilCheck rfl) rfl ?_
    | refine sg_load 0 rfl rfl rfl rfl ?_
    | refine sg_load 1 rfl rfl rfl rfl ?_
    | refine sg_load 2 rfl rfl rfl rfl ?_
    | refine sg_load 3 rfl rfl rfl rfl ?_
    | refine sg_load 4 rfl rfl rfl rfl ?_
    | refine sg_load 5 rfl rfl rfl rfl ?_
    | refine sg_load 6 rfl rfl rfl rfl ?_
    | refine sg_load 7 rfl rfl rfl rfl ?_
    | refine sg_ps (ps_add64 rfl rfl (by omega)) rfl ?_
    | refine sg_ps (ps_sub64 rfl rfl (by omega)) rfl ?_
    | refine sg_ps (ps_mul64 rfl rfl (by omega)) rfl ?_
    | refine sg_ps (ps_bin rfl rfl inferInstance) rfl ?_
    | refine sg_ps (ps_rem rfl rfl (by decide)) rfl ?_
    | refine sg_ps (ps_quo64 rfl rfl (by decide) (by omega)) rfl ?_
    | refine sg_ps (ps_not rfl) rfl ?_
    | refine sg_ps (ps_conv rfl) rfl ?_
    | refine sg_ps (ps_shl rfl rfl (by decide) rfl) rfl ?_
    | refine sg_ps (ps_shr rfl rfl (by decide) rfl) rfl ?_
    | refine sg_cond_t rfl ?_
    | refine sg_cond_f rfl ?_
    | refine sg_guard_yes rfl rfl ?_
    | refine sg_guard_nf rfl rfl rfl ?_
    | refine sg_guard_nt rfl rfl rfl ?_
    | refine sg_guard_nu rfl rfl rfl ?_
    | refine sg_ps (ps_pick_t rfl rfl) rfl ?_
    | refine sg_ps (ps_pick_f rfl rfl) rfl ?_
    | refine sg_ps (ps_len rfl) rfl ?_
    | refine sg_ps (ps_len_str rfl) rfl ?_
    | refine sg_ps (ps_extract rfl rfl) rfl ?_
    | refine sg_ps (ps_field rfl rfl) rfl ?_
    | refine sg_ps (ps_min2 rfl rfl) rfl ?_
    | refine sg_ps (ps_max2 rfl rfl) rfl ?_
    | refine sg_ps (ps_build rfl rfl) rfl ?_
    | refine sg_box rfl rfl (fun bx => ?_)
    | refine sg_ps (ps_indexAddr rfl rfl rfl (by omega)) rfl ?_
    | refine sg_ps (ps_indexAddr (j := 0) rfl rfl rfl (by omega)) rfl ?_
    | refine sg_ps (ps_indexAddr (j := 1) rfl rfl rfl (by omega)) rfl ?_
    | refine sg_ps (ps_indexAddr_arr rfl rfl rfl (by omega)) rfl ?_
    | refine sg_load_whole 0 rfl rfl rfl rfl ?_
    | refine sg_load_whole 1 rfl rfl rfl rfl ?_
    | refine sg_load_whole 2 rfl rfl rfl rfl ?_
    | refine sg_load_whole 3 rfl rfl rfl rfl ?_
    | refine sg_load_whole 4 rfl rfl rfl rfl ?_
    | refine sg_load_whole 5 rfl rfl rfl rfl ?_
    | refine sg_load_whole 6 rfl rfl rfl rfl ?_
    | refine sg_load_whole 7 rfl rfl rfl rfl ?_
    | refine sg_store_whole [] rfl rfl rfl rfl rfl ?_
    | refine sg_store_whole [_] rfl rfl rfl rfl rfl ?_
    | refine sg_store_whole [_, _] rfl rfl rfl rfl rfl ?_
    | refine sg_store_whole [_, _, _] rfl rfl rfl rfl rfl ?_
    | refine sg_store_whole [_, _, _, _] rfl rfl rfl rfl rfl ?_
    | refine sg_store_whole [_, _, _, _, _] rfl rfl rfl rfl rfl ?_
    | refine sg_store_whole [_, _, _, _, _, _] rfl rfl rfl rfl rfl ?_
    | refine sg_alloc rfl (fun al => ?_)
    | refine sg_block ?_
    | refine sg_skip ?_
    | refine sg_ret ?_
    | refine sg_exit ?_
    | refine ex_then_ret ?_
    | refine ex_then_exit ?_
    | refine ex_block_ret ?_
    | refine ex_block_normal ?_
    | refine ex_block_hit ?_
    | refine ex_block_miss rfl ?_
    | refine sg_store [] rfl rfl rfl (of_decide_eq_true rfl) ?_
    | refine sg_store [_] rfl rfl rfl (of_decide_eq_true rfl) ?_
    | refine sg_store [_, _] rfl rfl rfl (of_decide_eq_true rfl) ?_
    | refine sg_store [_, _, _] rfl rfl rfl (of_decide_eq_true rfl) ?_
    | refine sg_store [_, _, _, _] rfl rfl rfl (of_decide_eq_true rfl) ?_
    | refine sg_store [_, _, _, _, _] rfl rfl rfl (of_decide_eq_true rfl) ?_
    | refine sg_store [_, _, _, _, _, _] rfl rfl rfl (of_decide_eq_true rfl) ?_
    | refine sg_store [_, _, _, _, _, _, _] rfl rfl rfl (of_decide_eq_true rfl) ?_
    | (refine sg_guard_dec rfl rfl (fun hg => ?_) (fun hg => ?_) <;> first | (exfalso; omega) | (exact absurd rfl hg) | skip)
    | (refine sg_guard_ndec rfl rfl (fun hg => ?_) (fun hg => ?_) <;> first | (exfalso; omega) | (exact absurd rfl hg) | skip)
    | (refine sg_cond_dec rfl (fun hg => ?_) (fun hg => ?_) <;> first | (exfalso; omega) | (exact absurd rfl hg) | skip)
    | (refine sg_cond_ndec rfl (fun hg => ?_) (fun hg => ?_) <;> first | (exfalso; omega) | (exact absurd rfl hg) | skip)
    | refine sg_cond_not rfl (fun hg => ?_) (fun hg => ?_)
    | refine sg_cond rfl (fun hg => ?_) (fun hg => ?_))
  rename_i b0
  refine sg_drawK [blk al (Value.agg #[Value.bool false, Value.string ByteArray.empty]).cells.toList, blk bx m.v.cells.toList, blk b0 s.v.cells.toList] [0, 1, 2, 3, 4, 5, 6, 7, 8, 9, 13, 10, 11, 12, 14, 15, 16, 17, 18, 21, 19, 20, 22, 23, 24, 25, 26] (by kernel_rfl) (by kernel_rfl) (fun w hO => hO.pick [0, 1, 2] (by decide)) ?_
  repeat' (first
    | refine sk_nil ?_
    | refine sk_pure rfl rfl (ps_move rfl) rfl ?_
    | refine sk_pure rfl rfl (ps_assign rfl) rfl ?_
    | refine sk_pure rfl rfl (ps_nilCheck rfl) rfl ?_
    | refine sk_pure rfl rfl (ps_fieldAddr rfl) rfl ?_
    | refine sk_pure rfl rfl (ps_add64 rfl rfl (by omega)) rfl ?_
    | refine sk_pure rfl rfl (ps_sub64 rfl rfl (by omega)) rfl ?_
    | refine sk_pure rfl rfl (ps_mul64 rfl rfl (by omega)) rfl ?_
    | refine sk_pure rfl rfl (ps_bin rfl rfl inferInstance) rfl ?_
    | refine sk_pure rfl rfl (ps_rem rfl rfl (by decide)) rfl ?_
    | refine sk_pure rfl rfl (ps_not rfl) rfl ?_
    | refine sk_pure rfl rfl (ps_conv rfl) rfl ?_
    | refine sk_pure rfl rfl (ps_shl rfl rfl (by decide) rfl) rfl ?_
    | refine sk_pure rfl rfl (ps_shr rfl rfl (by decide) rfl) rfl ?_
    | refine sk_pure rfl rfl (ps_len rfl) rfl ?_
    | refine sk_pure rfl rfl (ps_len_str rfl) rfl ?_
    | refine sk_pure rfl rfl (ps_extract rfl rfl) rfl ?_
    | refine sk_pure rfl rfl (ps_field rfl rfl) rfl ?_
    | refine sk_pure rfl rfl (ps_build rfl rfl) rfl ?_
    | refine sk_pure rfl rfl (ps_indexAddr rfl rfl rfl (by omega)) rfl ?_
    | refine sk_pure rfl rfl (ps_indexAddr (j := 0) rfl rfl rfl (by omega)) rfl ?_
    | refine sk_pure rfl rfl (ps_indexAddr (j := 1) rfl rfl rfl (by omega)) rfl ?_
    | refine sk_pure rfl rfl (ps_pick_t rfl rfl) rfl ?_
    | refine sk_pure rfl rfl (ps_pick_f rfl rfl) rfl ?_
    | refine sk_pure rfl rfl (ps_min2 rfl rfl) rfl ?_
    | refine sk_pure rfl rfl (ps_max2 rfl rfl) rfl ?_
    | refine sk_pure rfl rfl (ps_indexAddr_arr rfl rfl rfl (by omega)) rfl ?_
    | refine sk_no rfl rfl rfl rfl rfl ?_
    | refine sk_pure_g rfl rfl rfl rfl (ps_move rfl) rfl ?_
    | refine sk_pure_g rfl rfl rfl rfl (ps_assign rfl) rfl ?_
    | refine sk_pure_g rfl rfl rfl rfl (ps_nilCheck rfl) rfl ?_
    | refine sk_pure_g rfl rfl rfl rfl (ps_fieldAddr rfl) rfl ?_
    | refine sk_pure_g rfl rfl rfl rfl (ps_add64 rfl rfl (by omega)) rfl ?_
    | refine sk_pure_g rfl rfl rfl rfl (ps_sub64 rfl rfl (by omega)) rfl ?_
    | refine sk_pure_g rfl rfl rfl rfl (ps_mul64 rfl rfl (by omega)) rfl ?_
    | refine sk_pure_g rfl rfl rfl rfl (ps_bin rfl rfl inferInstance) rfl ?_
    | refine sk_pure_g rfl rfl rfl rfl (ps_rem rfl rfl (by decide)) rfl ?_
    | refine sk_pure_g rfl rfl rfl rfl (ps_not rfl) rfl ?_
    | refine sk_pure_g rfl rfl rfl rfl (ps_conv rfl) rfl ?_
    | refine sk_pure_g rfl rfl rfl rfl (ps_shl rfl rfl (by decide) rfl) rfl ?_
    | refine sk_pure_g rfl rfl rfl rfl (ps_shr rfl rfl (by decide) rfl) rfl ?_
    | refine sk_pure_g rfl rfl rfl rfl (ps_len rfl) rfl ?_
    | refine sk_pure_g rfl rfl rfl rfl (ps_len_str rfl) rfl ?_
    | refine sk_pure_g rfl rfl rfl rfl (ps_extract rfl rfl) rfl ?_
    | refine sk_pure_g rfl rfl rfl rfl (ps_field rfl rfl) rfl ?_
    | refine sk_pure_g rfl rfl rfl rfl (ps_build rfl rfl) rfl ?_
    | refine sk_pure_g rfl rfl rfl rfl (ps_indexAddr rfl rfl rfl (by omega)) rfl ?_
    | refine sk_pure_g rfl rfl rfl rfl (ps_indexAddr (j := 0) rfl rfl rfl (by omega)) rfl ?_
    | refine sk_pure_g rfl rfl rfl rfl (ps_indexAddr (j := 1) rfl rfl rfl (by omega)) rfl ?_
    | refine sk_pure_g rfl rfl rfl rfl (ps_pick_t rfl rfl) rfl ?_
    | refine sk_pure_g rfl rfl rfl rfl (ps_pick_f rfl rfl) rfl ?_
    | refine sk_pure_g rfl rfl rfl rfl (ps_min2 rfl rfl) rfl ?_
    | refine sk_pure_g rfl rfl rfl rfl (ps_max2 rfl rfl) rfl ?_
    | refine sk_pure_g rfl rfl rfl rfl (ps_indexAddr_arr rfl rfl rfl (by omega)) rfl ?_
    | refine sk_load 0 rfl rfl rfl rfl rfl ?_
    | refine sk_load 1 rfl rfl rfl rfl rfl ?_
    | refine sk_load 2 rfl rfl rfl rfl rfl ?_
    | refine sk_load 3 rfl rfl rfl rfl rfl ?_
    | refine sk_load 4 rfl rfl rfl rfl rfl ?_
    | refine sk_load 5 rfl rfl rfl rfl rfl ?_
    | refine sk_load_g 0 rfl rfl rfl rfl rfl rfl rfl ?_
    | refine sk_load_g 1 rfl rfl rfl rfl rfl rfl rfl ?_
    | refine sk_load_g 2 rfl rfl rfl rfl rfl rfl rfl ?_
    | refine sk_load_g 3 rfl rfl rfl rfl rfl rfl rfl ?_
    | refine sk_load_g 4 rfl rfl rfl rfl rfl rfl rfl ?_
    | refine sk_load_g 5 rfl rfl rfl rfl rfl rfl rfl ?_
    | refine sk_lw 0 rfl rfl rfl rfl rfl ?_
    | refine sk_lw 1 rfl rfl rfl rfl rfl ?_
    | refine sk_lw 2 rfl rfl rfl rfl rfl ?_
    | refine sk_lw 3 rfl rfl rfl rfl rfl ?_
    | refine sk_lw 4 rfl rfl rfl rfl rfl ?_
    | refine sk_lw 5 rfl rfl rfl rfl rfl ?_
    | refine sk_lwg 0 rfl rfl rfl rfl rfl rfl rfl ?_
    | refine sk_lwg 1 rfl rfl rfl rfl rfl rfl rfl ?_
    | refine sk_lwg 2 rfl rfl rfl rfl rfl rfl rfl ?_
    | refine sk_lwg 3 rfl rfl rfl rfl rfl rfl rfl ?_
    | refine sk_lwg 4 rfl rfl rfl rfl rfl rfl rfl ?_
    | refine sk_lwg 5 rfl rfl rfl rfl rfl rfl rfl ?_
    | refine sk_eff rfl rfl ?_
    | refine sg_store_whole [] rfl rfl rfl rfl rfl ?_
    | refine sg_store_whole [_] rfl rfl rfl rfl rfl ?_
    | refine sg_store_whole [_, _] rfl rfl rfl rfl rfl ?_
    | refine sg_store_whole [_, _, _] rfl rfl rfl rfl rfl ?_
    | refine sg_store_whole [_, _, _, _] rfl rfl rfl rfl rfl ?_
    | refine sg_store_whole [_, _, _, _, _] rfl rfl rfl rfl rfl ?_
    | refine sg_store_whole [_, _, _, _, _, _] rfl rfl rfl rfl rfl ?_
    | refine sg_guard_yes rfl rfl ?_
    | refine sg_guard_nf rfl rfl rfl ?_
    | refine sg_guard_nt rfl rfl rfl ?_
    | refine sg_guard_nu rfl rfl rfl ?_
    | refine sk_back (fun w hO => hO) ?_
    | refine sg_store [] rfl rfl rfl (of_decide_eq_true rfl) ?_
    | refine sg_store [_] rfl rfl rfl (of_decide_eq_true rfl) ?_
    | refine sg_store [_, _] rfl rfl rfl (of_decide_eq_true rfl) ?_
    | refine sg_store [_, _, _] rfl rfl rfl (of_decide_eq_true rfl) ?_
    | refine sg_store [_, _, _, _] rfl rfl rfl (of_decide_eq_true rfl) ?_
    | refine sg_store [_, _, _, _, _] rfl rfl rfl (of_decide_eq_true rfl) ?_
    | refine sg_store [_, _, _, _, _, _] rfl rfl rfl (of_decide_eq_true rfl) ?_
    | refine sg_store [_, _, _, _, _, _, _] rfl rfl rfl (of_decide_eq_true rfl) ?_)
  refine sg_know 9 rfl (fun h => ?_) (fun h => ?_)
  · have e : s.grow m = s := if_pos (.inl (by simpa using h))
    rw [e]
    repeat' (first
      | refine sk_nil ?_
      | refine sk_pure rfl rfl (ps_move rfl) rfl ?_
      | refine sk_pure rfl rfl (ps_assign rfl) rfl ?_
      | refine sk_pure rfl rfl (ps_nilCheck rfl) rfl ?_
      | refine sk_pure rfl rfl (ps_fieldAddr rfl) rfl ?_
      | refine sk_pure rfl rfl (ps_add64 rfl rfl (by omega)) rfl ?_
      | refine sk_pure rfl rfl (ps_sub64 rfl rfl (by omega)) rfl ?_
      | refine sk_pure rfl rfl (ps_mul64 rfl rfl (by omega)) rfl ?_
      | refine sk_pure rfl rfl (ps_bin rfl rfl inferInstance) rfl ?_
      | refine sk_pure rfl rfl (ps_rem rfl rfl (by decide)) rfl ?_
      | refine sk_pure rfl rfl (ps_not rfl) rfl ?_
      | refine sk_pure rfl rfl (ps_conv rfl) rfl ?_
      | refine sk_pure rfl rfl (ps_shl rfl rfl (by decide) rfl) rfl ?_
      | refine sk_pure rfl rfl (ps_shr rfl rfl (by decide) rfl) rfl ?_
      | refine sk_pure rfl rfl (ps_len rfl) rfl ?_
      | refine sk_pure rfl rfl (ps_len_str rfl) rfl ?_
      | refine sk_pure rfl rfl (ps_extract rfl rfl) rfl ?_
      | refine sk_pure rfl rfl (ps_field rfl rfl) rfl ?_
      | refine sk_pure rfl rfl (ps_build rfl rfl) rfl ?_
      | refine sk_pure rfl rfl (ps_indexAddr rfl rfl rfl (by omega)) rfl ?_
      | refine sk_pure rfl rfl (ps_indexAddr (j := 0) rfl rfl rfl (by omega)) rfl ?_
      | refine sk_pure rfl rfl (ps_indexAddr (j := 1) rfl rfl rfl (by omega)) rfl ?_
      | refine sk_pure rfl rfl (ps_pick_t rfl rfl) rfl ?_
      | refine sk_pure rfl rfl (ps_pick_f rfl rfl) rfl ?_
      | refine sk_pure rfl rfl (ps_min2 rfl rfl) rfl ?_
      | refine sk_pure rfl rfl (ps_max2 rfl rfl) rfl ?_
      | refine sk_pure rfl rfl (ps_indexAddr_arr rfl rfl rfl (by omega)) rfl ?_
      | refine sk_no rfl rfl rfl rfl rfl ?_
      | refine sk_pure_g rfl rfl rfl rfl (ps_move rfl) rfl ?_
      | refine sk_pure_g rfl rfl rfl rfl (ps_assign rfl) rfl ?_
      | refine sk_pure_g rfl rfl rfl rfl (ps_nilCheck rfl) rfl ?_
      | refine sk_pure_g rfl rfl rfl rfl (ps_fieldAddr rfl) rfl ?_
      | refine sk_pure_g rfl rfl rfl rfl (ps_add64 rfl rfl (by omega)) rfl ?_
      | refine sk_pure_g rfl rfl rfl rfl (ps_sub64 rfl rfl (by omega)) rfl ?_
      | refine sk_pure_g rfl rfl rfl rfl (ps_mul64 rfl rfl (by omega)) rfl ?_
      | refine sk_pure_g rfl rfl rfl rfl (ps_bin rfl rfl inferInstance) rfl ?_
      | refine sk_pure_g rfl rfl rfl rfl (ps_rem rfl rfl (by decide)) rfl ?_
      | refine sk_pure_g rfl rfl rfl rfl (ps_not rfl) rfl ?_
      | refine sk_pure_g rfl rfl rfl rfl (ps_conv rfl) rfl ?_
      | refine sk_pure_g rfl rfl rfl rfl (ps_shl rfl rfl (by decide) rfl) rfl ?_
      | refine sk_pure_g rfl rfl rfl rfl (ps_shr rfl rfl (by decide) rfl) rfl ?_
      | refine sk_pure_g rfl rfl rfl rfl (ps_len rfl) rfl ?_
      | refine sk_pure_g rfl rfl rfl rfl (ps_len_str rfl) rfl ?_
      | refine sk_pure_g rfl rfl rfl rfl (ps_extract rfl rfl) rfl ?_
      | refine sk_pure_g rfl rfl rfl rfl (ps_field rfl rfl) rfl ?_
      | refine sk_pure_g rfl rfl rfl rfl (ps_build rfl rfl) rfl ?_
      | refine sk_pure_g rfl rfl rfl rfl (ps_indexAddr rfl rfl rfl (by omega)) rfl ?_
      | refine sk_pure_g rfl rfl rfl rfl (ps_indexAddr (j := 0) rfl rfl rfl (by omega)) rfl ?_
      | refine sk_pure_g rfl rfl rfl rfl (ps_indexAddr (j := 1) rfl rfl rfl (by omega)) rfl ?_
      | refine sk_pure_g rfl rfl rfl rfl (ps_pick_t rfl rfl) rfl ?_
      | refine sk_pure_g rfl rfl rfl rfl (ps_pick_f rfl rfl) rfl ?_
      | refine sk_pure_g rfl rfl rfl rfl (ps_min2 rfl rfl) rfl ?_
      | refine sk_pure_g rfl rfl rfl rfl (ps_max2 rfl rfl) rfl ?_
      | refine sk_pure_g rfl rfl rfl rfl (ps_indexAddr_arr rfl rfl rfl (by omega)) rfl ?_
      | refine sk_load 0 rfl rfl rfl rfl rfl ?_
      | refine sk_load 1 rfl rfl rfl rfl rfl ?_
      | refine sk_load 2 rfl rfl rfl rfl rfl ?_
      | refine sk_load 3 rfl rfl rfl rfl rfl ?_
      | refine sk_load 4 rfl rfl rfl rfl rfl ?_
      | refine sk_load 5 rfl rfl rfl rfl rfl ?_
      | refine sk_load_g 0 rfl rfl rfl rfl rfl rfl rfl ?_
      | refine sk_load_g 1 rfl rfl rfl rfl rfl rfl rfl ?_
      | refine sk_load_g 2 rfl rfl rfl rfl rfl rfl rfl ?_
      | refine sk_load_g 3 rfl rfl rfl rfl rfl rfl rfl ?_
      | refine sk_load_g 4 rfl rfl rfl rfl rfl rfl rfl ?_
      | refine sk_load_g 5 rfl rfl rfl rfl rfl rfl rfl ?_
      | refine sk_lw 0 rfl rfl rfl rfl rfl ?_
      | refine sk_lw 1 rfl rfl rfl rfl rfl ?_
      | refine sk_lw 2 rfl rfl rfl rfl rfl ?_
      | refine sk_lw 3 rfl rfl rfl rfl rfl ?_
      | refine sk_lw 4 rfl rfl rfl rfl rfl ?_
      | refine sk_lw 5 rfl rfl rfl rfl rfl ?_
      | refine sk_lwg 0 rfl rfl rfl rfl rfl rfl rfl ?_
      | refine sk_lwg 1 rfl rfl rfl rfl rfl rfl rfl ?_
      | refine sk_lwg 2 rfl rfl rfl rfl rfl rfl rfl ?_
      | refine sk_lwg 3 rfl rfl rfl rfl rfl rfl rfl ?_
      | refine sk_lwg 4 rfl rfl rfl rfl rfl rfl rfl ?_
      | refine sk_lwg 5 rfl rfl rfl rfl rfl rfl rfl ?_
      | refine sk_eff rfl rfl ?_
      | refine sg_store_whole [] rfl rfl rfl rfl rfl ?_
      | refine sg_store_whole [_] rfl rfl rfl rfl rfl ?_
      | refine sg_store_whole [_, _] rfl rfl rfl rfl rfl ?_
      | refine sg_store_whole [_, _, _] rfl rfl rfl rfl rfl ?_
      | refine sg_store_whole [_, _, _, _] rfl rfl rfl rfl rfl ?_
      | refine sg_store_whole [_, _, _, _, _] rfl rfl rfl rfl rfl ?_
      | refine sg_store_whole [_, _, _, _, _, _] rfl rfl rfl rfl rfl ?_
      | refine sg_guard_yes rfl rfl ?_
      | refine sg_guard_nf rfl rfl rfl ?_
      | refine sg_guard_nt rfl rfl rfl ?_
      | refine sg_guard_nu rfl rfl rfl ?_
      | refine sk_back (fun w hO => hO) ?_
      | refine sg_store [] rfl rfl rfl (of_decide_eq_true rfl) ?_
      | refine sg_store [_] rfl rfl rfl (of_decide_eq_true rfl) ?_
      | refine sg_store [_, _] rfl rfl rfl (of_decide_eq_true rfl) ?_
      | refine sg_store [_, _, _] rfl rfl rfl (of_decide_eq_true rfl) ?_
      | refine sg_store [_, _, _, _] rfl rfl rfl (of_decide_eq_true rfl) ?_
      | refine sg_store [_, _, _, _, _] rfl rfl rfl (of_decide_eq_true rfl) ?_
      | refine sg_store [_, _, _, _, _, _] rfl rfl rfl (of_decide_eq_true rfl) ?_
      | refine sg_store [_, _, _, _, _, _, _] rfl rfl rfl (of_decide_eq_true rfl) ?_)
    repeat' (first
      | refine sg_wo ?_
      | refine sg_ps (ps_move rfl) rfl ?_
      | refine sg_ps (ps_assign rfl) rfl ?_
      | refine sg_seq ?_
      | refine sg_region ?_
      | refine sg_nil ?_
      | refine sg_then ?_
      | refine sg_ps (ps_fieldAddr rfl) rfl ?_
      | refine sg_ps (ps_nilCheck rfl) rfl ?_
      | refine sg_load 0 rfl rfl rfl rfl ?_
      | refine sg_load 1 rfl rfl rfl rfl ?_
      | refine sg_load 2 rfl rfl rfl rfl ?_
      | refine sg_load 3 rfl rfl rfl rfl ?_
      | refine sg_load 4 rfl rfl rfl rfl ?_
      | refine sg_load 5 rfl rfl rfl rfl ?_
      | refine sg_load 6 rfl rfl rfl rfl ?_
      | refine sg_load 7 rfl rfl rfl rfl ?_
      | refine sg_ps (ps_add64 rfl rfl (by omega)) rfl ?_
      | refine sg_ps (ps_sub64 rfl rfl (by omega)) rfl ?_
      | refine sg_ps (ps_mul64 rfl rfl (by omega)) rfl ?_
      | refine sg_ps (ps_bin rfl rfl inferInstance) rfl ?_
      | refine sg_ps (ps_rem rfl rfl (by decide)) rfl ?_
      | refine sg_ps (ps_quo64 rfl rfl (by decide) (by omega)) rfl ?_
      | refine sg_ps (ps_not rfl) rfl ?_
      | refine sg_ps (ps_conv rfl) rfl ?_
      | refine sg_ps (ps_shl rfl rfl (by decide) rfl) rfl ?_
      | refine sg_ps (ps_shr rfl rfl (by decide) rfl) rfl ?_
      | refine sg_cond_t rfl ?_
      | refine sg_cond_f rfl ?_
      | refine sg_guard_yes rfl rfl ?_
      | refine sg_guard_nf rfl rfl rfl ?_
      | refine sg_guard_nt rfl rfl rfl ?_
      | refine sg_guard_nu rfl rfl rfl ?_
      | refine sg_ps (ps_pick_t rfl rfl) rfl ?_
      | refine sg_ps (ps_pick_f rfl rfl) rfl ?_
      | refine sg_ps (ps_len rfl) rfl ?_
      | refine sg_ps (ps_len_str rfl) rfl ?_
      | refine sg_ps (ps_extract rfl rfl) rfl ?_
      | refine sg_ps (ps_field rfl rfl) rfl ?_
      | refine sg_ps (ps_min2 rfl rfl) rfl ?_
      | refine sg_ps (ps_max2 rfl rfl) rfl ?_
      | refine sg_ps (ps_build rfl rfl) rfl ?_
      | refine sg_box rfl rfl (fun bx => ?_)
      | refine sg_ps (ps_indexAddr rfl rfl rfl (by omega)) rfl ?_
      | refine sg_ps (ps_indexAddr (j := 0) rfl rfl rfl (by omega)) rfl ?_
      | refine sg_ps (ps_indexAddr (j := 1) rfl rfl rfl (by omega)) rfl ?_
      | refine sg_ps (ps_indexAddr_arr rfl rfl rfl (by omega)) rfl ?_
      | refine sg_load_whole 0 rfl rfl rfl rfl ?_
      | refine sg_load_whole 1 rfl rfl rfl rfl ?_
      | refine sg_load_whole 2 rfl rfl rfl rfl ?_
      | refine sg_load_whole 3 rfl rfl rfl rfl ?_
      | refine sg_load_whole 4 rfl rfl rfl rfl ?_
      | refine sg_load_whole 5 rfl rfl rfl rfl ?_
      | refine sg_load_whole 6 rfl rfl rfl rfl ?_
      | refine sg_load_whole 7 rfl rfl rfl rfl ?_
      | refine sg_store_whole [] rfl rfl rfl rfl rfl ?_
      | refine sg_store_whole [_] rfl rfl rfl rfl rfl ?_
      | refine sg_store_whole [_, _] rfl rfl rfl rfl rfl ?_
      | refine sg_store_whole [_, _, _] rfl rfl rfl rfl rfl ?_
      | refine sg_store_whole [_, _, _, _] rfl rfl rfl rfl rfl ?_
      | refine sg_store_whole [_, _, _, _, _] rfl rfl rfl rfl rfl ?_
      | refine sg_store_whole [_, _, _, _, _, _] rfl rfl rfl rfl rfl ?_
      | refine sg_alloc rfl (fun al => ?_)
      | refine sg_block ?_
      | refine sg_skip ?_
      | refine sg_ret ?_
      | refine sg_exit ?_
      | refine ex_then_ret ?_
      | refine ex_then_exit ?_
      | refine ex_block_ret ?_
      | refine ex_block_normal ?_
      | refine ex_block_hit ?_
      | refine ex_block_miss rfl ?_
      | refine sg_store [] rfl rfl rfl (of_decide_eq_true rfl) ?_
      | refine sg_store [_] rfl rfl rfl (of_decide_eq_true rfl) ?_
      | refine sg_store [_, _] rfl rfl rfl (of_decide_eq_true rfl) ?_
      | refine sg_store [_, _, _] rfl rfl rfl (of_decide_eq_true rfl) ?_
      | refine sg_store [_, _, _, _] rfl rfl rfl (of_decide_eq_true rfl) ?_
      | refine sg_store [_, _, _, _, _] rfl rfl rfl (of_decide_eq_true rfl) ?_
      | refine sg_store [_, _, _, _, _, _] rfl rfl rfl (of_decide_eq_true rfl) ?_
      | refine sg_store [_, _, _, _, _, _, _] rfl rfl rfl (of_decide_eq_true rfl) ?_
      | (refine sg_guard_dec rfl rfl (fun hg => ?_) (fun hg => ?_) <;> first | (exfalso; omega) | (exact absurd rfl hg) | skip)
      | (refine sg_guard_ndec rfl rfl (fun hg => ?_) (fun hg => ?_) <;> first | (exfalso; omega) | (exact absurd rfl hg) | skip)
      | (refine sg_cond_dec rfl (fun hg => ?_) (fun hg => ?_) <;> first | (exfalso; omega) | (exact absurd rfl hg) | skip)
      | (refine sg_cond_ndec rfl (fun hg => ?_) (fun hg => ?_) <;> first | (exfalso; omega) | (exact absurd rfl hg) | skip)
      | refine sg_cond_not rfl (fun hg => ?_) (fun hg => ?_)
      | refine sg_cond rfl (fun hg => ?_) (fun hg => ?_))
    exact ex_retc 0 rfl rfl rfl rfl () rfl trivial (fun w hO => hO.tail.tail.tail)
  · have hh : s.has = true := by simpa using h
    repeat' (first
      | refine sk_nil ?_
      | refine sk_pure rfl rfl (ps_move rfl) rfl ?_
      | refine sk_pure rfl rfl (ps_assign rfl) rfl ?_
      | refine sk_pure rfl rfl (ps_nilCheck rfl) rfl ?_
      | refine sk_pure rfl rfl (ps_fieldAddr rfl) rfl ?_
      | refine sk_pure rfl rfl (ps_add64 rfl rfl (by omega)) rfl ?_
      | refine sk_pure rfl rfl (ps_sub64 rfl rfl (by omega)) rfl ?_
      | refine sk_pure rfl rfl (ps_mul64 rfl rfl (by omega)) rfl ?_
      | refine sk_pure rfl rfl (ps_bin rfl rfl inferInstance) rfl ?_
      | refine sk_pure rfl rfl (ps_rem rfl rfl (by decide)) rfl ?_
      | refine sk_pure rfl rfl (ps_not rfl) rfl ?_
      | refine sk_pure rfl rfl (ps_conv rfl) rfl ?_
      | refine sk_pure rfl rfl (ps_shl rfl rfl (by decide) rfl) rfl ?_
      | refine sk_pure rfl rfl (ps_shr rfl rfl (by decide) rfl) rfl ?_
      | refine sk_pure rfl rfl (ps_len rfl) rfl ?_
      | refine sk_pure rfl rfl (ps_len_str rfl) rfl ?_
      | refine sk_pure rfl rfl (ps_extract rfl rfl) rfl ?_
      | refine sk_pure rfl rfl (ps_field rfl rfl) rfl ?_
      | refine sk_pure rfl rfl (ps_build rfl rfl) rfl ?_
      | refine sk_pure rfl rfl (ps_indexAddr rfl rfl rfl (by omega)) rfl ?_
      | refine sk_pure rfl rfl (ps_indexAddr (j := 0) rfl rfl rfl (by omega)) rfl ?_
      | refine sk_pure rfl rfl (ps_indexAddr (j := 1) rfl rfl rfl (by omega)) rfl ?_
      | refine sk_pure rfl rfl (ps_pick_t rfl rfl) rfl ?_
      | refine sk_pure rfl rfl (ps_pick_f rfl rfl) rfl ?_
      | refine sk_pure rfl rfl (ps_min2 rfl rfl) rfl ?_
      | refine sk_pure rfl rfl (ps_max2 rfl rfl) rfl ?_
      | refine sk_pure rfl rfl (ps_indexAddr_arr rfl rfl rfl (by omega)) rfl ?_
      | refine sk_no rfl rfl rfl rfl rfl ?_
      | refine sk_pure_g rfl rfl rfl rfl (ps_move rfl) rfl ?_
      | refine sk_pure_g rfl rfl rfl rfl (ps_assign rfl) rfl ?_
      | refine sk_pure_g rfl rfl rfl rfl (ps_nilCheck rfl) rfl ?_
      | refine sk_pure_g rfl rfl rfl rfl (ps_fieldAddr rfl) rfl ?_
      | refine sk_pure_g rfl rfl rfl rfl (ps_add64 rfl rfl (by omega)) rfl ?_
      | refine sk_pure_g rfl rfl rfl rfl (ps_sub64 rfl rfl (by omega)) rfl ?_
      | refine sk_pure_g rfl rfl rfl rfl (ps_mul64 rfl rfl (by omega)) rfl ?_
      | refine sk_pure_g rfl rfl rfl rfl (ps_bin rfl rfl inferInstance) rfl ?_
      | refine sk_pure_g rfl rfl rfl rfl (ps_rem rfl rfl (by decide)) rfl ?_
      | refine sk_pure_g rfl rfl rfl rfl (ps_not rfl) rfl ?_
      | refine sk_pure_g rfl rfl rfl rfl (ps_conv rfl) rfl ?_
      | refine sk_pure_g rfl rfl rfl rfl (ps_shl rfl rfl (by decide) rfl) rfl ?_
      | refine sk_pure_g rfl rfl rfl rfl (ps_shr rfl rfl (by decide) rfl) rfl ?_
      | refine sk_pure_g rfl rfl rfl rfl (ps_len rfl) rfl ?_
      | refine sk_pure_g rfl rfl rfl rfl (ps_len_str rfl) rfl ?_
      | refine sk_pure_g rfl rfl rfl rfl (ps_extract rfl rfl) rfl ?_
      | refine sk_pure_g rfl rfl rfl rfl (ps_field rfl rfl) rfl ?_
      | refine sk_pure_g rfl rfl rfl rfl (ps_build rfl rfl) rfl ?_
      | refine sk_pure_g rfl rfl rfl rfl (ps_indexAddr rfl rfl rfl (by omega)) rfl ?_
      | refine sk_pure_g rfl rfl rfl rfl (ps_indexAddr (j := 0) rfl rfl rfl (by omega)) rfl ?_
      | refine sk_pure_g rfl rfl rfl rfl (ps_indexAddr (j := 1) rfl rfl rfl (by omega)) rfl ?_
      | refine sk_pure_g rfl rfl rfl rfl (ps_pick_t rfl rfl) rfl ?_
      | refine sk_pure_g rfl rfl rfl rfl (ps_pick_f rfl rfl) rfl ?_
      | refine sk_pure_g rfl rfl rfl rfl (ps_min2 rfl rfl) rfl ?_
      | refine sk_pure_g rfl rfl rfl rfl (ps_max2 rfl rfl) rfl ?_
      | refine sk_pure_g rfl rfl rfl rfl (ps_indexAddr_arr rfl rfl rfl (by omega)) rfl ?_
      | refine sk_load 0 rfl rfl rfl rfl rfl ?_
      | refine sk_load 1 rfl rfl rfl rfl rfl ?_
      | refine sk_load 2 rfl rfl rfl rfl rfl ?_
      | refine sk_load 3 rfl rfl rfl rfl rfl ?_
      | refine sk_load 4 rfl rfl rfl rfl rfl ?_
      | refine sk_load 5 rfl rfl rfl rfl rfl ?_
      | refine sk_load_g 0 rfl rfl rfl rfl rfl rfl rfl ?_
      | refine sk_load_g 1 rfl rfl rfl rfl rfl rfl rfl ?_
      | refine sk_load_g 2 rfl rfl rfl rfl rfl rfl rfl ?_
      | refine sk_load_g 3 rfl rfl rfl rfl rfl rfl rfl ?_
      | refine sk_load_g 4 rfl rfl rfl rfl rfl rfl rfl ?_
      | refine sk_load_g 5 rfl rfl rfl rfl rfl rfl rfl ?_
      | refine sk_lw 0 rfl rfl rfl rfl rfl ?_
      | refine sk_lw 1 rfl rfl rfl rfl rfl ?_
      | refine sk_lw 2 rfl rfl rfl rfl rfl ?_
      | refine sk_lw 3 rfl rfl rfl rfl rfl ?_
      | refine sk_lw 4 rfl rfl rfl rfl rfl ?_
      | refine sk_lw 5 rfl rfl rfl rfl rfl ?_
      | refine sk_lwg 0 rfl rfl rfl rfl rfl rfl rfl ?_
      | refine sk_lwg 1 rfl rfl rfl rfl rfl rfl rfl ?_
      | refine sk_lwg 2 rfl rfl rfl rfl rfl rfl rfl ?_
      | refine sk_lwg 3 rfl rfl rfl rfl rfl rfl rfl ?_
      | refine sk_lwg 4 rfl rfl rfl rfl rfl rfl rfl ?_
      | refine sk_lwg 5 rfl rfl rfl rfl rfl rfl rfl ?_
      | refine sk_eff rfl rfl ?_
      | refine sg_store_whole [] rfl rfl rfl rfl rfl ?_
      | refine sg_store_whole [_] rfl rfl rfl rfl rfl ?_
      | refine sg_store_whole [_, _] rfl rfl rfl rfl rfl ?_
      | refine sg_store_whole [_, _, _] rfl rfl rfl rfl rfl ?_
      | refine sg_store_whole [_, _, _, _] rfl rfl rfl rfl rfl ?_
      | refine sg_store_whole [_, _, _, _, _] rfl rfl rfl rfl rfl ?_
      | refine sg_store_whole [_, _, _, _, _, _] rfl rfl rfl rfl rfl ?_
      | refine sg_guard_yes rfl rfl ?_
      | refine sg_guard_nf rfl rfl rfl ?_
      | refine sg_guard_nt rfl rfl rfl ?_
      | refine sg_guard_nu rfl rfl rfl ?_
      | refine sk_back (fun w hO => hO) ?_
      | refine sg_store [] rfl rfl rfl (of_decide_eq_true rfl) ?_
      | refine sg_store [_] rfl rfl rfl (of_decide_eq_true rfl) ?_
      | refine sg_store [_, _] rfl rfl rfl (of_decide_eq_true rfl) ?_
      | refine sg_store [_, _, _] rfl rfl rfl (of_decide_eq_true rfl) ?_
      | refine sg_store [_, _, _, _] rfl rfl rfl (of_decide_eq_true rfl) ?_
      | refine sg_store [_, _, _, _, _] rfl rfl rfl (of_decide_eq_true rfl) ?_
      | refine sg_store [_, _, _, _, _, _] rfl rfl rfl (of_decide_eq_true rfl) ?_
      | refine sg_store [_, _, _, _, _, _, _] rfl rfl rfl (of_decide_eq_true rfl) ?_)
    refine sg_know 14 rfl (fun h2 => ?_) (fun h2 => ?_)
    · have h3 : (strOf s.val).toList = (strOf []).toList := of_decide_eq_true h2
      have e : s.grow m = s := if_pos (.inr (.inl ((str_eq _ _).1 h3)))
      rw [e]
      repeat' (first
        | refine sk_nil ?_
        | refine sk_pure rfl rfl (ps_move rfl) rfl ?_
        | refine sk_pure rfl rfl (ps_assign rfl) rfl ?_
        | refine sk_pure rfl rfl (ps_nilCheck rfl) rfl ?_
        | refine sk_pure rfl rfl (ps_fieldAddr rfl) rfl ?_
        | refine sk_pure rfl rfl (ps_add64 rfl rfl (by omega)) rfl ?_
        | refine sk_pure rfl rfl (ps_sub64 rfl rfl (by omega)) rfl ?_
        | refine sk_pure rfl rfl (ps_mul64 rfl rfl (by omega)) rfl ?_
        | refine sk_pure rfl rfl (ps_bin rfl rfl inferInstance) rfl ?_
        | refine sk_pure rfl rfl (ps_rem rfl rfl (by decide)) rfl ?_
        | refine sk_pure rfl rfl (ps_not rfl) rfl ?_
        | refine sk_pure rfl rfl (ps_conv rfl) rfl ?_
        | refine sk_pure rfl rfl (ps_shl rfl rfl (by decide) rfl) rfl ?_
        | refine sk_pure rfl rfl (ps_shr rfl rfl (by decide) rfl) rfl ?_
        | refine sk_pure rfl rfl (ps_len rfl) rfl ?_
        | refine sk_pure rfl rfl (ps_len_str rfl) rfl ?_
        | refine sk_pure rfl rfl (ps_extract rfl rfl) rfl ?_
        | refine sk_pure rfl rfl (ps_field rfl rfl) rfl ?_
        | refine sk_pure rfl rfl (ps_build rfl rfl) rfl ?_
        | refine sk_pure rfl rfl (ps_indexAddr rfl rfl rfl (by omega)) rfl ?_
        | refine sk_pure rfl rfl (ps_indexAddr (j := 0) rfl rfl rfl (by omega)) rfl ?_
        | refine sk_pure rfl rfl (ps_indexAddr (j := 1) rfl rfl rfl (by omega)) rfl ?_
        | refine sk_pure rfl rfl (ps_pick_t rfl rfl) rfl ?_
        | refine sk_pure rfl rfl (ps_pick_f rfl rfl) rfl ?_
        | refine sk_pure rfl rfl (ps_min2 rfl rfl) rfl ?_
        | refine sk_pure rfl rfl (ps_max2 rfl rfl) rfl ?_
        | refine sk_pure rfl rfl (ps_indexAddr_arr rfl rfl rfl (by omega)) rfl ?_
        | refine sk_no rfl rfl rfl rfl rfl ?_
        | refine sk_pure_g rfl rfl rfl rfl (ps_move rfl) rfl ?_
        | refine sk_pure_g rfl rfl rfl rfl (ps_assign rfl) rfl ?_
        | refine sk_pure_g rfl rfl rfl rfl (ps_nilCheck rfl) rfl ?_
        | refine sk_pure_g rfl rfl rfl rfl (ps_fieldAddr rfl) rfl ?_
        | refine sk_pure_g rfl rfl rfl rfl (ps_add64 rfl rfl (by omega)) rfl ?_
        | refine sk_pure_g rfl rfl rfl rfl (ps_sub64 rfl rfl (by omega)) rfl ?_
        | refine sk_pure_g rfl rfl rfl rfl (ps_mul64 rfl rfl (by omega)) rfl ?_
        | refine sk_pure_g rfl rfl rfl rfl (ps_bin rfl rfl inferInstance) rfl ?_
        | refine sk_pure_g rfl rfl rfl rfl (ps_rem rfl rfl (by decide)) rfl ?_
        | refine sk_pure_g rfl rfl rfl rfl (ps_not rfl) rfl ?_
        | refine sk_pure_g rfl rfl rfl rfl (ps_conv rfl) rfl ?_
        | refine sk_pure_g rfl rfl rfl rfl (ps_shl rfl rfl (by decide) rfl) rfl ?_
        | refine sk_pure_g rfl rfl rfl rfl (ps_shr rfl rfl (by decide) rfl) rfl ?_
        | refine sk_pure_g rfl rfl rfl rfl (ps_len rfl) rfl ?_
        | refine sk_pure_g rfl rfl rfl rfl (ps_len_str rfl) rfl ?_
        | refine sk_pure_g rfl rfl rfl rfl (ps_extract rfl rfl) rfl ?_
        | refine sk_pure_g rfl rfl rfl rfl (ps_field rfl rfl) rfl ?_
        | refine sk_pure_g rfl rfl rfl rfl (ps_build rfl rfl) rfl ?_
        | refine sk_pure_g rfl rfl rfl rfl (ps_indexAddr rfl rfl rfl (by omega)) rfl ?_
        | refine sk_pure_g rfl rfl rfl rfl (ps_indexAddr (j := 0) rfl rfl rfl (by omega)) rfl ?_
        | refine sk_pure_g rfl rfl rfl rfl (ps_indexAddr (j := 1) rfl rfl rfl (by omega)) rfl ?_
        | refine sk_pure_g rfl rfl rfl rfl (ps_pick_t rfl rfl) rfl ?_
        | refine sk_pure_g rfl rfl rfl rfl (ps_pick_f rfl rfl) rfl ?_
        | refine sk_pure_g rfl rfl rfl rfl (ps_min2 rfl rfl) rfl ?_
        | refine sk_pure_g rfl rfl rfl rfl (ps_max2 rfl rfl) rfl ?_
        | refine sk_pure_g rfl rfl rfl rfl (ps_indexAddr_arr rfl rfl rfl (by omega)) rfl ?_
        | refine sk_load 0 rfl rfl rfl rfl rfl ?_
        | refine sk_load 1 rfl rfl rfl rfl rfl ?_
        | refine sk_load 2 rfl rfl rfl rfl rfl ?_
        | refine sk_load 3 rfl rfl rfl rfl rfl ?_
        | refine sk_load 4 rfl rfl rfl rfl rfl ?_
        | refine sk_load 5 rfl rfl rfl rfl rfl ?_
        | refine sk_load_g 0 rfl rfl rfl rfl rfl rfl rfl ?_
        | refine sk_load_g 1 rfl rfl rfl rfl rfl rfl rfl ?_
        | refine sk_load_g 2 rfl rfl rfl rfl rfl rfl rfl ?_
        | refine sk_load_g 3 rfl rfl rfl rfl rfl rfl rfl ?_
        | refine sk_load_g 4 rfl rfl rfl rfl rfl rfl rfl ?_
        | refine sk_load_g 5 rfl rfl rfl rfl rfl rfl rfl ?_
        | refine sk_lw 0 rfl rfl rfl rfl rfl ?_
        | refine sk_lw 1 rfl rfl rfl rfl rfl ?_
        | refine sk_lw 2 rfl rfl rfl rfl rfl ?_
        | refine sk_lw 3 rfl rfl rfl rfl rfl ?_
        | refine sk_lw 4 rfl rfl rfl rfl rfl ?_
        | refine sk_lw 5 rfl rfl rfl rfl rfl ?_
        | refine sk_lwg 0 rfl rfl rfl rfl rfl rfl rfl ?_
        | refine sk_lwg 1 rfl rfl rfl rfl rfl rfl rfl ?_
        | refine sk_lwg 2 rfl rfl rfl rfl rfl rfl rfl ?_
        | refine sk_lwg 3 rfl rfl rfl rfl rfl rfl rfl ?_
        | refine sk_lwg 4 rfl rfl rfl rfl rfl rfl rfl ?_
        | refine sk_lwg 5 rfl rfl rfl rfl rfl rfl rfl ?_
        | refine sk_eff rfl rfl ?_
        | refine sg_store_whole [] rfl rfl rfl rfl rfl ?_
        | refine sg_store_whole [_] rfl rfl rfl rfl rfl ?_
        | refine sg_store_whole [_, _] rfl rfl rfl rfl rfl ?_
        | refine sg_store_whole [_, _, _] rfl rfl rfl rfl rfl ?_
        | refine sg_store_whole [_, _, _, _] rfl rfl rfl rfl rfl ?_
        | refine sg_store_whole [_, _, _, _, _] rfl rfl rfl rfl rfl ?_
        | refine sg_store_whole [_, _, _, _, _, _] rfl rfl rfl rfl rfl ?_
        | refine sg_guard_yes rfl rfl ?_
        | refine sg_guard_nf rfl rfl rfl ?_
        | refine sg_guard_nt rfl rfl rfl ?_
        | refine sg_guard_nu rfl rfl rfl ?_
        | refine sk_back (fun w hO => hO) ?_
        | refine sg_store [] rfl rfl rfl (of_decide_eq_true rfl) ?_
        | refine sg_store [_] rfl rfl rfl (of_decide_eq_true rfl) ?_
        | refine sg_store [_, _] rfl rfl rfl (of_decide_eq_true rfl) ?_
        | refine sg_store [_, _, _] rfl rfl rfl (of_decide_eq_true rfl) ?_
        | refine sg_store [_, _, _, _] rfl rfl rfl (of_decide_eq_true rfl) ?_
        | refine sg_store [_, _, _, _, _] rfl rfl rfl (of_decide_eq_true rfl) ?_
        | refine sg_store [_, _, _, _, _, _] rfl rfl rfl (of_decide_eq_true rfl) ?_
        | refine sg_store [_, _, _, _, _, _, _] rfl rfl rfl (of_decide_eq_true rfl) ?_)
      repeat' (first
        | refine sg_wo ?_
        | refine sg_ps (ps_move rfl) rfl ?_
        | refine sg_ps (ps_assign rfl) rfl ?_
        | refine sg_seq ?_
        | refine sg_region ?_
        | refine sg_nil ?_
        | refine sg_then ?_
        | refine sg_ps (ps_fieldAddr rfl) rfl ?_
        | refine sg_ps (ps_nilCheck rfl) rfl ?_
        | refine sg_load 0 rfl rfl rfl rfl ?_
        | refine sg_load 1 rfl rfl rfl rfl ?_
        | refine sg_load 2 rfl rfl rfl rfl ?_
        | refine sg_load 3 rfl rfl rfl rfl ?_
        | refine sg_load 4 rfl rfl rfl rfl ?_
        | refine sg_load 5 rfl rfl rfl rfl ?_
        | refine sg_load 6 rfl rfl rfl rfl ?_
        | refine sg_load 7 rfl rfl rfl rfl ?_
        | refine sg_ps (ps_add64 rfl rfl (by omega)) rfl ?_
        | refine sg_ps (ps_sub64 rfl rfl (by omega)) rfl ?_
        | refine sg_ps (ps_mul64 rfl rfl (by omega)) rfl ?_
        | refine sg_ps (ps_bin rfl rfl inferInstance) rfl ?_
        | refine sg_ps (ps_rem rfl rfl (by decide)) rfl ?_
        | refine sg_ps (ps_quo64 rfl rfl (by decide) (by omega)) rfl ?_
        | refine sg_ps (ps_not rfl) rfl ?_
        | refine sg_ps (ps_conv rfl) rfl ?_
        | refine sg_ps (ps_shl rfl rfl (by decide) rfl) rfl ?_
        | refine sg_ps (ps_shr rfl rfl (by decide) rfl) rfl ?_
        | refine sg_cond_t rfl ?_
        | refine sg_cond_f rfl ?_
        | refine sg_guard_yes rfl rfl ?_
        | refine sg_guard_nf rfl rfl rfl ?_
        | refine sg_guard_nt rfl rfl rfl ?_
        | refine sg_guard_nu rfl rfl rfl ?_
        | refine sg_ps (ps_pick_t rfl rfl) rfl ?_
        | refine sg_ps (ps_pick_f rfl rfl) rfl ?_
        | refine sg_ps (ps_len rfl) rfl ?_
        | refine sg_ps (ps_len_str rfl) rfl ?_
        | refine sg_ps (ps_extract rfl rfl) rfl ?_
        | refine sg_ps (ps_field rfl rfl) rfl ?_
        | refine sg_ps (ps_min2 rfl rfl) rfl ?_
        | refine sg_ps (ps_max2 rfl rfl) rfl ?_
        | refine sg_ps (ps_build rfl rfl) rfl ?_
        | refine sg_box rfl rfl (fun bx => ?_)
        | refine sg_ps (ps_indexAddr rfl rfl rfl (by omega)) rfl ?_
        | refine sg_ps (ps_indexAddr (j := 0) rfl rfl rfl (by omega)) rfl ?_
        | refine sg_ps (ps_indexAddr (j := 1) rfl rfl rfl (by omega)) rfl ?_
        | refine sg_ps (ps_indexAddr_arr rfl rfl rfl (by omega)) rfl ?_
        | refine sg_load_whole 0 rfl rfl rfl rfl ?_
        | refine sg_load_whole 1 rfl rfl rfl rfl ?_
        | refine sg_load_whole 2 rfl rfl rfl rfl ?_
        | refine sg_load_whole 3 rfl rfl rfl rfl ?_
        | refine sg_load_whole 4 rfl rfl rfl rfl ?_
        | refine sg_load_whole 5 rfl rfl rfl rfl ?_
        | refine sg_load_whole 6 rfl rfl rfl rfl ?_
        | refine sg_load_whole 7 rfl rfl rfl rfl ?_
        | refine sg_store_whole [] rfl rfl rfl rfl rfl ?_
        | refine sg_store_whole [_] rfl rfl rfl rfl rfl ?_
        | refine sg_store_whole [_, _] rfl rfl rfl rfl rfl ?_
        | refine sg_store_whole [_, _, _] rfl rfl rfl rfl rfl ?_
        | refine sg_store_whole [_, _, _, _] rfl rfl rfl rfl rfl ?_
        | refine sg_store_whole [_, _, _, _, _] rfl rfl rfl rfl rfl ?_
        | refine sg_store_whole [_, _, _, _, _, _] rfl rfl rfl rfl rfl ?_
        | refine sg_alloc rfl (fun al => ?_)
        | refine sg_block ?_
        | refine sg_skip ?_
        | refine sg_ret ?_
        | refine sg_exit ?_
        | refine ex_then_ret ?_
        | refine ex_then_exit ?_
        | refine ex_block_ret ?_
        | refine ex_block_normal ?_
        | refine ex_block_hit ?_
        | refine ex_block_miss rfl ?_
        | refine sg_store [] rfl rfl rfl (of_decide_eq_true rfl) ?_
        | refine sg_store [_] rfl rfl rfl (of_decide_eq_true rfl) ?_
        | refine sg_store [_, _] rfl rfl rfl (of_decide_eq_true rfl) ?_
        | refine sg_store [_, _, _] rfl rfl rfl (of_decide_eq_true rfl) ?_
        | refine sg_store [_, _, _, _] rfl rfl rfl (of_decide_eq_true rfl) ?_
        | refine sg_store [_, _, _, _, _] rfl rfl rfl (of_decide_eq_true rfl) ?_
        | refine sg_store [_, _, _, _, _, _] rfl rfl rfl (of_decide_eq_true rfl) ?_
        | refine sg_store [_, _, _, _, _, _, _] rfl rfl rfl (of_decide_eq_true rfl) ?_
        | (refine sg_guard_dec rfl rfl (fun hg => ?_) (fun hg => ?_) <;> first | (exfalso; omega) | (exact absurd rfl hg) | skip)
        | (refine sg_guard_ndec rfl rfl (fun hg => ?_) (fun hg => ?_) <;> first | (exfalso; omega) | (exact absurd rfl hg) | skip)
        | (refine sg_cond_dec rfl (fun hg => ?_) (fun hg => ?_) <;> first | (exfalso; omega) | (exact absurd rfl hg) | skip)
        | (refine sg_cond_ndec rfl (fun hg => ?_) (fun hg => ?_) <;> first | (exfalso; omega) | (exact absurd rfl hg) | skip)
        | refine sg_cond_not rfl (fun hg => ?_) (fun hg => ?_)
        | refine sg_cond rfl (fun hg => ?_) (fun hg => ?_))
      exact ex_retc 0 rfl rfl rfl rfl () rfl trivial (fun w hO => hO.tail.tail.tail)
    · have h3 : ¬ (strOf s.val).toList = (strOf []).toList := of_decide_eq_false h2
      have hne : s.val ≠ [] := fun h => h3 ((str_eq _ _).2 h)
      have hpos : 0 < s.val.length := List.length_pos_iff.2 hne
      repeat' (first
        | refine sk_nil ?_
        | refine sk_pure rfl rfl (ps_move rfl) rfl ?_
        | refine sk_pure rfl rfl (ps_assign rfl) rfl ?_
        | refine sk_pure rfl rfl (ps_nilCheck rfl) rfl ?_
        | refine sk_pure rfl rfl (ps_fieldAddr rfl) rfl ?_
        | refine sk_pure rfl rfl (ps_add64 rfl rfl (by omega)) rfl ?_
        | refine sk_pure rfl rfl (ps_sub64 rfl rfl (by omega)) rfl ?_
        | refine sk_pure rfl rfl (ps_mul64 rfl rfl (by omega)) rfl ?_
        | refine sk_pure rfl rfl (ps_bin rfl rfl inferInstance) rfl ?_
        | refine sk_pure rfl rfl (ps_rem rfl rfl (by decide)) rfl ?_
        | refine sk_pure rfl rfl (ps_not rfl) rfl ?_
        | refine sk_pure rfl rfl (ps_conv rfl) rfl ?_
        | refine sk_pure rfl rfl (ps_shl rfl rfl (by decide) rfl) rfl ?_
        | refine sk_pure rfl rfl (ps_shr rfl rfl (by decide) rfl) rfl ?_
        | refine sk_pure rfl rfl (ps_len rfl) rfl ?_
        | refine sk_pure rfl rfl (ps_len_str rfl) rfl ?_
        | refine sk_pure rfl rfl (ps_extract rfl rfl) rfl ?_
        | refine sk_pure rfl rfl (ps_field rfl rfl) rfl ?_
        | refine sk_pure rfl rfl (ps_build rfl rfl) rfl ?_
        | refine sk_pure rfl rfl (ps_indexAddr rfl rfl rfl (by omega)) rfl ?_
        | refine sk_pure rfl rfl (ps_indexAddr (j := 0) rfl rfl rfl (by omega)) rfl ?_
        | refine sk_pure rfl rfl (ps_indexAddr (j := 1) rfl rfl rfl (by omega)) rfl ?_
        | refine sk_pure rfl rfl (ps_pick_t rfl rfl) rfl ?_
        | refine sk_pure rfl rfl (ps_pick_f rfl rfl) rfl ?_
        | refine sk_pure rfl rfl (ps_min2 rfl rfl) rfl ?_
        | refine sk_pure rfl rfl (ps_max2 rfl rfl) rfl ?_
        | refine sk_pure rfl rfl (ps_indexAddr_arr rfl rfl rfl (by omega)) rfl ?_
        | refine sk_no rfl rfl rfl rfl rfl ?_
        | refine sk_pure_g rfl rfl rfl rfl (ps_move rfl) rfl ?_
        | refine sk_pure_g rfl rfl rfl rfl (ps_assign rfl) rfl ?_
        | refine sk_pure_g rfl rfl rfl rfl (ps_nilCheck rfl) rfl ?_
        | refine sk_pure_g rfl rfl rfl rfl (ps_fieldAddr rfl) rfl ?_
        | refine sk_pure_g rfl rfl rfl rfl (ps_add64 rfl rfl (by omega)) rfl ?_
        | refine sk_pure_g rfl rfl rfl rfl (ps_sub64 rfl rfl (by omega)) rfl ?_
        | refine sk_pure_g rfl rfl rfl rfl (ps_mul64 rfl rfl (by omega)) rfl ?_
        | refine sk_pure_g rfl rfl rfl rfl (ps_bin rfl rfl inferInstance) rfl ?_
        | refine sk_pure_g rfl rfl rfl rfl (ps_rem rfl rfl (by decide)) rfl ?_
        | refine sk_pure_g rfl rfl rfl rfl (ps_not rfl) rfl ?_
        | refine sk_pure_g rfl rfl rfl rfl (ps_conv rfl) rfl ?_
        | refine sk_pure_g rfl rfl rfl rfl (ps_shl rfl rfl (by decide) rfl) rfl ?_
        | refine sk_pure_g rfl rfl rfl rfl (ps_shr rfl rfl (by decide) rfl) rfl ?_
        | refine sk_pure_g rfl rfl rfl rfl (ps_len rfl) rfl ?_
        | refine sk_pure_g rfl rfl rfl rfl (ps_len_str rfl) rfl ?_
        | refine sk_pure_g rfl rfl rfl rfl (ps_extract rfl rfl) rfl ?_
        | refine sk_pure_g rfl rfl rfl rfl (ps_field rfl rfl) rfl ?_
        | refine sk_pure_g rfl rfl rfl rfl (ps_build rfl rfl) rfl ?_
        | refine sk_pure_g rfl rfl rfl rfl (ps_indexAddr rfl rfl rfl (by omega)) rfl ?_
        | refine sk_pure_g rfl rfl rfl rfl (ps_indexAddr (j := 0) rfl rfl rfl (by omega)) rfl ?_
        | refine sk_pure_g rfl rfl rfl rfl (ps_indexAddr (j := 1) rfl rfl rfl (by omega)) rfl ?_
        | refine sk_pure_g rfl rfl rfl rfl (ps_pick_t rfl rfl) rfl ?_
        | refine sk_pure_g rfl rfl rfl rfl (ps_pick_f rfl rfl) rfl ?_
        | refine sk_pure_g rfl rfl rfl rfl (ps_min2 rfl rfl) rfl ?_
        | refine sk_pure_g rfl rfl rfl rfl (ps_max2 rfl rfl) rfl ?_
        | refine sk_pure_g rfl rfl rfl rfl (ps_indexAddr_arr rfl rfl rfl (by omega)) rfl ?_
        | refine sk_load 0 rfl rfl rfl rfl rfl ?_
        | refine sk_load 1 rfl rfl rfl rfl rfl ?_
        | refine sk_load 2 rfl rfl rfl rfl rfl ?_
        | refine sk_load 3 rfl rfl rfl rfl rfl ?_
        | refine sk_load 4 rfl rfl rfl rfl rfl ?_
        | refine sk_load 5 rfl rfl rfl rfl rfl ?_
        | refine sk_load_g 0 rfl rfl rfl rfl rfl rfl rfl ?_
        | refine sk_load_g 1 rfl rfl rfl rfl rfl rfl rfl ?_
        | refine sk_load_g 2 rfl rfl rfl rfl rfl rfl rfl ?_
        | refine sk_load_g 3 rfl rfl rfl rfl rfl rfl rfl ?_
        | refine sk_load_g 4 rfl rfl rfl rfl rfl rfl rfl ?_
        | refine sk_load_g 5 rfl rfl rfl rfl rfl rfl rfl ?_
        | refine sk_lw 0 rfl rfl rfl rfl rfl ?_
        | refine sk_lw 1 rfl rfl rfl rfl rfl ?_
        | refine sk_lw 2 rfl rfl rfl rfl rfl ?_
        | refine sk_lw 3 rfl rfl rfl rfl rfl ?_
        | refine sk_lw 4 rfl rfl rfl rfl rfl ?_
        | refine sk_lw 5 rfl rfl rfl rfl rfl ?_
        | refine sk_lwg 0 rfl rfl rfl rfl rfl rfl rfl ?_
        | refine sk_lwg 1 rfl rfl rfl rfl rfl rfl rfl ?_
        | refine sk_lwg 2 rfl rfl rfl rfl rfl rfl rfl ?_
        | refine sk_lwg 3 rfl rfl rfl rfl rfl rfl rfl ?_
        | refine sk_lwg 4 rfl rfl rfl rfl rfl rfl rfl ?_
        | refine sk_lwg 5 rfl rfl rfl rfl rfl rfl rfl ?_
        | refine sk_eff rfl rfl ?_
        | refine sg_store_whole [] rfl rfl rfl rfl rfl ?_
        | refine sg_store_whole [_] rfl rfl rfl rfl rfl ?_
        | refine sg_store_whole [_, _] rfl rfl rfl rfl rfl ?_
        | refine sg_store_whole [_, _, _] rfl rfl rfl rfl rfl ?_
        | refine sg_store_whole [_, _, _, _] rfl rfl rfl rfl rfl ?_
        | refine sg_store_whole [_, _, _, _, _] rfl rfl rfl rfl rfl ?_
        | refine sg_store_whole [_, _, _, _, _, _] rfl rfl rfl rfl rfl ?_
        | refine sg_guard_yes rfl rfl ?_
        | refine sg_guard_nf rfl rfl rfl ?_
        | refine sg_guard_nt rfl rfl rfl ?_
        | refine sg_guard_nu rfl rfl rfl ?_
        | refine sk_back (fun w hO => hO) ?_
        | refine sg_store [] rfl rfl rfl (of_decide_eq_true rfl) ?_
        | refine sg_store [_] rfl rfl rfl (of_decide_eq_true rfl) ?_
        | refine sg_store [_, _] rfl rfl rfl (of_decide_eq_true rfl) ?_
        | refine sg_store [_, _, _] rfl rfl rfl (of_decide_eq_true rfl) ?_
        | refine sg_store [_, _, _, _] rfl rfl rfl (of_decide_eq_true rfl) ?_
        | refine sg_store [_, _, _, _, _] rfl rfl rfl (of_decide_eq_true rfl) ?_
        | refine sg_store [_, _, _, _, _, _] rfl rfl rfl (of_decide_eq_true rfl) ?_
        | refine sg_store [_, _, _, _, _, _, _] rfl rfl rfl (of_decide_eq_true rfl) ?_)
      refine sk_pure_g rfl rfl rfl rfl (ps_index_strOf (j := 0) rfl rfl rfl hpos) rfl ?_
      have h0 : s.val.getD 0 0 = s.val[0] := by simp [List.getD, hpos]
      repeat' (first
        | refine sk_nil ?_
        | refine sk_pure rfl rfl (ps_move rfl) rfl ?_
        | refine sk_pure rfl rfl (ps_assign rfl) rfl ?_
        | refine sk_pure rfl rfl (ps_nilCheck rfl) rfl ?_
        | refine sk_pure rfl rfl (ps_fieldAddr rfl) rfl ?_
        | refine sk_pure rfl rfl (ps_add64 rfl rfl (by omega)) rfl ?_
        | refine sk_pure rfl rfl (ps_sub64 rfl rfl (by omega)) rfl ?_
        | refine sk_pure rfl rfl (ps_mul64 rfl rfl (by omega)) rfl ?_
        | refine sk_pure rfl rfl (ps_bin rfl rfl inferInstance) rfl ?_
        | refine sk_pure rfl rfl (ps_rem rfl rfl (by decide)) rfl ?_
        | refine sk_pure rfl rfl (ps_not rfl) rfl ?_
        | refine sk_pure rfl rfl (ps_conv rfl) rfl ?_
        | refine sk_pure rfl rfl (ps_shl rfl rfl (by decide) rfl) rfl ?_
        | refine sk_pure rfl rfl (ps_shr rfl rfl (by decide) rfl) rfl ?_
        | refine sk_pure rfl rfl (ps_len rfl) rfl ?_
        | refine sk_pure rfl rfl (ps_len_str rfl) rfl ?_
        | refine sk_pure rfl rfl (ps_extract rfl rfl) rfl ?_
        | refine sk_pure rfl rfl (ps_field rfl rfl) rfl ?_
        | refine sk_pure rfl rfl (ps_build rfl rfl) rfl ?_
        | refine sk_pure rfl rfl (ps_indexAddr rfl rfl rfl (by omega)) rfl ?_
        | refine sk_pure rfl rfl (ps_indexAddr (j := 0) rfl rfl rfl (by omega)) rfl ?_
        | refine sk_pure rfl rfl (ps_indexAddr (j := 1) rfl rfl rfl (by omega)) rfl ?_
        | refine sk_pure rfl rfl (ps_pick_t rfl rfl) rfl ?_
        | refine sk_pure rfl rfl (ps_pick_f rfl rfl) rfl ?_
        | refine sk_pure rfl rfl (ps_min2 rfl rfl) rfl ?_
        | refine sk_pure rfl rfl (ps_max2 rfl rfl) rfl ?_
        | refine sk_pure rfl rfl (ps_indexAddr_arr rfl rfl rfl (by omega)) rfl ?_
        | refine sk_no rfl rfl rfl rfl rfl ?_
        | refine sk_pure_g rfl rfl rfl rfl (ps_move rfl) rfl ?_
        | refine sk_pure_g rfl rfl rfl rfl (ps_assign rfl) rfl ?_
        | refine sk_pure_g rfl rfl rfl rfl (ps_nilCheck rfl) rfl ?_
        | refine sk_pure_g rfl rfl rfl rfl (ps_fieldAddr rfl) rfl ?_
        | refine sk_pure_g rfl rfl rfl rfl (ps_add64 rfl rfl (by omega)) rfl ?_
        | refine sk_pure_g rfl rfl rfl rfl (ps_sub64 rfl rfl (by omega)) rfl ?_
        | refine sk_pure_g rfl rfl rfl rfl (ps_mul64 rfl rfl (by omega)) rfl ?_
        | refine sk_pure_g rfl rfl rfl rfl (ps_bin rfl rfl inferInstance) rfl ?_
        | refine sk_pure_g rfl rfl rfl rfl (ps_rem rfl rfl (by decide)) rfl ?_
        | refine sk_pure_g rfl rfl rfl rfl (ps_not rfl) rfl ?_
        | refine sk_pure_g rfl rfl rfl rfl (ps_conv rfl) rfl ?_
        | refine sk_pure_g rfl rfl rfl rfl (ps_shl rfl rfl (by decide) rfl) rfl ?_
        | refine sk_pure_g rfl rfl rfl rfl (ps_shr rfl rfl (by decide) rfl) rfl ?_
        | refine sk_pure_g rfl rfl rfl rfl (ps_len rfl) rfl ?_
        | refine sk_pure_g rfl rfl rfl rfl (ps_len_str rfl) rfl ?_
        | refine sk_pure_g rfl rfl rfl rfl (ps_extract rfl rfl) rfl ?_
        | refine sk_pure_g rfl rfl rfl rfl (ps_field rfl rfl) rfl ?_
        | refine sk_pure_g rfl rfl rfl rfl (ps_build rfl rfl) rfl ?_
        | refine sk_pure_g rfl rfl rfl rfl (ps_indexAddr rfl rfl rfl (by omega)) rfl ?_
        | refine sk_pure_g rfl rfl rfl rfl (ps_indexAddr (j := 0) rfl rfl rfl (by omega)) rfl ?_
        | refine sk_pure_g rfl rfl rfl rfl (ps_indexAddr (j := 1) rfl rfl rfl (by omega)) rfl ?_
        | refine sk_pure_g rfl rfl rfl rfl (ps_pick_t rfl rfl) rfl ?_
        | refine sk_pure_g rfl rfl rfl rfl (ps_pick_f rfl rfl) rfl ?_
        | refine sk_pure_g rfl rfl rfl rfl (ps_min2 rfl rfl) rfl ?_
        | refine sk_pure_g rfl rfl rfl rfl (ps_max2 rfl rfl) rfl ?_
        | refine sk_pure_g rfl rfl rfl rfl (ps_indexAddr_arr rfl rfl rfl (by omega)) rfl ?_
        | refine sk_load 0 rfl rfl rfl rfl rfl ?_
        | refine sk_load 1 rfl rfl rfl rfl rfl ?_
        | refine sk_load 2 rfl rfl rfl rfl rfl ?_
        | refine sk_load 3 rfl rfl rfl rfl rfl ?_
        | refine sk_load 4 rfl rfl rfl rfl rfl ?_
        | refine sk_load 5 rfl rfl rfl rfl rfl ?_
        | refine sk_load_g 0 rfl rfl rfl rfl rfl rfl rfl ?_
        | refine sk_load_g 1 rfl rfl rfl rfl rfl rfl rfl ?_
        | refine sk_load_g 2 rfl rfl rfl rfl rfl rfl rfl ?_
        | refine sk_load_g 3 rfl rfl rfl rfl rfl rfl rfl ?_
        | refine sk_load_g 4 rfl rfl rfl rfl rfl rfl rfl ?_
        | refine sk_load_g 5 rfl rfl rfl rfl rfl rfl rfl ?_
        | refine sk_lw 0 rfl rfl rfl rfl rfl ?_
        | refine sk_lw 1 rfl rfl rfl rfl rfl ?_
        | refine sk_lw 2 rfl rfl rfl rfl rfl ?_
        | refine sk_lw 3 rfl rfl rfl rfl rfl ?_
        | refine sk_lw 4 rfl rfl rfl rfl rfl ?_
        | refine sk_lw 5 rfl rfl rfl rfl rfl ?_
        | refine sk_lwg 0 rfl rfl rfl rfl rfl rfl rfl ?_
        | refine sk_lwg 1 rfl rfl rfl rfl rfl rfl rfl ?_
        | refine sk_lwg 2 rfl rfl rfl rfl rfl rfl rfl ?_
        | refine sk_lwg 3 rfl rfl rfl rfl rfl rfl rfl ?_
        | refine sk_lwg 4 rfl rfl rfl rfl rfl rfl rfl ?_
        | refine sk_lwg 5 rfl rfl rfl rfl rfl rfl rfl ?_
        | refine sk_eff rfl rfl ?_
        | refine sg_store_whole [] rfl rfl rfl rfl rfl ?_
        | refine sg_store_whole [_] rfl rfl rfl rfl rfl ?_
        | refine sg_store_whole [_, _] rfl rfl rfl rfl rfl ?_
        | refine sg_store_whole [_, _, _] rfl rfl rfl rfl rfl ?_
        | refine sg_store_whole [_, _, _, _] rfl rfl rfl rfl rfl ?_
        | refine sg_store_whole [_, _, _, _, _] rfl rfl rfl rfl rfl ?_
        | refine sg_store_whole [_, _, _, _, _, _] rfl rfl rfl rfl rfl ?_
        | refine sg_guard_yes rfl rfl ?_
        | refine sg_guard_nf rfl rfl rfl ?_
        | refine sg_guard_nt rfl rfl rfl ?_
        | refine sg_guard_nu rfl rfl rfl ?_
        | refine sk_back (fun w hO => hO) ?_
        | refine sg_store [] rfl rfl rfl (of_decide_eq_true rfl) ?_
        | refine sg_store [_] rfl rfl rfl (of_decide_eq_true rfl) ?_
        | refine sg_store [_, _] rfl rfl rfl (of_decide_eq_true rfl) ?_
        | refine sg_store [_, _, _] rfl rfl rfl (of_decide_eq_true rfl) ?_
        | refine sg_store [_, _, _, _] rfl rfl rfl (of_decide_eq_true rfl) ?_
        | refine sg_store [_, _, _, _, _] rfl rfl rfl (of_decide_eq_true rfl) ?_
        | refine sg_store [_, _, _, _, _, _] rfl rfl rfl (of_decide_eq_true rfl) ?_
        | refine sg_store [_, _, _, _, _, _, _] rfl rfl rfl (of_decide_eq_true rfl) ?_)
      rw [i64_u8]
      refine sg_know 23 rfl (fun h4 => ?_) (fun h4 => ?_)
      · have h5 : ¬ (s.val[0].toNat : Int) = m.off := by simpa using h4
        have e : s.grow m = s := if_pos (.inr (.inr (.inl (by rw [h0]; exact h5))))
        rw [e]
        repeat' (first
          | refine sk_nil ?_
          | refine sk_pure rfl rfl (ps_move rfl) rfl ?_
          | refine sk_pure rfl rfl (ps_assign rfl) rfl ?_
          | refine sk_pure rfl rfl (ps_nilCheck rfl) rfl ?_
          | refine sk_pure rfl rfl (ps_fieldAddr rfl) rfl ?_
          | refine sk_pure rfl rfl (ps_add64 rfl rfl (by omega)) rfl ?_
          | refine sk_pure rfl rfl (ps_sub64 rfl rfl (by omega)) rfl ?_
          | refine sk_pure rfl rfl (ps_mul64 rfl rfl (by omega)) rfl ?_
          | refine sk_pure rfl rfl (ps_bin rfl rfl inferInstance) rfl ?_
          | refine sk_pure rfl rfl (ps_rem rfl rfl (by decide)) rfl ?_
          | refine sk_pure rfl rfl (ps_not rfl) rfl ?_
          | refine sk_pure rfl rfl (ps_conv rfl) rfl ?_
          | refine sk_pure rfl rfl (ps_shl rfl rfl (by decide) rfl) rfl ?_
          | refine sk_pure rfl rfl (ps_shr rfl rfl (by decide) rfl) rfl ?_
          | refine sk_pure rfl rfl (ps_len rfl) rfl ?_
          | refine sk_pure rfl rfl (ps_len_str rfl) rfl ?_
          | refine sk_pure rfl rfl (ps_extract rfl rfl) rfl ?_
          | refine sk_pure rfl rfl (ps_field rfl rfl) rfl ?_
          | refine sk_pure rfl rfl (ps_build rfl rfl) rfl ?_
          | refine sk_pure rfl rfl (ps_indexAddr rfl rfl rfl (by omega)) rfl ?_
          | refine sk_pure rfl rfl (ps_indexAddr (j := 0) rfl rfl rfl (by omega)) rfl ?_
          | refine sk_pure rfl rfl (ps_indexAddr (j := 1) rfl rfl rfl (by omega)) rfl ?_
          | refine sk_pure rfl rfl (ps_pick_t rfl rfl) rfl ?_
          | refine sk_pure rfl rfl (ps_pick_f rfl rfl) rfl ?_
          | refine sk_pure rfl rfl (ps_min2 rfl rfl) rfl ?_
          | refine sk_pure rfl rfl (ps_max2 rfl rfl) rfl ?_
          | refine sk_pure rfl rfl (ps_indexAddr_arr rfl rfl rfl (by omega)) rfl ?_
          | refine sk_no rfl rfl rfl rfl rfl ?_
          | refine sk_pure_g rfl rfl rfl rfl (ps_move rfl) rfl ?_
          | refine sk_pure_g rfl rfl rfl rfl (ps_assign rfl) rfl ?_
          | refine sk_pure_g rfl rfl rfl rfl (ps_nilCheck rfl) rfl ?_
          | refine sk_pure_g rfl rfl rfl rfl (ps_fieldAddr rfl) rfl ?_
          | refine sk_pure_g rfl rfl rfl rfl (ps_add64 rfl rfl (by omega)) rfl ?_
          | refine sk_pure_g rfl rfl rfl rfl (ps_sub64 rfl rfl (by omega)) rfl ?_
          | refine sk_pure_g rfl rfl rfl rfl (ps_mul64 rfl rfl (by omega)) rfl ?_
          | refine sk_pure_g rfl rfl rfl rfl (ps_bin rfl rfl inferInstance) rfl ?_
          | refine sk_pure_g rfl rfl rfl rfl (ps_rem rfl rfl (by decide)) rfl ?_
          | refine sk_pure_g rfl rfl rfl rfl (ps_not rfl) rfl ?_
          | refine sk_pure_g rfl rfl rfl rfl (ps_conv rfl) rfl ?_
          | refine sk_pure_g rfl rfl rfl rfl (ps_shl rfl rfl (by decide) rfl) rfl ?_
          | refine sk_pure_g rfl rfl rfl rfl (ps_shr rfl rfl (by decide) rfl) rfl ?_
          | refine sk_pure_g rfl rfl rfl rfl (ps_len rfl) rfl ?_
          | refine sk_pure_g rfl rfl rfl rfl (ps_len_str rfl) rfl ?_
          | refine sk_pure_g rfl rfl rfl rfl (ps_extract rfl rfl) rfl ?_
          | refine sk_pure_g rfl rfl rfl rfl (ps_field rfl rfl) rfl ?_
          | refine sk_pure_g rfl rfl rfl rfl (ps_build rfl rfl) rfl ?_
          | refine sk_pure_g rfl rfl rfl rfl (ps_indexAddr rfl rfl rfl (by omega)) rfl ?_
          | refine sk_pure_g rfl rfl rfl rfl (ps_indexAddr (j := 0) rfl rfl rfl (by omega)) rfl ?_
          | refine sk_pure_g rfl rfl rfl rfl (ps_indexAddr (j := 1) rfl rfl rfl (by omega)) rfl ?_
          | refine sk_pure_g rfl rfl rfl rfl (ps_pick_t rfl rfl) rfl ?_
          | refine sk_pure_g rfl rfl rfl rfl (ps_pick_f rfl rfl) rfl ?_
          | refine sk_pure_g rfl rfl rfl rfl (ps_min2 rfl rfl) rfl ?_
          | refine sk_pure_g rfl rfl rfl rfl (ps_max2 rfl rfl) rfl ?_
          | refine sk_pure_g rfl rfl rfl rfl (ps_indexAddr_arr rfl rfl rfl (by omega)) rfl ?_
          | refine sk_load 0 rfl rfl rfl rfl rfl ?_
          | refine sk_load 1 rfl rfl rfl rfl rfl ?_
          | refine sk_load 2 rfl rfl rfl rfl rfl ?_
          | refine sk_load 3 rfl rfl rfl rfl rfl ?_
          | refine sk_load 4 rfl rfl rfl rfl rfl ?_
          | refine sk_load 5 rfl rfl rfl rfl rfl ?_
          | refine sk_load_g 0 rfl rfl rfl rfl rfl rfl rfl ?_
          | refine sk_load_g 1 rfl rfl rfl rfl rfl rfl rfl ?_
          | refine sk_load_g 2 rfl rfl rfl rfl rfl rfl rfl ?_
          | refine sk_load_g 3 rfl rfl rfl rfl rfl rfl rfl ?_
          | refine sk_load_g 4 rfl rfl rfl rfl rfl rfl rfl ?_
          | refine sk_load_g 5 rfl rfl rfl rfl rfl rfl rfl ?_
          | refine sk_lw 0 rfl rfl rfl rfl rfl ?_
          | refine sk_lw 1 rfl rfl rfl rfl rfl ?_
          | refine sk_lw 2 rfl rfl rfl rfl rfl ?_
          | refine sk_lw 3 rfl rfl rfl rfl rfl ?_
          | refine sk_lw 4 rfl rfl rfl rfl rfl ?_
          | refine sk_lw 5 rfl rfl rfl rfl rfl ?_
          | refine sk_lwg 0 rfl rfl rfl rfl rfl rfl rfl ?_
          | refine sk_lwg 1 rfl rfl rfl rfl rfl rfl rfl ?_
          | refine sk_lwg 2 rfl rfl rfl rfl rfl rfl rfl ?_
          | refine sk_lwg 3 rfl rfl rfl rfl rfl rfl rfl ?_
          | refine sk_lwg 4 rfl rfl rfl rfl rfl rfl rfl ?_
          | refine sk_lwg 5 rfl rfl rfl rfl rfl rfl rfl ?_
          | refine sk_eff rfl rfl ?_
          | refine sg_store_whole [] rfl rfl rfl rfl rfl ?_
          | refine sg_store_whole [_] rfl rfl rfl rfl rfl ?_
          | refine sg_store_whole [_, _] rfl rfl rfl rfl rfl ?_
          | refine sg_store_whole [_, _, _] rfl rfl rfl rfl rfl ?_
          | refine sg_store_whole [_, _, _, _] rfl rfl rfl rfl rfl ?_
          | refine sg_store_whole [_, _, _, _, _] rfl rfl rfl rfl rfl ?_
          | refine sg_store_whole [_, _, _, _, _, _] rfl rfl rfl rfl rfl ?_
          | refine sg_guard_yes rfl rfl ?_
          | refine sg_guard_nf rfl rfl rfl ?_
          | refine sg_guard_nt rfl rfl rfl ?_
          | refine sg_guard_nu rfl rfl rfl ?_
          | refine sk_back (fun w hO => hO) ?_
          | refine sg_store [] rfl rfl rfl (of_decide_eq_true rfl) ?_
          | refine sg_store [_] rfl rfl rfl (of_decide_eq_true rfl) ?_
          | refine sg_store [_, _] rfl rfl rfl (of_decide_eq_true rfl) ?_
          | refine sg_store [_, _, _] rfl rfl rfl (of_decide_eq_true rfl) ?_
          | refine sg_store [_, _, _, _] rfl rfl rfl (of_decide_eq_true rfl) ?_
          | refine sg_store [_, _, _, _, _] rfl rfl rfl (of_decide_eq_true rfl) ?_
          | refine sg_store [_, _, _, _, _, _] rfl rfl rfl (of_decide_eq_true rfl) ?_
          | refine sg_store [_, _, _, _, _, _, _] rfl rfl rfl (of_decide_eq_true rfl) ?_)
        repeat' (first
          | refine sg_wo ?_
          | refine sg_ps (ps_move rfl) rfl ?_
          | refine sg_ps (ps_assign rfl) rfl ?_
          | refine sg_seq ?_
          | refine sg_region ?_
          | refine sg_nil ?_
          | refine sg_then ?_
          | refine sg_ps (ps_fieldAddr rfl) rfl ?_
          | refine sg_ps (ps_nilCheck rfl) rfl ?_
          | refine sg_load 0 rfl rfl rfl rfl ?_
          | refine sg_load 1 rfl rfl rfl rfl ?_
          | refine sg_load 2 rfl rfl rfl rfl ?_
          | refine sg_load 3 rfl rfl rfl rfl ?_
          | refine sg_load 4 rfl rfl rfl rfl ?_
          | refine sg_load 5 rfl rfl rfl rfl ?_
          | refine sg_load 6 rfl rfl rfl rfl ?_
          | refine sg_load 7 rfl rfl rfl rfl ?_
          | refine sg_ps (ps_add64 rfl rfl (by omega)) rfl ?_
          | refine sg_ps (ps_sub64 rfl rfl (by omega)) rfl ?_
          | refine sg_ps (ps_mul64 rfl rfl (by omega)) rfl ?_
          | refine sg_ps (ps_bin rfl rfl inferInstance) rfl ?_
          | refine sg_ps (ps_rem rfl rfl (by decide)) rfl ?_
          | refine sg_ps (ps_quo64 rfl rfl (by decide) (by omega)) rfl ?_
          | refine sg_ps (ps_not rfl) rfl ?_
          | refine sg_ps (ps_conv rfl) rfl ?_
          | refine sg_ps (ps_shl rfl rfl (by decide) rfl) rfl ?_
          | refine sg_ps (ps_shr rfl rfl (by decide) rfl) rfl ?_
          | refine sg_cond_t rfl ?_
          | refine sg_cond_f rfl ?_
          | refine sg_guard_yes rfl rfl ?_
          | refine sg_guard_nf rfl rfl rfl ?_
          | refine sg_guard_nt rfl rfl rfl ?_
          | refine sg_guard_nu rfl rfl rfl ?_
          | refine sg_ps (ps_pick_t rfl rfl) rfl ?_
          | refine sg_ps (ps_pick_f rfl rfl) rfl ?_
          | refine sg_ps (ps_len rfl) rfl ?_
          | refine sg_ps (ps_len_str rfl) rfl ?_
          | refine sg_ps (ps_extract rfl rfl) rfl ?_
          | refine sg_ps (ps_field rfl rfl) rfl ?_
          | refine sg_ps (ps_min2 rfl rfl) rfl ?_
          | refine sg_ps (ps_max2 rfl rfl) rfl ?_
          | refine sg_ps (ps_build rfl rfl) rfl ?_
          | refine sg_box rfl rfl (fun bx => ?_)
          | refine sg_ps (ps_indexAddr rfl rfl rfl (by omega)) rfl ?_
          | refine sg_ps (ps_indexAddr (j := 0) rfl rfl rfl (by omega)) rfl ?_
          | refine sg_ps (ps_indexAddr (j := 1) rfl rfl rfl (by omega)) rfl ?_
          | refine sg_ps (ps_indexAddr_arr rfl rfl rfl (by omega)) rfl ?_
          | refine sg_load_whole 0 rfl rfl rfl rfl ?_
          | refine sg_load_whole 1 rfl rfl rfl rfl ?_
          | refine sg_load_whole 2 rfl rfl rfl rfl ?_
          | refine sg_load_whole 3 rfl rfl rfl rfl ?_
          | refine sg_load_whole 4 rfl rfl rfl rfl ?_
          | refine sg_load_whole 5 rfl rfl rfl rfl ?_
          | refine sg_load_whole 6 rfl rfl rfl rfl ?_
          | refine sg_load_whole 7 rfl rfl rfl rfl ?_
          | refine sg_store_whole [] rfl rfl rfl rfl rfl ?_
          | refine sg_store_whole [_] rfl rfl rfl rfl rfl ?_
          | refine sg_store_whole [_, _] rfl rfl rfl rfl rfl ?_
          | refine sg_store_whole [_, _, _] rfl rfl rfl rfl rfl ?_
          | refine sg_store_whole [_, _, _, _] rfl rfl rfl rfl rfl ?_
          | refine sg_store_whole [_, _, _, _, _] rfl rfl rfl rfl rfl ?_
          | refine sg_store_whole [_, _, _, _, _, _] rfl rfl rfl rfl rfl ?_
          | refine sg_alloc rfl (fun al => ?_)
          | refine sg_block ?_
          | refine sg_skip ?_
          | refine sg_ret ?_
          | refine sg_exit ?_
          | refine ex_then_ret ?_
          | refine ex_then_exit ?_
          | refine ex_block_ret ?_
          | refine ex_block_normal ?_
          | refine ex_block_hit ?_
          | refine ex_block_miss rfl ?_
          | refine sg_store [] rfl rfl rfl (of_decide_eq_true rfl) ?_
          | refine sg_store [_] rfl rfl rfl (of_decide_eq_true rfl) ?_
          | refine sg_store [_, _] rfl rfl rfl (of_decide_eq_true rfl) ?_
          | refine sg_store [_, _, _] rfl rfl rfl (of_decide_eq_true rfl) ?_
          | refine sg_store [_, _, _, _] rfl rfl rfl (of_decide_eq_true rfl) ?_
          | refine sg_store [_, _, _, _, _] rfl rfl rfl (of_decide_eq_true rfl) ?_
          | refine sg_store [_, _, _, _, _, _] rfl rfl rfl (of_decide_eq_true rfl) ?_
          | refine sg_store [_, _, _, _, _, _, _] rfl rfl rfl (of_decide_eq_true rfl) ?_
          | (refine sg_guard_dec rfl rfl (fun hg => ?_) (fun hg => ?_) <;> first | (exfalso; omega) | (exact absurd rfl hg) | skip)
          | (refine sg_guard_ndec rfl rfl (fun hg => ?_) (fun hg => ?_) <;> first | (exfalso; omega) | (exact absurd rfl hg) | skip)
          | (refine sg_cond_dec rfl (fun hg => ?_) (fun hg => ?_) <;> first | (exfalso; omega) | (exact absurd rfl hg) | skip)
          | (refine sg_cond_ndec rfl (fun hg => ?_) (fun hg => ?_) <;> first | (exfalso; omega) | (exact absurd rfl hg) | skip)
          | refine sg_cond_not rfl (fun hg => ?_) (fun hg => ?_)
          | refine sg_cond rfl (fun hg => ?_) (fun hg => ?_))
        exact ex_retc 0 rfl rfl rfl rfl () rfl trivial (fun w hO => hO.tail.tail.tail)
      · have h5 : (s.val[0].toNat : Int) = m.off := by simpa using h4
        repeat' (first
          | refine sk_nil ?_
          | refine sk_pure rfl rfl (ps_move rfl) rfl ?_
          | refine sk_pure rfl rfl (ps_assign rfl) rfl ?_
          | refine sk_pure rfl rfl (ps_nilCheck rfl) rfl ?_
          | refine sk_pure rfl rfl (ps_fieldAddr rfl) rfl ?_
          | refine sk_pure rfl rfl (ps_add64 rfl rfl (by omega)) rfl ?_
          | refine sk_pure rfl rfl (ps_sub64 rfl rfl (by omega)) rfl ?_
          | refine sk_pure rfl rfl (ps_mul64 rfl rfl (by omega)) rfl ?_
          | refine sk_pure rfl rfl (ps_bin rfl rfl inferInstance) rfl ?_
          | refine sk_pure rfl rfl (ps_rem rfl rfl (by decide)) rfl ?_
          | refine sk_pure rfl rfl (ps_not rfl) rfl ?_
          | refine sk_pure rfl rfl (ps_conv rfl) rfl ?_
          | refine sk_pure rfl rfl (ps_shl rfl rfl (by decide) rfl) rfl ?_
          | refine sk_pure rfl rfl (ps_shr rfl rfl (by decide) rfl) rfl ?_
          | refine sk_pure rfl rfl (ps_len rfl) rfl ?_
          | refine sk_pure rfl rfl (ps_len_str rfl) rfl ?_
          | refine sk_pure rfl rfl (ps_extract rfl rfl) rfl ?_
          | refine sk_pure rfl rfl (ps_field rfl rfl) rfl ?_
          | refine sk_pure rfl rfl (ps_build rfl rfl) rfl ?_
          | refine sk_pure rfl rfl (ps_indexAddr rfl rfl rfl (by omega)) rfl ?_
          | refine sk_pure rfl rfl (ps_indexAddr (j := 0) rfl rfl rfl (by omega)) rfl ?_
          | refine sk_pure rfl rfl (ps_indexAddr (j := 1) rfl rfl rfl (by omega)) rfl ?_
          | refine sk_pure rfl rfl (ps_pick_t rfl rfl) rfl ?_
          | refine sk_pure rfl rfl (ps_pick_f rfl rfl) rfl ?_
          | refine sk_pure rfl rfl (ps_min2 rfl rfl) rfl ?_
          | refine sk_pure rfl rfl (ps_max2 rfl rfl) rfl ?_
          | refine sk_pure rfl rfl (ps_indexAddr_arr rfl rfl rfl (by omega)) rfl ?_
          | refine sk_no rfl rfl rfl rfl rfl ?_
          | refine sk_pure_g rfl rfl rfl rfl (ps_move rfl) rfl ?_
          | refine sk_pure_g rfl rfl rfl rfl (ps_assign rfl) rfl ?_
          | refine sk_pure_g rfl rfl rfl rfl (ps_nilCheck rfl) rfl ?_
          | refine sk_pure_g rfl rfl rfl rfl (ps_fieldAddr rfl) rfl ?_
          | refine sk_pure_g rfl rfl rfl rfl (ps_add64 rfl rfl (by omega)) rfl ?_
          | refine sk_pure_g rfl rfl rfl rfl (ps_sub64 rfl rfl (by omega)) rfl ?_
          | refine sk_pure_g rfl rfl rfl rfl (ps_mul64 rfl rfl (by omega)) rfl ?_
          | refine sk_pure_g rfl rfl rfl rfl (ps_bin rfl rfl inferInstance) rfl ?_
          | refine sk_pure_g rfl rfl rfl rfl (ps_rem rfl rfl (by decide)) rfl ?_
          | refine sk_pure_g rfl rfl rfl rfl (ps_not rfl) rfl ?_
          | refine sk_pure_g rfl rfl rfl rfl (ps_conv rfl) rfl ?_
          | refine sk_pure_g rfl rfl rfl rfl (ps_shl rfl rfl (by decide) rfl) rfl ?_
          | refine sk_pure_g rfl rfl rfl rfl (ps_shr rfl rfl (by decide) rfl) rfl ?_
          | refine sk_pure_g rfl rfl rfl rfl (ps_len rfl) rfl ?_
          | refine sk_pure_g rfl rfl rfl rfl (ps_len_str rfl) rfl ?_
          | refine sk_pure_g rfl rfl rfl rfl (ps_extract rfl rfl) rfl ?_
          | refine sk_pure_g rfl rfl rfl rfl (ps_field rfl rfl) rfl ?_
          | refine sk_pure_g rfl rfl rfl rfl (ps_build rfl rfl) rfl ?_
          | refine sk_pure_g rfl rfl rfl rfl (ps_indexAddr rfl rfl rfl (by omega)) rfl ?_
          | refine sk_pure_g rfl rfl rfl rfl (ps_indexAddr (j := 0) rfl rfl rfl (by omega)) rfl ?_
          | refine sk_pure_g rfl rfl rfl rfl (ps_indexAddr (j := 1) rfl rfl rfl (by omega)) rfl ?_
          | refine sk_pure_g rfl rfl rfl rfl (ps_pick_t rfl rfl) rfl ?_
          | refine sk_pure_g rfl rfl rfl rfl (ps_pick_f rfl rfl) rfl ?_
          | refine sk_pure_g rfl rfl rfl rfl (ps_min2 rfl rfl) rfl ?_
          | refine sk_pure_g rfl rfl rfl rfl (ps_max2 rfl rfl) rfl ?_
          | refine sk_pure_g rfl rfl rfl rfl (ps_indexAddr_arr rfl rfl rfl (by omega)) rfl ?_
          | refine sk_load 0 rfl rfl rfl rfl rfl ?_
          | refine sk_load 1 rfl rfl rfl rfl rfl ?_
          | refine sk_load 2 rfl rfl rfl rfl rfl ?_
          | refine sk_load 3 rfl rfl rfl rfl rfl ?_
          | refine sk_load 4 rfl rfl rfl rfl rfl ?_
          | refine sk_load 5 rfl rfl rfl rfl rfl ?_
          | refine sk_load_g 0 rfl rfl rfl rfl rfl rfl rfl ?_
          | refine sk_load_g 1 rfl rfl rfl rfl rfl rfl rfl ?_
          | refine sk_load_g 2 rfl rfl rfl rfl rfl rfl rfl ?_
          | refine sk_load_g 3 rfl rfl rfl rfl rfl rfl rfl ?_
          | refine sk_load_g 4 rfl rfl rfl rfl rfl rfl rfl ?_
          | refine sk_load_g 5 rfl rfl rfl rfl rfl rfl rfl ?_
          | refine sk_lw 0 rfl rfl rfl rfl rfl ?_
          | refine sk_lw 1 rfl rfl rfl rfl rfl ?_
          | refine sk_lw 2 rfl rfl rfl rfl rfl ?_
          | refine sk_lw 3 rfl rfl rfl rfl rfl ?_
          | refine sk_lw 4 rfl rfl rfl rfl rfl ?_
          | refine sk_lw 5 rfl rfl rfl rfl rfl ?_
          | refine sk_lwg 0 rfl rfl rfl rfl rfl rfl rfl ?_
          | refine sk_lwg 1 rfl rfl rfl rfl rfl rfl rfl ?_
          | refine sk_lwg 2 rfl rfl rfl rfl rfl rfl rfl ?_
          | refine sk_lwg 3 rfl rfl rfl rfl rfl rfl rfl ?_
          | refine sk_lwg 4 rfl rfl rfl rfl rfl rfl rfl ?_
          | refine sk_lwg 5 rfl rfl rfl rfl rfl rfl rfl ?_
          | refine sk_eff rfl rfl ?_
          | refine sg_store_whole [] rfl rfl rfl rfl rfl ?_
          | refine sg_store_whole [_] rfl rfl rfl rfl rfl ?_
          | refine sg_store_whole [_, _] rfl rfl rfl rfl rfl ?_
          | refine sg_store_whole [_, _, _] rfl rfl rfl rfl rfl ?_
          | refine sg_store_whole [_, _, _, _] rfl rfl rfl rfl rfl ?_
          | refine sg_store_whole [_, _, _, _, _] rfl rfl rfl rfl rfl ?_
          | refine sg_store_whole [_, _, _, _, _, _] rfl rfl rfl rfl rfl ?_
          | refine sg_guard_yes rfl rfl ?_
          | refine sg_guard_nf rfl rfl rfl ?_
          | refine sg_guard_nt rfl rfl rfl ?_
          | refine sg_guard_nu rfl rfl rfl ?_
          | refine sk_back (fun w hO => hO) ?_
          | refine sg_store [] rfl rfl rfl (of_decide_eq_true rfl) ?_
          | refine sg_store [_] rfl rfl rfl (of_decide_eq_true rfl) ?_
          | refine sg_store [_, _] rfl rfl rfl (of_decide_eq_true rfl) ?_
          | refine sg_store [_, _, _] rfl rfl rfl (of_decide_eq_true rfl) ?_
          | refine sg_store [_, _, _, _] rfl rfl rfl (of_decide_eq_true rfl) ?_
          | refine sg_store [_, _, _, _, _] rfl rfl rfl (of_decide_eq_true rfl) ?_
          | refine sg_store [_, _, _, _, _, _] rfl rfl rfl (of_decide_eq_true rfl) ?_
          | refine sg_store [_, _, _, _, _, _, _] rfl rfl rfl (of_decide_eq_true rfl) ?_)
        repeat' (first
          | refine sg_wo ?_
          | refine sg_ps (ps_move rfl) rfl ?_
          | refine sg_ps (ps_assign rfl) rfl ?_
          | refine sg_seq ?_
          | refine sg_region ?_
          | refine sg_nil ?_
          | refine sg_then ?_
          | refine sg_ps (ps_fieldAddr rfl) rfl ?_
          | refine sg_ps (ps_nilCheck rfl) rfl ?_
          | refine sg_load 0 rfl rfl rfl rfl ?_
          | refine sg_load 1 rfl rfl rfl rfl ?_
          | refine sg_load 2 rfl rfl rfl rfl ?_
          | refine sg_load 3 rfl rfl rfl rfl ?_
          | refine sg_load 4 rfl rfl rfl rfl ?_
          | refine sg_load 5 rfl rfl rfl rfl ?_
          | refine sg_load 6 rfl rfl rfl rfl ?_
          | refine sg_load 7 rfl rfl rfl rfl ?_
          | refine sg_ps (ps_add64 rfl rfl (by omega)) rfl ?_
          | refine sg_ps (ps_sub64 rfl rfl (by omega)) rfl ?_
          | refine sg_ps (ps_mul64 rfl rfl (by omega)) rfl ?_
          | refine sg_ps (ps_bin rfl rfl inferInstance) rfl ?_
          | refine sg_ps (ps_rem rfl rfl (by decide)) rfl ?_
          | refine sg_ps (ps_quo64 rfl rfl (by decide) (by omega)) rfl ?_
          | refine sg_ps (ps_not rfl) rfl ?_
          | refine sg_ps (ps_conv rfl) rfl ?_
          | refine sg_ps (ps_shl rfl rfl (by decide) rfl) rfl ?_
          | refine sg_ps (ps_shr rfl rfl (by decide) rfl) rfl ?_
          | refine sg_cond_t rfl ?_
          | refine sg_cond_f rfl ?_
          | refine sg_guard_yes rfl rfl ?_
          | refine sg_guard_nf rfl rfl rfl ?_
          | refine sg_guard_nt rfl rfl rfl ?_
          | refine sg_guard_nu rfl rfl rfl ?_
          | refine sg_ps (ps_pick_t rfl rfl) rfl ?_
          | refine sg_ps (ps_pick_f rfl rfl) rfl ?_
          | refine sg_ps (ps_len rfl) rfl ?_
          | refine sg_ps (ps_len_str rfl) rfl ?_
          | refine sg_ps (ps_extract rfl rfl) rfl ?_
          | refine sg_ps (ps_field rfl rfl) rfl ?_
          | refine sg_ps (ps_min2 rfl rfl) rfl ?_
          | refine sg_ps (ps_max2 rfl rfl) rfl ?_
          | refine sg_ps (ps_build rfl rfl) rfl ?_
          | refine sg_box rfl rfl (fun bx => ?_)
          | refine sg_ps (ps_indexAddr rfl rfl rfl (by omega)) rfl ?_
          | refine sg_ps (ps_indexAddr (j := 0) rfl rfl rfl (by omega)) rfl ?_
          | refine sg_ps (ps_indexAddr (j := 1) rfl rfl rfl (by omega)) rfl ?_
          | refine sg_ps (ps_indexAddr_arr rfl rfl rfl (by omega)) rfl ?_
          | refine sg_load_whole 0 rfl rfl rfl rfl ?_
          | refine sg_load_whole 1 rfl rfl rfl rfl ?_
          | refine sg_load_whole 2 rfl rfl rfl rfl ?_
          | refine sg_load_whole 3 rfl rfl rfl rfl ?_
          | refine sg_load_whole 4 rfl rfl rfl rfl ?_
          | refine sg_load_whole 5 rfl rfl rfl rfl ?_
          | refine sg_load_whole 6 rfl rfl rfl rfl ?_
          | refine sg_load_whole 7 rfl rfl rfl rfl ?_
          | refine sg_store_whole [] rfl rfl rfl rfl rfl ?_
          | refine sg_store_whole [_] rfl rfl rfl rfl rfl ?_
          | refine sg_store_whole [_, _] rfl rfl rfl rfl rfl ?_
          | refine sg_store_whole [_, _, _] rfl rfl rfl rfl rfl ?_
          | refine sg_store_whole [_, _, _, _] rfl rfl rfl rfl rfl ?_
          | refine sg_store_whole [_, _, _, _, _] rfl rfl rfl rfl rfl ?_
          | refine sg_store_whole [_, _, _, _, _, _] rfl rfl rfl rfl rfl ?_
          | refine sg_alloc rfl (fun al => ?_)
          | refine sg_block ?_
          | refine sg_skip ?_
          | refine sg_ret ?_
          | refine sg_exit ?_
          | refine ex_then_ret ?_
          | refine ex_then_exit ?_
          | refine ex_block_ret ?_
          | refine ex_block_normal ?_
          | refine ex_block_hit ?_
          | refine ex_block_miss rfl ?_
          | refine sg_store [] rfl rfl rfl (of_decide_eq_true rfl) ?_
          | refine sg_store [_] rfl rfl rfl (of_decide_eq_true rfl) ?_
          | refine sg_store [_, _] rfl rfl rfl (of_decide_eq_true rfl) ?_
          | refine sg_store [_, _, _] rfl rfl rfl (of_decide_eq_true rfl) ?_
          | refine sg_store [_, _, _, _] rfl rfl rfl (of_decide_eq_true rfl) ?_
          | refine sg_store [_, _, _, _, _] rfl rfl rfl (of_decide_eq_true rfl) ?_
          | refine sg_store [_, _, _, _, _, _] rfl rfl rfl (of_decide_eq_true rfl) ?_
          | refine sg_store [_, _, _, _, _, _, _] rfl rfl rfl (of_decide_eq_true rfl) ?_
          | (refine sg_guard_dec rfl rfl (fun hg => ?_) (fun hg => ?_) <;> first | (exfalso; omega) | (exact absurd rfl hg) | skip)
          | (refine sg_guard_ndec rfl rfl (fun hg => ?_) (fun hg => ?_) <;> first | (exfalso; omega) | (exact absurd rfl hg) | skip)
          | (refine sg_cond_dec rfl (fun hg => ?_) (fun hg => ?_) <;> first | (exfalso; omega) | (exact absurd rfl hg) | skip)
          | (refine sg_cond_ndec rfl (fun hg => ?_) (fun hg => ?_) <;> first | (exfalso; omega) | (exact absurd rfl hg) | skip)
          | refine sg_cond_not rfl (fun hg => ?_) (fun hg => ?_)
          | refine sg_cond rfl (fun hg => ?_) (fun hg => ?_))
        · have e : s.grow m = s := if_pos (.inr (.inr (.inr (by omega))))
          rw [e]
          exact ex_retc 0 rfl rfl rfl rfl () rfl trivial (fun w hO => hO.tail.tail.tail)
        · obtain ⟨v0, vt, hv⟩ : ∃ v0 vt, s.val = v0 :: vt := by
            cases hv : s.val with
            | nil => exact absurd hv hne
            | cons a t => exact ⟨a, t, rfl⟩
          have e : s.grow m = ⟨true, bump (s.val ++ m.val)⟩ := if_neg (by rintro (h | h | h | h); rw [hh] at h; cases h; exact hne h; exact h (by rw [h0]; exact h5); omega)
          rw [e]
          refine sg_bytes_of_str (u := .bool) rfl rfl (by rw [hsz]; simp only [maxLen]; omega) (fun g0 c => ?_)
          repeat' (first
            | refine sg_wo ?_
            | refine sg_ps (ps_move rfl) rfl ?_
            | refine sg_ps (ps_assign rfl) rfl ?_
            | refine sg_seq ?_
            | refine sg_region ?_
            | refine sg_nil ?_
            | refine sg_then ?_
            | refine sg_ps (ps_fieldAddr rfl) rfl ?_
            | refine sg_ps (ps_nilCheck rfl) rfl ?_
            | refine sg_load 0 rfl rfl rfl rfl ?_
            | refine sg_load 1 rfl rfl rfl rfl ?_
            | refine sg_load 2 rfl rfl rfl rfl ?_
            | refine sg_load 3 rfl rfl rfl rfl ?_
            | refine sg_load 4 rfl rfl rfl rfl ?_
            | refine sg_load 5 rfl rfl rfl rfl ?_
            | refine sg_load 6 rfl rfl rfl rfl ?_
            | refine sg_load 7 rfl rfl rfl rfl ?_
            | refine sg_ps (ps_add64 rfl rfl (by omega)) rfl ?_
            | refine sg_ps (ps_sub64 rfl rfl (by omega)) rfl ?_
            | refine sg_ps (ps_mul64 rfl rfl (by omega)) rfl ?_
            | refine sg_ps (ps_bin rfl rfl inferInstance) rfl ?_
            | refine sg_ps (ps_rem rfl rfl (by decide)) rfl ?_
            | refine sg_ps (ps_quo64 rfl rfl (by decide) (by omega)) rfl ?_
            | refine sg_ps (ps_not rfl) rfl ?_
            | refine sg_ps (ps_conv rfl) rfl ?_
            | refine sg_ps (ps_shl rfl rfl (by decide) rfl) rfl ?_
            | refine sg_ps (ps_shr rfl rfl (by decide) rfl) rfl ?_
            | refine sg_cond_t rfl ?_
            | refine sg_cond_f rfl ?_
            | refine sg_guard_yes rfl rfl ?_
            | refine sg_guard_nf rfl rfl rfl ?_
            | refine sg_guard_nt rfl rfl rfl ?_
            | refine sg_guard_nu rfl rfl rfl ?_
            | refine sg_ps (ps_pick_t rfl rfl) rfl ?_
            | refine sg_ps (ps_pick_f rfl rfl) rfl ?_
            | refine sg_ps (ps_len rfl) rfl ?_
            | refine sg_ps (ps_len_str rfl) rfl ?_
            | refine sg_ps (ps_extract rfl rfl) rfl ?_
            | refine sg_ps (ps_field rfl rfl) rfl ?_
            | refine sg_ps (ps_min2 rfl rfl) rfl ?_
            | refine sg_ps (ps_max2 rfl rfl) rfl ?_
            | refine sg_ps (ps_build rfl rfl) rfl ?_
            | refine sg_box rfl rfl (fun bx => ?_)
            | refine sg_ps (ps_indexAddr rfl rfl rfl (by omega)) rfl ?_
            | refine sg_ps (ps_indexAddr (j := 0) rfl rfl rfl (by omega)) rfl ?_
            | refine sg_ps (ps_indexAddr (j := 1) rfl rfl rfl (by omega)) rfl ?_
            | refine sg_ps (ps_indexAddr_arr rfl rfl rfl (by omega)) rfl ?_
            | refine sg_load_whole 0 rfl rfl rfl rfl ?_
            | refine sg_load_whole 1 rfl rfl rfl rfl ?_
            | refine sg_load_whole 2 rfl rfl rfl rfl ?_
            | refine sg_load_whole 3 rfl rfl rfl rfl ?_
            | refine sg_load_whole 4 rfl rfl rfl rfl ?_
            | refine sg_load_whole 5 rfl rfl rfl rfl ?_
            | refine sg_load_whole 6 rfl rfl rfl rfl ?_
            | refine sg_load_whole 7 rfl rfl rfl rfl ?_
            | refine sg_store_whole [] rfl rfl rfl rfl rfl ?_
            | refine sg_store_whole [_] rfl rfl rfl rfl rfl ?_
            | refine sg_store_whole [_, _] rfl rfl rfl rfl rfl ?_
            | refine sg_store_whole [_, _, _] rfl rfl rfl rfl rfl ?_
            | refine sg_store_whole [_, _, _, _] rfl rfl rfl rfl rfl ?_
            | refine sg_store_whole [_, _, _, _, _] rfl rfl rfl rfl rfl ?_
            | refine sg_store_whole [_, _, _, _, _, _] rfl rfl rfl rfl rfl ?_
            | refine sg_alloc rfl (fun al => ?_)
            | refine sg_block ?_
            | refine sg_skip ?_
            | refine sg_ret ?_
            | refine sg_exit ?_
            | refine ex_then_ret ?_
            | refine ex_then_exit ?_
            | refine ex_block_ret ?_
            | refine ex_block_normal ?_
            | refine ex_block_hit ?_
            | refine ex_block_miss rfl ?_
            | refine sg_store [] rfl rfl rfl (of_decide_eq_true rfl) ?_
            | refine sg_store [_] rfl rfl rfl (of_decide_eq_true rfl) ?_
            | refine sg_store [_, _] rfl rfl rfl (of_decide_eq_true rfl) ?_
            | refine sg_store [_, _, _] rfl rfl rfl (of_decide_eq_true rfl) ?_
            | refine sg_store [_, _, _, _] rfl rfl rfl (of_decide_eq_true rfl) ?_
            | refine sg_store [_, _, _, _, _] rfl rfl rfl (of_decide_eq_true rfl) ?_
            | refine sg_store [_, _, _, _, _, _] rfl rfl rfl (of_decide_eq_true rfl) ?_
            | refine sg_store [_, _, _, _, _, _, _] rfl rfl rfl (of_decide_eq_true rfl) ?_
            | (refine sg_guard_dec rfl rfl (fun hg => ?_) (fun hg => ?_) <;> first | (exfalso; omega) | (exact absurd rfl hg) | skip)
            | (refine sg_guard_ndec rfl rfl (fun hg => ?_) (fun hg => ?_) <;> first | (exfalso; omega) | (exact absurd rfl hg) | skip)
            | (refine sg_cond_dec rfl (fun hg => ?_) (fun hg => ?_) <;> first | (exfalso; omega) | (exact absurd rfl hg) | skip)
            | (refine sg_cond_ndec rfl (fun hg => ?_) (fun hg => ?_) <;> first | (exfalso; omega) | (exact absurd rfl hg) | skip)
            | refine sg_cond_not rfl (fun hg => ?_) (fun hg => ?_)
            | refine sg_cond rfl (fun hg => ?_) (fun hg => ?_))
          refine sg_append_str (str := strOf m.val) rfl rfl rfl (by rw [hsz, hmz]; simp only [maxLen]; omega) (by rw [hsz, hmz]; omega) (fun a c2 => ?_)
          refine sg_open (fun w hO => own_block (by rw [hsz]; omega) hO) ?_
          rintro ⟨g, cur⟩ ⟨hg0, h6, h7, h8, h9⟩
          dsimp only at hg0 h6 h7 h8 h9 ⊢
          subst hg0
          have h10 : cur.take ((s.val.length + m.val.length) * 1) = (s.val ++ m.val).map bv := by
            rw [← hsz, ← hmz, h9]; simp [strOf]
          obtain ⟨rest, hrest⟩ : ∃ rest, cur = (s.val ++ m.val).map bv ++ rest := ⟨cur.drop ((s.val.length + m.val.length) * 1), by rw [← h10, List.take_append_drop]⟩
          subst hrest
          clear h9 h10
          rw [hsz, hmz] at h6 ⊢
          have hcells : (s.val ++ m.val).map bv ++ rest = bv v0 :: ((vt ++ m.val).map bv ++ rest) := by rw [hv]; rfl
          rw [hcells]
          repeat' (first
            | refine sg_wo ?_
            | refine sg_ps (ps_move rfl) rfl ?_
            | refine sg_ps (ps_assign rfl) rfl ?_
            | refine sg_seq ?_
            | refine sg_region ?_
            | refine sg_nil ?_
            | refine sg_then ?_
            | refine sg_ps (ps_fieldAddr rfl) rfl ?_
            | refine sg_ps (ps_nilCheck rfl) rfl ?_
            | refine sg_load 0 rfl rfl rfl rfl ?_
            | refine sg_load 1 rfl rfl rfl rfl ?_
            | refine sg_load 2 rfl rfl rfl rfl ?_
            | refine sg_load 3 rfl rfl rfl rfl ?_
            | refine sg_load 4 rfl rfl rfl rfl ?_
            | refine sg_load 5 rfl rfl rfl rfl ?_
            | refine sg_load 6 rfl rfl rfl rfl ?_
            | refine sg_load 7 rfl rfl rfl rfl ?_
            | refine sg_ps (ps_add64 rfl rfl (by omega)) rfl ?_
            | refine sg_ps (ps_sub64 rfl rfl (by omega)) rfl ?_
            | refine sg_ps (ps_mul64 rfl rfl (by omega)) rfl ?_
            | refine sg_ps (ps_bin rfl rfl inferInstance) rfl ?_
            | refine sg_ps (ps_rem rfl rfl (by decide)) rfl ?_
            | refine sg_ps (ps_quo64 rfl rfl (by decide) (by omega)) rfl ?_
            | refine sg_ps (ps_not rfl) rfl ?_
            | refine sg_ps (ps_conv rfl) rfl ?_
            | refine sg_ps (ps_shl rfl rfl (by decide) rfl) rfl ?_
            | refine sg_ps (ps_shr rfl rfl (by decide) rfl) rfl ?_
            | refine sg_cond_t rfl ?_
            | refine sg_cond_f rfl ?_
            | refine sg_guard_yes rfl rfl ?_
            | refine sg_guard_nf rfl rfl rfl ?_
            | refine sg_guard_nt rfl rfl rfl ?_
            | refine sg_guard_nu rfl rfl rfl ?_
            | refine sg_ps (ps_pick_t rfl rfl) rfl ?_
            | refine sg_ps (ps_pick_f rfl rfl) rfl ?_
            | refine sg_ps (ps_len rfl) rfl ?_
            | refine sg_ps (ps_len_str rfl) rfl ?_
            | refine sg_ps (ps_extract rfl rfl) rfl ?_
            | refine sg_ps (ps_field rfl rfl) rfl ?_
            | refine sg_ps (ps_min2 rfl rfl) rfl ?_
            | refine sg_ps (ps_max2 rfl rfl) rfl ?_
            | refine sg_ps (ps_build rfl rfl) rfl ?_
            | refine sg_box rfl rfl (fun bx => ?_)
            | refine sg_ps (ps_indexAddr rfl rfl rfl (by omega)) rfl ?_
            | refine sg_ps (ps_indexAddr (j := 0) rfl rfl rfl (by omega)) rfl ?_
            | refine sg_ps (ps_indexAddr (j := 1) rfl rfl rfl (by omega)) rfl ?_
            | refine sg_ps (ps_indexAddr_arr rfl rfl rfl (by omega)) rfl ?_
            | refine sg_load_whole 0 rfl rfl rfl rfl ?_
            | refine sg_load_whole 1 rfl rfl rfl rfl ?_
            | refine sg_load_whole 2 rfl rfl rfl rfl ?_
            | refine sg_load_whole 3 rfl rfl rfl rfl ?_
            | refine sg_load_whole 4 rfl rfl rfl rfl ?_
            | refine sg_load_whole 5 rfl rfl rfl rfl ?_
            | refine sg_load_whole 6 rfl rfl rfl rfl ?_
            | refine sg_load_whole 7 rfl rfl rfl rfl ?_
            | refine sg_store_whole [] rfl rfl rfl rfl rfl ?_
            | refine sg_store_whole [_] rfl rfl rfl rfl rfl ?_
            | refine sg_store_whole [_, _] rfl rfl rfl rfl rfl ?_
            | refine sg_store_whole [_, _, _] rfl rfl rfl rfl rfl ?_
            | refine sg_store_whole [_, _, _, _] rfl rfl rfl rfl rfl ?_
            | refine sg_store_whole [_, _, _, _, _] rfl rfl rfl rfl rfl ?_
            | refine sg_store_whole [_, _, _, _, _, _] rfl rfl rfl rfl rfl ?_
            | refine sg_alloc rfl (fun al => ?_)
            | refine sg_block ?_
            | refine sg_skip ?_
            | refine sg_ret ?_
            | refine sg_exit ?_
            | refine ex_then_ret ?_
            | refine ex_then_exit ?_
            | refine ex_block_ret ?_
            | refine ex_block_normal ?_
            | refine ex_block_hit ?_
            | refine ex_block_miss rfl ?_
            | refine sg_store [] rfl rfl rfl (of_decide_eq_true rfl) ?_
            | refine sg_store [_] rfl rfl rfl (of_decide_eq_true rfl) ?_
            | refine sg_store [_, _] rfl rfl rfl (of_decide_eq_true rfl) ?_
            | refine sg_store [_, _, _] rfl rfl rfl (of_decide_eq_true rfl) ?_
            | refine sg_store [_, _, _, _] rfl rfl rfl (of_decide_eq_true rfl) ?_
            | refine sg_store [_, _, _, _, _] rfl rfl rfl (of_decide_eq_true rfl) ?_
            | refine sg_store [_, _, _, _, _, _] rfl rfl rfl (of_decide_eq_true rfl) ?_
            | refine sg_store [_, _, _, _, _, _, _] rfl rfl rfl (of_decide_eq_true rfl) ?_
            | (refine sg_guard_dec rfl rfl (fun hg => ?_) (fun hg => ?_) <;> first | (exfalso; omega) | (exact absurd rfl hg) | skip)
            | (refine sg_guard_ndec rfl rfl (fun hg => ?_) (fun hg => ?_) <;> first | (exfalso; omega) | (exact absurd rfl hg) | skip)
            | (refine sg_cond_dec rfl (fun hg => ?_) (fun hg => ?_) <;> first | (exfalso; omega) | (exact absurd rfl hg) | skip)
            | (refine sg_cond_ndec rfl (fun hg => ?_) (fun hg => ?_) <;> first | (exfalso; omega) | (exact absurd rfl hg) | skip)
            | refine sg_cond_not rfl (fun hg => ?_) (fun hg => ?_)
            | refine sg_cond rfl (fun hg => ?_) (fun hg => ?_))
          rw [u8_succ]
          repeat' (first
            | refine sg_wo ?_
            | refine sg_ps (ps_move rfl) rfl ?_
            | refine sg_ps (ps_assign rfl) rfl ?_
            | refine sg_seq ?_
            | refine sg_region ?_
            | refine sg_nil ?_
            | refine sg_then ?_
            | refine sg_ps (ps_fieldAddr rfl) rfl ?_
            | refine sg_ps (ps_nilCheck rfl) rfl ?_
            | refine sg_load 0 rfl rfl rfl rfl ?_
            | refine sg_load 1 rfl rfl rfl rfl ?_
            | refine sg_load 2 rfl rfl rfl rfl ?_
            | refine sg_load 3 rfl rfl rfl rfl ?_
            | refine sg_load 4 rfl rfl rfl rfl ?_
            | refine sg_load 5 rfl rfl rfl rfl ?_
            | refine sg_load 6 rfl rfl rfl rfl ?_
            | refine sg_load 7 rfl rfl rfl rfl ?_
            | refine sg_ps (ps_add64 rfl rfl (by omega)) rfl ?_
            | refine sg_ps (ps_sub64 rfl rfl (by omega)) rfl ?_
            | refine sg_ps (ps_mul64 rfl rfl (by omega)) rfl ?_
            | refine sg_ps (ps_bin rfl rfl inferInstance) rfl ?_
            | refine sg_ps (ps_rem rfl rfl (by decide)) rfl ?_
            | refine sg_ps (ps_quo64 rfl rfl (by decide) (by omega)) rfl ?_
            | refine sg_ps (ps_not rfl) rfl ?_
            | refine sg_ps (ps_conv rfl) rfl ?_
            | refine sg_ps (ps_shl rfl rfl (by decide) rfl) rfl ?_
            | refine sg_ps (ps_shr rfl rfl (by decide) rfl) rfl ?_
            | refine sg_cond_t rfl ?_
            | refine sg_cond_f rfl ?_
            | refine sg_guard_yes rfl rfl ?_
            | refine sg_guard_nf rfl rfl rfl ?_
            | refine sg_guard_nt rfl rfl rfl ?_
            | refine sg_guard_nu rfl rfl rfl ?_
            | refine sg_ps (ps_pick_t rfl rfl) rfl ?_
            | refine sg_ps (ps_pick_f rfl rfl) rfl ?_
            | refine sg_ps (ps_len rfl) rfl ?_
            | refine sg_ps (ps_len_str rfl) rfl ?_
            | refine sg_ps (ps_extract rfl rfl) rfl ?_
            | refine sg_ps (ps_field rfl rfl) rfl ?_
            | refine sg_ps (ps_min2 rfl rfl) rfl ?_
            | refine sg_ps (ps_max2 rfl rfl) rfl ?_
            | refine sg_ps (ps_build rfl rfl) rfl ?_
            | refine sg_box rfl rfl (fun bx => ?_)
            | refine sg_ps (ps_indexAddr rfl rfl rfl (by omega)) rfl ?_
            | refine sg_ps (ps_indexAddr (j := 0) rfl rfl rfl (by omega)) rfl ?_
            | refine sg_ps (ps_indexAddr (j := 1) rfl rfl rfl (by omega)) rfl ?_
            | refine sg_ps (ps_indexAddr_arr rfl rfl rfl (by omega)) rfl ?_
            | refine sg_load_whole 0 rfl rfl rfl rfl ?_
            | refine sg_load_whole 1 rfl rfl rfl rfl ?_
            | refine sg_load_whole 2 rfl rfl rfl rfl ?_
            | refine sg_load_whole 3 rfl rfl rfl rfl ?_
            | refine sg_load_whole 4 rfl rfl rfl rfl ?_
            | refine sg_load_whole 5 rfl rfl rfl rfl ?_
            | refine sg_load_whole 6 rfl rfl rfl rfl ?_
            | refine sg_load_whole 7 rfl rfl rfl rfl ?_
            | refine sg_store_whole [] rfl rfl rfl rfl rfl ?_
            | refine sg_store_whole [_] rfl rfl rfl rfl rfl ?_
            | refine sg_store_whole [_, _] rfl rfl rfl rfl rfl ?_
            | refine sg_store_whole [_, _, _] rfl rfl rfl rfl rfl ?_
            | refine sg_store_whole [_, _, _, _] rfl rfl rfl rfl rfl ?_
            | refine sg_store_whole [_, _, _, _, _] rfl rfl rfl rfl rfl ?_
            | refine sg_store_whole [_, _, _, _, _, _] rfl rfl rfl rfl rfl ?_
            | refine sg_alloc rfl (fun al => ?_)
            | refine sg_block ?_
            | refine sg_skip ?_
            | refine sg_ret ?_
            | refine sg_exit ?_
            | refine ex_then_ret ?_
            | refine ex_then_exit ?_
            | refine ex_block_ret ?_
            | refine ex_block_normal ?_
            | refine ex_block_hit ?_
            | refine ex_block_miss rfl ?_
            | refine sg_store [] rfl rfl rfl (of_decide_eq_true rfl) ?_
            | refine sg_store [_] rfl rfl rfl (of_decide_eq_true rfl) ?_
            | refine sg_store [_, _] rfl rfl rfl (of_decide_eq_true rfl) ?_
            | refine sg_store [_, _, _] rfl rfl rfl (of_decide_eq_true rfl) ?_
            | refine sg_store [_, _, _, _] rfl rfl rfl (of_decide_eq_true rfl) ?_
            | refine sg_store [_, _, _, _, _] rfl rfl rfl (of_decide_eq_true rfl) ?_
            | refine sg_store [_, _, _, _, _, _] rfl rfl rfl (of_decide_eq_true rfl) ?_
            | refine sg_store [_, _, _, _, _, _, _] rfl rfl rfl (of_decide_eq_true rfl) ?_
            | (refine sg_guard_dec rfl rfl (fun hg => ?_) (fun hg => ?_) <;> first | (exfalso; omega) | (exact absurd rfl hg) | skip)
            | (refine sg_guard_ndec rfl rfl (fun hg => ?_) (fun hg => ?_) <;> first | (exfalso; omega) | (exact absurd rfl hg) | skip)
            | (refine sg_cond_dec rfl (fun hg => ?_) (fun hg => ?_) <;> first | (exfalso; omega) | (exact absurd rfl hg) | skip)
            | (refine sg_cond_ndec rfl (fun hg => ?_) (fun hg => ?_) <;> first | (exfalso; omega) | (exact absurd rfl hg) | skip)
            | refine sg_cond_not rfl (fun hg => ?_) (fun hg => ?_)
            | refine sg_cond rfl (fun hg => ?_) (fun hg => ?_))
          have hb : bump (s.val ++ m.val) = UInt8.ofNat (v0.toNat + 1) :: (vt ++ m.val) := by rw [hv]; rfl
          have hbl : (bump (s.val ++ m.val)).length = s.val.length + m.val.length := by rw [hb, hv]; simp; omega
          refine sg_str_of_bytes (bs := bump (s.val ++ m.val)) rfl rfl hbl (rd_blk 0 rfl ?_) ?_
          · rw [hb]
            intro j u hj
            rw [show 0 + j = j by omega, show (0 * 1 : Nat) = 0 from rfl, List.set_cons_zero]
            cases j with
            | zero => exact hj
            | succ j =>
              rw [List.getElem?_cons_succ]
              rw [List.map_cons, List.getElem?_cons_succ] at hj
              rw [List.getElem?_append_left (List.getElem?_eq_some_iff.1 hj).1]; exact hj
          repeat' (first
            | refine sg_wo ?_
            | refine sg_ps (ps_move rfl) rfl ?_
            | refine sg_ps (ps_assign rfl) rfl ?_
            | refine sg_seq ?_
            | refine sg_region ?_
            | refine sg_nil ?_
            | refine sg_then ?_
            | refine sg_ps (ps_fieldAddr rfl) rfl ?_
            | refine sg_ps (ps_nilCheck rfl) rfl ?_
            | refine sg_load 0 rfl rfl rfl rfl ?_
            | refine sg_load 1 rfl rfl rfl rfl ?_
            | refine sg_load 2 rfl rfl rfl rfl ?_
            | refine sg_load 3 rfl rfl rfl rfl ?_
            | refine sg_load 4 rfl rfl rfl rfl ?_
            | refine sg_load 5 rfl rfl rfl rfl ?_
            | refine sg_load 6 rfl rfl rfl rfl ?_
            | refine sg_load 7 rfl rfl rfl rfl ?_
            | refine sg_ps (ps_add64 rfl rfl (by omega)) rfl ?_
            | refine sg_ps (ps_sub64 rfl rfl (by omega)) rfl ?_
            | refine sg_ps (ps_mul64 rfl rfl (by omega)) rfl ?_
            | refine sg_ps (ps_bin rfl rfl inferInstance) rfl ?_
            | refine sg_ps (ps_rem rfl rfl (by decide)) rfl ?_
            | refine sg_ps (ps_quo64 rfl rfl (by decide) (by omega)) rfl ?_
            | refine sg_ps (ps_not rfl) rfl ?_
            | refine sg_ps (ps_conv rfl) rfl ?_
            | refine sg_ps (ps_shl rfl rfl (by decide) rfl) rfl ?_
            | refine sg_ps (ps_shr rfl rfl (by decide) rfl) rfl ?_
            | refine sg_cond_t rfl ?_
            | refine sg_cond_f rfl ?_
            | refine sg_guard_yes rfl rfl ?_
            | refine sg_guard_nf rfl rfl rfl ?_
            | refine sg_guard_nt rfl rfl rfl ?_
            | refine sg_guard_nu rfl rfl rfl ?_
            | refine sg_ps (ps_pick_t rfl rfl) rfl ?_
            | refine sg_ps (ps_pick_f rfl rfl) rfl ?_
            | refine sg_ps (ps_len rfl) rfl ?_
            | refine sg_ps (ps_len_str rfl) rfl ?_
            | refine sg_ps (ps_extract rfl rfl) rfl ?_
            | refine sg_ps (ps_field rfl rfl) rfl ?_
            | refine sg_ps (ps_min2 rfl rfl) rfl ?_
            | refine sg_ps (ps_max2 rfl rfl) rfl ?_
            | refine sg_ps (ps_build rfl rfl) rfl ?_
            | refine sg_box rfl rfl (fun bx => ?_)
            | refine sg_ps (ps_indexAddr rfl rfl rfl (by omega)) rfl ?_
            | refine sg_ps (ps_indexAddr (j := 0) rfl rfl rfl (by omega)) rfl ?_
            | refine sg_ps (ps_indexAddr (j := 1) rfl rfl rfl (by omega)) rfl ?_
            | refine sg_ps (ps_indexAddr_arr rfl rfl rfl (by omega)) rfl ?_
            | refine sg_load_whole 0 rfl rfl rfl rfl ?_
            | refine sg_load_whole 1 rfl rfl rfl rfl ?_
            | refine sg_load_whole 2 rfl rfl rfl rfl ?_
            | refine sg_load_whole 3 rfl rfl rfl rfl ?_
            | refine sg_load_whole 4 rfl rfl rfl rfl ?_
            | refine sg_load_whole 5 rfl rfl rfl rfl ?_
            | refine sg_load_whole 6 rfl rfl rfl rfl ?_
            | refine sg_load_whole 7 rfl rfl rfl rfl ?_
            | refine sg_store_whole [] rfl rfl rfl rfl rfl ?_
            | refine sg_store_whole [_] rfl rfl rfl rfl rfl ?_
            | refine sg_store_whole [_, _] rfl rfl rfl rfl rfl ?_
            | refine sg_store_whole [_, _, _] rfl rfl rfl rfl rfl ?_
            | refine sg_store_whole [_, _, _, _] rfl rfl rfl rfl rfl ?_
            | refine sg_store_whole [_, _, _, _, _] rfl rfl rfl rfl rfl ?_
            | refine sg_store_whole [_, _, _, _, _, _] rfl rfl rfl rfl rfl ?_
            | refine sg_alloc rfl (fun al => ?_)
            | refine sg_block ?_
            | refine sg_skip ?_
            | refine sg_ret ?_
            | refine sg_exit ?_
            | refine ex_then_ret ?_
            | refine ex_then_exit ?_
            | refine ex_block_ret ?_
            | refine ex_block_normal ?_
            | refine ex_block_hit ?_
            | refine ex_block_miss rfl ?_
            | refine sg_store [] rfl rfl rfl (of_decide_eq_true rfl) ?_
            | refine sg_store [_] rfl rfl rfl (of_decide_eq_true rfl) ?_
            | refine sg_store [_, _] rfl rfl rfl (of_decide_eq_true rfl) ?_
            | refine sg_store [_, _, _] rfl rfl rfl (of_decide_eq_true rfl) ?_
            | refine sg_store [_, _, _, _] rfl rfl rfl (of_decide_eq_true rfl) ?_
            | refine sg_store [_, _, _, _, _] rfl rfl rfl (of_decide_eq_true rfl) ?_
            | refine sg_store [_, _, _, _, _, _] rfl rfl rfl (of_decide_eq_true rfl) ?_
            | refine sg_store [_, _, _, _, _, _, _] rfl rfl rfl (of_decide_eq_true rfl) ?_
            | (refine sg_guard_dec rfl rfl (fun hg => ?_) (fun hg => ?_) <;> first | (exfalso; omega) | (exact absurd rfl hg) | skip)
            | (refine sg_guard_ndec rfl rfl (fun hg => ?_) (fun hg => ?_) <;> first | (exfalso; omega) | (exact absurd rfl hg) | skip)
            | (refine sg_cond_dec rfl (fun hg => ?_) (fun hg => ?_) <;> first | (exfalso; omega) | (exact absurd rfl hg) | skip)
            | (refine sg_cond_ndec rfl (fun hg => ?_) (fun hg => ?_) <;> first | (exfalso; omega) | (exact absurd rfl hg) | skip)
            | refine sg_cond_not rfl (fun hg => ?_) (fun hg => ?_)
            | refine sg_cond rfl (fun hg => ?_) (fun hg => ?_))
          exact ex_retc 1 rfl rfl rfl rfl () rfl trivial (fun w hO => hO.tail.tail.tail.tail)
theorem worker_nil (m : MS) (h : ¬ (m.kind = 1 ∨ m.kind = 2 ∨ (m.kind = 3 ∧ 0 ≤ m.off) ∨ m.kind = 4)) (R : List HP) : Tri Try.prog W 15 [m.v] R (X := Unit) (fun _ => .nilFunc) (fun _ => True) (fun _ => R) := by
  refine tri_enter1 Try.func15 rfl Try.ntmps15 rfl ?_
  repeat' (first
    | refine sg_wo ?_
    | refine sg_ps (ps_move rfl) rfl ?_
    | refine sg_ps (ps_assign rfl) rfl ?_
    | refine sg_seq ?_
    | refine sg_region ?_
    | refine sg_nil ?_
    | refine sg_then ?_
    | refine sg_ps (ps_fieldAddr rfl) rfl ?_
    | refine sg_ps (ps_nilCheck rfl) rfl ?_
    | refine sg_load 0 rfl rfl rfl rfl ?_
    | refine sg_load 1 rfl rfl rfl rfl ?_
    | refine sg_load 2 rfl rfl rfl rfl ?_
    | refine sg_load 3 rfl rfl rfl rfl ?_
    | refine sg_load 4 rfl rfl rfl rfl ?_
    | refine sg_load 5 rfl rfl rfl rfl ?_
    | refine sg_load 6 rfl rfl rfl rfl ?_
    | refine sg_load 7 rfl rfl rfl rfl ?_
    | refine sg_ps (ps_add64 rfl rfl (by omega)) rfl ?_
    | refine sg_ps (ps_sub64 rfl rfl (by omega)) rfl ?_
    | refine sg_ps (ps_mul64 rfl rfl (by omega)) rfl ?_
    | refine sg_ps (ps_bin rfl rfl inferInstance) rfl ?_
    | refine sg_ps (ps_rem rfl rfl (by decide)) rfl ?_
    | refine sg_ps (ps_quo64 rfl rfl (by decide) (by omega)) rfl ?_
    | refine sg_ps (ps_not rfl) rfl ?_
    | refine sg_ps (ps_conv rfl) rfl ?_
    | refine sg_ps (ps_shl rfl rfl (by decide) rfl) rfl ?_
    | refine sg_ps (ps_shr rfl rfl (by decide) rfl) rfl ?_
    | refine sg_cond_t rfl ?_
    | refine sg_cond_f rfl ?_
    | refine sg_guard_yes rfl rfl ?_
    | refine sg_guard_nf rfl rfl rfl ?_
    | refine sg_guard_nt rfl rfl rfl ?_
    | refine sg_guard_nu rfl rfl rfl ?_
    | refine sg_ps (ps_pick_t rfl rfl) rfl ?_
    | refine sg_ps (ps_pick_f rfl rfl) rfl ?_
    | refine sg_ps (ps_len rfl) rfl ?_
    | refine sg_ps (ps_len_str rfl) rfl ?_
    | refine sg_ps (ps_extract rfl rfl) rfl ?_
    | refine sg_ps (ps_field rfl rfl) rfl ?_
    | refine sg_ps (ps_min2 rfl rfl) rfl ?_
    | refine sg_ps (ps_max2 rfl rfl) rfl ?_
    | refine sg_ps (ps_build rfl rfl) rfl ?_
    | refine sg_box rfl rfl (fun bx => ?_)
    | refine sg_ps (ps_indexAddr rfl rfl rfl (by omega)) rfl ?_
    | refine sg_ps (ps_indexAddr (j := 0) rfl rfl rfl (by omega)) rfl ?_
    | refine sg_ps (ps_indexAddr (j := 1) rfl rfl rfl (by omega)) rfl ?_
    | refine sg_ps (ps_indexAddr_arr rfl rfl rfl (by omega)) rfl ?_
    | refine sg_load_whole 0 rfl rfl rfl rfl ?_
    | refine sg_load_whole 1 rfl rfl rfl rfl ?_
    | refine sg_load_whole 2 rfl rfl rfl rfl ?_
    | refine sg_load_whole 3 rfl rfl rfl rfl ?_
    | refine sg_load_whole 4 rfl rfl rfl rfl ?_
    | refine sg_load_whole 5 rfl rfl rfl rfl ?_
    | refine sg_load_whole 6 rfl rfl rfl rfl ?_
    | refine sg_load_whole 7 rfl rfl rfl rfl ?_
    | refine sg_store_whole [] rfl rfl rfl rfl rfl ?_
    | refine sg_store_whole [_] rfl rfl rfl rfl rfl ?_
    | refine sg_store_whole [_, _] rfl rfl rfl rfl rfl ?_
    | refine sg_store_whole [_, _, _] rfl rfl rfl rfl rfl ?_
    | refine sg_store_whole [_, _, _, _] rfl rfl rfl rfl rfl ?_
    | refine sg_store_whole [_, _, _, _, _] rfl rfl rfl rfl rfl ?_
    | refine sg_store_whole [_, _, _, _, _, _] rfl rfl rfl rfl rfl ?_
    | refine sg_alloc rfl (fun al => ?_)
    | refine sg_block ?_
    | refine sg_skip ?_
    | refine sg_ret ?_
    | refine sg_exit ?_
    | refine ex_then_ret ?_
    | refine ex_then_exit ?_
    | refine ex_block_ret ?_
    | refine ex_block_normal ?_
    | refine ex_block_hit ?_
    | refine ex_block_miss rfl ?_
    | refine sg_store [] rfl rfl rfl (of_decide_eq_true rfl) ?_
    | refine sg_store [_] rfl rfl rfl (of_decide_eq_true rfl) ?_
    | refine sg_store [_, _] rfl rfl rfl (of_decide_eq_true rfl) ?_
    | refine sg_store [_, _, _] rfl rfl rfl (of_decide_eq_true rfl) ?_
    | refine sg_store [_, _, _, _] rfl rfl rfl (of_decide_eq_true rfl) ?_
    | refine sg_store [_, _, _, _, _] rfl rfl rfl (of_decide_eq_true rfl) ?_
    | refine sg_store [_, _, _, _, _, _] rfl rfl rfl (of_decide_eq_true rfl) ?_
    | refine sg_store [_, _, _, _, _, _, _] rfl rfl rfl (of_decide_eq_true rfl) ?_
    | (refine sg_guard_dec rfl rfl (fun hg => ?_) (fun hg => ?_) <;> first | (exfalso; omega) | (exact absurd rfl hg) | skip)
    | (refine sg_guard_ndec rfl rfl (fun hg => ?_) (fun hg => ?_) <;> first | (exfalso; omega) | (exact absurd rfl hg) | skip)
    | (refine sg_cond_dec rfl (fun hg => ?_) (fun hg => ?_) <;> first | (exfalso; omega) | (exact absurd rfl hg) | skip)
    | (refine sg_cond_ndec rfl (fun hg => ?_) (fun hg => ?_) <;> first | (exfalso; omega) | (exact absurd rfl hg) | skip)
    | refine sg_cond_not rfl (fun hg => ?_) (fun hg => ?_)
    | refine sg_cond rfl (fun hg => ?_) (fun hg => ?_))
  all_goals exact ex_ret1 rfl rfl () rfl trivial (fun w hO => hO.tail)
theorem worker_put (m : MS) (h : m.kind = 1) (R : List HP) : Tri Try.prog W 15 [m.v] R (X := Unit) (fun _ => .func (.func 17) #[] #[]) (fun _ => True) (fun _ => R) := by
  refine tri_enter1 Try.func15 rfl Try.ntmps15 rfl ?_
  repeat' (first
    | refine sg_wo ?_
    | refine sg_ps (ps_move rfl) rfl ?_
    | refine sg_ps (ps_assign rfl) rfl ?_
    | refine sg_seq ?_
    | refine sg_region ?_
    | refine sg_nil ?_
    | refine sg_then ?_
    | refine sg_ps (ps_fieldAddr rfl) rfl ?_
    | refine sg_ps (ps_nilCheck rfl) rfl ?_
    | refine sg_load 0 rfl rfl rfl rfl ?_
    | refine sg_load 1 rfl rfl rfl rfl ?_
    | refine sg_load 2 rfl rfl rfl rfl ?_
    | refine sg_load 3 rfl rfl rfl rfl ?_
    | refine sg_load 4 rfl rfl rfl rfl ?_
    | refine sg_load 5 rfl rfl rfl rfl ?_
    | refine sg_load 6 rfl rfl rfl rfl ?_
    | refine sg_load 7 rfl rfl rfl rfl ?_
    | refine sg_ps (ps_add64 rfl rfl (by omega)) rfl ?_
    | refine sg_ps (ps_sub64 rfl rfl (by omega)) rfl ?_
    | refine sg_ps (ps_mul64 rfl rfl (by omega)) rfl ?_
    | refine sg_ps (ps_bin rfl rfl inferInstance) rfl ?_
    | refine sg_ps (ps_rem rfl rfl (by decide)) rfl ?_
    | refine sg_ps (ps_quo64 rfl rfl (by decide) (by omega)) rfl ?_
    | refine sg_ps (ps_not rfl) rfl ?_
    | refine sg_ps (ps_conv rfl) rfl ?_
    | refine sg_ps (ps_shl rfl rfl (by decide) rfl) rfl ?_
    | refine sg_ps (ps_shr rfl rfl (by decide) rfl) rfl ?_
    | refine sg_cond_t rfl ?_
    | refine sg_cond_f rfl ?_
    | refine sg_guard_yes rfl rfl ?_
    | refine sg_guard_nf rfl rfl rfl ?_
    | refine sg_guard_nt rfl rfl rfl ?_
    | refine sg_guard_nu rfl rfl rfl ?_
    | refine sg_ps (ps_pick_t rfl rfl) rfl ?_
    | refine sg_ps (ps_pick_f rfl rfl) rfl ?_
    | refine sg_ps (ps_len rfl) rfl ?_
    | refine sg_ps (ps_len_str rfl) rfl ?_
    | refine sg_ps (ps_extract rfl rfl) rfl ?_
    | refine sg_ps (ps_field rfl rfl) rfl ?_
    | refine sg_ps (ps_min2 rfl rfl) rfl ?_
    | refine sg_ps (ps_max2 rfl rfl) rfl ?_
    | refine sg_ps (ps_build rfl rfl) rfl ?_
    | refine sg_box rfl rfl (fun bx => ?_)
    | refine sg_ps (ps_indexAddr rfl rfl rfl (by omega)) rfl ?_
    | refine sg_ps (ps_indexAddr (j := 0) rfl rfl rfl (by omega)) rfl ?_
    | refine sg_ps (ps_indexAddr (j := 1) rfl rfl rfl (by omega)) rfl ?_
    | refine sg_ps (ps_indexAddr_arr rfl rfl rfl (by omega)) rfl ?_
    | refine sg_load_whole 0 rfl rfl rfl rfl ?_
    | refine sg_load_whole 1 rfl rfl rfl rfl ?_
    | refine sg_load_whole 2 rfl rfl rfl rfl ?_
    | refine sg_load_whole 3 rfl rfl rfl rfl ?_
    | refine sg_load_whole 4 rfl rfl rfl rfl ?_
    | refine sg_load_whole 5 rfl rfl rfl rfl ?_
    | refine sg_load_whole 6 rfl rfl rfl rfl ?_
    | refine sg_load_whole 7 rfl rfl rfl rfl ?_
    | refine sg_store_whole [] rfl rfl rfl rfl rfl ?_
    | refine sg_store_whole [_] rfl rfl rfl rfl rfl ?_
    | refine sg_store_whole [_, _] rfl rfl rfl rfl rfl ?_
    | refine sg_store_whole [_, _, _] rfl rfl rfl rfl rfl ?_
    | refine sg_store_whole [_, _, _, _] rfl rfl rfl rfl rfl ?_
    | refine sg_store_whole [_, _, _, _, _] rfl rfl rfl rfl rfl ?_
    | refine sg_store_whole [_, _, _, _, _, _] rfl rfl rfl rfl rfl ?_
    | refine sg_alloc rfl (fun al => ?_)
    | refine sg_block ?_
    | refine sg_skip ?_
    | refine sg_ret ?_
    | refine sg_exit ?_
    | refine ex_then_ret ?_
    | refine ex_then_exit ?_
    | refine ex_block_ret ?_
    | refine ex_block_normal ?_
    | refine ex_block_hit ?_
    | refine ex_block_miss rfl ?_
    | refine sg_store [] rfl rfl rfl (of_decide_eq_true rfl) ?_
    | refine sg_store [_] rfl rfl rfl (of_decide_eq_true rfl) ?_
    | refine sg_store [_, _] rfl rfl rfl (of_decide_eq_true rfl) ?_
    | refine sg_store [_, _, _] rfl rfl rfl (of_decide_eq_true rfl) ?_
    | refine sg_store [_, _, _, _] rfl rfl rfl (of_decide_eq_true rfl) ?_
    | refine sg_store [_, _, _, _, _] rfl rfl rfl (of_decide_eq_true rfl) ?_
    | refine sg_store [_, _, _, _, _, _] rfl rfl rfl (of_decide_eq_true rfl) ?_
    | refine sg_store [_, _, _, _, _, _, _] rfl rfl rfl (of_decide_eq_true rfl) ?_
    | (refine sg_guard_dec rfl rfl (fun hg => ?_) (fun hg => ?_) <;> first | (exfalso; omega) | (exact absurd rfl hg) | skip)
    | (refine sg_guard_ndec rfl rfl (fun hg => ?_) (fun hg => ?_) <;> first | (exfalso; omega) | (exact absurd rfl hg) | skip)
    | (refine sg_cond_dec rfl (fun hg => ?_) (fun hg => ?_) <;> first | (exfalso; omega) | (exact absurd rfl hg) | skip)
    | (refine sg_cond_ndec rfl (fun hg => ?_) (fun hg => ?_) <;> first | (exfalso; omega) | (exact absurd rfl hg) | skip)
    | refine sg_cond_not rfl (fun hg => ?_) (fun hg => ?_)
    | refine sg_cond rfl (fun hg => ?_) (fun hg => ?_))
  exact ex_ret1 rfl rfl () rfl trivial (fun w hO => hO.tail)
theorem worker_del (m : MS) (h : m.kind = 2) (R : List HP) : Tri Try.prog W 15 [m.v] R (X := Unit) (fun _ => .func (.func 18) #[] #[]) (fun _ => True) (fun _ => R) := by
  refine tri_enter1 Try.func15 rfl Try.ntmps15 rfl ?_
  repeat' (first
    | refine sg_wo ?_
    | refine sg_ps (ps_move rfl) rfl ?_
    | refine sg_ps (ps_assign rfl) rfl ?_
    | refine sg_seq ?_
    | refine sg_region ?_
    | refine sg_nil ?_
    | refine sg_then ?_
    | refine sg_ps (ps_fieldAddr rfl) rfl ?_
    | refine sg_ps (ps_nilCheck rfl) rfl ?_
    | refine sg_load 0 rfl rfl rfl rfl ?_
    | refine sg_load 1 rfl rfl rfl rfl ?_
    | refine sg_load 2 rfl rfl rfl rfl ?_
    | refine sg_load 3 rfl rfl rfl rfl ?_
    | refine sg_load 4 rfl rfl rfl rfl ?_
    | refine sg_load 5 rfl rfl rfl rfl ?_
    | refine sg_load 6 rfl rfl rfl rfl ?_
    | refine sg_load 7 rfl rfl rfl rfl ?_
    | refine sg_ps (ps_add64 rfl rfl (by omega)) rfl ?_
    | refine sg_ps (ps_sub64 rfl rfl (by omega)) rfl ?_
    | refine sg_ps (ps_mul64 rfl rfl (by omega)) rfl ?_
    | refine sg_ps (ps_bin rfl rfl inferInstance) rfl ?_
    | refine sg_ps (ps_rem rfl rfl (by decide)) rfl ?_
    | refine sg_ps (ps_quo64 rfl rfl (by decide) (by omega)) rfl ?_
    | refine sg_ps (ps_not rfl) rfl ?_
    | refine sg_ps (ps_conv rfl) rfl ?_
    | refine sg_ps (ps_shl rfl rfl (by decide) rfl) rfl ?_
    | refine sg_ps (ps_shr rfl rfl (by decide) rfl) rfl ?_
    | refine sg_cond_t rfl ?_
    | refine sg_cond_f rfl ?_
    | refine sg_guard_yes rfl rfl ?_
    | refine sg_guard_nf rfl rfl rfl ?_
    | refine sg_guard_nt rfl rfl rfl ?_
    | refine sg_guard_nu rfl rfl rfl ?_
    | refine sg_ps (ps_pick_t rfl rfl) rfl ?_
    | refine sg_ps (ps_pick_f rfl rfl) rfl ?_
    | refine sg_ps (ps_len rfl) rfl ?_
    | refine sg_ps (ps_len_str rfl) rfl ?_
    | refine sg_ps (ps_extract rfl rfl) rfl ?_
    | refine sg_ps (ps_field rfl rfl) rfl ?_
    | refine sg_ps (ps_min2 rfl rfl) rfl ?_
    | refine sg_ps (ps_max2 rfl rfl) rfl ?_
    | refine sg_ps (ps_build rfl rfl) rfl ?_
    | refine sg_box rfl rfl (fun bx => ?_)
    | refine sg_ps (ps_indexAddr rfl rfl rfl (by omega)) rfl ?_
    | refine sg_ps (ps_indexAddr (j := 0) rfl rfl rfl (by omega)) rfl ?_
    | refine sg_ps (ps_indexAddr (j := 1) rfl rfl rfl (by omega)) rfl ?_
    | refine sg_ps (ps_indexAddr_arr rfl rfl rfl (by omega)) rfl ?_
    | refine sg_load_whole 0 rfl rfl rfl rfl ?_
    | refine sg_load_whole 1 rfl rfl rfl rfl ?_
    | refine sg_load_whole 2 rfl rfl rfl rfl ?_
    | refine sg_load_whole 3 rfl rfl rfl rfl ?_
    | refine sg_load_whole 4 rfl rfl rfl rfl ?_
    | refine sg_load_whole 5 rfl rfl rfl rfl ?_
    | refine sg_load_whole 6 rfl rfl rfl rfl ?_
    | refine sg_load_whole 7 rfl rfl rfl rfl ?_
    | refine sg_store_whole [] rfl rfl rfl rfl rfl ?_
    | refine sg_store_whole [_] rfl rfl rfl rfl rfl ?_
    | refine sg_store_whole [_, _] rfl rfl rfl rfl rfl ?_
    | refine sg_store_whole [_, _, _] rfl rfl rfl rfl rfl ?_
    | refine sg_store_whole [_, _, _, _] rfl rfl rfl rfl rfl ?_
    | refine sg_store_whole [_, _, _, _, _] rfl rfl rfl rfl rfl ?_
    | refine sg_store_whole [_, _, _, _, _, _] rfl rfl rfl rfl rfl ?_
    | refine sg_alloc rfl (fun al => ?_)
    | refine sg_block ?_
    | refine sg_skip ?_
    | refine sg_ret ?_
    | refine sg_exit ?_
    | refine ex_then_ret ?_
    | refine ex_then_exit ?_
    | refine ex_block_ret ?_
    | refine ex_block_normal ?_
    | refine ex_block_hit ?_
    | refine ex_block_miss rfl ?_
    | refine sg_store [] rfl rfl rfl (of_decide_eq_true rfl) ?_
    | refine sg_store [_] rfl rfl rfl (of_decide_eq_true rfl) ?_
    | refine sg_store [_, _] rfl rfl rfl (of_decide_eq_true rfl) ?_
    | refine sg_store [_, _, _] rfl rfl rfl (of_decide_eq_true rfl) ?_
    | refine sg_store [_, _, _, _] rfl rfl rfl (of_decide_eq_true rfl) ?_
    | refine sg_store [_, _, _, _, _] rfl rfl rfl (of_decide_eq_true rfl) ?_
    | refine sg_store [_, _, _, _, _, _] rfl rfl rfl (of_decide_eq_true rfl) ?_
    | refine sg_store [_, _, _, _, _, _, _] rfl rfl rfl (of_decide_eq_true rfl) ?_
    | (refine sg_guard_dec rfl rfl (fun hg => ?_) (fun hg => ?_) <;> first | (exfalso; omega) | (exact absurd rfl hg) | skip)
    | (refine sg_guard_ndec rfl rfl (fun hg => ?_) (fun hg => ?_) <;> first | (exfalso; omega) | (exact absurd rfl hg) | skip)
    | (refine sg_cond_dec rfl (fun hg => ?_) (fun hg => ?_) <;> first | (exfalso; omega) | (exact absurd rfl hg) | skip)
    | (refine sg_cond_ndec rfl (fun hg => ?_) (fun hg => ?_) <;> first | (exfalso; omega) | (exact absurd rfl hg) | skip)
    | refine sg_cond_not rfl (fun hg => ?_) (fun hg => ?_)
    | refine sg_cond rfl (fun hg => ?_) (fun hg => ?_))
  exact ex_ret1 rfl rfl () rfl trivial (fun w hO => hO.tail)
theorem worker_add (m : MS) (h : m.kind = 3) (h2 : 0 ≤ m.off) (R : List HP) : Tri Try.prog W 15 [m.v] R (X := Unit) (fun _ => .func (.func 19) #[] #[]) (fun _ => True) (fun _ => R) := by
  refine tri_enter1 Try.func15 rfl Try.ntmps15 rfl ?_
  repeat' (first
    | refine sg_wo ?_
    | refine sg_ps (ps_move rfl) rfl ?_
    | refine sg_ps (ps_assign rfl) rfl ?_
    | refine sg_seq ?_
    | refine sg_region ?_
    | refine sg_nil ?_
    | refine sg_then ?_
    | refine sg_ps (ps_fieldAddr rfl) rfl ?_
    | refine sg_ps (ps_nilCheck rfl) rfl ?_
    | refine sg_load 0 rfl rfl rfl rfl ?_
    | refine sg_load 1 rfl rfl rfl rfl ?_
    | refine sg_load 2 rfl rfl rfl rfl ?_
    | refine sg_load 3 rfl rfl rfl rfl ?_
    | refine sg_load 4 rfl rfl rfl rfl ?_
    | refine sg_load 5 rfl rfl rfl rfl ?_
    | refine sg_load 6 rfl rfl rfl rfl ?_
    | refine sg_load 7 rfl rfl rfl rfl ?_
    | refine sg_ps (ps_add64 rfl rfl (by omega)) rfl ?_
    | refine sg_ps (ps_sub64 rfl rfl (by omega)) rfl ?_
    | refine sg_ps (ps_mul64 rfl rfl (by omega)) rfl ?_
    | refine sg_ps (ps_bin rfl rfl inferInstance) rfl ?_
    | refine sg_ps (ps_rem rfl rfl (by decide)) rfl ?_
    | refine sg_ps (ps_quo64 rfl rfl (by decide) (by omega)) rfl ?_
    | refine sg_ps (ps_not rfl) rfl ?_
    | refine sg_ps (ps_conv rfl) rfl ?_
    | refine sg_ps (ps_shl rfl rfl (by decide) rfl) rfl ?_
    | refine sg_ps (ps_shr rfl rfl (by decide) rfl) rfl ?_
    | refine sg_cond_t rfl ?_
    | refine sg_cond_f rfl ?_
    | refine sg_guard_yes rfl rfl ?_
    | refine sg_guard_nf rfl rfl rfl ?_
    | refine sg_guard_nt rfl rfl rfl ?_
    | refine sg_guard_nu rfl rfl rfl ?_
    | refine sg_ps (ps_pick_t rfl rfl) rfl ?_
    | refine sg_ps (ps_pick_f rfl rfl) rfl ?_
    | refine sg_ps (ps_len rfl) rfl ?_
    | refine sg_ps (ps_len_str rfl) rfl ?_
    | refine sg_ps (ps_extract rfl rfl) rfl ?_
    | refine sg_ps (ps_field rfl rfl) rfl ?_
    | refine sg_ps (ps_min2 rfl rfl) rfl ?_
    | refine sg_ps (ps_max2 rfl rfl) rfl ?_
    | refine sg_ps (ps_build rfl rfl) rfl ?_
    | refine sg_box rfl rfl (fun bx => ?_)
    | refine sg_ps (ps_indexAddr rfl rfl rfl (by omega)) rfl ?_
    | refine sg_ps (ps_indexAddr (j := 0) rfl rfl rfl (by omega)) rfl ?_
    | refine sg_ps (ps_indexAddr (j := 1) rfl rfl rfl (by omega)) rfl ?_
    | refine sg_ps (ps_indexAddr_arr rfl rfl rfl (by omega)) rfl ?_
    | refine sg_load_whole 0 rfl rfl rfl rfl ?_
    | refine sg_load_whole 1 rfl rfl rfl rfl ?_
    | refine sg_load_whole 2 rfl rfl rfl rfl ?_
    | refine sg_load_whole 3 rfl rfl rfl rfl ?_
    | refine sg_load_whole 4 rfl rfl rfl rfl ?_
    | refine sg_load_whole 5 rfl rfl rfl rfl ?_
    | refine sg_load_whole 6 rfl rfl rfl rfl ?_
    | refine sg_load_whole 7 rfl rfl rfl rfl ?_
    | refine sg_store_whole [] rfl rfl rfl rfl rfl ?_
    | refine sg_store_whole [_] rfl rfl rfl rfl rfl ?_
    | refine sg_store_whole [_, _] rfl rfl rfl rfl rfl ?_
    | refine sg_store_whole [_, _, _] rfl rfl rfl rfl rfl ?_
    | refine sg_store_whole [_, _, _, _] rfl rfl rfl rfl rfl ?_
    | refine sg_store_whole [_, _, _, _, _] rfl rfl rfl rfl rfl ?_
    | refine sg_store_whole [_, _, _, _, _, _] rfl rfl rfl rfl rfl ?_
    | refine sg_alloc rfl (fun al => ?_)
    | refine sg_block ?_
    | refine sg_skip ?_
    | refine sg_ret ?_
    | refine sg_exit ?_
    | refine ex_then_ret ?_
    | refine ex_then_exit ?_
    | refine ex_block_ret ?_
    | refine ex_block_normal ?_
    | refine ex_block_hit ?_
    | refine ex_block_miss rfl ?_
    | refine sg_store [] rfl rfl rfl (of_decide_eq_true rfl) ?_
    | refine sg_store [_] rfl rfl rfl (of_decide_eq_true rfl) ?_
    | refine sg_store [_, _] rfl rfl rfl (of_decide_eq_true rfl) ?_
    | refine sg_store [_, _, _] rfl rfl rfl (of_decide_eq_true rfl) ?_
    | refine sg_store [_, _, _, _] rfl rfl rfl (of_decide_eq_true rfl) ?_
    | refine sg_store [_, _, _, _, _] rfl rfl rfl (of_decide_eq_true rfl) ?_
    | refine sg_store [_, _, _, _, _, _] rfl rfl rfl (of_decide_eq_true rfl) ?_
    | refine sg_store [_, _, _, _, _, _, _] rfl rfl rfl (of_decide_eq_true rfl) ?_
    | (refine sg_guard_dec rfl rfl (fun hg => ?_) (fun hg => ?_) <;> first | (exfalso; omega) | (exact absurd rfl hg) | skip)
    | (refine sg_guard_ndec rfl rfl (fun hg => ?_) (fun hg => ?_) <;> first | (exfalso; omega) | (exact absurd rfl hg) | skip)
    | (refine sg_cond_dec rfl (fun hg => ?_) (fun hg => ?_) <;> first | (exfalso; omega) | (exact absurd rfl hg) | skip)
    | (refine sg_cond_ndec rfl (fun hg => ?_) (fun hg => ?_) <;> first | (exfalso; omega) | (exact absurd rfl hg) | skip)
    | refine sg_cond_not rfl (fun hg => ?_) (fun hg => ?_)
    | refine sg_cond rfl (fun hg => ?_) (fun hg => ?_))
  exact ex_ret1 rfl rfl () rfl trivial (fun w hO => hO.tail)
theorem worker_grow (m : MS) (h : m.kind = 4) (R : List HP) : Tri Try.prog W 15 [m.v] R (X := Unit) (fun _ => .func (.func 20) #[] #[]) (fun _ => True) (fun _ => R) := by
  refine tri_enter1 Try.func15 rfl Try.ntmps15 rfl ?_
  repeat' (first
    | refine sg_wo ?_
    | refine sg_ps (ps_move rfl) rfl ?_
    | refine sg_ps (ps_assign rfl) rfl ?_
    | refine sg_seq ?_
    | refine sg_region ?_
    | refine sg_nil ?_
    | refine sg_then ?_
    | refine sg_ps (ps_fieldAddr rfl) rfl ?_
    | refine sg_ps (ps_nilCheck rfl) rfl ?_
    | refine sg_load 0 rfl rfl rfl rfl ?_
    | refine sg_load 1 rfl rfl rfl rfl ?_
    | refine sg_load 2 rfl rfl rfl rfl ?_
    | refine sg_load 3 rfl rfl rfl rfl ?_
    | refine sg_load 4 rfl rfl rfl rfl ?_
    | refine sg_load 5 rfl rfl rfl rfl ?_
    | refine sg_load 6 rfl rfl rfl rfl ?_
    | refine sg_load 7 rfl rfl rfl rfl ?_
    | refine sg_ps (ps_add64 rfl rfl (by omega)) rfl ?_
    | refine sg_ps (ps_sub64 rfl rfl (by omega)) rfl ?_
    | refine sg_ps (ps_mul64 rfl rfl (by omega)) rfl ?_
    | refine sg_ps (ps_bin rfl rfl inferInstance) rfl ?_
    | refine sg_ps (ps_rem rfl rfl (by decide)) rfl ?_
    | refine sg_ps (ps_quo64 rfl rfl (by decide) (by omega)) rfl ?_
    | refine sg_ps (ps_not rfl) rfl ?_
    | refine sg_ps (ps_conv rfl) rfl ?_
    | refine sg_ps (ps_shl rfl rfl (by decide) rfl) rfl ?_
    | refine sg_ps (ps_shr rfl rfl (by decide) rfl) rfl ?_
    | refine sg_cond_t rfl ?_
    | refine sg_cond_f rfl ?_
    | refine sg_guard_yes rfl rfl ?_
    | refine sg_guard_nf rfl rfl rfl ?_
    | refine sg_guard_nt rfl rfl rfl ?_
    | refine sg_guard_nu rfl rfl rfl ?_
    | refine sg_ps (ps_pick_t rfl rfl) rfl ?_
    | refine sg_ps (ps_pick_f rfl rfl) rfl ?_
    | refine sg_ps (ps_len rfl) rfl ?_
    | refine sg_ps (ps_len_str rfl) rfl ?_
    | refine sg_ps (ps_extract rfl rfl) rfl ?_
    | refine sg_ps (ps_field rfl rfl) rfl ?_
    | refine sg_ps (ps_min2 rfl rfl) rfl ?_
    | refine sg_ps (ps_max2 rfl rfl) rfl ?_
    | refine sg_ps (ps_build rfl rfl) rfl ?_
    | refine sg_box rfl rfl (fun bx => ?_)
    | refine sg_ps (ps_indexAddr rfl rfl rfl (by omega)) rfl ?_
    | refine sg_ps (ps_indexAddr (j := 0) rfl rfl rfl (by omega)) rfl ?_
    | refine sg_ps (ps_indexAddr (j := 1) rfl rfl rfl (by omega)) rfl ?_
    | refine sg_ps (ps_indexAddr_arr rfl rfl rfl (by omega)) rfl ?_
    | refine sg_load_whole 0 rfl rfl rfl rfl ?_
    | refine sg_load_whole 1 rfl rfl rfl rfl ?_
    | refine sg_load_whole 2 rfl rfl rfl rfl ?_
    | refine sg_load_whole 3 rfl rfl rfl rfl ?_
    | refine sg_load_whole 4 rfl rfl rfl rfl ?_
    | refine sg_load_whole 5 rfl rfl rfl rfl ?_
    | refine sg_load_whole 6 rfl rfl rfl rfl ?_
    | refine sg_load_whole 7 rfl rfl rfl rfl ?_
    | refine sg_store_whole [] rfl rfl rfl rfl rfl ?_
    | refine sg_store_whole [_] rfl rfl rfl rfl rfl ?_
    | refine sg_store_whole [_, _] rfl rfl rfl rfl rfl ?_
    | refine sg_store_whole [_, _, _] rfl rfl rfl rfl rfl ?_
    | refine sg_store_whole [_, _, _, _] rfl rfl rfl rfl rfl ?_
    | refine sg_store_whole [_, _, _, _, _] rfl rfl rfl rfl rfl ?_
    | refine sg_store_whole [_, _, _, _, _, _] rfl rfl rfl rfl rfl ?_
    | refine sg_alloc rfl (fun al => ?_)
    | refine sg_block ?_
    | refine sg_skip ?_
    | refine sg_ret ?_
    | refine sg_exit ?_
    | refine ex_then_ret ?_
    | refine ex_then_exit ?_
    | refine ex_block_ret ?_
    | refine ex_block_normal ?_
    | refine ex_block_hit ?_
    | refine ex_block_miss rfl ?_
    | refine sg_store [] rfl rfl rfl (of_decide_eq_true rfl) ?_
    | refine sg_store [_] rfl rfl rfl (of_decide_eq_true rfl) ?_
    | refine sg_store [_, _] rfl rfl rfl (of_decide_eq_true rfl) ?_
    | refine sg_store [_, _, _] rfl rfl rfl (of_decide_eq_true rfl) ?_
    | refine sg_store [_, _, _, _] rfl rfl rfl (of_decide_eq_true rfl) ?_
    | refine sg_store [_, _, _, _, _] rfl rfl rfl (of_decide_eq_true rfl) ?_
    | refine sg_store [_, _, _, _, _, _] rfl rfl rfl (of_decide_eq_true rfl) ?_
    | refine sg_store [_, _, _, _, _, _, _] rfl rfl rfl (of_decide_eq_true rfl) ?_
    | (refine sg_guard_dec rfl rfl (fun hg => ?_) (fun hg => ?_) <;> first | (exfalso; omega) | (exact absurd rfl hg) | skip)
    | (refine sg_guard_ndec rfl rfl (fun hg => ?_) (fun hg => ?_) <;> first | (exfalso; omega) | (exact absurd rfl hg) | skip)
    | (refine sg_cond_dec rfl (fun hg => ?_) (fun hg => ?_) <;> first | (exfalso; omega) | (exact absurd rfl hg) | skip)
    | (refine sg_cond_ndec rfl (fun hg => ?_) (fun hg => ?_) <;> first | (exfalso; omega) | (exact absurd rfl hg) | skip)
    | refine sg_cond_not rfl (fun hg => ?_) (fun hg => ?_)
    | refine sg_cond rfl (fun hg => ?_) (fun hg => ?_))
  exact ex_ret1 rfl rfl () rfl trivial (fun w hO => hO.tail)
/-- An entry out of its parts, put right. -/
def mkE (key : List UInt8) (old own : ST) (txn : Int) : EN :=
  { key := key, has := old.has, val := if old.has = true then old.val else [], txn := txn,
    new := if txn ≠ 0 ∧ own.has = true then true else false, nval := if txn ≠ 0 ∧ own.has = true then own.val else [] }
theorem mkE_tt {key : List UInt8} {old own : ST} {txn : Int} (h1 : old.has = true) (h2 : txn ≠ 0) (h3 : own.has = true) : mkE key old own txn = ⟨key, old.has, old.val, txn, true, own.val⟩ := by simp [mkE, h1, h2, h3]
theorem mkE_ft {key : List UInt8} {old own : ST} {txn : Int} (h1 : old.has = false) (h2 : txn ≠ 0) (h3 : own.has = true) : mkE key old own txn = ⟨key, old.has, [], txn, true, own.val⟩ := by simp [mkE, h1, h2, h3]
theorem mkE_tf {key : List UInt8} {old own : ST} {txn : Int} (h1 : old.has = true) (h2 : txn = 0 ∨ own.has = false) : mkE key old own txn = ⟨key, old.has, old.val, txn, false, []⟩ := by
  rcases h2 with h | h <;> simp [mkE, h1, h]
theorem mkE_ff {key : List UInt8} {old own : ST} {txn : Int} (h1 : old.has = false) (h2 : txn = 0 ∨ own.has = false) : mkE key old own txn = ⟨key, old.has, [], txn, false, []⟩ := by
  rcases h2 with h | h <;> simp [mkE, h1, h]
theorem entry_tri (key : List UInt8) (old own : ST) (txn : Int) (R : List HP) : Tri Try.prog W 16 [str key, old.v, own.v, u64 txn] R (X := Unit) (fun _ => (mkE key old own txn).v) (fun _ => True) (fun _ => R) := by
  refine tri_enter (n := _) (F := [(0, str key), (1, old.v), (2, own.v), (3, u64 txn)]) Try.func16 rfl Try.ntmps16 rfl (fun i u hi => by simp only [look] at hi; (repeat' split at hi) <;> simp_all [Nat.beq_eq]) ?_
  repeat' (first
    | refine sg_wo ?_
    | refine sg_ps (ps_move rfl) rfl ?_
    | refine sg_ps (ps_assign rfl) rfl ?_
    | refine sg_seq ?_
    | refine sg_region ?_
    | refine sg_nil ?_
    | refine sg_then ?_
    | refine sg_ps (ps_fieldAddr rfl) rfl ?_
    | refine sg_ps (ps_nilCheck rfl) rfl ?_
    | refine sg_load 0 rfl rfl rfl rfl ?_
    | refine sg_load 1 rfl rfl rfl rfl ?_
    | refine sg_load 2 rfl rfl rfl rfl ?_
    | refine sg_load 3 rfl rfl rfl rfl ?_
    | refine sg_load 4 rfl rfl rfl rfl ?_
    | refine sg_load 5 rfl rfl rfl rfl ?_
    | refine sg_load 6 rfl rfl rfl rfl ?_
    | refine sg_load 7 rfl rfl rfl rfl ?_
    | refine sg_ps (ps_add64 rfl rfl (by omega)) rfl ?_
    | refine sg_ps (ps_sub64 rfl rfl (by omega)) rfl ?_
    | refine sg_ps (ps_mul64 rfl rfl (by omega)) rfl ?_
    | refine sg_ps (ps_bin rfl rfl inferInstance) rfl ?_
    | refine sg_ps (ps_rem rfl rfl (by decide)) rfl ?_
    | refine sg_ps (ps_quo64 rfl rfl (by decide) (by omega)) rfl ?_
    | refine sg_ps (ps_not rfl) rfl ?_
    | refine sg_ps (ps_conv rfl) rfl ?_
    | refine sg_ps (ps_shl rfl rfl (by decide) rfl) rfl ?_
    | refine sg_ps (ps_shr rfl rfl (by decide) rfl) rfl ?_
    | refine sg_cond_t rfl ?_
    | refine sg_cond_f rfl ?_
    | refine sg_guard_yes rfl rfl ?_
    | refine sg_guard_nf rfl rfl rfl ?_
    | refine sg_guard_nt rfl rfl rfl ?_
    | refine sg_guard_nu rfl rfl rfl ?_
    | refine sg_ps (ps_pick_t rfl rfl) rfl ?_
    | refine sg_ps (ps_pick_f rfl rfl) rfl ?_
    | refine sg_ps (ps_len rfl) rfl ?_
    | refine sg_ps (ps_len_str rfl) rfl ?_
    | refine sg_ps (ps_extract rfl rfl) rfl ?_
    | refine sg_ps (ps_field rfl rfl) rfl ?_
    | refine sg_ps (ps_min2 rfl rfl) rfl ?_
    | refine sg_ps (ps_max2 rfl rfl) rfl ?_
    | refine sg_ps (ps_build rfl rfl) rfl ?_
    | refine sg_box rfl rfl (fun bx => ?_)
    | refine sg_ps (ps_indexAddr rfl rfl rfl (by omega)) rfl ?_
    | refine sg_ps (ps_indexAddr (j := 0) rfl rfl rfl (by omega)) rfl ?_
    | refine sg_ps (ps_indexAddr (j := 1) rfl rfl rfl (by omega)) rfl ?_
    | refine sg_ps (ps_indexAddr_arr rfl rfl rfl (by omega)) rfl ?_
    | refine sg_load_whole 0 rfl rfl rfl rfl ?_
    | refine sg_load_whole 1 rfl rfl rfl rfl ?_
    | refine sg_load_whole 2 rfl rfl rfl rfl ?_
    | refine sg_load_whole 3 rfl rfl rfl rfl ?_
    | refine sg_load_whole 4 rfl rfl rfl rfl ?_
    | refine sg_load_whole 5 rfl rfl rfl rfl ?_
    | refine sg_load_whole 6 rfl rfl rfl rfl ?_
    | refine sg_load_whole 7 rfl rfl rfl rfl ?_
    | refine sg_store_whole [] rfl rfl rfl rfl rfl ?_
    | refine sg_store_whole [_] rfl rfl rfl rfl rfl ?_
    | refine sg_store_whole [_, _] rfl rfl rfl rfl rfl ?_
    | refine sg_store_whole [_, _, _] rfl rfl rfl rfl rfl ?_
    | refine sg_store_whole [_, _, _, _] rfl rfl rfl rfl rfl ?_
    | refine sg_store_whole [_, _, _, _, _] rfl rfl rfl rfl rfl ?_
    | refine sg_store_whole [_, _, _, _, _, _] rfl rfl rfl rfl rfl ?_
    | refine sg_alloc rfl (fun al => ?_)
    | refine sg_block ?_
    | refine sg_skip ?_
    | refine sg_ret ?_
    | refine sg_exit ?_
    | refine ex_then_ret ?_
    | refine ex_then_exit ?_
    | refine ex_block_ret ?_
    | refine ex_block_normal ?_
    | refine ex_block_hit ?_
    | refine ex_block_miss rfl ?_
    | refine sg_store [] rfl rfl rfl (of_decide_eq_true rfl) ?_
    | refine sg_store [_] rfl rfl rfl (of_decide_eq_true rfl) ?_
    | refine sg_store [_, _] rfl rfl rfl (of_decide_eq_true rfl) ?_
    | refine sg_store [_, _, _] rfl rfl rfl (of_decide_eq_true rfl) ?_
    | refine sg_store [_, _, _, _] rfl rfl rfl (of_decide_eq_true rfl) ?_
    | refine sg_store [_, _, _, _, _] rfl rfl rfl (of_decide_eq_true rfl) ?_
    | refine sg_store [_, _, _, _, _, _] rfl rfl rfl (of_decide_eq_true rfl) ?_
    | refine sg_store [_, _, _, _, _, _, _] rfl rfl rfl (of_decide_eq_true rfl) ?_
    | (refine sg_guard_dec rfl rfl (fun hg => ?_) (fun hg => ?_) <;> first | (exfalso; omega) | (exact absurd rfl hg) | skip)
    | (refine sg_guard_ndec rfl rfl (fun hg => ?_) (fun hg => ?_) <;> first | (exfalso; omega) | (exact absurd rfl hg) | skip)
    | (refine sg_cond_dec rfl (fun hg => ?_) (fun hg => ?_) <;> first | (exfalso; omega) | (exact absurd rfl hg) | skip)
    | (refine sg_cond_ndec rfl (fun hg => ?_) (fun hg => ?_) <;> first | (exfalso; omega) | (exact absurd rfl hg) | skip)
    | refine sg_cond_not rfl (fun hg => ?_) (fun hg => ?_)
    | refine sg_cond rfl (fun hg => ?_) (fun hg => ?_))
  all_goals (try (refine sg_drawK [blk bx own.v.cells.toList] [0, 2, 1, 3, 4, 5] (by kernel_rfl) (by kernel_rfl) (fun w hO => hO.pick [2] (by decide)) ?_))
  · skip
    repeat' (first
      | refine sk_nil ?_
      | refine sk_pure rfl rfl (ps_move rfl) rfl ?_
      | refine sk_pure rfl rfl (ps_assign rfl) rfl ?_
      | refine sk_pure rfl rfl (ps_nilCheck rfl) rfl ?_
      | refine sk_pure rfl rfl (ps_fieldAddr rfl) rfl ?_
      | refine sk_pure rfl rfl (ps_add64 rfl rfl (by omega)) rfl ?_
      | refine sk_pure rfl rfl (ps_sub64 rfl rfl (by omega)) rfl ?_
      | refine sk_pure rfl rfl (ps_mul64 rfl rfl (by omega)) rfl ?_
      | refine sk_pure rfl rfl (ps_bin rfl rfl inferInstance) rfl ?_
      | refine sk_pure rfl rfl (ps_rem rfl rfl (by decide)) rfl ?_
      | refine sk_pure rfl rfl (ps_not rfl) rfl ?_
      | refine sk_pure rfl rfl (ps_conv rfl) rfl ?_
      | refine sk_pure rfl rfl (ps_shl rfl rfl (by decide) rfl) rfl ?_
      | refine sk_pure rfl rfl (ps_shr rfl rfl (by decide) rfl) rfl ?_
      | refine sk_pure rfl rfl (ps_len rfl) rfl ?_
      | refine sk_pure rfl rfl (ps_len_str rfl) rfl ?_
      | refine sk_pure rfl rfl (ps_extract rfl rfl) rfl ?_
      | refine sk_pure rfl rfl (ps_field rfl rfl) rfl ?_
      | refine sk_pure rfl rfl (ps_build rfl rfl) rfl ?_
      | refine sk_pure rfl rfl (ps_indexAddr rfl rfl rfl (by omega)) rfl ?_
      | refine sk_pure rfl rfl (ps_indexAddr (j := 0) rfl rfl rfl (by omega)) rfl ?_
      | refine sk_pure rfl rfl (ps_indexAddr (j := 1) rfl rfl rfl (by omega)) rfl ?_
      | refine sk_pure rfl rfl (ps_pick_t rfl rfl) rfl ?_
      | refine sk_pure rfl rfl (ps_pick_f rfl rfl) rfl ?_
      | refine sk_pure rfl rfl (ps_min2 rfl rfl) rfl ?_
      | refine sk_pure rfl rfl (ps_max2 rfl rfl) rfl ?_
      | refine sk_pure rfl rfl (ps_indexAddr_arr rfl rfl rfl (by omega)) rfl ?_
      | refine sk_no rfl rfl rfl rfl rfl ?_
      | refine sk_pure_g rfl rfl rfl rfl (ps_move rfl) rfl ?_
      | refine sk_pure_g rfl rfl rfl rfl (ps_assign rfl) rfl ?_
      | refine sk_pure_g rfl rfl rfl rfl (ps_nilCheck rfl) rfl ?_
      | refine sk_pure_g rfl rfl rfl rfl (ps_fieldAddr rfl) rfl ?_
      | refine sk_pure_g rfl rfl rfl rfl (ps_add64 rfl rfl (by omega)) rfl ?_
      | refine sk_pure_g rfl rfl rfl rfl (ps_sub64 rfl rfl (by omega)) rfl ?_
      | refine sk_pure_g rfl rfl rfl rfl (ps_mul64 rfl rfl (by omega)) rfl ?_
      | refine sk_pure_g rfl rfl rfl rfl (ps_bin rfl rfl inferInstance) rfl ?_
      | refine sk_pure_g rfl rfl rfl rfl (ps_rem rfl rfl (by decide)) rfl ?_
      | refine sk_pure_g rfl rfl rfl rfl (ps_not rfl) rfl ?_
      | refine sk_pure_g rfl rfl rfl rfl (ps_conv rfl) rfl ?_
      | refine sk_pure_g rfl rfl rfl rfl (ps_shl rfl rfl (by decide) rfl) rfl ?_
      | refine sk_pure_g rfl rfl rfl rfl (ps_shr rfl rfl (by decide) rfl) rfl ?_
      | refine sk_pure_g rfl rfl rfl rfl (ps_len rfl) rfl ?_
      | refine sk_pure_g rfl rfl rfl rfl (ps_len_str rfl) rfl ?_
      | refine sk_pure_g rfl rfl rfl rfl (ps_extract rfl rfl) rfl ?_
      | refine sk_pure_g rfl rfl rfl rfl (ps_field rfl rfl) rfl ?_
      | refine sk_pure_g rfl rfl rfl rfl (ps_build rfl rfl) rfl ?_
      | refine sk_pure_g rfl rfl rfl rfl (ps_indexAddr rfl rfl rfl (by omega)) rfl ?_
      | refine sk_pure_g rfl rfl rfl rfl (ps_indexAddr (j := 0) rfl rfl rfl (by omega)) rfl ?_
      | refine sk_pure_g rfl rfl rfl rfl (ps_indexAddr (j := 1) rfl rfl rfl (by omega)) rfl ?_
      | refine sk_pure_g rfl rfl rfl rfl (ps_pick_t rfl rfl) rfl ?_
      | refine sk_pure_g rfl rfl rfl rfl (ps_pick_f rfl rfl) rfl ?_
      | refine sk_pure_g rfl rfl rfl rfl (ps_min2 rfl rfl) rfl ?_
      | refine sk_pure_g rfl rfl rfl rfl (ps_max2 rfl rfl) rfl ?_
      | refine sk_pure_g rfl rfl rfl rfl (ps_indexAddr_arr rfl rfl rfl (by omega)) rfl ?_
      | refine sk_load 0 rfl rfl rfl rfl rfl ?_
      | refine sk_load 1 rfl rfl rfl rfl rfl ?_
      | refine sk_load 2 rfl rfl rfl rfl rfl ?_
      | refine sk_load 3 rfl rfl rfl rfl rfl ?_
      | refine sk_load 4 rfl rfl rfl rfl rfl ?_
      | refine sk_load 5 rfl rfl rfl rfl rfl ?_
      | refine sk_load_g 0 rfl rfl rfl rfl rfl rfl rfl ?_
      | refine sk_load_g 1 rfl rfl rfl rfl rfl rfl rfl ?_
      | refine sk_load_g 2 rfl rfl rfl rfl rfl rfl rfl ?_
      | refine sk_load_g 3 rfl rfl rfl rfl rfl rfl rfl ?_
      | refine sk_load_g 4 rfl rfl rfl rfl rfl rfl rfl ?_
      | refine sk_load_g 5 rfl rfl rfl rfl rfl rfl rfl ?_
      | refine sk_lw 0 rfl rfl rfl rfl rfl ?_
      | refine sk_lw 1 rfl rfl rfl rfl rfl ?_
      | refine sk_lw 2 rfl rfl rfl rfl rfl ?_
      | refine sk_lw 3 rfl rfl rfl rfl rfl ?_
      | refine sk_lw 4 rfl rfl rfl rfl rfl ?_
      | refine sk_lw 5 rfl rfl rfl rfl rfl ?_
      | refine sk_lwg 0 rfl rfl rfl rfl rfl rfl rfl ?_
      | refine sk_lwg 1 rfl rfl rfl rfl rfl rfl rfl ?_
      | refine sk_lwg 2 rfl rfl rfl rfl rfl rfl rfl ?_
      | refine sk_lwg 3 rfl rfl rfl rfl rfl rfl rfl ?_
      | refine sk_lwg 4 rfl rfl rfl rfl rfl rfl rfl ?_
      | refine sk_lwg 5 rfl rfl rfl rfl rfl rfl rfl ?_
      | refine sk_eff rfl rfl ?_
      | refine sg_store_whole [] rfl rfl rfl rfl rfl ?_
      | refine sg_store_whole [_] rfl rfl rfl rfl rfl ?_
      | refine sg_store_whole [_, _] rfl rfl rfl rfl rfl ?_
      | refine sg_store_whole [_, _, _] rfl rfl rfl rfl rfl ?_
      | refine sg_store_whole [_, _, _, _] rfl rfl rfl rfl rfl ?_
      | refine sg_store_whole [_, _, _, _, _] rfl rfl rfl rfl rfl ?_
      | refine sg_store_whole [_, _, _, _, _, _] rfl rfl rfl rfl rfl ?_
      | refine sg_guard_yes rfl rfl ?_
      | refine sg_guard_nf rfl rfl rfl ?_
      | refine sg_guard_nt rfl rfl rfl ?_
      | refine sg_guard_nu rfl rfl rfl ?_
      | refine sk_back (fun w hO => hO) ?_
      | refine sg_store [] rfl rfl rfl (of_decide_eq_true rfl) ?_
      | refine sg_store [_] rfl rfl rfl (of_decide_eq_true rfl) ?_
      | refine sg_store [_, _] rfl rfl rfl (of_decide_eq_true rfl) ?_
      | refine sg_store [_, _, _] rfl rfl rfl (of_decide_eq_true rfl) ?_
      | refine sg_store [_, _, _, _] rfl rfl rfl (of_decide_eq_true rfl) ?_
      | refine sg_store [_, _, _, _, _] rfl rfl rfl (of_decide_eq_true rfl) ?_
      | refine sg_store [_, _, _, _, _, _] rfl rfl rfl (of_decide_eq_true rfl) ?_
      | refine sg_store [_, _, _, _, _, _, _] rfl rfl rfl (of_decide_eq_true rfl) ?_)
    refine sk_back (fun w hO => hO.pick [2] (by decide)) ?_
    repeat' (first
      | refine sk_nil ?_
      | refine sk_pure rfl rfl (ps_move rfl) rfl ?_
      | refine sk_pure rfl rfl (ps_assign rfl) rfl ?_
      | refine sk_pure rfl rfl (ps_nilCheck rfl) rfl ?_
      | refine sk_pure rfl rfl (ps_fieldAddr rfl) rfl ?_
      | refine sk_pure rfl rfl (ps_add64 rfl rfl (by omega)) rfl ?_
      | refine sk_pure rfl rfl (ps_sub64 rfl rfl (by omega)) rfl ?_
      | refine sk_pure rfl rfl (ps_mul64 rfl rfl (by omega)) rfl ?_
      | refine sk_pure rfl rfl (ps_bin rfl rfl inferInstance) rfl ?_
      | refine sk_pure rfl rfl (ps_rem rfl rfl (by decide)) rfl ?_
      | refine sk_pure rfl rfl (ps_not rfl) rfl ?_
      | refine sk_pure rfl rfl (ps_conv rfl) rfl ?_
      | refine sk_pure rfl rfl (ps_shl rfl rfl (by decide) rfl) rfl ?_
      | refine sk_pure rfl rfl (ps_shr rfl rfl (by decide) rfl) rfl ?_
      | refine sk_pure rfl rfl (ps_len rfl) rfl ?_
      | refine sk_pure rfl rfl (ps_len_str rfl) rfl ?_
      | refine sk_pure rfl rfl (ps_extract rfl rfl) rfl ?_
      | refine sk_pure rfl rfl (ps_field rfl rfl) rfl ?_
      | refine sk_pure rfl rfl (ps_build rfl rfl) rfl ?_
      | refine sk_pure rfl rfl (ps_indexAddr rfl rfl rfl (by omega)) rfl ?_
      | refine sk_pure rfl rfl (ps_indexAddr (j := 0) rfl rfl rfl (by omega)) rfl ?_
      | refine sk_pure rfl rfl (ps_indexAddr (j := 1) rfl rfl rfl (by omega)) rfl ?_
      | refine sk_pure rfl rfl (ps_pick_t rfl rfl) rfl ?_
      | refine sk_pure rfl rfl (ps_pick_f rfl rfl) rfl ?_
      | refine sk_pure rfl rfl (ps_min2 rfl rfl) rfl ?_
      | refine sk_pure rfl rfl (ps_max2 rfl rfl) rfl ?_
      | refine sk_pure rfl rfl (ps_indexAddr_arr rfl rfl rfl (by omega)) rfl ?_
      | refine sk_no rfl rfl rfl rfl rfl ?_
      | refine sk_pure_g rfl rfl rfl rfl (ps_move rfl) rfl ?_
      | refine sk_pure_g rfl rfl rfl rfl (ps_assign rfl) rfl ?_
      | refine sk_pure_g rfl rfl rfl rfl (ps_nilCheck rfl) rfl ?_
      | refine sk_pure_g rfl rfl rfl rfl (ps_fieldAddr rfl) rfl ?_
      | refine sk_pure_g rfl rfl rfl rfl (ps_add64 rfl rfl (by omega)) rfl ?_
      | refine sk_pure_g rfl rfl rfl rfl (ps_sub64 rfl rfl (by omega)) rfl ?_
      | refine sk_pure_g rfl rfl rfl rfl (ps_mul64 rfl rfl (by omega)) rfl ?_
      | refine sk_pure_g rfl rfl rfl rfl (ps_bin rfl rfl inferInstance) rfl ?_
      | refine sk_pure_g rfl rfl rfl rfl (ps_rem rfl rfl (by decide)) rfl ?_
      | refine sk_pure_g rfl rfl rfl rfl (ps_not rfl) rfl ?_
      | refine sk_pure_g rfl rfl rfl rfl (ps_conv rfl) rfl ?_
      | refine sk_pure_g rfl rfl rfl rfl (ps_shl rfl rfl (by decide) rfl) rfl ?_
      | refine sk_pure_g rfl rfl rfl rfl (ps_shr rfl rfl (by decide) rfl) rfl ?_
      | refine sk_pure_g rfl rfl rfl rfl (ps_len rfl) rfl ?_
      | refine sk_pure_g rfl rfl rfl rfl (ps_len_str rfl) rfl ?_
      | refine sk_pure_g rfl rfl rfl rfl (ps_extract rfl rfl) rfl ?_
      | refine sk_pure_g rfl rfl rfl rfl (ps_field rfl rfl) rfl ?_
      | refine sk_pure_g rfl rfl rfl rfl (ps_build rfl rfl) rfl ?_
      | refine sk_pure_g rfl rfl rfl rfl (ps_indexAddr rfl rfl rfl (by omega)) rfl ?_
      | refine sk_pure_g rfl rfl rfl rfl (ps_indexAddr (j := 0) rfl rfl rfl (by omega)) rfl ?_
      | refine sk_pure_g rfl rfl rfl rfl (ps_indexAddr (j := 1) rfl rfl rfl (by omega)) rfl ?_
      | refine sk_pure_g rfl rfl rfl rfl (ps_pick_t rfl rfl) rfl ?_
      | refine sk_pure_g rfl rfl rfl rfl (ps_pick_f rfl rfl) rfl ?_
      | refine sk_pure_g rfl rfl rfl rfl (ps_min2 rfl rfl) rfl ?_
      | refine sk_pure_g rfl rfl rfl rfl (ps_max2 rfl rfl) rfl ?_
      | refine sk_pure_g rfl rfl rfl rfl (ps_indexAddr_arr rfl rfl rfl (by omega)) rfl ?_
      | refine sk_load 0 rfl rfl rfl rfl rfl ?_
      | refine sk_load 1 rfl rfl rfl rfl rfl ?_
      | refine sk_load 2 rfl rfl rfl rfl rfl ?_
      | refine sk_load 3 rfl rfl rfl rfl rfl ?_
      | refine sk_load 4 rfl rfl rfl rfl rfl ?_
      | refine sk_load 5 rfl rfl rfl rfl rfl ?_
      | refine sk_load_g 0 rfl rfl rfl rfl rfl rfl rfl ?_
      | refine sk_load_g 1 rfl rfl rfl rfl rfl rfl rfl ?_
      | refine sk_load_g 2 rfl rfl rfl rfl rfl rfl rfl ?_
      | refine sk_load_g 3 rfl rfl rfl rfl rfl rfl rfl ?_
      | refine sk_load_g 4 rfl rfl rfl rfl rfl rfl rfl ?_
      | refine sk_load_g 5 rfl rfl rfl rfl rfl rfl rfl ?_
      | refine sk_lw 0 rfl rfl rfl rfl rfl ?_
      | refine sk_lw 1 rfl rfl rfl rfl rfl ?_
      | refine sk_lw 2 rfl rfl rfl rfl rfl ?_
      | refine sk_lw 3 rfl rfl rfl rfl rfl ?_
      | refine sk_lw 4 rfl rfl rfl rfl rfl ?_
      | refine sk_lw 5 rfl rfl rfl rfl rfl ?_
      | refine sk_lwg 0 rfl rfl rfl rfl rfl rfl rfl ?_
      | refine sk_lwg 1 rfl rfl rfl rfl rfl rfl rfl ?_
      | refine sk_lwg 2 rfl rfl rfl rfl rfl rfl rfl ?_
      | refine sk_lwg 3 rfl rfl rfl rfl rfl rfl rfl ?_
      | refine sk_lwg 4 rfl rfl rfl rfl rfl rfl rfl ?_
      | refine sk_lwg 5 rfl rfl rfl rfl rfl rfl rfl ?_
      | refine sk_eff rfl rfl ?_
      | refine sg_store_whole [] rfl rfl rfl rfl rfl ?_
      | refine sg_store_whole [_] rfl rfl rfl rfl rfl ?_
      | refine sg_store_whole [_, _] rfl rfl rfl rfl rfl ?_
      | refine sg_store_whole [_, _, _] rfl rfl rfl rfl rfl ?_
      | refine sg_store_whole [_, _, _, _] rfl rfl rfl rfl rfl ?_
      | refine sg_store_whole [_, _, _, _, _] rfl rfl rfl rfl rfl ?_
      | refine sg_store_whole [_, _, _, _, _, _] rfl rfl rfl rfl rfl ?_
      | refine sg_guard_yes rfl rfl ?_
      | refine sg_guard_nf rfl rfl rfl ?_
      | refine sg_guard_nt rfl rfl rfl ?_
      | refine sg_guard_nu rfl rfl rfl ?_
      | refine sk_back (fun w hO => hO) ?_
      | refine sg_store [] rfl rfl rfl (of_decide_eq_true rfl) ?_
      | refine sg_store [_] rfl rfl rfl (of_decide_eq_true rfl) ?_
      | refine sg_store [_, _] rfl rfl rfl (of_decide_eq_true rfl) ?_
      | refine sg_store [_, _, _] rfl rfl rfl (of_decide_eq_true rfl) ?_
      | refine sg_store [_, _, _, _] rfl rfl rfl (of_decide_eq_true rfl) ?_
      | refine sg_store [_, _, _, _, _] rfl rfl rfl (of_decide_eq_true rfl) ?_
      | refine sg_store [_, _, _, _, _, _] rfl rfl rfl (of_decide_eq_true rfl) ?_
      | refine sg_store [_, _, _, _, _, _, _] rfl rfl rfl (of_decide_eq_true rfl) ?_)
    refine sk_back (fun w hO => hO.pick [2] (by decide)) ?_
    repeat' (first
      | refine sk_nil ?_
      | refine sk_pure rfl rfl (ps_move rfl) rfl ?_
      | refine sk_pure rfl rfl (ps_assign rfl) rfl ?_
      | refine sk_pure rfl rfl (ps_nilCheck rfl) rfl ?_
      | refine sk_pure rfl rfl (ps_fieldAddr rfl) rfl ?_
      | refine sk_pure rfl rfl (ps_add64 rfl rfl (by omega)) rfl ?_
      | refine sk_pure rfl rfl (ps_sub64 rfl rfl (by omega)) rfl ?_
      | refine sk_pure rfl rfl (ps_mul64 rfl rfl (by omega)) rfl ?_
      | refine sk_pure rfl rfl (ps_bin rfl rfl inferInstance) rfl ?_
      | refine sk_pure rfl rfl (ps_rem rfl rfl (by decide)) rfl ?_
      | refine sk_pure rfl rfl (ps_not rfl) rfl ?_
      | refine sk_pure rfl rfl (ps_conv rfl) rfl ?_
      | refine sk_pure rfl rfl (ps_shl rfl rfl (by decide) rfl) rfl ?_
      | refine sk_pure rfl rfl (ps_shr rfl rfl (by decide) rfl) rfl ?_
      | refine sk_pure rfl rfl (ps_len rfl) rfl ?_
      | refine sk_pure rfl rfl (ps_len_str rfl) rfl ?_
      | refine sk_pure rfl rfl (ps_extract rfl rfl) rfl ?_
      | refine sk_pure rfl rfl (ps_field rfl rfl) rfl ?_
      | refine sk_pure rfl rfl (ps_build rfl rfl) rfl ?_
      | refine sk_pure rfl rfl (ps_indexAddr rfl rfl rfl (by omega)) rfl ?_
      | refine sk_pure rfl rfl (ps_indexAddr (j := 0) rfl rfl rfl (by omega)) rfl ?_
      | refine sk_pure rfl rfl (ps_indexAddr (j := 1) rfl rfl rfl (by omega)) rfl ?_
      | refine sk_pure rfl rfl (ps_pick_t rfl rfl) rfl ?_
      | refine sk_pure rfl rfl (ps_pick_f rfl rfl) rfl ?_
      | refine sk_pure rfl rfl (ps_min2 rfl rfl) rfl ?_
      | refine sk_pure rfl rfl (ps_max2 rfl rfl) rfl ?_
      | refine sk_pure rfl rfl (ps_indexAddr_arr rfl rfl rfl (by omega)) rfl ?_
      | refine sk_no rfl rfl rfl rfl rfl ?_
      | refine sk_pure_g rfl rfl rfl rfl (ps_move rfl) rfl ?_
      | refine sk_pure_g rfl rfl rfl rfl (ps_assign rfl) rfl ?_
      | refine sk_pure_g rfl rfl rfl rfl (ps_nilCheck rfl) rfl ?_
      | refine sk_pure_g rfl rfl rfl rfl (ps_fieldAddr rfl) rfl ?_
      | refine sk_pure_g rfl rfl rfl rfl (ps_add64 rfl rfl (by omega)) rfl ?_
      | refine sk_pure_g rfl rfl rfl rfl (ps_sub64 rfl rfl (by omega)) rfl ?_
      | refine sk_pure_g rfl rfl rfl rfl (ps_mul64 rfl rfl (by omega)) rfl ?_
      | refine sk_pure_g rfl rfl rfl rfl (ps_bin rfl rfl inferInstance) rfl ?_
      | refine sk_pure_g rfl rfl rfl rfl (ps_rem rfl rfl (by decide)) rfl ?_
      | refine sk_pure_g rfl rfl rfl rfl (ps_not rfl) rfl ?_
      | refine sk_pure_g rfl rfl rfl rfl (ps_conv rfl) rfl ?_
      | refine sk_pure_g rfl rfl rfl rfl (ps_shl rfl rfl (by decide) rfl) rfl ?_
      | refine sk_pure_g rfl rfl rfl rfl (ps_shr rfl rfl (by decide) rfl) rfl ?_
      | refine sk_pure_g rfl rfl rfl rfl (ps_len rfl) rfl ?_
      | refine sk_pure_g rfl rfl rfl rfl (ps_len_str rfl) rfl ?_
      | refine sk_pure_g rfl rfl rfl rfl (ps_extract rfl rfl) rfl ?_
      | refine sk_pure_g rfl rfl rfl rfl (ps_field rfl rfl) rfl ?_
      | refine sk_pure_g rfl rfl rfl rfl (ps_build rfl rfl) rfl ?_
      | refine sk_pure_g rfl rfl rfl rfl (ps_indexAddr rfl rfl rfl (by omega)) rfl ?_
      | refine sk_pure_g rfl rfl rfl rfl (ps_indexAddr (j := 0) rfl rfl rfl (by omega)) rfl ?_
      | refine sk_pure_g rfl rfl rfl rfl (ps_indexAddr (j := 1) rfl rfl rfl (by omega)) rfl ?_
      | refine sk_pure_g rfl rfl rfl rfl (ps_pick_t rfl rfl) rfl ?_
      | refine sk_pure_g rfl rfl rfl rfl (ps_pick_f rfl rfl) rfl ?_
      | refine sk_pure_g rfl rfl rfl rfl (ps_min2 rfl rfl) rfl ?_
      | refine sk_pure_g rfl rfl rfl rfl (ps_max2 rfl rfl) rfl ?_
      | refine sk_pure_g rfl rfl rfl rfl (ps_indexAddr_arr rfl rfl rfl (by omega)) rfl ?_
      | refine sk_load 0 rfl rfl rfl rfl rfl ?_
      | refine sk_load 1 rfl rfl rfl rfl rfl ?_
      | refine sk_load 2 rfl rfl rfl rfl rfl ?_
      | refine sk_load 3 rfl rfl rfl rfl rfl ?_
      | refine sk_load 4 rfl rfl rfl rfl rfl ?_
      | refine sk_load 5 rfl rfl rfl rfl rfl ?_
      | refine sk_load_g 0 rfl rfl rfl rfl rfl rfl rfl ?_
      | refine sk_load_g 1 rfl rfl rfl rfl rfl rfl rfl ?_
      | refine sk_load_g 2 rfl rfl rfl rfl rfl rfl rfl ?_
      | refine sk_load_g 3 rfl rfl rfl rfl rfl rfl rfl ?_
      | refine sk_load_g 4 rfl rfl rfl rfl rfl rfl rfl ?_
      | refine sk_load_g 5 rfl rfl rfl rfl rfl rfl rfl ?_
      | refine sk_lw 0 rfl rfl rfl rfl rfl ?_
      | refine sk_lw 1 rfl rfl rfl rfl rfl ?_
      | refine sk_lw 2 rfl rfl rfl rfl rfl ?_
      | refine sk_lw 3 rfl rfl rfl rfl rfl ?_
      | refine sk_lw 4 rfl rfl rfl rfl rfl ?_
      | refine sk_lw 5 rfl rfl rfl rfl rfl ?_
      | refine sk_lwg 0 rfl rfl rfl rfl rfl rfl rfl ?_
      | refine sk_lwg 1 rfl rfl rfl rfl rfl rfl rfl ?_
      | refine sk_lwg 2 rfl rfl rfl rfl rfl rfl rfl ?_
      | refine sk_lwg 3 rfl rfl rfl rfl rfl rfl rfl ?_
      | refine sk_lwg 4 rfl rfl rfl rfl rfl rfl rfl ?_
      | refine sk_lwg 5 rfl rfl rfl rfl rfl rfl rfl ?_
      | refine sk_eff rfl rfl ?_
      | refine sg_store_whole [] rfl rfl rfl rfl rfl ?_
      | refine sg_store_whole [_] rfl rfl rfl rfl rfl ?_
      | refine sg_store_whole [_, _] rfl rfl rfl rfl rfl ?_
      | refine sg_store_whole [_, _, _] rfl rfl rfl rfl rfl ?_
      | refine sg_store_whole [_, _, _, _] rfl rfl rfl rfl rfl ?_
      | refine sg_store_whole [_, _, _, _, _] rfl rfl rfl rfl rfl ?_
      | refine sg_store_whole [_, _, _, _, _, _] rfl rfl rfl rfl rfl ?_
      | refine sg_guard_yes rfl rfl ?_
      | refine sg_guard_nf rfl rfl rfl ?_
      | refine sg_guard_nt rfl rfl rfl ?_
      | refine sg_guard_nu rfl rfl rfl ?_
      | refine sk_back (fun w hO => hO) ?_
      | refine sg_store [] rfl rfl rfl (of_decide_eq_true rfl) ?_
      | refine sg_store [_] rfl rfl rfl (of_decide_eq_true rfl) ?_
      | refine sg_store [_, _] rfl rfl rfl (of_decide_eq_true rfl) ?_
      | refine sg_store [_, _, _] rfl rfl rfl (of_decide_eq_true rfl) ?_
      | refine sg_store [_, _, _, _] rfl rfl rfl (of_decide_eq_true rfl) ?_
      | refine sg_store [_, _, _, _, _] rfl rfl rfl (of_decide_eq_true rfl) ?_
      | refine sg_store [_, _, _, _, _, _] rfl rfl rfl (of_decide_eq_true rfl) ?_
      | refine sg_store [_, _, _, _, _, _, _] rfl rfl rfl (of_decide_eq_true rfl) ?_)
    repeat' (first
      | refine sg_wo ?_
      | refine sg_ps (ps_move rfl) rfl ?_
      | refine sg_ps (ps_assign rfl) rfl ?_
      | refine sg_seq ?_
      | refine sg_region ?_
      | refine sg_nil ?_
      | refine sg_then ?_
      | refine sg_ps (ps_fieldAddr rfl) rfl ?_
      | refine sg_ps (ps_nilCheck rfl) rfl ?_
      | refine sg_load 0 rfl rfl rfl rfl ?_
      | refine sg_load 1 rfl rfl rfl rfl ?_
      | refine sg_load 2 rfl rfl rfl rfl ?_
      | refine sg_load 3 rfl rfl rfl rfl ?_
      | refine sg_load 4 rfl rfl rfl rfl ?_
      | refine sg_load 5 rfl rfl rfl rfl ?_
      | refine sg_load 6 rfl rfl rfl rfl ?_
      | refine sg_load 7 rfl rfl rfl rfl ?_
      | refine sg_ps (ps_add64 rfl rfl (by omega)) rfl ?_
      | refine sg_ps (ps_sub64 rfl rfl (by omega)) rfl ?_
      | refine sg_ps (ps_mul64 rfl rfl (by omega)) rfl ?_
      | refine sg_ps (ps_bin rfl rfl inferInstance) rfl ?_
      | refine sg_ps (ps_rem rfl rfl (by decide)) rfl ?_
      | refine sg_ps (ps_quo64 rfl rfl (by decide) (by omega)) rfl ?_
      | refine sg_ps (ps_not rfl) rfl ?_
      | refine sg_ps (ps_conv rfl) rfl ?_
      | refine sg_ps (ps_shl rfl rfl (by decide) rfl) rfl ?_
      | refine sg_ps (ps_shr rfl rfl (by decide) rfl) rfl ?_
      | refine sg_cond_t rfl ?_
      | refine sg_cond_f rfl ?_
      | refine sg_guard_yes rfl rfl ?_
      | refine sg_guard_nf rfl rfl rfl ?_
      | refine sg_guard_nt rfl rfl rfl ?_
      | refine sg_guard_nu rfl rfl rfl ?_
      | refine sg_ps (ps_pick_t rfl rfl) rfl ?_
      | refine sg_ps (ps_pick_f rfl rfl) rfl ?_
      | refine sg_ps (ps_len rfl) rfl ?_
      | refine sg_ps (ps_len_str rfl) rfl ?_
      | refine sg_ps (ps_extract rfl rfl) rfl ?_
      | refine sg_ps (ps_field rfl rfl) rfl ?_
      | refine sg_ps (ps_min2 rfl rfl) rfl ?_
      | refine sg_ps (ps_max2 rfl rfl) rfl ?_
      | refine sg_ps (ps_build rfl rfl) rfl ?_
      | refine sg_box rfl rfl (fun bx => ?_)
      | refine sg_ps (ps_indexAddr rfl rfl rfl (by omega)) rfl ?_
      | refine sg_ps (ps_indexAddr (j := 0) rfl rfl rfl (by omega)) rfl ?_
      | refine sg_ps (ps_indexAddr (j := 1) rfl rfl rfl (by omega)) rfl ?_
      | refine sg_ps (ps_indexAddr_arr rfl rfl rfl (by omega)) rfl ?_
      | refine sg_load_whole 0 rfl rfl rfl rfl ?_
      | refine sg_load_whole 1 rfl rfl rfl rfl ?_
      | refine sg_load_whole 2 rfl rfl rfl rfl ?_
      | refine sg_load_whole 3 rfl rfl rfl rfl ?_
      | refine sg_load_whole 4 rfl rfl rfl rfl ?_
      | refine sg_load_whole 5 rfl rfl rfl rfl ?_
      | refine sg_load_whole 6 rfl rfl rfl rfl ?_
      | refine sg_load_whole 7 rfl rfl rfl rfl ?_
      | refine sg_store_whole [] rfl rfl rfl rfl rfl ?_
      | refine sg_store_whole [_] rfl rfl rfl rfl rfl ?_
      | refine sg_store_whole [_, _] rfl rfl rfl rfl rfl ?_
      | refine sg_store_whole [_, _, _] rfl rfl rfl rfl rfl ?_
      | refine sg_store_whole [_, _, _, _] rfl rfl rfl rfl rfl ?_
      | refine sg_store_whole [_, _, _, _, _] rfl rfl rfl rfl rfl ?_
      | refine sg_store_whole [_, _, _, _, _, _] rfl rfl rfl rfl rfl ?_
      | refine sg_alloc rfl (fun al => ?_)
      | refine sg_block ?_
      | refine sg_skip ?_
      | refine sg_ret ?_
      | refine sg_exit ?_
      | refine ex_then_ret ?_
      | refine ex_then_exit ?_
      | refine ex_block_ret ?_
      | refine ex_block_normal ?_
      | refine ex_block_hit ?_
      | refine ex_block_miss rfl ?_
      | refine sg_store [] rfl rfl rfl (of_decide_eq_true rfl) ?_
      | refine sg_store [_] rfl rfl rfl (of_decide_eq_true rfl) ?_
      | refine sg_store [_, _] rfl rfl rfl (of_decide_eq_true rfl) ?_
      | refine sg_store [_, _, _] rfl rfl rfl (of_decide_eq_true rfl) ?_
      | refine sg_store [_, _, _, _] rfl rfl rfl (of_decide_eq_true rfl) ?_
      | refine sg_store [_, _, _, _, _] rfl rfl rfl (of_decide_eq_true rfl) ?_
      | refine sg_store [_, _, _, _, _, _] rfl rfl rfl (of_decide_eq_true rfl) ?_
      | refine sg_store [_, _, _, _, _, _, _] rfl rfl rfl (of_decide_eq_true rfl) ?_
      | (refine sg_guard_dec rfl rfl (fun hg => ?_) (fun hg => ?_) <;> first | (exfalso; omega) | (exact absurd rfl hg) | skip)
      | (refine sg_guard_ndec rfl rfl (fun hg => ?_) (fun hg => ?_) <;> first | (exfalso; omega) | (exact absurd rfl hg) | skip)
      | (refine sg_cond_dec rfl (fun hg => ?_) (fun hg => ?_) <;> first | (exfalso; omega) | (exact absurd rfl hg) | skip)
      | (refine sg_cond_ndec rfl (fun hg => ?_) (fun hg => ?_) <;> first | (exfalso; omega) | (exact absurd rfl hg) | skip)
      | refine sg_cond_not rfl (fun hg => ?_) (fun hg => ?_)
      | refine sg_cond rfl (fun hg => ?_) (fun hg => ?_))
    exact ex_retc 1 rfl rfl rfl rfl () (by rw [mkE_tt (by assumption) (by assumption) (by assumption)]; rfl) trivial (fun w hO => hO.tail.tail.tail.tail)
  · exact ex_retc 1 rfl rfl rfl rfl () (by rw [mkE_tf (by assumption) (.inr (by assumption))]; rfl) trivial (fun w hO => hO.tail.tail.tail.tail)
  · exact ex_retc 1 rfl rfl rfl rfl () (by rw [mkE_tf (by assumption) (.inl (by assumption))]; rfl) trivial (fun w hO => hO.tail.tail.tail.tail)
  · skip
    repeat' (first
      | refine sk_nil ?_
      | refine sk_pure rfl rfl (ps_move rfl) rfl ?_
      | refine sk_pure rfl rfl (ps_assign rfl) rfl ?_
      | refine sk_pure rfl rfl (ps_nilCheck rfl) rfl ?_
      | refine sk_pure rfl rfl (ps_fieldAddr rfl) rfl ?_
      | refine sk_pure rfl rfl (ps_add64 rfl rfl (by omega)) rfl ?_
      | refine sk_pure rfl rfl (ps_sub64 rfl rfl (by omega)) rfl ?_
      | refine sk_pure rfl rfl (ps_mul64 rfl rfl (by omega)) rfl ?_
      | refine sk_pure rfl rfl (ps_bin rfl rfl inferInstance) rfl ?_
      | refine sk_pure rfl rfl (ps_rem rfl rfl (by decide)) rfl ?_
      | refine sk_pure rfl rfl (ps_not rfl) rfl ?_
      | refine sk_pure rfl rfl (ps_conv rfl) rfl ?_
      | refine sk_pure rfl rfl (ps_shl rfl rfl (by decide) rfl) rfl ?_
      | refine sk_pure rfl rfl (ps_shr rfl rfl (by decide) rfl) rfl ?_
      | refine sk_pure rfl rfl (ps_len rfl) rfl ?_
      | refine sk_pure rfl rfl (ps_len_str rfl) rfl ?_
      | refine sk_pure rfl rfl (ps_extract rfl rfl) rfl ?_
      | refine sk_pure rfl rfl (ps_field rfl rfl) rfl ?_
      | refine sk_pure rfl rfl (ps_build rfl rfl) rfl ?_
      | refine sk_pure rfl rfl (ps_indexAddr rfl rfl rfl (by omega)) rfl ?_
      | refine sk_pure rfl rfl (ps_indexAddr (j := 0) rfl rfl rfl (by omega)) rfl ?_
      | refine sk_pure rfl rfl (ps_indexAddr (j := 1) rfl rfl rfl (by omega)) rfl ?_
      | refine sk_pure rfl rfl (ps_pick_t rfl rfl) rfl ?_
      | refine sk_pure rfl rfl (ps_pick_f rfl rfl) rfl ?_
      | refine sk_pure rfl rfl (ps_min2 rfl rfl) rfl ?_
      | refine sk_pure rfl rfl (ps_max2 rfl rfl) rfl ?_
      | refine sk_pure rfl rfl (ps_indexAddr_arr rfl rfl rfl (by omega)) rfl ?_
      | refine sk_no rfl rfl rfl rfl rfl ?_
      | refine sk_pure_g rfl rfl rfl rfl (ps_move rfl) rfl ?_
      | refine sk_pure_g rfl rfl rfl rfl (ps_assign rfl) rfl ?_
      | refine sk_pure_g rfl rfl rfl rfl (ps_nilCheck rfl) rfl ?_
      | refine sk_pure_g rfl rfl rfl rfl (ps_fieldAddr rfl) rfl ?_
      | refine sk_pure_g rfl rfl rfl rfl (ps_add64 rfl rfl (by omega)) rfl ?_
      | refine sk_pure_g rfl rfl rfl rfl (ps_sub64 rfl rfl (by omega)) rfl ?_
      | refine sk_pure_g rfl rfl rfl rfl (ps_mul64 rfl rfl (by omega)) rfl ?_
      | refine sk_pure_g rfl rfl rfl rfl (ps_bin rfl rfl inferInstance) rfl ?_
      | refine sk_pure_g rfl rfl rfl rfl (ps_rem rfl rfl (by decide)) rfl ?_
      | refine sk_pure_g rfl rfl rfl rfl (ps_not rfl) rfl ?_
      | refine sk_pure_g rfl rfl rfl rfl (ps_conv rfl) rfl ?_
      | refine sk_pure_g rfl rfl rfl rfl (ps_shl rfl rfl (by decide) rfl) rfl ?_
      | refine sk_pure_g rfl rfl rfl rfl (ps_shr rfl rfl (by decide) rfl) rfl ?_
      | refine sk_pure_g rfl rfl rfl rfl (ps_len rfl) rfl ?_
      | refine sk_pure_g rfl rfl rfl rfl (ps_len_str rfl) rfl ?_
      | refine sk_pure_g rfl rfl rfl rfl (ps_extract rfl rfl) rfl ?_
      | refine sk_pure_g rfl rfl rfl rfl (ps_field rfl rfl) rfl ?_
      | refine sk_pure_g rfl rfl rfl rfl (ps_build rfl rfl) rfl ?_
      | refine sk_pure_g rfl rfl rfl rfl (ps_indexAddr rfl rfl rfl (by omega)) rfl ?_
      | refine sk_pure_g rfl rfl rfl rfl (ps_indexAddr (j := 0) rfl rfl rfl (by omega)) rfl ?_
      | refine sk_pure_g rfl rfl rfl rfl (ps_indexAddr (j := 1) rfl rfl rfl (by omega)) rfl ?_
      | refine sk_pure_g rfl rfl rfl rfl (ps_pick_t rfl rfl) rfl ?_
      | refine sk_pure_g rfl rfl rfl rfl (ps_pick_f rfl rfl) rfl ?_
      | refine sk_pure_g rfl rfl rfl rfl (ps_min2 rfl rfl) rfl ?_
      | refine sk_pure_g rfl rfl rfl rfl (ps_max2 rfl rfl) rfl ?_
      | refine sk_pure_g rfl rfl rfl rfl (ps_indexAddr_arr rfl rfl rfl (by omega)) rfl ?_
      | refine sk_load 0 rfl rfl rfl rfl rfl ?_
      | refine sk_load 1 rfl rfl rfl rfl rfl ?_
      | refine sk_load 2 rfl rfl rfl rfl rfl ?_
      | refine sk_load 3 rfl rfl rfl rfl rfl ?_
      | refine sk_load 4 rfl rfl rfl rfl rfl ?_
      | refine sk_load 5 rfl rfl rfl rfl rfl ?_
      | refine sk_load_g 0 rfl rfl rfl rfl rfl rfl rfl ?_
      | refine sk_load_g 1 rfl rfl rfl rfl rfl rfl rfl ?_
      | refine sk_load_g 2 rfl rfl rfl rfl rfl rfl rfl ?_
      | refine sk_load_g 3 rfl rfl rfl rfl rfl rfl rfl ?_
      | refine sk_load_g 4 rfl rfl rfl rfl rfl rfl rfl ?_
      | refine sk_load_g 5 rfl rfl rfl rfl rfl rfl rfl ?_
      | refine sk_lw 0 rfl rfl rfl rfl rfl ?_
      | refine sk_lw 1 rfl rfl rfl rfl rfl ?_
      | refine sk_lw 2 rfl rfl rfl rfl rfl ?_
      | refine sk_lw 3 rfl rfl rfl rfl rfl ?_
      | refine sk_lw 4 rfl rfl rfl rfl rfl ?_
      | refine sk_lw 5 rfl rfl rfl rfl rfl ?_
      | refine sk_lwg 0 rfl rfl rfl rfl rfl rfl rfl ?_
      | refine sk_lwg 1 rfl rfl rfl rfl rfl rfl rfl ?_
      | refine sk_lwg 2 rfl rfl rfl rfl rfl rfl rfl ?_
      | refine sk_lwg 3 rfl rfl rfl rfl rfl rfl rfl ?_
      | refine sk_lwg 4 rfl rfl rfl rfl rfl rfl rfl ?_
      | refine sk_lwg 5 rfl rfl rfl rfl rfl rfl rfl ?_
      | refine sk_eff rfl rfl ?_
      | refine sg_store_whole [] rfl rfl rfl rfl rfl ?_
      | refine sg_store_whole [_] rfl rfl rfl rfl rfl ?_
      | refine sg_store_whole [_, _] rfl rfl rfl rfl rfl ?_
      | refine sg_store_whole [_, _, _] rfl rfl rfl rfl rfl ?_
      | refine sg_store_whole [_, _, _, _] rfl rfl rfl rfl rfl ?_
      | refine sg_store_whole [_, _, _, _, _] rfl rfl rfl rfl rfl ?_
      | refine sg_store_whole [_, _, _, _, _, _] rfl rfl rfl rfl rfl ?_
      | refine sg_guard_yes rfl rfl ?_
      | refine sg_guard_nf rfl rfl rfl ?_
      | refine sg_guard_nt rfl rfl rfl ?_
      | refine sg_guard_nu rfl rfl rfl ?_
      | refine sk_back (fun w hO => hO) ?_
      | refine sg_store [] rfl rfl rfl (of_decide_eq_true rfl) ?_
      | refine sg_store [_] rfl rfl rfl (of_decide_eq_true rfl) ?_
      | refine sg_store [_, _] rfl rfl rfl (of_decide_eq_true rfl) ?_
      | refine sg_store [_, _, _] rfl rfl rfl (of_decide_eq_true rfl) ?_
      | refine sg_store [_, _, _, _] rfl rfl rfl (of_decide_eq_true rfl) ?_
      | refine sg_store [_, _, _, _, _] rfl rfl rfl (of_decide_eq_true rfl) ?_
      | refine sg_store [_, _, _, _, _, _] rfl rfl rfl (of_decide_eq_true rfl) ?_
      | refine sg_store [_, _, _, _, _, _, _] rfl rfl rfl (of_decide_eq_true rfl) ?_)
    refine sk_back (fun w hO => hO.pick [2] (by decide)) ?_
    repeat' (first
      | refine sk_nil ?_
      | refine sk_pure rfl rfl (ps_move rfl) rfl ?_
      | refine sk_pure rfl rfl (ps_assign rfl) rfl ?_
      | refine sk_pure rfl rfl (ps_nilCheck rfl) rfl ?_
      | refine sk_pure rfl rfl (ps_fieldAddr rfl) rfl ?_
      | refine sk_pure rfl rfl (ps_add64 rfl rfl (by omega)) rfl ?_
      | refine sk_pure rfl rfl (ps_sub64 rfl rfl (by omega)) rfl ?_
      | refine sk_pure rfl rfl (ps_mul64 rfl rfl (by omega)) rfl ?_
      | refine sk_pure rfl rfl (ps_bin rfl rfl inferInstance) rfl ?_
      | refine sk_pure rfl rfl (ps_rem rfl rfl (by decide)) rfl ?_
      | refine sk_pure rfl rfl (ps_not rfl) rfl ?_
      | refine sk_pure rfl rfl (ps_conv rfl) rfl ?_
      | refine sk_pure rfl rfl (ps_shl rfl rfl (by decide) rfl) rfl ?_
      | refine sk_pure rfl rfl (ps_shr rfl rfl (by decide) rfl) rfl ?_
      | refine sk_pure rfl rfl (ps_len rfl) rfl ?_
      | refine sk_pure rfl rfl (ps_len_str rfl) rfl ?_
      | refine sk_pure rfl rfl (ps_extract rfl rfl) rfl ?_
      | refine sk_pure rfl rfl (ps_field rfl rfl) rfl ?_
      | refine sk_pure rfl rfl (ps_build rfl rfl) rfl ?_
      | refine sk_pure rfl rfl (ps_indexAddr rfl rfl rfl (by omega)) rfl ?_
      | refine sk_pure rfl rfl (ps_indexAddr (j := 0) rfl rfl rfl (by omega)) rfl ?_
      | refine sk_pure rfl rfl (ps_indexAddr (j := 1) rfl rfl rfl (by omega)) rfl ?_
      | refine sk_pure rfl rfl (ps_pick_t rfl rfl) rfl ?_
      | refine sk_pure rfl rfl (ps_pick_f rfl rfl) rfl ?_
      | refine sk_pure rfl rfl (ps_min2 rfl rfl) rfl ?_
      | refine sk_pure rfl rfl (ps_max2 rfl rfl) rfl ?_
      | refine sk_pure rfl rfl (ps_indexAddr_arr rfl rfl rfl (by omega)) rfl ?_
      | refine sk_no rfl rfl rfl rfl rfl ?_
      | refine sk_pure_g rfl rfl rfl rfl (ps_move rfl) rfl ?_
      | refine sk_pure_g rfl rfl rfl rfl (ps_assign rfl) rfl ?_
      | refine sk_pure_g rfl rfl rfl rfl (ps_nilCheck rfl) rfl ?_
      | refine sk_pure_g rfl rfl rfl rfl (ps_fieldAddr rfl) rfl ?_
      | refine sk_pure_g rfl rfl rfl rfl (ps_add64 rfl rfl (by omega)) rfl ?_
      | refine sk_pure_g rfl rfl rfl rfl (ps_sub64 rfl rfl (by omega)) rfl ?_
      | refine sk_pure_g rfl rfl rfl rfl (ps_mul64 rfl rfl (by omega)) rfl ?_
      | refine sk_pure_g rfl rfl rfl rfl (ps_bin rfl rfl inferInstance) rfl ?_
      | refine sk_pure_g rfl rfl rfl rfl (ps_rem rfl rfl (by decide)) rfl ?_
      | refine sk_pure_g rfl rfl rfl rfl (ps_not rfl) rfl ?_
      | refine sk_pure_g rfl rfl rfl rfl (ps_conv rfl) rfl ?_
      | refine sk_pure_g rfl rfl rfl rfl (ps_shl rfl rfl (by decide) rfl) rfl ?_
      | refine sk_pure_g rfl rfl rfl rfl (ps_shr rfl rfl (by decide) rfl) rfl ?_
      | refine sk_pure_g rfl rfl rfl rfl (ps_len rfl) rfl ?_
      | refine sk_pure_g rfl rfl rfl rfl (ps_len_str rfl) rfl ?_
      | refine sk_pure_g rfl rfl rfl rfl (ps_extract rfl rfl) rfl ?_
      | refine sk_pure_g rfl rfl rfl rfl (ps_field rfl rfl) rfl ?_
      | refine sk_pure_g rfl rfl rfl rfl (ps_build rfl rfl) rfl ?_
      | refine sk_pure_g rfl rfl rfl rfl (ps_indexAddr rfl rfl rfl (by omega)) rfl ?_
      | refine sk_pure_g rfl rfl rfl rfl (ps_indexAddr (j := 0) rfl rfl rfl (by omega)) rfl ?_
      | refine sk_pure_g rfl rfl rfl rfl (ps_indexAddr (j := 1) rfl rfl rfl (by omega)) rfl ?_
      | refine sk_pure_g rfl rfl rfl rfl (ps_pick_t rfl rfl) rfl ?_
      | refine sk_pure_g rfl rfl rfl rfl (ps_pick_f rfl rfl) rfl ?_
      | refine sk_pure_g rfl rfl rfl rfl (ps_min2 rfl rfl) rfl ?_
      | refine sk_pure_g rfl rfl rfl rfl (ps_max2 rfl rfl) rfl ?_
      | refine sk_pure_g rfl rfl rfl rfl (ps_indexAddr_arr rfl rfl rfl (by omega)) rfl ?_
      | refine sk_load 0 rfl rfl rfl rfl rfl ?_
      | refine sk_load 1 rfl rfl rfl rfl rfl ?_
      | refine sk_load 2 rfl rfl rfl rfl rfl ?_
      | refine sk_load 3 rfl rfl rfl rfl rfl ?_
      | refine sk_load 4 rfl rfl rfl rfl rfl ?_
      | refine sk_load 5 rfl rfl rfl rfl rfl ?_
      | refine sk_load_g 0 rfl rfl rfl rfl rfl rfl rfl ?_
      | refine sk_load_g 1 rfl rfl rfl rfl rfl rfl rfl ?_
      | refine sk_load_g 2 rfl rfl rfl rfl rfl rfl rfl ?_
      | refine sk_load_g 3 rfl rfl rfl rfl rfl rfl rfl ?_
      | refine sk_load_g 4 rfl rfl rfl rfl rfl rfl rfl ?_
      | refine sk_load_g 5 rfl rfl rfl rfl rfl rfl rfl ?_
      | refine sk_lw 0 rfl rfl rfl rfl rfl ?_
      | refine sk_lw 1 rfl rfl rfl rfl rfl ?_
      | refine sk_lw 2 rfl rfl rfl rfl rfl ?_
      | refine sk_lw 3 rfl rfl rfl rfl rfl ?_
      | refine sk_lw 4 rfl rfl rfl rfl rfl ?_
      | refine sk_lw 5 rfl rfl rfl rfl rfl ?_
      | refine sk_lwg 0 rfl rfl rfl rfl rfl rfl rfl ?_
      | refine sk_lwg 1 rfl rfl rfl rfl rfl rfl rfl ?_
      | refine sk_lwg 2 rfl rfl rfl rfl rfl rfl rfl ?_
      | refine sk_lwg 3 rfl rfl rfl rfl rfl rfl rfl ?_
      | refine sk_lwg 4 rfl rfl rfl rfl rfl rfl rfl ?_
      | refine sk_lwg 5 rfl rfl rfl rfl rfl rfl rfl ?_
      | refine sk_eff rfl rfl ?_
      | refine sg_store_whole [] rfl rfl rfl rfl rfl ?_
      | refine sg_store_whole [_] rfl rfl rfl rfl rfl ?_
      | refine sg_store_whole [_, _] rfl rfl rfl rfl rfl ?_
      | refine sg_store_whole [_, _, _] rfl rfl rfl rfl rfl ?_
      | refine sg_store_whole [_, _, _, _] rfl rfl rfl rfl rfl ?_
      | refine sg_store_whole [_, _, _, _, _] rfl rfl rfl rfl rfl ?_
      | refine sg_store_whole [_, _, _, _, _, _] rfl rfl rfl rfl rfl ?_
      | refine sg_guard_yes rfl rfl ?_
      | refine sg_guard_nf rfl rfl rfl ?_
      | refine sg_guard_nt rfl rfl rfl ?_
      | refine sg_guard_nu rfl rfl rfl ?_
      | refine sk_back (fun w hO => hO) ?_
      | refine sg_store [] rfl rfl rfl (of_decide_eq_true rfl) ?_
      | refine sg_store [_] rfl rfl rfl (of_decide_eq_true rfl) ?_
      | refine sg_store [_, _] rfl rfl rfl (of_decide_eq_true rfl) ?_
      | refine sg_store [_, _, _] rfl rfl rfl (of_decide_eq_true rfl) ?_
      | refine sg_store [_, _, _, _] rfl rfl rfl (of_decide_eq_true rfl) ?_
      | refine sg_store [_, _, _, _, _] rfl rfl rfl (of_decide_eq_true rfl) ?_
      | refine sg_store [_, _, _, _, _, _] rfl rfl rfl (of_decide_eq_true rfl) ?_
      | refine sg_store [_, _, _, _, _, _, _] rfl rfl rfl (of_decide_eq_true rfl) ?_)
    refine sk_back (fun w hO => hO.pick [2] (by decide)) ?_
    repeat' (first
      | refine sk_nil ?_
      | refine sk_pure rfl rfl (ps_move rfl) rfl ?_
      | refine sk_pure rfl rfl (ps_assign rfl) rfl ?_
      | refine sk_pure rfl rfl (ps_nilCheck rfl) rfl ?_
      | refine sk_pure rfl rfl (ps_fieldAddr rfl) rfl ?_
      | refine sk_pure rfl rfl (ps_add64 rfl rfl (by omega)) rfl ?_
      | refine sk_pure rfl rfl (ps_sub64 rfl rfl (by omega)) rfl ?_
      | refine sk_pure rfl rfl (ps_mul64 rfl rfl (by omega)) rfl ?_
      | refine sk_pure rfl rfl (ps_bin rfl rfl inferInstance) rfl ?_
      | refine sk_pure rfl rfl (ps_rem rfl rfl (by decide)) rfl ?_
      | refine sk_pure rfl rfl (ps_not rfl) rfl ?_
      | refine sk_pure rfl rfl (ps_conv rfl) rfl ?_
      | refine sk_pure rfl rfl (ps_shl rfl rfl (by decide) rfl) rfl ?_
      | refine sk_pure rfl rfl (ps_shr rfl rfl (by decide) rfl) rfl ?_
      | refine sk_pure rfl rfl (ps_len rfl) rfl ?_
      | refine sk_pure rfl rfl (ps_len_str rfl) rfl ?_
      | refine sk_pure rfl rfl (ps_extract rfl rfl) rfl ?_
      | refine sk_pure rfl rfl (ps_field rfl rfl) rfl ?_
      | refine sk_pure rfl rfl (ps_build rfl rfl) rfl ?_
      | refine sk_pure rfl rfl (ps_indexAddr rfl rfl rfl (by omega)) rfl ?_
      | refine sk_pure rfl rfl (ps_indexAddr (j := 0) rfl rfl rfl (by omega)) rfl ?_
      | refine sk_pure rfl rfl (ps_indexAddr (j := 1) rfl rfl rfl (by omega)) rfl ?_
      | refine sk_pure rfl rfl (ps_pick_t rfl rfl) rfl ?_
      | refine sk_pure rfl rfl (ps_pick_f rfl rfl) rfl ?_
      | refine sk_pure rfl rfl (ps_min2 rfl rfl) rfl ?_
      | refine sk_pure rfl rfl (ps_max2 rfl rfl) rfl ?_
      | refine sk_pure rfl rfl (ps_indexAddr_arr rfl rfl rfl (by omega)) rfl ?_
      | refine sk_no rfl rfl rfl rfl rfl ?_
      | refine sk_pure_g rfl rfl rfl rfl (ps_move rfl) rfl ?_
      | refine sk_pure_g rfl rfl rfl rfl (ps_assign rfl) rfl ?_
      | refine sk_pure_g rfl rfl rfl rfl (ps_nilCheck rfl) rfl ?_
      | refine sk_pure_g rfl rfl rfl rfl (ps_fieldAddr rfl) rfl ?_
      | refine sk_pure_g rfl rfl rfl rfl (ps_add64 rfl rfl (by omega)) rfl ?_
      | refine sk_pure_g rfl rfl rfl rfl (ps_sub64 rfl rfl (by omega)) rfl ?_
      | refine sk_pure_g rfl rfl rfl rfl (ps_mul64 rfl rfl (by omega)) rfl ?_
      | refine sk_pure_g rfl rfl rfl rfl (ps_bin rfl rfl inferInstance) rfl ?_
      | refine sk_pure_g rfl rfl rfl rfl (ps_rem rfl rfl (by decide)) rfl ?_
      | refine sk_pure_g rfl rfl rfl rfl (ps_not rfl) rfl ?_
      | refine sk_pure_g rfl rfl rfl rfl (ps_conv rfl) rfl ?_
      | refine sk_pure_g rfl rfl rfl rfl (ps_shl rfl rfl (by decide) rfl) rfl ?_
      | refine sk_pure_g rfl rfl rfl rfl (ps_shr rfl rfl (by decide) rfl) rfl ?_
      | refine sk_pure_g rfl rfl rfl rfl (ps_len rfl) rfl ?_
      | refine sk_pure_g rfl rfl rfl rfl (ps_len_str rfl) rfl ?_
      | refine sk_pure_g rfl rfl rfl rfl (ps_extract rfl rfl) rfl ?_
      | refine sk_pure_g rfl rfl rfl rfl (ps_field rfl rfl) rfl ?_
      | refine sk_pure_g rfl rfl rfl rfl (ps_build rfl rfl) rfl ?_
      | refine sk_pure_g rfl rfl rfl rfl (ps_indexAddr rfl rfl rfl (by omega)) rfl ?_
      | refine sk_pure_g rfl rfl rfl rfl (ps_indexAddr (j := 0) rfl rfl rfl (by omega)) rfl ?_
      | refine sk_pure_g rfl rfl rfl rfl (ps_indexAddr (j := 1) rfl rfl rfl (by omega)) rfl ?_
      | refine sk_pure_g rfl rfl rfl rfl (ps_pick_t rfl rfl) rfl ?_
      | refine sk_pure_g rfl rfl rfl rfl (ps_pick_f rfl rfl) rfl ?_
      | refine sk_pure_g rfl rfl rfl rfl (ps_min2 rfl rfl) rfl ?_
      | refine sk_pure_g rfl rfl rfl rfl (ps_max2 rfl rfl) rfl ?_
      | refine sk_pure_g rfl rfl rfl rfl (ps_indexAddr_arr rfl rfl rfl (by omega)) rfl ?_
      | refine sk_load 0 rfl rfl rfl rfl rfl ?_
      | refine sk_load 1 rfl rfl rfl rfl rfl ?_
      | refine sk_load 2 rfl rfl rfl rfl rfl ?_
      | refine sk_load 3 rfl rfl rfl rfl rfl ?_
      | refine sk_load 4 rfl rfl rfl rfl rfl ?_
      | refine sk_load 5 rfl rfl rfl rfl rfl ?_
      | refine sk_load_g 0 rfl rfl rfl rfl rfl rfl rfl ?_
      | refine sk_load_g 1 rfl rfl rfl rfl rfl rfl rfl ?_
      | refine sk_load_g 2 rfl rfl rfl rfl rfl rfl rfl ?_
      | refine sk_load_g 3 rfl rfl rfl rfl rfl rfl rfl ?_
      | refine sk_load_g 4 rfl rfl rfl rfl rfl rfl rfl ?_
      | refine sk_load_g 5 rfl rfl rfl rfl rfl rfl rfl ?_
      | refine sk_lw 0 rfl rfl rfl rfl rfl ?_
      | refine sk_lw 1 rfl rfl rfl rfl rfl ?_
      | refine sk_lw 2 rfl rfl rfl rfl rfl ?_
      | refine sk_lw 3 rfl rfl rfl rfl rfl ?_
      | refine sk_lw 4 rfl rfl rfl rfl rfl ?_
      | refine sk_lw 5 rfl rfl rfl rfl rfl ?_
      | refine sk_lwg 0 rfl rfl rfl rfl rfl rfl rfl ?_
      | refine sk_lwg 1 rfl rfl rfl rfl rfl rfl rfl ?_
      | refine sk_lwg 2 rfl rfl rfl rfl rfl rfl rfl ?_
      | refine sk_lwg 3 rfl rfl rfl rfl rfl rfl rfl ?_
      | refine sk_lwg 4 rfl rfl rfl rfl rfl rfl rfl ?_
      | refine sk_lwg 5 rfl rfl rfl rfl rfl rfl rfl ?_
      | refine sk_eff rfl rfl ?_
      | refine sg_store_whole [] rfl rfl rfl rfl rfl ?_
      | refine sg_store_whole [_] rfl rfl rfl rfl rfl ?_
      | refine sg_store_whole [_, _] rfl rfl rfl rfl rfl ?_
      | refine sg_store_whole [_, _, _] rfl rfl rfl rfl rfl ?_
      | refine sg_store_whole [_, _, _, _] rfl rfl rfl rfl rfl ?_
      | refine sg_store_whole [_, _, _, _, _] rfl rfl rfl rfl rfl ?_
      | refine sg_store_whole [_, _, _, _, _, _] rfl rfl rfl rfl rfl ?_
      | refine sg_guard_yes rfl rfl ?_
      | refine sg_guard_nf rfl rfl rfl ?_
      | refine sg_guard_nt rfl rfl rfl ?_
      | refine sg_guard_nu rfl rfl rfl ?_
      | refine sk_back (fun w hO => hO) ?_
      | refine sg_store [] rfl rfl rfl (of_decide_eq_true rfl) ?_
      | refine sg_store [_] rfl rfl rfl (of_decide_eq_true rfl) ?_
      | refine sg_store [_, _] rfl rfl rfl (of_decide_eq_true rfl) ?_
      | refine sg_store [_, _, _] rfl rfl rfl (of_decide_eq_true rfl) ?_
      | refine sg_store [_, _, _, _] rfl rfl rfl (of_decide_eq_true rfl) ?_
      | refine sg_store [_, _, _, _, _] rfl rfl rfl (of_decide_eq_true rfl) ?_
      | refine sg_store [_, _, _, _, _, _] rfl rfl rfl (of_decide_eq_true rfl) ?_
      | refine sg_store [_, _, _, _, _, _, _] rfl rfl rfl (of_decide_eq_true rfl) ?_)
    repeat' (first
      | refine sg_wo ?_
      | refine sg_ps (ps_move rfl) rfl ?_
      | refine sg_ps (ps_assign rfl) rfl ?_
      | refine sg_seq ?_
      | refine sg_region ?_
      | refine sg_nil ?_
      | refine sg_then ?_
      | refine sg_ps (ps_fieldAddr rfl) rfl ?_
      | refine sg_ps (ps_nilCheck rfl) rfl ?_
      | refine sg_load 0 rfl rfl rfl rfl ?_
      | refine sg_load 1 rfl rfl rfl rfl ?_
      | refine sg_load 2 rfl rfl rfl rfl ?_
      | refine sg_load 3 rfl rfl rfl rfl ?_
      | refine sg_load 4 rfl rfl rfl rfl ?_
      | refine sg_load 5 rfl rfl rfl rfl ?_
      | refine sg_load 6 rfl rfl rfl rfl ?_
      | refine sg_load 7 rfl rfl rfl rfl ?_
      | refine sg_ps (ps_add64 rfl rfl (by omega)) rfl ?_
      | refine sg_ps (ps_sub64 rfl rfl (by omega)) rfl ?_
      | refine sg_ps (ps_mul64 rfl rfl (by omega)) rfl ?_
      | refine sg_ps (ps_bin rfl rfl inferInstance) rfl ?_
      | refine sg_ps (ps_rem rfl rfl (by decide)) rfl ?_
      | refine sg_ps (ps_quo64 rfl rfl (by decide) (by omega)) rfl ?_
      | refine sg_ps (ps_not rfl) rfl ?_
      | refine sg_ps (ps_conv rfl) rfl ?_
      | refine sg_ps (ps_shl rfl rfl (by decide) rfl) rfl ?_
      | refine sg_ps (ps_shr rfl rfl (by decide) rfl) rfl ?_
      | refine sg_cond_t rfl ?_
      | refine sg_cond_f rfl ?_
      | refine sg_guard_yes rfl rfl ?_
      | refine sg_guard_nf rfl rfl rfl ?_
      | refine sg_guard_nt rfl rfl rfl ?_
      | refine sg_guard_nu rfl rfl rfl ?_
      | refine sg_ps (ps_pick_t rfl rfl) rfl ?_
      | refine sg_ps (ps_pick_f rfl rfl) rfl ?_
      | refine sg_ps (ps_len rfl) rfl ?_
      | refine sg_ps (ps_len_str rfl) rfl ?_
      | refine sg_ps (ps_extract rfl rfl) rfl ?_
      | refine sg_ps (ps_field rfl rfl) rfl ?_
      | refine sg_ps (ps_min2 rfl rfl) rfl ?_
      | refine sg_ps (ps_max2 rfl rfl) rfl ?_
      | refine sg_ps (ps_build rfl rfl) rfl ?_
      | refine sg_box rfl rfl (fun bx => ?_)
      | refine sg_ps (ps_indexAddr rfl rfl rfl (by omega)) rfl ?_
      | refine sg_ps (ps_indexAddr (j := 0) rfl rfl rfl (by omega)) rfl ?_
      | refine sg_ps (ps_indexAddr (j := 1) rfl rfl rfl (by omega)) rfl ?_
      | refine sg_ps (ps_indexAddr_arr rfl rfl rfl (by omega)) rfl ?_
      | refine sg_load_whole 0 rfl rfl rfl rfl ?_
      | refine sg_load_whole 1 rfl rfl rfl rfl ?_
      | refine sg_load_whole 2 rfl rfl rfl rfl ?_
      | refine sg_load_whole 3 rfl rfl rfl rfl ?_
      | refine sg_load_whole 4 rfl rfl rfl rfl ?_
      | refine sg_load_whole 5 rfl rfl rfl rfl ?_
      | refine sg_load_whole 6 rfl rfl rfl rfl ?_
      | refine sg_load_whole 7 rfl rfl rfl rfl ?_
      | refine sg_store_whole [] rfl rfl rfl rfl rfl ?_
      | refine sg_store_whole [_] rfl rfl rfl rfl rfl ?_
      | refine sg_store_whole [_, _] rfl rfl rfl rfl rfl ?_
      | refine sg_store_whole [_, _, _] rfl rfl rfl rfl rfl ?_
      | refine sg_store_whole [_, _, _, _] rfl rfl rfl rfl rfl ?_
      | refine sg_store_whole [_, _, _, _, _] rfl rfl rfl rfl rfl ?_
      | refine sg_store_whole [_, _, _, _, _, _] rfl rfl rfl rfl rfl ?_
      | refine sg_alloc rfl (fun al => ?_)
      | refine sg_block ?_
      | refine sg_skip ?_
      | refine sg_ret ?_
      | refine sg_exit ?_
      | refine ex_then_ret ?_
      | refine ex_then_exit ?_
      | refine ex_block_ret ?_
      | refine ex_block_normal ?_
      | refine ex_block_hit ?_
      | refine ex_block_miss rfl ?_
      | refine sg_store [] rfl rfl rfl (of_decide_eq_true rfl) ?_
      | refine sg_store [_] rfl rfl rfl (of_decide_eq_true rfl) ?_
      | refine sg_store [_, _] rfl rfl rfl (of_decide_eq_true rfl) ?_
      | refine sg_store [_, _, _] rfl rfl rfl (of_decide_eq_true rfl) ?_
      | refine sg_store [_, _, _, _] rfl rfl rfl (of_decide_eq_true rfl) ?_
      | refine sg_store [_, _, _, _, _] rfl rfl rfl (of_decide_eq_true rfl) ?_
      | refine sg_store [_, _, _, _, _, _] rfl rfl rfl (of_decide_eq_true rfl) ?_
      | refine sg_store [_, _, _, _, _, _, _] rfl rfl rfl (of_decide_eq_true rfl) ?_
      | (refine sg_guard_dec rfl rfl (fun hg => ?_) (fun hg => ?_) <;> first | (exfalso; omega) | (exact absurd rfl hg) | skip)
      | (refine sg_guard_ndec rfl rfl (fun hg => ?_) (fun hg => ?_) <;> first | (exfalso; omega) | (exact absurd rfl hg) | skip)
      | (refine sg_cond_dec rfl (fun hg => ?_) (fun hg => ?_) <;> first | (exfalso; omega) | (exact absurd rfl hg) | skip)
      | (refine sg_cond_ndec rfl (fun hg => ?_) (fun hg => ?_) <;> first | (exfalso; omega) | (exact absurd rfl hg) | skip)
      | refine sg_cond_not rfl (fun hg => ?_) (fun hg => ?_)
      | refine sg_cond rfl (fun hg => ?_) (fun hg => ?_))
    exact ex_retc 1 rfl rfl rfl rfl () (by rw [mkE_ft (by assumption) (by assumption) (by assumption)]; rfl) trivial (fun w hO => hO.tail.tail.tail.tail)
  · exact ex_retc 1 rfl rfl rfl rfl () (by rw [mkE_ff (by assumption) (.inr (by assumption))]; rfl) trivial (fun w hO => hO.tail.tail.tail.tail)
  · exact ex_retc 1 rfl rfl rfl rfl () (by rw [mkE_ff (by assumption) (.inl (by assumption))]; rfl) trivial (fun w hO => hO.tail.tail.tail.tail)
theorem check_bad (m : MS) (h : m.kind < 1) (R : List HP) : Tri Try.prog W 13 [m.v] R (X := Unit) (fun _ => i64 1) (fun _ => True) (fun _ => R) := by
  refine tri_enter1 Try.func13 rfl Try.ntmps13 rfl ?_
  repeat' (first
    | refine sg_wo ?_
    | refine sg_ps (ps_move rfl) rfl ?_
    | refine sg_ps (ps_assign rfl) rfl ?_
    | refine sg_seq ?_
    | refine sg_region ?_
    | refine sg_nil ?_
    | refine sg_then ?_
    | refine sg_ps (ps_fieldAddr rfl) rfl ?_
    | refine sg_ps (ps_nilCheck rfl) rfl ?_
    | refine sg_load 0 rfl rfl rfl rfl ?_
    | refine sg_load 1 rfl rfl rfl rfl ?_
    | refine sg_load 2 rfl rfl rfl rfl ?_
    | refine sg_load 3 rfl rfl rfl rfl ?_
    | refine sg_load 4 rfl rfl rfl rfl ?_
    | refine sg_load 5 rfl rfl rfl rfl ?_
    | refine sg_load 6 rfl rfl rfl rfl ?_
    | refine sg_load 7 rfl rfl rfl rfl ?_
    | refine sg_ps (ps_add64 rfl rfl (by omega)) rfl ?_
    | refine sg_ps (ps_sub64 rfl rfl (by omega)) rfl ?_
    | refine sg_ps (ps_mul64 rfl rfl (by omega)) rfl ?_
    | refine sg_ps (ps_bin rfl rfl inferInstance) rfl ?_
    | refine sg_ps (ps_rem rfl rfl (by decide)) rfl ?_
    | refine sg_ps (ps_quo64 rfl rfl (by decide) (by omega)) rfl ?_
    | refine sg_ps (ps_not rfl) rfl ?_
    | refine sg_ps (ps_conv rfl) rfl ?_
    | refine sg_ps (ps_shl rfl rfl (by decide) rfl) rfl ?_
    | refine sg_ps (ps_shr rfl rfl (by decide) rfl) rfl ?_
    | refine sg_cond_t rfl ?_
    | refine sg_cond_f rfl ?_
    | refine sg_guard_yes rfl rfl ?_
    | refine sg_guard_nf rfl rfl rfl ?_
    | refine sg_guard_nt rfl rfl rfl ?_
    | refine sg_guard_nu rfl rfl rfl ?_
    | refine sg_ps (ps_pick_t rfl rfl) rfl ?_
    | refine sg_ps (ps_pick_f rfl rfl) rfl ?_
    | refine sg_ps (ps_len rfl) rfl ?_
    | refine sg_ps (ps_len_str rfl) rfl ?_
    | refine sg_ps (ps_extract rfl rfl) rfl ?_
    | refine sg_ps (ps_field rfl rfl) rfl ?_
    | refine sg_ps (ps_min2 rfl rfl) rfl ?_
    | refine sg_ps (ps_max2 rfl rfl) rfl ?_
    | refine sg_ps (ps_build rfl rfl) rfl ?_
    | refine sg_box rfl rfl (fun bx => ?_)
    | refine sg_ps (ps_indexAddr rfl rfl rfl (by omega)) rfl ?_
    | refine sg_ps (ps_indexAddr (j := 0) rfl rfl rfl (by omega)) rfl ?_
    | refine sg_ps (ps_indexAddr (j := 1) rfl rfl rfl (by omega)) rfl ?_
    | refine sg_ps (ps_indexAddr_arr rfl rfl rfl (by omega)) rfl ?_
    | refine sg_load_whole 0 rfl rfl rfl rfl ?_
    | refine sg_load_whole 1 rfl rfl rfl rfl ?_
    | refine sg_load_whole 2 rfl rfl rfl rfl ?_
    | refine sg_load_whole 3 rfl rfl rfl rfl ?_
    | refine sg_load_whole 4 rfl rfl rfl rfl ?_
    | refine sg_load_whole 5 rfl rfl rfl rfl ?_
    | refine sg_load_whole 6 rfl rfl rfl rfl ?_
    | refine sg_load_whole 7 rfl rfl rfl rfl ?_
    | refine sg_store_whole [] rfl rfl rfl rfl rfl ?_
    | refine sg_store_whole [_] rfl rfl rfl rfl rfl ?_
    | refine sg_store_whole [_, _] rfl rfl rfl rfl rfl ?_
    | refine sg_store_whole [_, _, _] rfl rfl rfl rfl rfl ?_
    | refine sg_store_whole [_, _, _, _] rfl rfl rfl rfl rfl ?_
    | refine sg_store_whole [_, _, _, _, _] rfl rfl rfl rfl rfl ?_
    | refine sg_store_whole [_, _, _, _, _, _] rfl rfl rfl rfl rfl ?_
    | refine sg_alloc rfl (fun al => ?_)
    | refine sg_block ?_
    | refine sg_skip ?_
    | refine sg_ret ?_
    | refine sg_exit ?_
    | refine ex_then_ret ?_
    | refine ex_then_exit ?_
    | refine ex_block_ret ?_
    | refine ex_block_normal ?_
    | refine ex_block_hit ?_
    | refine ex_block_miss rfl ?_
    | refine sg_store [] rfl rfl rfl (of_decide_eq_true rfl) ?_
    | refine sg_store [_] rfl rfl rfl (of_decide_eq_true rfl) ?_
    | refine sg_store [_, _] rfl rfl rfl (of_decide_eq_true rfl) ?_
    | refine sg_store [_, _, _] rfl rfl rfl (of_decide_eq_true rfl) ?_
    | refine sg_store [_, _, _, _] rfl rfl rfl (of_decide_eq_true rfl) ?_
    | refine sg_store [_, _, _, _, _] rfl rfl rfl (of_decide_eq_true rfl) ?_
    | refine sg_store [_, _, _, _, _, _] rfl rfl rfl (of_decide_eq_true rfl) ?_
    | refine sg_store [_, _, _, _, _, _, _] rfl rfl rfl (of_decide_eq_true rfl) ?_
    | (refine sg_guard_dec rfl rfl (fun hg => ?_) (fun hg => ?_) <;> first | (exfalso; omega) | (exact absurd rfl hg) | skip)
    | (refine sg_guard_ndec rfl rfl (fun hg => ?_) (fun hg => ?_) <;> first | (exfalso; omega) | (exact absurd rfl hg) | skip)
    | (refine sg_cond_dec rfl (fun hg => ?_) (fun hg => ?_) <;> first | (exfalso; omega) | (exact absurd rfl hg) | skip)
    | (refine sg_cond_ndec rfl (fun hg => ?_) (fun hg => ?_) <;> first | (exfalso; omega) | (exact absurd rfl hg) | skip)
    | refine sg_cond_not rfl (fun hg => ?_) (fun hg => ?_)
    | refine sg_cond rfl (fun hg => ?_) (fun hg => ?_))
  exact ex_ret1 rfl rfl () rfl trivial (fun w hO => hO.tail)
end Go.Proofs.Ytlafdffjkdiigaa
