/- The document's answer for pack: Flag and Text. -/
import Derived.Test.YtgjcnoecagiafaaPK5
namespace Go.Proofs.Ytgjcnoecagiafaa
set_option linter.unusedVariables false
set_option linter.unusedSimpArgs false
set_option linter.unusedSectionVars false
set_option linter.unnecessarySimpa false
open Go Go.Proofs
set_option maxRecDepth 20000
set_option maxHeartbeats 4000000
attribute [local irreducible] SG WC WO W1 WD WK PS Rd Tri Exit.then Exit.inBlock bodyPost calmQ Mid sadd
variable {W : World} {n : Nat} {F : Fr} {L : List HP} {G : Act → World → Prop}

theorem rFlag_tri (i : Nat) (S : IS) (R : List HP) :
    Tri Try.prog W 36 [dp i] (RefIn i S :: R) (X := Unit) (fun _ => .bool S.flag.1) (fun _ => True) (fun _ => RefIn i S.flag.2 :: R) := by
  refine tri_enter1 Try.func36 rfl Try.ntmps36 rfl ?_
  refine RefIn.open fun a c all at_ hx => ?_
  have hl := RX.len hx
  have hk : at_ ≤ all.length := hx.k
  have hm : all.length ≤ 140737488355328 := hx.m
  by_cases hb : S.bad = true
  · have e : S.flag = (false, S.spoil) := if_pos (.inl hb)
    rw [e, hb]
    repeat' (first
      | refine sg_wo ?_
      | refine sg_ps (ps_move rfl) rfl ?_
      | refine sg_ps (ps_assign rfl) rfl ?_
      | refine sg_seq ?_
      | refine sg_region ?_
      | refine sg_nil ?_
      | refine sg_then ?_
      | refine sg_ps (ps_fieldAddr rfl) rfl ?_
      | refine sg_ps (ps_nilCheck rfl) rfl ?_
      | refine sg_load 0 rfl rfl rfl rfl ?_
      | refine sg_load 1 rfl rfl rfl rfl ?_
      | refine sg_load 2 rfl rfl rfl rfl ?_
      | refine sg_load 3 rfl rfl rfl rfl ?_
      | refine sg_load 4 rfl rfl rfl rfl ?_
      | refine sg_load 5 rfl rfl rfl rfl ?_
      | refine sg_load 6 rfl rfl rfl rfl ?_
      | refine sg_load 7 rfl rfl rfl rfl ?_
      | refine sg_ps (ps_add64 rfl rfl (by omega)) rfl ?_
      | refine sg_ps (ps_sub64 rfl rfl (by omega)) rfl ?_
      | refine sg_ps (ps_mul64 rfl rfl (by omega)) rfl ?_
      | refine sg_ps (ps_bin rfl rfl inferInstance) rfl ?_
      | refine sg_ps (ps_rem rfl rfl (by decide)) rfl ?_
      | refine sg_ps (ps_quo64 rfl rfl (by decide) (by omega)) rfl ?_
      | refine sg_ps (ps_not rfl) rfl ?_
      | refine sg_ps (ps_conv rfl) rfl ?_
      | refine sg_ps (ps_shl rfl rfl (by decide) rfl) rfl ?_
      | refine sg_ps (ps_shr rfl rfl (by decide) rfl) rfl ?_
      | refine sg_cond_t rfl ?_
      | refine sg_cond_f rfl ?_
      | refine sg_guard_yes rfl rfl ?_
      | refine sg_guard_nf rfl rfl rfl ?_
      | refine sg_guard_nt rfl rfl rfl ?_
      | refine sg_guard_nu rfl rfl rfl ?_
      | refine sg_ps (ps_pick_t rfl rfl) rfl ?_
      | refine sg_ps (ps_pick_f rfl rfl) rfl ?_
      | refine sg_ps (ps_len rfl) rfl ?_
      | refine sg_ps (ps_len_str rfl) rfl ?_
      | refine sg_ps (ps_extract rfl rfl) rfl ?_
      | refine sg_ps (ps_field rfl rfl) rfl ?_
      | refine sg_ps (ps_min2 rfl rfl) rfl ?_
      | refine sg_ps (ps_max2 rfl rfl) rfl ?_
      | refine sg_ps (ps_build rfl rfl) rfl ?_
      | refine sg_box rfl rfl (fun bx => ?_)
      | refine sg_ps (ps_indexAddr rfl rfl rfl (by omega)) rfl ?_
      | refine sg_ps (ps_indexAddr (j := 0) rfl rfl rfl (by omega)) rfl ?_
      | refine sg_ps (ps_indexAddr (j := 1) rfl rfl rfl (by omega)) rfl ?_
      | refine sg_ps (ps_indexAddr_arr rfl rfl rfl (by omega)) rfl ?_
      | refine sg_block ?_
      | refine sg_skip ?_
      | refine sg_ret ?_
      | refine sg_exit ?_
      | refine ex_then_ret ?_
      | refine ex_then_exit ?_
      | refine ex_block_ret ?_
      | refine ex_block_normal ?_
      | refine ex_block_hit ?_
      | refine ex_block_miss rfl ?_
      | refine sg_store [] rfl rfl rfl (of_decide_eq_true rfl) ?_
      | refine sg_store [_] rfl rfl rfl (of_decide_eq_true rfl) ?_
      | refine sg_store [_, _] rfl rfl rfl (of_decide_eq_true rfl) ?_
      | refine sg_store [_, _, _] rfl rfl rfl (of_decide_eq_true rfl) ?_
      | refine sg_store [_, _, _, _] rfl rfl rfl (of_decide_eq_true rfl) ?_
      | refine sg_store [_, _, _, _, _] rfl rfl rfl (of_decide_eq_true rfl) ?_
      | refine sg_store [_, _, _, _, _, _] rfl rfl rfl (of_decide_eq_true rfl) ?_
      | refine sg_store [_, _, _, _, _, _, _] rfl rfl rfl (of_decide_eq_true rfl) ?_
      | (refine sg_guard_dec rfl rfl (fun hg => ?_) (fun hg => ?_) <;> first | (exfalso; omega) | (exact absurd rfl hg) | skip)
      | (refine sg_guard_ndec rfl rfl (fun hg => ?_) (fun hg => ?_) <;> first | (exfalso; omega) | (exact absurd rfl hg) | skip)
      | (refine sg_cond_dec rfl (fun hg => ?_) (fun hg => ?_) <;> first | (exfalso; omega) | (exact absurd rfl hg) | skip)
      | (refine sg_cond_ndec rfl (fun hg => ?_) (fun hg => ?_) <;> first | (exfalso; omega) | (exact absurd rfl hg) | skip)
      | refine sg_cond_not rfl (fun hg => ?_) (fun hg => ?_)
      | refine sg_cond rfl (fun hg => ?_) (fun hg => ?_))
    refine sg_drawK (blk i (rcells a all.length c at_ true) :: rsl a (all.map bv) :: R) [0, 1, 2, 3, 4, 5, 6, 7, 8, 9, 10, 11, 12, 14, 15, 16, 13, 17, 18, 19, 20, 21] (by kernel_rfl) (by kernel_rfl) (fun w hO => hO) ?_
    repeat' (first
      | refine sk_nil ?_
      | refine sk_pure rfl rfl (ps_move rfl) rfl ?_
      | refine sk_pure rfl rfl (ps_assign rfl) rfl ?_
      | refine sk_pure rfl rfl (ps_nilCheck rfl) rfl ?_
      | refine sk_pure rfl rfl (ps_fieldAddr rfl) rfl ?_
      | refine sk_pure rfl rfl (ps_add64 rfl rfl (by omega)) rfl ?_
      | refine sk_pure rfl rfl (ps_sub64 rfl rfl (by omega)) rfl ?_
      | refine sk_pure rfl rfl (ps_mul64 rfl rfl (by omega)) rfl ?_
      | refine sk_pure rfl rfl (ps_bin rfl rfl inferInstance) rfl ?_
      | refine sk_pure rfl rfl (ps_rem rfl rfl (by decide)) rfl ?_
      | refine sk_pure rfl rfl (ps_not rfl) rfl ?_
      | refine sk_pure rfl rfl (ps_conv rfl) rfl ?_
      | refine sk_pure rfl rfl (ps_shl rfl rfl (by decide) rfl) rfl ?_
      | refine sk_pure rfl rfl (ps_shr rfl rfl (by decide) rfl) rfl ?_
      | refine sk_pure rfl rfl (ps_len rfl) rfl ?_
      | refine sk_pure rfl rfl (ps_len_str rfl) rfl ?_
      | refine sk_pure rfl rfl (ps_extract rfl rfl) rfl ?_
      | refine sk_pure rfl rfl (ps_field rfl rfl) rfl ?_
      | refine sk_pure rfl rfl (ps_build rfl rfl) rfl ?_
      | refine sk_pure rfl rfl (ps_indexAddr rfl rfl rfl (by omega)) rfl ?_
      | refine sk_pure rfl rfl (ps_indexAddr (j := 0) rfl rfl rfl (by omega)) rfl ?_
      | refine sk_pure rfl rfl (ps_indexAddr (j := 1) rfl rfl rfl (by omega)) rfl ?_
      | refine sk_pure rfl rfl (ps_pick_t rfl rfl) rfl ?_
      | refine sk_pure rfl rfl (ps_pick_f rfl rfl) rfl ?_
      | refine sk_pure rfl rfl (ps_min2 rfl rfl) rfl ?_
      | refine sk_pure rfl rfl (ps_max2 rfl rfl) rfl ?_
      | refine sk_pure rfl rfl (ps_indexAddr_arr rfl rfl rfl (by omega)) rfl ?_
      | refine sk_no rfl rfl rfl rfl rfl ?_
      | refine sk_pure_g rfl rfl rfl rfl (ps_move rfl) rfl ?_
      | refine sk_pure_g rfl rfl rfl rfl (ps_assign rfl) rfl ?_
      | refine sk_pure_g rfl rfl rfl rfl (ps_nilCheck rfl) rfl ?_
      | refine sk_pure_g rfl rfl rfl rfl (ps_fieldAddr rfl) rfl ?_
      | refine sk_pure_g rfl rfl rfl rfl (ps_add64 rfl rfl (by omega)) rfl ?_
      | refine sk_pure_g rfl rfl rfl rfl (ps_sub64 rfl rfl (by omega)) rfl ?_
      | refine sk_pure_g rfl rfl rfl rfl (ps_mul64 rfl rfl (by omega)) rfl ?_
      | refine sk_pure_g rfl rfl rfl rfl (ps_bin rfl rfl inferInstance) rfl ?_
      | refine sk_pure_g rfl rfl rfl rfl (ps_rem rfl rfl (by decide)) rfl ?_
      | refine sk_pure_g rfl rfl rfl rfl (ps_not rfl) rfl ?_
      | refine sk_pure_g rfl rfl rfl rfl (ps_conv rfl) rfl ?_
      | refine sk_pure_g rfl rfl rfl rfl (ps_shl rfl rfl (by decide) rfl) rfl ?_
      | refine sk_pure_g rfl rfl rfl rfl (ps_shr rfl rfl (by decide) rfl) rfl ?_
      | refine sk_pure_g rfl rfl rfl rfl (ps_len rfl) rfl ?_
      | refine sk_pure_g rfl rfl rfl rfl (ps_len_str rfl) rfl ?_
      | refine sk_pure_g rfl rfl rfl rfl (ps_extract rfl rfl) rfl ?_
      | refine sk_pure_g rfl rfl rfl rfl (ps_field rfl rfl) rfl ?_
      | refine sk_pure_g rfl rfl rfl rfl (ps_build rfl rfl) rfl ?_
      | refine sk_pure_g rfl rfl rfl rfl (ps_indexAddr rfl rfl rfl (by omega)) rfl ?_
      | refine sk_pure_g rfl rfl rfl rfl (ps_indexAddr (j := 0) rfl rfl rfl (by omega)) rfl ?_
      | refine sk_pure_g rfl rfl rfl rfl (ps_indexAddr (j := 1) rfl rfl rfl (by omega)) rfl ?_
      | refine sk_pure_g rfl rfl rfl rfl (ps_pick_t rfl rfl) rfl ?_
      | refine sk_pure_g rfl rfl rfl rfl (ps_pick_f rfl rfl) rfl ?_
      | refine sk_pure_g rfl rfl rfl rfl (ps_min2 rfl rfl) rfl ?_
      | refine sk_pure_g rfl rfl rfl rfl (ps_max2 rfl rfl) rfl ?_
      | refine sk_pure_g rfl rfl rfl rfl (ps_indexAddr_arr rfl rfl rfl (by omega)) rfl ?_
      | refine sk_load 0 rfl rfl rfl rfl rfl ?_
      | refine sk_load 1 rfl rfl rfl rfl rfl ?_
      | refine sk_load 2 rfl rfl rfl rfl rfl ?_
      | refine sk_load 3 rfl rfl rfl rfl rfl ?_
      | refine sk_load 4 rfl rfl rfl rfl rfl ?_
      | refine sk_load 5 rfl rfl rfl rfl rfl ?_
      | refine sk_load_g 0 rfl rfl rfl rfl rfl rfl rfl ?_
      | refine sk_load_g 1 rfl rfl rfl rfl rfl rfl rfl ?_
      | refine sk_load_g 2 rfl rfl rfl rfl rfl rfl rfl ?_
      | refine sk_load_g 3 rfl rfl rfl rfl rfl rfl rfl ?_
      | refine sk_load_g 4 rfl rfl rfl rfl rfl rfl rfl ?_
      | refine sk_load_g 5 rfl rfl rfl rfl rfl rfl rfl ?_
      | refine sk_eff rfl rfl ?_
      | refine sg_guard_yes rfl rfl ?_
      | refine sg_guard_nf rfl rfl rfl ?_
      | refine sg_guard_nt rfl rfl rfl ?_
      | refine sg_guard_nu rfl rfl rfl ?_
      | refine sk_back (fun w hO => hO) ?_
      | refine sg_store [] rfl rfl rfl (of_decide_eq_true rfl) ?_
      | refine sg_store [_] rfl rfl rfl (of_decide_eq_true rfl) ?_
      | refine sg_store [_, _] rfl rfl rfl (of_decide_eq_true rfl) ?_
      | refine sg_store [_, _, _] rfl rfl rfl (of_decide_eq_true rfl) ?_
      | refine sg_store [_, _, _, _] rfl rfl rfl (of_decide_eq_true rfl) ?_
      | refine sg_store [_, _, _, _, _] rfl rfl rfl (of_decide_eq_true rfl) ?_
      | refine sg_store [_, _, _, _, _, _] rfl rfl rfl (of_decide_eq_true rfl) ?_
      | refine sg_store [_, _, _, _, _, _, _] rfl rfl rfl (of_decide_eq_true rfl) ?_)
    repeat' (first
      | refine sg_wo ?_
      | refine sg_ps (ps_move rfl) rfl ?_
      | refine sg_ps (ps_assign rfl) rfl ?_
      | refine sg_seq ?_
      | refine sg_region ?_
      | refine sg_nil ?_
      | refine sg_then ?_
      | refine sg_ps (ps_fieldAddr rfl) rfl ?_
      | refine sg_ps (ps_nilCheck rfl) rfl ?_
      | refine sg_load 0 rfl rfl rfl rfl ?_
      | refine sg_load 1 rfl rfl rfl rfl ?_
      | refine sg_load 2 rfl rfl rfl rfl ?_
      | refine sg_load 3 rfl rfl rfl rfl ?_
      | refine sg_load 4 rfl rfl rfl rfl ?_
      | refine sg_load 5 rfl rfl rfl rfl ?_
      | refine sg_load 6 rfl rfl rfl rfl ?_
      | refine sg_load 7 rfl rfl rfl rfl ?_
      | refine sg_ps (ps_add64 rfl rfl (by omega)) rfl ?_
      | refine sg_ps (ps_sub64 rfl rfl (by omega)) rfl ?_
      | refine sg_ps (ps_mul64 rfl rfl (by omega)) rfl ?_
      | refine sg_ps (ps_bin rfl rfl inferInstance) rfl ?_
      | refine sg_ps (ps_rem rfl rfl (by decide)) rfl ?_
      | refine sg_ps (ps_quo64 rfl rfl (by decide) (by omega)) rfl ?_
      | refine sg_ps (ps_not rfl) rfl ?_
      | refine sg_ps (ps_conv rfl) rfl ?_
      | refine sg_ps (ps_shl rfl rfl (by decide) rfl) rfl ?_
      | refine sg_ps (ps_shr rfl rfl (by decide) rfl) rfl ?_
      | refine sg_cond_t rfl ?_
      | refine sg_cond_f rfl ?_
      | refine sg_guard_yes rfl rfl ?_
      | refine sg_guard_nf rfl rfl rfl ?_
      | refine sg_guard_nt rfl rfl rfl ?_
      | refine sg_guard_nu rfl rfl rfl ?_
      | refine sg_ps (ps_pick_t rfl rfl) rfl ?_
      | refine sg_ps (ps_pick_f rfl rfl) rfl ?_
      | refine sg_ps (ps_len rfl) rfl ?_
      | refine sg_ps (ps_len_str rfl) rfl ?_
      | refine sg_ps (ps_extract rfl rfl) rfl ?_
      | refine sg_ps (ps_field rfl rfl) rfl ?_
      | refine sg_ps (ps_min2 rfl rfl) rfl ?_
      | refine sg_ps (ps_max2 rfl rfl) rfl ?_
      | refine sg_ps (ps_build rfl rfl) rfl ?_
      | refine sg_box rfl rfl (fun bx => ?_)
      | refine sg_ps (ps_indexAddr rfl rfl rfl (by omega)) rfl ?_
      | refine sg_ps (ps_indexAddr (j := 0) rfl rfl rfl (by omega)) rfl ?_
      | refine sg_ps (ps_indexAddr (j := 1) rfl rfl rfl (by omega)) rfl ?_
      | refine sg_ps (ps_indexAddr_arr rfl rfl rfl (by omega)) rfl ?_
      | refine sg_block ?_
      | refine sg_skip ?_
      | refine sg_ret ?_
      | refine sg_exit ?_
      | refine ex_then_ret ?_
      | refine ex_then_exit ?_
      | refine ex_block_ret ?_
      | refine ex_block_normal ?_
      | refine ex_block_hit ?_
      | refine ex_block_miss rfl ?_
      | refine sg_store [] rfl rfl rfl (of_decide_eq_true rfl) ?_
      | refine sg_store [_] rfl rfl rfl (of_decide_eq_true rfl) ?_
      | refine sg_store [_, _] rfl rfl rfl (of_decide_eq_true rfl) ?_
      | refine sg_store [_, _, _] rfl rfl rfl (of_decide_eq_true rfl) ?_
      | refine sg_store [_, _, _, _] rfl rfl rfl (of_decide_eq_true rfl) ?_
      | refine sg_store [_, _, _, _, _] rfl rfl rfl (of_decide_eq_true rfl) ?_
      | refine sg_store [_, _, _, _, _, _] rfl rfl rfl (of_decide_eq_true rfl) ?_
      | refine sg_store [_, _, _, _, _, _, _] rfl rfl rfl (of_decide_eq_true rfl) ?_
      | (refine sg_guard_dec rfl rfl (fun hg => ?_) (fun hg => ?_) <;> first | (exfalso; omega) | (exact absurd rfl hg) | skip)
      | (refine sg_guard_ndec rfl rfl (fun hg => ?_) (fun hg => ?_) <;> first | (exfalso; omega) | (exact absurd rfl hg) | skip)
      | (refine sg_cond_dec rfl (fun hg => ?_) (fun hg => ?_) <;> first | (exfalso; omega) | (exact absurd rfl hg) | skip)
      | (refine sg_cond_ndec rfl (fun hg => ?_) (fun hg => ?_) <;> first | (exfalso; omega) | (exact absurd rfl hg) | skip)
      | refine sg_cond_not rfl (fun hg => ?_) (fun hg => ?_)
      | refine sg_cond rfl (fun hg => ?_) (fun hg => ?_))
    exact ex_ret1 rfl rfl () rfl trivial (fun w hO => RefIn.shut (RX.spoil hx) rfl hO)
  · have hbf : S.bad = false := by cases h : S.bad; rfl; exact absurd h hb
    rw [hbf]
    by_cases h0 : S.bs.length < 1
    · have e : S.flag = (false, S.spoil) := if_pos (.inr (.inl h0))
      rw [e]
      repeat' (first
        | refine sg_wo ?_
        | refine sg_ps (ps_move rfl) rfl ?_
        | refine sg_ps (ps_assign rfl) rfl ?_
        | refine sg_seq ?_
        | refine sg_region ?_
        | refine sg_nil ?_
        | refine sg_then ?_
        | refine sg_ps (ps_fieldAddr rfl) rfl ?_
        | refine sg_ps (ps_nilCheck rfl) rfl ?_
        | refine sg_load 0 rfl rfl rfl rfl ?_
        | refine sg_load 1 rfl rfl rfl rfl ?_
        | refine sg_load 2 rfl rfl rfl rfl ?_
        | refine sg_load 3 rfl rfl rfl rfl ?_
        | refine sg_load 4 rfl rfl rfl rfl ?_
        | refine sg_load 5 rfl rfl rfl rfl ?_
        | refine sg_load 6 rfl rfl rfl rfl ?_
        | refine sg_load 7 rfl rfl rfl rfl ?_
        | refine sg_ps (ps_add64 rfl rfl (by omega)) rfl ?_
        | refine sg_ps (ps_sub64 rfl rfl (by omega)) rfl ?_
        | refine sg_ps (ps_mul64 rfl rfl (by omega)) rfl ?_
        | refine sg_ps (ps_bin rfl rfl inferInstance) rfl ?_
        | refine sg_ps (ps_rem rfl rfl (by decide)) rfl ?_
        | refine sg_ps (ps_quo64 rfl rfl (by decide) (by omega)) rfl ?_
        | refine sg_ps (ps_not rfl) rfl ?_
        | refine sg_ps (ps_conv rfl) rfl ?_
        | refine sg_ps (ps_shl rfl rfl (by decide) rfl) rfl ?_
        | refine sg_ps (ps_shr rfl rfl (by decide) rfl) rfl ?_
        | refine sg_cond_t rfl ?_
        | refine sg_cond_f rfl ?_
        | refine sg_guard_yes rfl rfl ?_
        | refine sg_guard_nf rfl rfl rfl ?_
        | refine sg_guard_nt rfl rfl rfl ?_
        | refine sg_guard_nu rfl rfl rfl ?_
        | refine sg_ps (ps_pick_t rfl rfl) rfl ?_
        | refine sg_ps (ps_pick_f rfl rfl) rfl ?_
        | refine sg_ps (ps_len rfl) rfl ?_
        | refine sg_ps (ps_len_str rfl) rfl ?_
        | refine sg_ps (ps_extract rfl rfl) rfl ?_
        | refine sg_ps (ps_field rfl rfl) rfl ?_
        | refine sg_ps (ps_min2 rfl rfl) rfl ?_
        | refine sg_ps (ps_max2 rfl rfl) rfl ?_
        | refine sg_ps (ps_build rfl rfl) rfl ?_
        | refine sg_box rfl rfl (fun bx => ?_)
        | refine sg_ps (ps_indexAddr rfl rfl rfl (by omega)) rfl ?_
        | refine sg_ps (ps_indexAddr (j := 0) rfl rfl rfl (by omega)) rfl ?_
        | refine sg_ps (ps_indexAddr (j := 1) rfl rfl rfl (by omega)) rfl ?_
        | refine sg_ps (ps_indexAddr_arr rfl rfl rfl (by omega)) rfl ?_
        | refine sg_block ?_
        | refine sg_skip ?_
        | refine sg_ret ?_
        | refine sg_exit ?_
        | refine ex_then_ret ?_
        | refine ex_then_exit ?_
        | refine ex_block_ret ?_
        | refine ex_block_normal ?_
        | refine ex_block_hit ?_
        | refine ex_block_miss rfl ?_
        | refine sg_store [] rfl rfl rfl (of_decide_eq_true rfl) ?_
        | refine sg_store [_] rfl rfl rfl (of_decide_eq_true rfl) ?_
        | refine sg_store [_, _] rfl rfl rfl (of_decide_eq_true rfl) ?_
        | refine sg_store [_, _, _] rfl rfl rfl (of_decide_eq_true rfl) ?_
        | refine sg_store [_, _, _, _] rfl rfl rfl (of_decide_eq_true rfl) ?_
        | refine sg_store [_, _, _, _, _] rfl rfl rfl (of_decide_eq_true rfl) ?_
        | refine sg_store [_, _, _, _, _, _] rfl rfl rfl (of_decide_eq_true rfl) ?_
        | refine sg_store [_, _, _, _, _, _, _] rfl rfl rfl (of_decide_eq_true rfl) ?_
        | (refine sg_guard_dec rfl rfl (fun hg => ?_) (fun hg => ?_) <;> first | (exfalso; omega) | (exact absurd rfl hg) | skip)
        | (refine sg_guard_ndec rfl rfl (fun hg => ?_) (fun hg => ?_) <;> first | (exfalso; omega) | (exact absurd rfl hg) | skip)
        | (refine sg_cond_dec rfl (fun hg => ?_) (fun hg => ?_) <;> first | (exfalso; omega) | (exact absurd rfl hg) | skip)
        | (refine sg_cond_ndec rfl (fun hg => ?_) (fun hg => ?_) <;> first | (exfalso; omega) | (exact absurd rfl hg) | skip)
        | refine sg_cond_not rfl (fun hg => ?_) (fun hg => ?_)
        | refine sg_cond rfl (fun hg => ?_) (fun hg => ?_))
      refine sg_drawK (blk i (rcells a all.length c at_ false) :: rsl a (all.map bv) :: R) [0, 1, 2, 3, 4, 5, 6, 7, 8, 9, 10, 11, 12, 14, 15, 16, 13, 17, 18, 19, 20, 21] (by kernel_rfl) (by kernel_rfl) (fun w hO => hO) ?_
      repeat' (first
        | refine sk_nil ?_
        | refine sk_pure rfl rfl (ps_move rfl) rfl ?_
        | refine sk_pure rfl rfl (ps_assign rfl) rfl ?_
        | refine sk_pure rfl rfl (ps_nilCheck rfl) rfl ?_
        | refine sk_pure rfl rfl (ps_fieldAddr rfl) rfl ?_
        | refine sk_pure rfl rfl (ps_add64 rfl rfl (by omega)) rfl ?_
        | refine sk_pure rfl rfl (ps_sub64 rfl rfl (by omega)) rfl ?_
        | refine sk_pure rfl rfl (ps_mul64 rfl rfl (by omega)) rfl ?_
        | refine sk_pure rfl rfl (ps_bin rfl rfl inferInstance) rfl ?_
        | refine sk_pure rfl rfl (ps_rem rfl rfl (by decide)) rfl ?_
        | refine sk_pure rfl rfl (ps_not rfl) rfl ?_
        | refine sk_pure rfl rfl (ps_conv rfl) rfl ?_
        | refine sk_pure rfl rfl (ps_shl rfl rfl (by decide) rfl) rfl ?_
        | refine sk_pure rfl rfl (ps_shr rfl rfl (by decide) rfl) rfl ?_
        | refine sk_pure rfl rfl (ps_len rfl) rfl ?_
        | refine sk_pure rfl rfl (ps_len_str rfl) rfl ?_
        | refine sk_pure rfl rfl (ps_extract rfl rfl) rfl ?_
        | refine sk_pure rfl rfl (ps_field rfl rfl) rfl ?_
        | refine sk_pure rfl rfl (ps_build rfl rfl) rfl ?_
        | refine sk_pure rfl rfl (ps_indexAddr rfl rfl rfl (by omega)) rfl ?_
        | refine sk_pure rfl rfl (ps_indexAddr (j := 0) rfl rfl rfl (by omega)) rfl ?_
        | refine sk_pure rfl rfl (ps_indexAddr (j := 1) rfl rfl rfl (by omega)) rfl ?_
        | refine sk_pure rfl rfl (ps_pick_t rfl rfl) rfl ?_
        | refine sk_pure rfl rfl (ps_pick_f rfl rfl) rfl ?_
        | refine sk_pure rfl rfl (ps_min2 rfl rfl) rfl ?_
        | refine sk_pure rfl rfl (ps_max2 rfl rfl) rfl ?_
        | refine sk_pure rfl rfl (ps_indexAddr_arr rfl rfl rfl (by omega)) rfl ?_
        | refine sk_no rfl rfl rfl rfl rfl ?_
        | refine sk_pure_g rfl rfl rfl rfl (ps_move rfl) rfl ?_
        | refine sk_pure_g rfl rfl rfl rfl (ps_assign rfl) rfl ?_
        | refine sk_pure_g rfl rfl rfl rfl (ps_nilCheck rfl) rfl ?_
        | refine sk_pure_g rfl rfl rfl rfl (ps_fieldAddr rfl) rfl ?_
        | refine sk_pure_g rfl rfl rfl rfl (ps_add64 rfl rfl (by omega)) rfl ?_
        | refine sk_pure_g rfl rfl rfl rfl (ps_sub64 rfl rfl (by omega)) rfl ?_
        | refine sk_pure_g rfl rfl rfl rfl (ps_mul64 rfl rfl (by omega)) rfl ?_
        | refine sk_pure_g rfl rfl rfl rfl (ps_bin rfl rfl inferInstance) rfl ?_
        | refine sk_pure_g rfl rfl rfl rfl (ps_rem rfl rfl (by decide)) rfl ?_
        | refine sk_pure_g rfl rfl rfl rfl (ps_not rfl) rfl ?_
        | refine sk_pure_g rfl rfl rfl rfl (ps_conv rfl) rfl ?_
        | refine sk_pure_g rfl rfl rfl rfl (ps_shl rfl rfl (by decide) rfl) rfl ?_
        | refine sk_pure_g rfl rfl rfl rfl (ps_shr rfl rfl (by decide) rfl) rfl ?_
        | refine sk_pure_g rfl rfl rfl rfl (ps_len rfl) rfl ?_
        | refine sk_pure_g rfl rfl rfl rfl (ps_len_str rfl) rfl ?_
        | refine sk_pure_g rfl rfl rfl rfl (ps_extract rfl rfl) rfl ?_
        | refine sk_pure_g rfl rfl rfl rfl (ps_field rfl rfl) rfl ?_
        | refine sk_pure_g rfl rfl rfl rfl (ps_build rfl rfl) rfl ?_
        | refine sk_pure_g rfl rfl rfl rfl (ps_indexAddr rfl rfl rfl (by omega)) rfl ?_
        | refine sk_pure_g rfl rfl rfl rfl (ps_indexAddr (j := 0) rfl rfl rfl (by omega)) rfl ?_
        | refine sk_pure_g rfl rfl rfl rfl (ps_indexAddr (j := 1) rfl rfl rfl (by omega)) rfl ?_
        | refine sk_pure_g rfl rfl rfl rfl (ps_pick_t rfl rfl) rfl ?_
        | refine sk_pure_g rfl rfl rfl rfl (ps_pick_f rfl rfl) rfl ?_
        | refine sk_pure_g rfl rfl rfl rfl (ps_min2 rfl rfl) rfl ?_
        | refine sk_pure_g rfl rfl rfl rfl (ps_max2 rfl rfl) rfl ?_
        | refine sk_pure_g rfl rfl rfl rfl (ps_indexAddr_arr rfl rfl rfl (by omega)) rfl ?_
        | refine sk_load 0 rfl rfl rfl rfl rfl ?_
        | refine sk_load 1 rfl rfl rfl rfl rfl ?_
        | refine sk_load 2 rfl rfl rfl rfl rfl ?_
        | refine sk_load 3 rfl rfl rfl rfl rfl ?_
        | refine sk_load 4 rfl rfl rfl rfl rfl ?_
        | refine sk_load 5 rfl rfl rfl rfl rfl ?_
        | refine sk_load_g 0 rfl rfl rfl rfl rfl rfl rfl ?_
        | refine sk_load_g 1 rfl rfl rfl rfl rfl rfl rfl ?_
        | refine sk_load_g 2 rfl rfl rfl rfl rfl rfl rfl ?_
        | refine sk_load_g 3 rfl rfl rfl rfl rfl rfl rfl ?_
        | refine sk_load_g 4 rfl rfl rfl rfl rfl rfl rfl ?_
        | refine sk_load_g 5 rfl rfl rfl rfl rfl rfl rfl ?_
        | refine sk_eff rfl rfl ?_
        | refine sg_guard_yes rfl rfl ?_
        | refine sg_guard_nf rfl rfl rfl ?_
        | refine sg_guard_nt rfl rfl rfl ?_
        | refine sg_guard_nu rfl rfl rfl ?_
        | refine sk_back (fun w hO => hO) ?_
        | refine sg_store [] rfl rfl rfl (of_decide_eq_true rfl) ?_
        | refine sg_store [_] rfl rfl rfl (of_decide_eq_true rfl) ?_
        | refine sg_store [_, _] rfl rfl rfl (of_decide_eq_true rfl) ?_
        | refine sg_store [_, _, _] rfl rfl rfl (of_decide_eq_true rfl) ?_
        | refine sg_store [_, _, _, _] rfl rfl rfl (of_decide_eq_true rfl) ?_
        | refine sg_store [_, _, _, _, _] rfl rfl rfl (of_decide_eq_true rfl) ?_
        | refine sg_store [_, _, _, _, _, _] rfl rfl rfl (of_decide_eq_true rfl) ?_
        | refine sg_store [_, _, _, _, _, _, _] rfl rfl rfl (of_decide_eq_true rfl) ?_)
      refine sg_call (rLeft0 i a c all.length at_ hk hm false _) rfl rfl (fun _ _ => ?_)
      rw [← hl]
      repeat' (first
        | refine sk_nil ?_
        | refine sk_pure rfl rfl (ps_move rfl) rfl ?_
        | refine sk_pure rfl rfl (ps_assign rfl) rfl ?_
        | refine sk_pure rfl rfl (ps_nilCheck rfl) rfl ?_
        | refine sk_pure rfl rfl (ps_fieldAddr rfl) rfl ?_
        | refine sk_pure rfl rfl (ps_add64 rfl rfl (by omega)) rfl ?_
        | refine sk_pure rfl rfl (ps_sub64 rfl rfl (by omega)) rfl ?_
        | refine sk_pure rfl rfl (ps_mul64 rfl rfl (by omega)) rfl ?_
        | refine sk_pure rfl rfl (ps_bin rfl rfl inferInstance) rfl ?_
        | refine sk_pure rfl rfl (ps_rem rfl rfl (by decide)) rfl ?_
        | refine sk_pure rfl rfl (ps_not rfl) rfl ?_
        | refine sk_pure rfl rfl (ps_conv rfl) rfl ?_
        | refine sk_pure rfl rfl (ps_shl rfl rfl (by decide) rfl) rfl ?_
        | refine sk_pure rfl rfl (ps_shr rfl rfl (by decide) rfl) rfl ?_
        | refine sk_pure rfl rfl (ps_len rfl) rfl ?_
        | refine sk_pure rfl rfl (ps_len_str rfl) rfl ?_
        | refine sk_pure rfl rfl (ps_extract rfl rfl) rfl ?_
        | refine sk_pure rfl rfl (ps_field rfl rfl) rfl ?_
        | refine sk_pure rfl rfl (ps_build rfl rfl) rfl ?_
        | refine sk_pure rfl rfl (ps_indexAddr rfl rfl rfl (by omega)) rfl ?_
        | refine sk_pure rfl rfl (ps_indexAddr (j := 0) rfl rfl rfl (by omega)) rfl ?_
        | refine sk_pure rfl rfl (ps_indexAddr (j := 1) rfl rfl rfl (by omega)) rfl ?_
        | refine sk_pure rfl rfl (ps_pick_t rfl rfl) rfl ?_
        | refine sk_pure rfl rfl (ps_pick_f rfl rfl) rfl ?_
        | refine sk_pure rfl rfl (ps_min2 rfl rfl) rfl ?_
        | refine sk_pure rfl rfl (ps_max2 rfl rfl) rfl ?_
        | refine sk_pure rfl rfl (ps_indexAddr_arr rfl rfl rfl (by omega)) rfl ?_
        | refine sk_no rfl rfl rfl rfl rfl ?_
        | refine sk_pure_g rfl rfl rfl rfl (ps_move rfl) rfl ?_
        | refine sk_pure_g rfl rfl rfl rfl (ps_assign rfl) rfl ?_
        | refine sk_pure_g rfl rfl rfl rfl (ps_nilCheck rfl) rfl ?_
        | refine sk_pure_g rfl rfl rfl rfl (ps_fieldAddr rfl) rfl ?_
        | refine sk_pure_g rfl rfl rfl rfl (ps_add64 rfl rfl (by omega)) rfl ?_
        | refine sk_pure_g rfl rfl rfl rfl (ps_sub64 rfl rfl (by omega)) rfl ?_
        | refine sk_pure_g rfl rfl rfl rfl (ps_mul64 rfl rfl (by omega)) rfl ?_
        | refine sk_pure_g rfl rfl rfl rfl (ps_bin rfl rfl inferInstance) rfl ?_
        | refine sk_pure_g rfl rfl rfl rfl (ps_rem rfl rfl (by decide)) rfl ?_
        | refine sk_pure_g rfl rfl rfl rfl (ps_not rfl) rfl ?_
        | refine sk_pure_g rfl rfl rfl rfl (ps_conv rfl) rfl ?_
        | refine sk_pure_g rfl rfl rfl rfl (ps_shl rfl rfl (by decide) rfl) rfl ?_
        | refine sk_pure_g rfl rfl rfl rfl (ps_shr rfl rfl (by decide) rfl) rfl ?_
        | refine sk_pure_g rfl rfl rfl rfl (ps_len rfl) rfl ?_
        | refine sk_pure_g rfl rfl rfl rfl (ps_len_str rfl) rfl ?_
        | refine sk_pure_g rfl rfl rfl rfl (ps_extract rfl rfl) rfl ?_
        | refine sk_pure_g rfl rfl rfl rfl (ps_field rfl rfl) rfl ?_
        | refine sk_pure_g rfl rfl rfl rfl (ps_build rfl rfl) rfl ?_
        | refine sk_pure_g rfl rfl rfl rfl (ps_indexAddr rfl rfl rfl (by omega)) rfl ?_
        | refine sk_pure_g rfl rfl rfl rfl (ps_indexAddr (j := 0) rfl rfl rfl (by omega)) rfl ?_
        | refine sk_pure_g rfl rfl rfl rfl (ps_indexAddr (j := 1) rfl rfl rfl (by omega)) rfl ?_
        | refine sk_pure_g rfl rfl rfl rfl (ps_pick_t rfl rfl) rfl ?_
        | refine sk_pure_g rfl rfl rfl rfl (ps_pick_f rfl rfl) rfl ?_
        | refine sk_pure_g rfl rfl rfl rfl (ps_min2 rfl rfl) rfl ?_
        | refine sk_pure_g rfl rfl rfl rfl (ps_max2 rfl rfl) rfl ?_
        | refine sk_pure_g rfl rfl rfl rfl (ps_indexAddr_arr rfl rfl rfl (by omega)) rfl ?_
        | refine sk_load 0 rfl rfl rfl rfl rfl ?_
        | refine sk_load 1 rfl rfl rfl rfl rfl ?_
        | refine sk_load 2 rfl rfl rfl rfl rfl ?_
        | refine sk_load 3 rfl rfl rfl rfl rfl ?_
        | refine sk_load 4 rfl rfl rfl rfl rfl ?_
        | refine sk_load 5 rfl rfl rfl rfl rfl ?_
        | refine sk_load_g 0 rfl rfl rfl rfl rfl rfl rfl ?_
        | refine sk_load_g 1 rfl rfl rfl rfl rfl rfl rfl ?_
        | refine sk_load_g 2 rfl rfl rfl rfl rfl rfl rfl ?_
        | refine sk_load_g 3 rfl rfl rfl rfl rfl rfl rfl ?_
        | refine sk_load_g 4 rfl rfl rfl rfl rfl rfl rfl ?_
        | refine sk_load_g 5 rfl rfl rfl rfl rfl rfl rfl ?_
        | refine sk_eff rfl rfl ?_
        | refine sg_guard_yes rfl rfl ?_
        | refine sg_guard_nf rfl rfl rfl ?_
        | refine sg_guard_nt rfl rfl rfl ?_
        | refine sg_guard_nu rfl rfl rfl ?_
        | refine sk_back (fun w hO => hO) ?_
        | refine sg_store [] rfl rfl rfl (of_decide_eq_true rfl) ?_
        | refine sg_store [_] rfl rfl rfl (of_decide_eq_true rfl) ?_
        | refine sg_store [_, _] rfl rfl rfl (of_decide_eq_true rfl) ?_
        | refine sg_store [_, _, _] rfl rfl rfl (of_decide_eq_true rfl) ?_
        | refine sg_store [_, _, _, _] rfl rfl rfl (of_decide_eq_true rfl) ?_
        | refine sg_store [_, _, _, _, _] rfl rfl rfl (of_decide_eq_true rfl) ?_
        | refine sg_store [_, _, _, _, _, _] rfl rfl rfl (of_decide_eq_true rfl) ?_
        | refine sg_store [_, _, _, _, _, _, _] rfl rfl rfl (of_decide_eq_true rfl) ?_)
      refine sg_know 12 rfl (fun _ => ?_) (fun h => absurd (of_decide_eq_false h) (by omega))
      repeat' (first
        | refine sk_nil ?_
        | refine sk_pure rfl rfl (ps_move rfl) rfl ?_
        | refine sk_pure rfl rfl (ps_assign rfl) rfl ?_
        | refine sk_pure rfl rfl (ps_nilCheck rfl) rfl ?_
        | refine sk_pure rfl rfl (ps_fieldAddr rfl) rfl ?_
        | refine sk_pure rfl rfl (ps_add64 rfl rfl (by omega)) rfl ?_
        | refine sk_pure rfl rfl (ps_sub64 rfl rfl (by omega)) rfl ?_
        | refine sk_pure rfl rfl (ps_mul64 rfl rfl (by omega)) rfl ?_
        | refine sk_pure rfl rfl (ps_bin rfl rfl inferInstance) rfl ?_
        | refine sk_pure rfl rfl (ps_rem rfl rfl (by decide)) rfl ?_
        | refine sk_pure rfl rfl (ps_not rfl) rfl ?_
        | refine sk_pure rfl rfl (ps_conv rfl) rfl ?_
        | refine sk_pure rfl rfl (ps_shl rfl rfl (by decide) rfl) rfl ?_
        | refine sk_pure rfl rfl (ps_shr rfl rfl (by decide) rfl) rfl ?_
        | refine sk_pure rfl rfl (ps_len rfl) rfl ?_
        | refine sk_pure rfl rfl (ps_len_str rfl) rfl ?_
        | refine sk_pure rfl rfl (ps_extract rfl rfl) rfl ?_
        | refine sk_pure rfl rfl (ps_field rfl rfl) rfl ?_
        | refine sk_pure rfl rfl (ps_build rfl rfl) rfl ?_
        | refine sk_pure rfl rfl (ps_indexAddr rfl rfl rfl (by omega)) rfl ?_
        | refine sk_pure rfl rfl (ps_indexAddr (j := 0) rfl rfl rfl (by omega)) rfl ?_
        | refine sk_pure rfl rfl (ps_indexAddr (j := 1) rfl rfl rfl (by omega)) rfl ?_
        | refine sk_pure rfl rfl (ps_pick_t rfl rfl) rfl ?_
        | refine sk_pure rfl rfl (ps_pick_f rfl rfl) rfl ?_
        | refine sk_pure rfl rfl (ps_min2 rfl rfl) rfl ?_
        | refine sk_pure rfl rfl (ps_max2 rfl rfl) rfl ?_
        | refine sk_pure rfl rfl (ps_indexAddr_arr rfl rfl rfl (by omega)) rfl ?_
        | refine sk_no rfl rfl rfl rfl rfl ?_
        | refine sk_pure_g rfl rfl rfl rfl (ps_move rfl) rfl ?_
        | refine sk_pure_g rfl rfl rfl rfl (ps_assign rfl) rfl ?_
        | refine sk_pure_g rfl rfl rfl rfl (ps_nilCheck rfl) rfl ?_
        | refine sk_pure_g rfl rfl rfl rfl (ps_fieldAddr rfl) rfl ?_
        | refine sk_pure_g rfl rfl rfl rfl (ps_add64 rfl rfl (by omega)) rfl ?_
        | refine sk_pure_g rfl rfl rfl rfl (ps_sub64 rfl rfl (by omega)) rfl ?_
        | refine sk_pure_g rfl rfl rfl rfl (ps_mul64 rfl rfl (by omega)) rfl ?_
        | refine sk_pure_g rfl rfl rfl rfl (ps_bin rfl rfl inferInstance) rfl ?_
        | refine sk_pure_g rfl rfl rfl rfl (ps_rem rfl rfl (by decide)) rfl ?_
        | refine sk_pure_g rfl rfl rfl rfl (ps_not rfl) rfl ?_
        | refine sk_pure_g rfl rfl rfl rfl (ps_conv rfl) rfl ?_
        | refine sk_pure_g rfl rfl rfl rfl (ps_shl rfl rfl (by decide) rfl) rfl ?_
        | refine sk_pure_g rfl rfl rfl rfl (ps_shr rfl rfl (by decide) rfl) rfl ?_
        | refine sk_pure_g rfl rfl rfl rfl (ps_len rfl) rfl ?_
        | refine sk_pure_g rfl rfl rfl rfl (ps_len_str rfl) rfl ?_
        | refine sk_pure_g rfl rfl rfl rfl (ps_extract rfl rfl) rfl ?_
        | refine sk_pure_g rfl rfl rfl rfl (ps_field rfl rfl) rfl ?_
        | refine sk_pure_g rfl rfl rfl rfl (ps_build rfl rfl) rfl ?_
        | refine sk_pure_g rfl rfl rfl rfl (ps_indexAddr rfl rfl rfl (by omega)) rfl ?_
        | refine sk_pure_g rfl rfl rfl rfl (ps_indexAddr (j := 0) rfl rfl rfl (by omega)) rfl ?_
        | refine sk_pure_g rfl rfl rfl rfl (ps_indexAddr (j := 1) rfl rfl rfl (by omega)) rfl ?_
        | refine sk_pure_g rfl rfl rfl rfl (ps_pick_t rfl rfl) rfl ?_
        | refine sk_pure_g rfl rfl rfl rfl (ps_pick_f rfl rfl) rfl ?_
        | refine sk_pure_g rfl rfl rfl rfl (ps_min2 rfl rfl) rfl ?_
        | refine sk_pure_g rfl rfl rfl rfl (ps_max2 rfl rfl) rfl ?_
        | refine sk_pure_g rfl rfl rfl rfl (ps_indexAddr_arr rfl rfl rfl (by omega)) rfl ?_
        | refine sk_load 0 rfl rfl rfl rfl rfl ?_
        | refine sk_load 1 rfl rfl rfl rfl rfl ?_
        | refine sk_load 2 rfl rfl rfl rfl rfl ?_
        | refine sk_load 3 rfl rfl rfl rfl rfl ?_
        | refine sk_load 4 rfl rfl rfl rfl rfl ?_
        | refine sk_load 5 rfl rfl rfl rfl rfl ?_
        | refine sk_load_g 0 rfl rfl rfl rfl rfl rfl rfl ?_
        | refine sk_load_g 1 rfl rfl rfl rfl rfl rfl rfl ?_
        | refine sk_load_g 2 rfl rfl rfl rfl rfl rfl rfl ?_
        | refine sk_load_g 3 rfl rfl rfl rfl rfl rfl rfl ?_
        | refine sk_load_g 4 rfl rfl rfl rfl rfl rfl rfl ?_
        | refine sk_load_g 5 rfl rfl rfl rfl rfl rfl rfl ?_
        | refine sk_eff rfl rfl ?_
        | refine sg_guard_yes rfl rfl ?_
        | refine sg_guard_nf rfl rfl rfl ?_
        | refine sg_guard_nt rfl rfl rfl ?_
        | refine sg_guard_nu rfl rfl rfl ?_
        | refine sk_back (fun w hO => hO) ?_
        | refine sg_store [] rfl rfl rfl (of_decide_eq_true rfl) ?_
        | refine sg_store [_] rfl rfl rfl (of_decide_eq_true rfl) ?_
        | refine sg_store [_, _] rfl rfl rfl (of_decide_eq_true rfl) ?_
        | refine sg_store [_, _, _] rfl rfl rfl (of_decide_eq_true rfl) ?_
        | refine sg_store [_, _, _, _] rfl rfl rfl (of_decide_eq_true rfl) ?_
        | refine sg_store [_, _, _, _, _] rfl rfl rfl (of_decide_eq_true rfl) ?_
        | refine sg_store [_, _, _, _, _, _] rfl rfl rfl (of_decide_eq_true rfl) ?_
        | refine sg_store [_, _, _, _, _, _, _] rfl rfl rfl (of_decide_eq_true rfl) ?_)
      repeat' (first
        | refine sg_wo ?_
        | refine sg_ps (ps_move rfl) rfl ?_
        | refine sg_ps (ps_assign rfl) rfl ?_
        | refine sg_seq ?_
        | refine sg_region ?_
        | refine sg_nil ?_
        | refine sg_then ?_
        | refine sg_ps (ps_fieldAddr rfl) rfl ?_
        | refine sg_ps (ps_nilCheck rfl) rfl ?_
        | refine sg_load 0 rfl rfl rfl rfl ?_
        | refine sg_load 1 rfl rfl rfl rfl ?_
        | refine sg_load 2 rfl rfl rfl rfl ?_
        | refine sg_load 3 rfl rfl rfl rfl ?_
        | refine sg_load 4 rfl rfl rfl rfl ?_
        | refine sg_load 5 rfl rfl rfl rfl ?_
        | refine sg_load 6 rfl rfl rfl rfl ?_
        | refine sg_load 7 rfl rfl rfl rfl ?_
        | refine sg_ps (ps_add64 rfl rfl (by omega)) rfl ?_
        | refine sg_ps (ps_sub64 rfl rfl (by omega)) rfl ?_
        | refine sg_ps (ps_mul64 rfl rfl (by omega)) rfl ?_
        | refine sg_ps (ps_bin rfl rfl inferInstance) rfl ?_
        | refine sg_ps (ps_rem rfl rfl (by decide)) rfl ?_
        | refine sg_ps (ps_quo64 rfl rfl (by decide) (by omega)) rfl ?_
        | refine sg_ps (ps_not rfl) rfl ?_
        | refine sg_ps (ps_conv rfl) rfl ?_
        | refine sg_ps (ps_shl rfl rfl (by decide) rfl) rfl ?_
        | refine sg_ps (ps_shr rfl rfl (by decide) rfl) rfl ?_
        | refine sg_cond_t rfl ?_
        | refine sg_cond_f rfl ?_
        | refine sg_guard_yes rfl rfl ?_
        | refine sg_guard_nf rfl rfl rfl ?_
        | refine sg_guard_nt rfl rfl rfl ?_
        | refine sg_guard_nu rfl rfl rfl ?_
        | refine sg_ps (ps_pick_t rfl rfl) rfl ?_
        | refine sg_ps (ps_pick_f rfl rfl) rfl ?_
        | refine sg_ps (ps_len rfl) rfl ?_
        | refine sg_ps (ps_len_str rfl) rfl ?_
        | refine sg_ps (ps_extract rfl rfl) rfl ?_
        | refine sg_ps (ps_field rfl rfl) rfl ?_
        | refine sg_ps (ps_min2 rfl rfl) rfl ?_
        | refine sg_ps (ps_max2 rfl rfl) rfl ?_
        | refine sg_ps (ps_build rfl rfl) rfl ?_
        | refine sg_box rfl rfl (fun bx => ?_)
        | refine sg_ps (ps_indexAddr rfl rfl rfl (by omega)) rfl ?_
        | refine sg_ps (ps_indexAddr (j := 0) rfl rfl rfl (by omega)) rfl ?_
        | refine sg_ps (ps_indexAddr (j := 1) rfl rfl rfl (by omega)) rfl ?_
        | refine sg_ps (ps_indexAddr_arr rfl rfl rfl (by omega)) rfl ?_
        | refine sg_block ?_
        | refine sg_skip ?_
        | refine sg_ret ?_
        | refine sg_exit ?_
        | refine ex_then_ret ?_
        | refine ex_then_exit ?_
        | refine ex_block_ret ?_
        | refine ex_block_normal ?_
        | refine ex_block_hit ?_
        | refine ex_block_miss rfl ?_
        | refine sg_store [] rfl rfl rfl (of_decide_eq_true rfl) ?_
        | refine sg_store [_] rfl rfl rfl (of_decide_eq_true rfl) ?_
        | refine sg_store [_, _] rfl rfl rfl (of_decide_eq_true rfl) ?_
        | refine sg_store [_, _, _] rfl rfl rfl (of_decide_eq_true rfl) ?_
        | refine sg_store [_, _, _, _] rfl rfl rfl (of_decide_eq_true rfl) ?_
        | refine sg_store [_, _, _, _, _] rfl rfl rfl (of_decide_eq_true rfl) ?_
        | refine sg_store [_, _, _, _, _, _] rfl rfl rfl (of_decide_eq_true rfl) ?_
        | refine sg_store [_, _, _, _, _, _, _] rfl rfl rfl (of_decide_eq_true rfl) ?_
        | (refine sg_guard_dec rfl rfl (fun hg => ?_) (fun hg => ?_) <;> first | (exfalso; omega) | (exact absurd rfl hg) | skip)
        | (refine sg_guard_ndec rfl rfl (fun hg => ?_) (fun hg => ?_) <;> first | (exfalso; omega) | (exact absurd rfl hg) | skip)
        | (refine sg_cond_dec rfl (fun hg => ?_) (fun hg => ?_) <;> first | (exfalso; omega) | (exact absurd rfl hg) | skip)
        | (refine sg_cond_ndec rfl (fun hg => ?_) (fun hg => ?_) <;> first | (exfalso; omega) | (exact absurd rfl hg) | skip)
        | refine sg_cond_not rfl (fun hg => ?_) (fun hg => ?_)
        | refine sg_cond rfl (fun hg => ?_) (fun hg => ?_))
      exact ex_ret1 rfl rfl () rfl trivial (fun w hO => RefIn.shut (RX.spoil hx) rfl hO)
    · obtain ⟨h2, e2⟩ := RX.get hx (j := 0) (by omega)
      have hg0 := flag_get (S := S) (by omega)
      refine sg_rd_some (rd_rsl_self 1 rfl) (map_ne (by omega)) ?_
      rintro b o rfl
      have hr : ∀ kk, kk = at_ → Rd W (blk i (rcells (some ⟨b, o, none⟩) all.length c kk false) :: rsl (some ⟨b, o, none⟩) (all.map bv) :: R) (some ⟨b, o + at_ * 1, none⟩) [bv all[at_ + 0]] := fun kk _ => (rd_rsl_self 1 rfl).get at_ (bv_get (by omega))
      have hy := all[at_ + 0].toNat_lt
      repeat' (first
        | refine sg_wo ?_
        | refine sg_ps (ps_move rfl) rfl ?_
        | refine sg_ps (ps_assign rfl) rfl ?_
        | refine sg_seq ?_
        | refine sg_region ?_
        | refine sg_nil ?_
        | refine sg_then ?_
        | refine sg_ps (ps_fieldAddr rfl) rfl ?_
        | refine sg_ps (ps_nilCheck rfl) rfl ?_
        | refine sg_load 0 rfl rfl rfl rfl ?_
        | refine sg_load 1 rfl rfl rfl rfl ?_
        | refine sg_load 2 rfl rfl rfl rfl ?_
        | refine sg_load 3 rfl rfl rfl rfl ?_
        | refine sg_load 4 rfl rfl rfl rfl ?_
        | refine sg_load 5 rfl rfl rfl rfl ?_
        | refine sg_load 6 rfl rfl rfl rfl ?_
        | refine sg_load 7 rfl rfl rfl rfl ?_
        | refine sg_ps (ps_add64 rfl rfl (by omega)) rfl ?_
        | refine sg_ps (ps_sub64 rfl rfl (by omega)) rfl ?_
        | refine sg_ps (ps_mul64 rfl rfl (by omega)) rfl ?_
        | refine sg_ps (ps_bin rfl rfl inferInstance) rfl ?_
        | refine sg_ps (ps_rem rfl rfl (by decide)) rfl ?_
        | refine sg_ps (ps_quo64 rfl rfl (by decide) (by omega)) rfl ?_
        | refine sg_ps (ps_not rfl) rfl ?_
        | refine sg_ps (ps_conv rfl) rfl ?_
        | refine sg_ps (ps_shl rfl rfl (by decide) rfl) rfl ?_
        | refine sg_ps (ps_shr rfl rfl (by decide) rfl) rfl ?_
        | refine sg_cond_t rfl ?_
        | refine sg_cond_f rfl ?_
        | refine sg_guard_yes rfl rfl ?_
        | refine sg_guard_nf rfl rfl rfl ?_
        | refine sg_guard_nt rfl rfl rfl ?_
        | refine sg_guard_nu rfl rfl rfl ?_
        | refine sg_ps (ps_pick_t rfl rfl) rfl ?_
        | refine sg_ps (ps_pick_f rfl rfl) rfl ?_
        | refine sg_ps (ps_len rfl) rfl ?_
        | refine sg_ps (ps_len_str rfl) rfl ?_
        | refine sg_ps (ps_extract rfl rfl) rfl ?_
        | refine sg_ps (ps_field rfl rfl) rfl ?_
        | refine sg_ps (ps_min2 rfl rfl) rfl ?_
        | refine sg_ps (ps_max2 rfl rfl) rfl ?_
        | refine sg_ps (ps_build rfl rfl) rfl ?_
        | refine sg_box rfl rfl (fun bx => ?_)
        | refine sg_ps (ps_indexAddr rfl rfl rfl (by omega)) rfl ?_
        | refine sg_ps (ps_indexAddr (j := 0) rfl rfl rfl (by omega)) rfl ?_
        | refine sg_ps (ps_indexAddr (j := 1) rfl rfl rfl (by omega)) rfl ?_
        | refine sg_ps (ps_indexAddr_arr rfl rfl rfl (by omega)) rfl ?_
        | refine sg_block ?_
        | refine sg_skip ?_
        | refine sg_ret ?_
        | refine sg_exit ?_
        | refine ex_then_ret ?_
        | refine ex_then_exit ?_
        | refine ex_block_ret ?_
        | refine ex_block_normal ?_
        | refine ex_block_hit ?_
        | refine ex_block_miss rfl ?_
        | refine sg_store [] rfl rfl rfl (of_decide_eq_true rfl) ?_
        | refine sg_store [_] rfl rfl rfl (of_decide_eq_true rfl) ?_
        | refine sg_store [_, _] rfl rfl rfl (of_decide_eq_true rfl) ?_
        | refine sg_store [_, _, _] rfl rfl rfl (of_decide_eq_true rfl) ?_
        | refine sg_store [_, _, _, _] rfl rfl rfl (of_decide_eq_true rfl) ?_
        | refine sg_store [_, _, _, _, _] rfl rfl rfl (of_decide_eq_true rfl) ?_
        | refine sg_store [_, _, _, _, _, _] rfl rfl rfl (of_decide_eq_true rfl) ?_
        | refine sg_store [_, _, _, _, _, _, _] rfl rfl rfl (of_decide_eq_true rfl) ?_
        | (refine sg_guard_dec rfl rfl (fun hg => ?_) (fun hg => ?_) <;> first | (exfalso; omega) | (exact absurd rfl hg) | skip)
        | (refine sg_guard_ndec rfl rfl (fun hg => ?_) (fun hg => ?_) <;> first | (exfalso; omega) | (exact absurd rfl hg) | skip)
        | (refine sg_cond_dec rfl (fun hg => ?_) (fun hg => ?_) <;> first | (exfalso; omega) | (exact absurd rfl hg) | skip)
        | (refine sg_cond_ndec rfl (fun hg => ?_) (fun hg => ?_) <;> first | (exfalso; omega) | (exact absurd rfl hg) | skip)
        | refine sg_cond_not rfl (fun hg => ?_) (fun hg => ?_)
        | refine sg_cond rfl (fun hg => ?_) (fun hg => ?_))
      refine sg_drawK (blk i (rcells (some ⟨b, o, none⟩) all.length c at_ false) :: rsl (some ⟨b, o, none⟩) (all.map bv) :: R) [0, 1, 2, 3, 4, 5, 6, 7, 8, 9, 10, 11, 12, 14, 15, 16, 13, 17, 18, 19, 20, 21] (by kernel_rfl) (by kernel_rfl) (fun w hO => hO) ?_
      repeat' (first
        | refine sk_nil ?_
        | refine sk_pure rfl rfl (ps_move rfl) rfl ?_
        | refine sk_pure rfl rfl (ps_assign rfl) rfl ?_
        | refine sk_pure rfl rfl (ps_nilCheck rfl) rfl ?_
        | refine sk_pure rfl rfl (ps_fieldAddr rfl) rfl ?_
        | refine sk_pure rfl rfl (ps_add64 rfl rfl (by omega)) rfl ?_
        | refine sk_pure rfl rfl (ps_sub64 rfl rfl (by omega)) rfl ?_
        | refine sk_pure rfl rfl (ps_mul64 rfl rfl (by omega)) rfl ?_
        | refine sk_pure rfl rfl (ps_bin rfl rfl inferInstance) rfl ?_
        | refine sk_pure rfl rfl (ps_rem rfl rfl (by decide)) rfl ?_
        | refine sk_pure rfl rfl (ps_not rfl) rfl ?_
        | refine sk_pure rfl rfl (ps_conv rfl) rfl ?_
        | refine sk_pure rfl rfl (ps_shl rfl rfl (by decide) rfl) rfl ?_
        | refine sk_pure rfl rfl (ps_shr rfl rfl (by decide) rfl) rfl ?_
        | refine sk_pure rfl rfl (ps_len rfl) rfl ?_
        | refine sk_pure rfl rfl (ps_len_str rfl) rfl ?_
        | refine sk_pure rfl rfl (ps_extract rfl rfl) rfl ?_
        | refine sk_pure rfl rfl (ps_field rfl rfl) rfl ?_
        | refine sk_pure rfl rfl (ps_build rfl rfl) rfl ?_
        | refine sk_pure rfl rfl (ps_indexAddr rfl rfl rfl (by omega)) rfl ?_
        | refine sk_pure rfl rfl (ps_indexAddr (j := 0) rfl rfl rfl (by omega)) rfl ?_
        | refine sk_pure rfl rfl (ps_indexAddr (j := 1) rfl rfl rfl (by omega)) rfl ?_
        | refine sk_pure rfl rfl (ps_pick_t rfl rfl) rfl ?_
        | refine sk_pure rfl rfl (ps_pick_f rfl rfl) rfl ?_
        | refine sk_pure rfl rfl (ps_min2 rfl rfl) rfl ?_
        | refine sk_pure rfl rfl (ps_max2 rfl rfl) rfl ?_
        | refine sk_pure rfl rfl (ps_indexAddr_arr rfl rfl rfl (by omega)) rfl ?_
        | refine sk_no rfl rfl rfl rfl rfl ?_
        | refine sk_pure_g rfl rfl rfl rfl (ps_move rfl) rfl ?_
        | refine sk_pure_g rfl rfl rfl rfl (ps_assign rfl) rfl ?_
        | refine sk_pure_g rfl rfl rfl rfl (ps_nilCheck rfl) rfl ?_
        | refine sk_pure_g rfl rfl rfl rfl (ps_fieldAddr rfl) rfl ?_
        | refine sk_pure_g rfl rfl rfl rfl (ps_add64 rfl rfl (by omega)) rfl ?_
        | refine sk_pure_g rfl rfl rfl rfl (ps_sub64 rfl rfl (by omega)) rfl ?_
        | refine sk_pure_g rfl rfl rfl rfl (ps_mul64 rfl rfl (by omega)) rfl ?_
        | refine sk_pure_g rfl rfl rfl rfl (ps_bin rfl rfl inferInstance) rfl ?_
        | refine sk_pure_g rfl rfl rfl rfl (ps_rem rfl rfl (by decide)) rfl ?_
        | refine sk_pure_g rfl rfl rfl rfl (ps_not rfl) rfl ?_
        | refine sk_pure_g rfl rfl rfl rfl (ps_conv rfl) rfl ?_
        | refine sk_pure_g rfl rfl rfl rfl (ps_shl rfl rfl (by decide) rfl) rfl ?_
        | refine sk_pure_g rfl rfl rfl rfl (ps_shr rfl rfl (by decide) rfl) rfl ?_
        | refine sk_pure_g rfl rfl rfl rfl (ps_len rfl) rfl ?_
        | refine sk_pure_g rfl rfl rfl rfl (ps_len_str rfl) rfl ?_
        | refine sk_pure_g rfl rfl rfl rfl (ps_extract rfl rfl) rfl ?_
        | refine sk_pure_g rfl rfl rfl rfl (ps_field rfl rfl) rfl ?_
        | refine sk_pure_g rfl rfl rfl rfl (ps_build rfl rfl) rfl ?_
        | refine sk_pure_g rfl rfl rfl rfl (ps_indexAddr rfl rfl rfl (by omega)) rfl ?_
        | refine sk_pure_g rfl rfl rfl rfl (ps_indexAddr (j := 0) rfl rfl rfl (by omega)) rfl ?_
        | refine sk_pure_g rfl rfl rfl rfl (ps_indexAddr (j := 1) rfl rfl rfl (by omega)) rfl ?_
        | refine sk_pure_g rfl rfl rfl rfl (ps_pick_t rfl rfl) rfl ?_
        | refine sk_pure_g rfl rfl rfl rfl (ps_pick_f rfl rfl) rfl ?_
        | refine sk_pure_g rfl rfl rfl rfl (ps_min2 rfl rfl) rfl ?_
        | refine sk_pure_g rfl rfl rfl rfl (ps_max2 rfl rfl) rfl ?_
        | refine sk_pure_g rfl rfl rfl rfl (ps_indexAddr_arr rfl rfl rfl (by omega)) rfl ?_
        | refine sk_load 0 rfl rfl rfl rfl rfl ?_
        | refine sk_load 1 rfl rfl rfl rfl rfl ?_
        | refine sk_load 2 rfl rfl rfl rfl rfl ?_
        | refine sk_load 3 rfl rfl rfl rfl rfl ?_
        | refine sk_load 4 rfl rfl rfl rfl rfl ?_
        | refine sk_load 5 rfl rfl rfl rfl rfl ?_
        | refine sk_load_g 0 rfl rfl rfl rfl rfl rfl rfl ?_
        | refine sk_load_g 1 rfl rfl rfl rfl rfl rfl rfl ?_
        | refine sk_load_g 2 rfl rfl rfl rfl rfl rfl rfl ?_
        | refine sk_load_g 3 rfl rfl rfl rfl rfl rfl rfl ?_
        | refine sk_load_g 4 rfl rfl rfl rfl rfl rfl rfl ?_
        | refine sk_load_g 5 rfl rfl rfl rfl rfl rfl rfl ?_
        | refine sk_eff rfl rfl ?_
        | refine sg_guard_yes rfl rfl ?_
        | refine sg_guard_nf rfl rfl rfl ?_
        | refine sg_guard_nt rfl rfl rfl ?_
        | refine sg_guard_nu rfl rfl rfl ?_
        | refine sk_back (fun w hO => hO) ?_
        | refine sg_store [] rfl rfl rfl (of_decide_eq_true rfl) ?_
        | refine sg_store [_] rfl rfl rfl (of_decide_eq_true rfl) ?_
        | refine sg_store [_, _] rfl rfl rfl (of_decide_eq_true rfl) ?_
        | refine sg_store [_, _, _] rfl rfl rfl (of_decide_eq_true rfl) ?_
        | refine sg_store [_, _, _, _] rfl rfl rfl (of_decide_eq_true rfl) ?_
        | refine sg_store [_, _, _, _, _] rfl rfl rfl (of_decide_eq_true rfl) ?_
        | refine sg_store [_, _, _, _, _, _] rfl rfl rfl (of_decide_eq_true rfl) ?_
        | refine sg_store [_, _, _, _, _, _, _] rfl rfl rfl (of_decide_eq_true rfl) ?_)
      refine sg_call (rLeft0 i (some ⟨b, o, none⟩) c all.length at_ hk hm false _) rfl rfl (fun _ _ => ?_)
      rw [← hl]
      repeat' (first
        | refine sk_nil ?_
        | refine sk_pure rfl rfl (ps_move rfl) rfl ?_
        | refine sk_pure rfl rfl (ps_assign rfl) rfl ?_
        | refine sk_pure rfl rfl (ps_nilCheck rfl) rfl ?_
        | refine sk_pure rfl rfl (ps_fieldAddr rfl) rfl ?_
        | refine sk_pure rfl rfl (ps_add64 rfl rfl (by omega)) rfl ?_
        | refine sk_pure rfl rfl (ps_sub64 rfl rfl (by omega)) rfl ?_
        | refine sk_pure rfl rfl (ps_mul64 rfl rfl (by omega)) rfl ?_
        | refine sk_pure rfl rfl (ps_bin rfl rfl inferInstance) rfl ?_
        | refine sk_pure rfl rfl (ps_rem rfl rfl (by decide)) rfl ?_
        | refine sk_pure rfl rfl (ps_not rfl) rfl ?_
        | refine sk_pure rfl rfl (ps_conv rfl) rfl ?_
        | refine sk_pure rfl rfl (ps_shl rfl rfl (by decide) rfl) rfl ?_
        | refine sk_pure rfl rfl (ps_shr rfl rfl (by decide) rfl) rfl ?_
        | refine sk_pure rfl rfl (ps_len rfl) rfl ?_
        | refine sk_pure rfl rfl (ps_len_str rfl) rfl ?_
        | refine sk_pure rfl rfl (ps_extract rfl rfl) rfl ?_
        | refine sk_pure rfl rfl (ps_field rfl rfl) rfl ?_
        | refine sk_pure rfl rfl (ps_build rfl rfl) rfl ?_
        | refine sk_pure rfl rfl (ps_indexAddr rfl rfl rfl (by omega)) rfl ?_
        | refine sk_pure rfl rfl (ps_indexAddr (j := 0) rfl rfl rfl (by omega)) rfl ?_
        | refine sk_pure rfl rfl (ps_indexAddr (j := 1) rfl rfl rfl (by omega)) rfl ?_
        | refine sk_pure rfl rfl (ps_pick_t rfl rfl) rfl ?_
        | refine sk_pure rfl rfl (ps_pick_f rfl rfl) rfl ?_
        | refine sk_pure rfl rfl (ps_min2 rfl rfl) rfl ?_
        | refine sk_pure rfl rfl (ps_max2 rfl rfl) rfl ?_
        | refine sk_pure rfl rfl (ps_indexAddr_arr rfl rfl rfl (by omega)) rfl ?_
        | refine sk_no rfl rfl rfl rfl rfl ?_
        | refine sk_pure_g rfl rfl rfl rfl (ps_move rfl) rfl ?_
        | refine sk_pure_g rfl rfl rfl rfl (ps_assign rfl) rfl ?_
        | refine sk_pure_g rfl rfl rfl rfl (ps_nilCheck rfl) rfl ?_
        | refine sk_pure_g rfl rfl rfl rfl (ps_fieldAddr rfl) rfl ?_
        | refine sk_pure_g rfl rfl rfl rfl (ps_add64 rfl rfl (by omega)) rfl ?_
        | refine sk_pure_g rfl rfl rfl rfl (ps_sub64 rfl rfl (by omega)) rfl ?_
        | refine sk_pure_g rfl rfl rfl rfl (ps_mul64 rfl rfl (by omega)) rfl ?_
        | refine sk_pure_g rfl rfl rfl rfl (ps_bin rfl rfl inferInstance) rfl ?_
        | refine sk_pure_g rfl rfl rfl rfl (ps_rem rfl rfl (by decide)) rfl ?_
        | refine sk_pure_g rfl rfl rfl rfl (ps_not rfl) rfl ?_
        | refine sk_pure_g rfl rfl rfl rfl (ps_conv rfl) rfl ?_
        | refine sk_pure_g rfl rfl rfl rfl (ps_shl rfl rfl (by decide) rfl) rfl ?_
        | refine sk_pure_g rfl rfl rfl rfl (ps_shr rfl rfl (by decide) rfl) rfl ?_
        | refine sk_pure_g rfl rfl rfl rfl (ps_len rfl) rfl ?_
        | refine sk_pure_g rfl rfl rfl rfl (ps_len_str rfl) rfl ?_
        | refine sk_pure_g rfl rfl rfl rfl (ps_extract rfl rfl) rfl ?_
        | refine sk_pure_g rfl rfl rfl rfl (ps_field rfl rfl) rfl ?_
        | refine sk_pure_g rfl rfl rfl rfl (ps_build rfl rfl) rfl ?_
        | refine sk_pure_g rfl rfl rfl rfl (ps_indexAddr rfl rfl rfl (by omega)) rfl ?_
        | refine sk_pure_g rfl rfl rfl rfl (ps_indexAddr (j := 0) rfl rfl rfl (by omega)) rfl ?_
        | refine sk_pure_g rfl rfl rfl rfl (ps_indexAddr (j := 1) rfl rfl rfl (by omega)) rfl ?_
        | refine sk_pure_g rfl rfl rfl rfl (ps_pick_t rfl rfl) rfl ?_
        | refine sk_pure_g rfl rfl rfl rfl (ps_pick_f rfl rfl) rfl ?_
        | refine sk_pure_g rfl rfl rfl rfl (ps_min2 rfl rfl) rfl ?_
        | refine sk_pure_g rfl rfl rfl rfl (ps_max2 rfl rfl) rfl ?_
        | refine sk_pure_g rfl rfl rfl rfl (ps_indexAddr_arr rfl rfl rfl (by omega)) rfl ?_
        | refine sk_load 0 rfl rfl rfl rfl rfl ?_
        | refine sk_load 1 rfl rfl rfl rfl rfl ?_
        | refine sk_load 2 rfl rfl rfl rfl rfl ?_
        | refine sk_load 3 rfl rfl rfl rfl rfl ?_
        | refine sk_load 4 rfl rfl rfl rfl rfl ?_
        | refine sk_load 5 rfl rfl rfl rfl rfl ?_
        | refine sk_load_g 0 rfl rfl rfl rfl rfl rfl rfl ?_
        | refine sk_load_g 1 rfl rfl rfl rfl rfl rfl rfl ?_
        | refine sk_load_g 2 rfl rfl rfl rfl rfl rfl rfl ?_
        | refine sk_load_g 3 rfl rfl rfl rfl rfl rfl rfl ?_
        | refine sk_load_g 4 rfl rfl rfl rfl rfl rfl rfl ?_
        | refine sk_load_g 5 rfl rfl rfl rfl rfl rfl rfl ?_
        | refine sk_eff rfl rfl ?_
        | refine sg_guard_yes rfl rfl ?_
        | refine sg_guard_nf rfl rfl rfl ?_
        | refine sg_guard_nt rfl rfl rfl ?_
        | refine sg_guard_nu rfl rfl rfl ?_
        | refine sk_back (fun w hO => hO) ?_
        | refine sg_store [] rfl rfl rfl (of_decide_eq_true rfl) ?_
        | refine sg_store [_] rfl rfl rfl (of_decide_eq_true rfl) ?_
        | refine sg_store [_, _] rfl rfl rfl (of_decide_eq_true rfl) ?_
        | refine sg_store [_, _, _] rfl rfl rfl (of_decide_eq_true rfl) ?_
        | refine sg_store [_, _, _, _] rfl rfl rfl (of_decide_eq_true rfl) ?_
        | refine sg_store [_, _, _, _, _] rfl rfl rfl (of_decide_eq_true rfl) ?_
        | refine sg_store [_, _, _, _, _, _] rfl rfl rfl (of_decide_eq_true rfl) ?_
        | refine sg_store [_, _, _, _, _, _, _] rfl rfl rfl (of_decide_eq_true rfl) ?_)
      refine sg_know 12 rfl (fun h => absurd (of_decide_eq_true h) (by omega)) (fun _ => ?_)
      repeat' (first
        | refine sk_nil ?_
        | refine sk_pure rfl rfl (ps_move rfl) rfl ?_
        | refine sk_pure rfl rfl (ps_assign rfl) rfl ?_
        | refine sk_pure rfl rfl (ps_nilCheck rfl) rfl ?_
        | refine sk_pure rfl rfl (ps_fieldAddr rfl) rfl ?_
        | refine sk_pure rfl rfl (ps_add64 rfl rfl (by omega)) rfl ?_
        | refine sk_pure rfl rfl (ps_sub64 rfl rfl (by omega)) rfl ?_
        | refine sk_pure rfl rfl (ps_mul64 rfl rfl (by omega)) rfl ?_
        | refine sk_pure rfl rfl (ps_bin rfl rfl inferInstance) rfl ?_
        | refine sk_pure rfl rfl (ps_rem rfl rfl (by decide)) rfl ?_
        | refine sk_pure rfl rfl (ps_not rfl) rfl ?_
        | refine sk_pure rfl rfl (ps_conv rfl) rfl ?_
        | refine sk_pure rfl rfl (ps_shl rfl rfl (by decide) rfl) rfl ?_
        | refine sk_pure rfl rfl (ps_shr rfl rfl (by decide) rfl) rfl ?_
        | refine sk_pure rfl rfl (ps_len rfl) rfl ?_
        | refine sk_pure rfl rfl (ps_len_str rfl) rfl ?_
        | refine sk_pure rfl rfl (ps_extract rfl rfl) rfl ?_
        | refine sk_pure rfl rfl (ps_field rfl rfl) rfl ?_
        | refine sk_pure rfl rfl (ps_build rfl rfl) rfl ?_
        | refine sk_pure rfl rfl (ps_indexAddr rfl rfl rfl (by omega)) rfl ?_
        | refine sk_pure rfl rfl (ps_indexAddr (j := 0) rfl rfl rfl (by omega)) rfl ?_
        | refine sk_pure rfl rfl (ps_indexAddr (j := 1) rfl rfl rfl (by omega)) rfl ?_
        | refine sk_pure rfl rfl (ps_pick_t rfl rfl) rfl ?_
        | refine sk_pure rfl rfl (ps_pick_f rfl rfl) rfl ?_
        | refine sk_pure rfl rfl (ps_min2 rfl rfl) rfl ?_
        | refine sk_pure rfl rfl (ps_max2 rfl rfl) rfl ?_
        | refine sk_pure rfl rfl (ps_indexAddr_arr rfl rfl rfl (by omega)) rfl ?_
        | refine sk_no rfl rfl rfl rfl rfl ?_
        | refine sk_pure_g rfl rfl rfl rfl (ps_move rfl) rfl ?_
        | refine sk_pure_g rfl rfl rfl rfl (ps_assign rfl) rfl ?_
        | refine sk_pure_g rfl rfl rfl rfl (ps_nilCheck rfl) rfl ?_
        | refine sk_pure_g rfl rfl rfl rfl (ps_fieldAddr rfl) rfl ?_
        | refine sk_pure_g rfl rfl rfl rfl (ps_add64 rfl rfl (by omega)) rfl ?_
        | refine sk_pure_g rfl rfl rfl rfl (ps_sub64 rfl rfl (by omega)) rfl ?_
        | refine sk_pure_g rfl rfl rfl rfl (ps_mul64 rfl rfl (by omega)) rfl ?_
        | refine sk_pure_g rfl rfl rfl rfl (ps_bin rfl rfl inferInstance) rfl ?_
        | refine sk_pure_g rfl rfl rfl rfl (ps_rem rfl rfl (by decide)) rfl ?_
        | refine sk_pure_g rfl rfl rfl rfl (ps_not rfl) rfl ?_
        | refine sk_pure_g rfl rfl rfl rfl (ps_conv rfl) rfl ?_
        | refine sk_pure_g rfl rfl rfl rfl (ps_shl rfl rfl (by decide) rfl) rfl ?_
        | refine sk_pure_g rfl rfl rfl rfl (ps_shr rfl rfl (by decide) rfl) rfl ?_
        | refine sk_pure_g rfl rfl rfl rfl (ps_len rfl) rfl ?_
        | refine sk_pure_g rfl rfl rfl rfl (ps_len_str rfl) rfl ?_
        | refine sk_pure_g rfl rfl rfl rfl (ps_extract rfl rfl) rfl ?_
        | refine sk_pure_g rfl rfl rfl rfl (ps_field rfl rfl) rfl ?_
        | refine sk_pure_g rfl rfl rfl rfl (ps_build rfl rfl) rfl ?_
        | refine sk_pure_g rfl rfl rfl rfl (ps_indexAddr rfl rfl rfl (by omega)) rfl ?_
        | refine sk_pure_g rfl rfl rfl rfl (ps_indexAddr (j := 0) rfl rfl rfl (by omega)) rfl ?_
        | refine sk_pure_g rfl rfl rfl rfl (ps_indexAddr (j := 1) rfl rfl rfl (by omega)) rfl ?_
        | refine sk_pure_g rfl rfl rfl rfl (ps_pick_t rfl rfl) rfl ?_
        | refine sk_pure_g rfl rfl rfl rfl (ps_pick_f rfl rfl) rfl ?_
        | refine sk_pure_g rfl rfl rfl rfl (ps_min2 rfl rfl) rfl ?_
        | refine sk_pure_g rfl rfl rfl rfl (ps_max2 rfl rfl) rfl ?_
        | refine sk_pure_g rfl rfl rfl rfl (ps_indexAddr_arr rfl rfl rfl (by omega)) rfl ?_
        | refine sk_load 0 rfl rfl rfl rfl rfl ?_
        | refine sk_load 1 rfl rfl rfl rfl rfl ?_
        | refine sk_load 2 rfl rfl rfl rfl rfl ?_
        | refine sk_load 3 rfl rfl rfl rfl rfl ?_
        | refine sk_load 4 rfl rfl rfl rfl rfl ?_
        | refine sk_load 5 rfl rfl rfl rfl rfl ?_
        | refine sk_load_g 0 rfl rfl rfl rfl rfl rfl rfl ?_
        | refine sk_load_g 1 rfl rfl rfl rfl rfl rfl rfl ?_
        | refine sk_load_g 2 rfl rfl rfl rfl rfl rfl rfl ?_
        | refine sk_load_g 3 rfl rfl rfl rfl rfl rfl rfl ?_
        | refine sk_load_g 4 rfl rfl rfl rfl rfl rfl rfl ?_
        | refine sk_load_g 5 rfl rfl rfl rfl rfl rfl rfl ?_
        | refine sk_eff rfl rfl ?_
        | refine sg_guard_yes rfl rfl ?_
        | refine sg_guard_nf rfl rfl rfl ?_
        | refine sg_guard_nt rfl rfl rfl ?_
        | refine sg_guard_nu rfl rfl rfl ?_
        | refine sk_back (fun w hO => hO) ?_
        | refine sg_store [] rfl rfl rfl (of_decide_eq_true rfl) ?_
        | refine sg_store [_] rfl rfl rfl (of_decide_eq_true rfl) ?_
        | refine sg_store [_, _] rfl rfl rfl (of_decide_eq_true rfl) ?_
        | refine sg_store [_, _, _] rfl rfl rfl (of_decide_eq_true rfl) ?_
        | refine sg_store [_, _, _, _] rfl rfl rfl (of_decide_eq_true rfl) ?_
        | refine sg_store [_, _, _, _, _] rfl rfl rfl (of_decide_eq_true rfl) ?_
        | refine sg_store [_, _, _, _, _, _] rfl rfl rfl (of_decide_eq_true rfl) ?_
        | refine sg_store [_, _, _, _, _, _, _] rfl rfl rfl (of_decide_eq_true rfl) ?_)
      refine sk_load_rd_g rfl rfl rfl rfl (hr at_ rfl) rfl ?_
      repeat' (first
        | refine sk_nil ?_
        | refine sk_pure rfl rfl (ps_move rfl) rfl ?_
        | refine sk_pure rfl rfl (ps_assign rfl) rfl ?_
        | refine sk_pure rfl rfl (ps_nilCheck rfl) rfl ?_
        | refine sk_pure rfl rfl (ps_fieldAddr rfl) rfl ?_
        | refine sk_pure rfl rfl (ps_add64 rfl rfl (by omega)) rfl ?_
        | refine sk_pure rfl rfl (ps_sub64 rfl rfl (by omega)) rfl ?_
        | refine sk_pure rfl rfl (ps_mul64 rfl rfl (by omega)) rfl ?_
        | refine sk_pure rfl rfl (ps_bin rfl rfl inferInstance) rfl ?_
        | refine sk_pure rfl rfl (ps_rem rfl rfl (by decide)) rfl ?_
        | refine sk_pure rfl rfl (ps_not rfl) rfl ?_
        | refine sk_pure rfl rfl (ps_conv rfl) rfl ?_
        | refine sk_pure rfl rfl (ps_shl rfl rfl (by decide) rfl) rfl ?_
        | refine sk_pure rfl rfl (ps_shr rfl rfl (by decide) rfl) rfl ?_
        | refine sk_pure rfl rfl (ps_len rfl) rfl ?_
        | refine sk_pure rfl rfl (ps_len_str rfl) rfl ?_
        | refine sk_pure rfl rfl (ps_extract rfl rfl) rfl ?_
        | refine sk_pure rfl rfl (ps_field rfl rfl) rfl ?_
        | refine sk_pure rfl rfl (ps_build rfl rfl) rfl ?_
        | refine sk_pure rfl rfl (ps_indexAddr rfl rfl rfl (by omega)) rfl ?_
        | refine sk_pure rfl rfl (ps_indexAddr (j := 0) rfl rfl rfl (by omega)) rfl ?_
        | refine sk_pure rfl rfl (ps_indexAddr (j := 1) rfl rfl rfl (by omega)) rfl ?_
        | refine sk_pure rfl rfl (ps_pick_t rfl rfl) rfl ?_
        | refine sk_pure rfl rfl (ps_pick_f rfl rfl) rfl ?_
        | refine sk_pure rfl rfl (ps_min2 rfl rfl) rfl ?_
        | refine sk_pure rfl rfl (ps_max2 rfl rfl) rfl ?_
        | refine sk_pure rfl rfl (ps_indexAddr_arr rfl rfl rfl (by omega)) rfl ?_
        | refine sk_no rfl rfl rfl rfl rfl ?_
        | refine sk_pure_g rfl rfl rfl rfl (ps_move rfl) rfl ?_
        | refine sk_pure_g rfl rfl rfl rfl (ps_assign rfl) rfl ?_
        | refine sk_pure_g rfl rfl rfl rfl (ps_nilCheck rfl) rfl ?_
        | refine sk_pure_g rfl rfl rfl rfl (ps_fieldAddr rfl) rfl ?_
        | refine sk_pure_g rfl rfl rfl rfl (ps_add64 rfl rfl (by omega)) rfl ?_
        | refine sk_pure_g rfl rfl rfl rfl (ps_sub64 rfl rfl (by omega)) rfl ?_
        | refine sk_pure_g rfl rfl rfl rfl (ps_mul64 rfl rfl (by omega)) rfl ?_
        | refine sk_pure_g rfl rfl rfl rfl (ps_bin rfl rfl inferInstance) rfl ?_
        | refine sk_pure_g rfl rfl rfl rfl (ps_rem rfl rfl (by decide)) rfl ?_
        | refine sk_pure_g rfl rfl rfl rfl (ps_not rfl) rfl ?_
        | refine sk_pure_g rfl rfl rfl rfl (ps_conv rfl) rfl ?_
        | refine sk_pure_g rfl rfl rfl rfl (ps_shl rfl rfl (by decide) rfl) rfl ?_
        | refine sk_pure_g rfl rfl rfl rfl (ps_shr rfl rfl (by decide) rfl) rfl ?_
        | refine sk_pure_g rfl rfl rfl rfl (ps_len rfl) rfl ?_
        | refine sk_pure_g rfl rfl rfl rfl (ps_len_str rfl) rfl ?_
        | refine sk_pure_g rfl rfl rfl rfl (ps_extract rfl rfl) rfl ?_
        | refine sk_pure_g rfl rfl rfl rfl (ps_field rfl rfl) rfl ?_
        | refine sk_pure_g rfl rfl rfl rfl (ps_build rfl rfl) rfl ?_
        | refine sk_pure_g rfl rfl rfl rfl (ps_indexAddr rfl rfl rfl (by omega)) rfl ?_
        | refine sk_pure_g rfl rfl rfl rfl (ps_indexAddr (j := 0) rfl rfl rfl (by omega)) rfl ?_
        | refine sk_pure_g rfl rfl rfl rfl (ps_indexAddr (j := 1) rfl rfl rfl (by omega)) rfl ?_
        | refine sk_pure_g rfl rfl rfl rfl (ps_pick_t rfl rfl) rfl ?_
        | refine sk_pure_g rfl rfl rfl rfl (ps_pick_f rfl rfl) rfl ?_
        | refine sk_pure_g rfl rfl rfl rfl (ps_min2 rfl rfl) rfl ?_
        | refine sk_pure_g rfl rfl rfl rfl (ps_max2 rfl rfl) rfl ?_
        | refine sk_pure_g rfl rfl rfl rfl (ps_indexAddr_arr rfl rfl rfl (by omega)) rfl ?_
        | refine sk_load 0 rfl rfl rfl rfl rfl ?_
        | refine sk_load 1 rfl rfl rfl rfl rfl ?_
        | refine sk_load 2 rfl rfl rfl rfl rfl ?_
        | refine sk_load 3 rfl rfl rfl rfl rfl ?_
        | refine sk_load 4 rfl rfl rfl rfl rfl ?_
        | refine sk_load 5 rfl rfl rfl rfl rfl ?_
        | refine sk_load_g 0 rfl rfl rfl rfl rfl rfl rfl ?_
        | refine sk_load_g 1 rfl rfl rfl rfl rfl rfl rfl ?_
        | refine sk_load_g 2 rfl rfl rfl rfl rfl rfl rfl ?_
        | refine sk_load_g 3 rfl rfl rfl rfl rfl rfl rfl ?_
        | refine sk_load_g 4 rfl rfl rfl rfl rfl rfl rfl ?_
        | refine sk_load_g 5 rfl rfl rfl rfl rfl rfl rfl ?_
        | refine sk_eff rfl rfl ?_
        | refine sg_guard_yes rfl rfl ?_
        | refine sg_guard_nf rfl rfl rfl ?_
        | refine sg_guard_nt rfl rfl rfl ?_
        | refine sg_guard_nu rfl rfl rfl ?_
        | refine sk_back (fun w hO => hO) ?_
        | refine sg_store [] rfl rfl rfl (of_decide_eq_true rfl) ?_
        | refine sg_store [_] rfl rfl rfl (of_decide_eq_true rfl) ?_
        | refine sg_store [_, _] rfl rfl rfl (of_decide_eq_true rfl) ?_
        | refine sg_store [_, _, _] rfl rfl rfl (of_decide_eq_true rfl) ?_
        | refine sg_store [_, _, _, _] rfl rfl rfl (of_decide_eq_true rfl) ?_
        | refine sg_store [_, _, _, _, _] rfl rfl rfl (of_decide_eq_true rfl) ?_
        | refine sg_store [_, _, _, _, _, _] rfl rfl rfl (of_decide_eq_true rfl) ?_
        | refine sg_store [_, _, _, _, _, _, _] rfl rfl rfl (of_decide_eq_true rfl) ?_)
      repeat' (first
        | refine sg_wo ?_
        | refine sg_ps (ps_move rfl) rfl ?_
        | refine sg_ps (ps_assign rfl) rfl ?_
        | refine sg_seq ?_
        | refine sg_region ?_
        | refine sg_nil ?_
        | refine sg_then ?_
        | refine sg_ps (ps_fieldAddr rfl) rfl ?_
        | refine sg_ps (ps_nilCheck rfl) rfl ?_
        | refine sg_load 0 rfl rfl rfl rfl ?_
        | refine sg_load 1 rfl rfl rfl rfl ?_
        | refine sg_load 2 rfl rfl rfl rfl ?_
        | refine sg_load 3 rfl rfl rfl rfl ?_
        | refine sg_load 4 rfl rfl rfl rfl ?_
        | refine sg_load 5 rfl rfl rfl rfl ?_
        | refine sg_load 6 rfl rfl rfl rfl ?_
        | refine sg_load 7 rfl rfl rfl rfl ?_
        | refine sg_ps (ps_add64 rfl rfl (by omega)) rfl ?_
        | refine sg_ps (ps_sub64 rfl rfl (by omega)) rfl ?_
        | refine sg_ps (ps_mul64 rfl rfl (by omega)) rfl ?_
        | refine sg_ps (ps_bin rfl rfl inferInstance) rfl ?_
        | refine sg_ps (ps_rem rfl rfl (by decide)) rfl ?_
        | refine sg_ps (ps_quo64 rfl rfl (by decide) (by omega)) rfl ?_
        | refine sg_ps (ps_not rfl) rfl ?_
        | refine sg_ps (ps_conv rfl) rfl ?_
        | refine sg_ps (ps_shl rfl rfl (by decide) rfl) rfl ?_
        | refine sg_ps (ps_shr rfl rfl (by decide) rfl) rfl ?_
        | refine sg_cond_t rfl ?_
        | refine sg_cond_f rfl ?_
        | refine sg_guard_yes rfl rfl ?_
        | refine sg_guard_nf rfl rfl rfl ?_
        | refine sg_guard_nt rfl rfl rfl ?_
        | refine sg_guard_nu rfl rfl rfl ?_
        | refine sg_ps (ps_pick_t rfl rfl) rfl ?_
        | refine sg_ps (ps_pick_f rfl rfl) rfl ?_
        | refine sg_ps (ps_len rfl) rfl ?_
        | refine sg_ps (ps_len_str rfl) rfl ?_
        | refine sg_ps (ps_extract rfl rfl) rfl ?_
        | refine sg_ps (ps_field rfl rfl) rfl ?_
        | refine sg_ps (ps_min2 rfl rfl) rfl ?_
        | refine sg_ps (ps_max2 rfl rfl) rfl ?_
        | refine sg_ps (ps_build rfl rfl) rfl ?_
        | refine sg_box rfl rfl (fun bx => ?_)
        | refine sg_ps (ps_indexAddr rfl rfl rfl (by omega)) rfl ?_
        | refine sg_ps (ps_indexAddr (j := 0) rfl rfl rfl (by omega)) rfl ?_
        | refine sg_ps (ps_indexAddr (j := 1) rfl rfl rfl (by omega)) rfl ?_
        | refine sg_ps (ps_indexAddr_arr rfl rfl rfl (by omega)) rfl ?_
        | refine sg_block ?_
        | refine sg_skip ?_
        | refine sg_ret ?_
        | refine sg_exit ?_
        | refine ex_then_ret ?_
        | refine ex_then_exit ?_
        | refine ex_block_ret ?_
        | refine ex_block_normal ?_
        | refine ex_block_hit ?_
        | refine ex_block_miss rfl ?_
        | refine sg_store [] rfl rfl rfl (of_decide_eq_true rfl) ?_
        | refine sg_store [_] rfl rfl rfl (of_decide_eq_true rfl) ?_
        | refine sg_store [_, _] rfl rfl rfl (of_decide_eq_true rfl) ?_
        | refine sg_store [_, _, _] rfl rfl rfl (of_decide_eq_true rfl) ?_
        | refine sg_store [_, _, _, _] rfl rfl rfl (of_decide_eq_true rfl) ?_
        | refine sg_store [_, _, _, _, _] rfl rfl rfl (of_decide_eq_true rfl) ?_
        | refine sg_store [_, _, _, _, _, _] rfl rfl rfl (of_decide_eq_true rfl) ?_
        | refine sg_store [_, _, _, _, _, _, _] rfl rfl rfl (of_decide_eq_true rfl) ?_
        | (refine sg_guard_dec rfl rfl (fun hg => ?_) (fun hg => ?_) <;> first | (exfalso; omega) | (exact absurd rfl hg) | skip)
        | (refine sg_guard_ndec rfl rfl (fun hg => ?_) (fun hg => ?_) <;> first | (exfalso; omega) | (exact absurd rfl hg) | skip)
        | (refine sg_cond_dec rfl (fun hg => ?_) (fun hg => ?_) <;> first | (exfalso; omega) | (exact absurd rfl hg) | skip)
        | (refine sg_cond_ndec rfl (fun hg => ?_) (fun hg => ?_) <;> first | (exfalso; omega) | (exact absurd rfl hg) | skip)
        | refine sg_cond_not rfl (fun hg => ?_) (fun hg => ?_)
        | refine sg_cond rfl (fun hg => ?_) (fun hg => ?_))
      · have e : S.flag = (false, S.spoil) := if_pos (.inr (.inr (by rw [hg0, e2]; omega)))
        rw [e]
        exact ex_ret1 rfl rfl () rfl trivial (fun w hO => RefIn.shut (RX.spoil hx) rfl hO)
      · have e : S.flag = (decide ((S.bs.getD 0 0).toNat = 1), S.fwd 1) := if_neg (by rintro (h | h | h); exact hb h; omega; rw [hg0, e2] at h; omega)
        rw [e, hg0, e2]
        have hr1 : Rd W (blk i (rcells (some ⟨b, o, none⟩) all.length c (at_ + 1) false) :: rsl (some ⟨b, o, none⟩) (all.map bv) :: R) (some ⟨b, o + at_ * 1, none⟩) [bv all[at_ + 0]] := (rd_rsl_self 1 rfl).get at_ (bv_get (by omega))
        refine sg_drawK (blk i (rcells (some ⟨b, o, none⟩) all.length c (at_ + 1) false) :: rsl (some ⟨b, o, none⟩) (all.map bv) :: R) [0, 1, 2, 4, 5, 6, 7, 8, 3, 9, 10, 11, 12] (by kernel_rfl) (by kernel_rfl) (fun w hO => hO) ?_
        repeat' (first
          | refine sk_nil ?_
          | refine sk_pure rfl rfl (ps_move rfl) rfl ?_
          | refine sk_pure rfl rfl (ps_assign rfl) rfl ?_
          | refine sk_pure rfl rfl (ps_nilCheck rfl) rfl ?_
          | refine sk_pure rfl rfl (ps_fieldAddr rfl) rfl ?_
          | refine sk_pure rfl rfl (ps_add64 rfl rfl (by omega)) rfl ?_
          | refine sk_pure rfl rfl (ps_sub64 rfl rfl (by omega)) rfl ?_
          | refine sk_pure rfl rfl (ps_mul64 rfl rfl (by omega)) rfl ?_
          | refine sk_pure rfl rfl (ps_bin rfl rfl inferInstance) rfl ?_
          | refine sk_pure rfl rfl (ps_rem rfl rfl (by decide)) rfl ?_
          | refine sk_pure rfl rfl (ps_not rfl) rfl ?_
          | refine sk_pure rfl rfl (ps_conv rfl) rfl ?_
          | refine sk_pure rfl rfl (ps_shl rfl rfl (by decide) rfl) rfl ?_
          | refine sk_pure rfl rfl (ps_shr rfl rfl (by decide) rfl) rfl ?_
          | refine sk_pure rfl rfl (ps_len rfl) rfl ?_
          | refine sk_pure rfl rfl (ps_len_str rfl) rfl ?_
          | refine sk_pure rfl rfl (ps_extract rfl rfl) rfl ?_
          | refine sk_pure rfl rfl (ps_field rfl rfl) rfl ?_
          | refine sk_pure rfl rfl (ps_build rfl rfl) rfl ?_
          | refine sk_pure rfl rfl (ps_indexAddr rfl rfl rfl (by omega)) rfl ?_
          | refine sk_pure rfl rfl (ps_indexAddr (j := 0) rfl rfl rfl (by omega)) rfl ?_
          | refine sk_pure rfl rfl (ps_indexAddr (j := 1) rfl rfl rfl (by omega)) rfl ?_
          | refine sk_pure rfl rfl (ps_pick_t rfl rfl) rfl ?_
          | refine sk_pure rfl rfl (ps_pick_f rfl rfl) rfl ?_
          | refine sk_pure rfl rfl (ps_min2 rfl rfl) rfl ?_
          | refine sk_pure rfl rfl (ps_max2 rfl rfl) rfl ?_
          | refine sk_pure rfl rfl (ps_indexAddr_arr rfl rfl rfl (by omega)) rfl ?_
          | refine sk_no rfl rfl rfl rfl rfl ?_
          | refine sk_pure_g rfl rfl rfl rfl (ps_move rfl) rfl ?_
          | refine sk_pure_g rfl rfl rfl rfl (ps_assign rfl) rfl ?_
          | refine sk_pure_g rfl rfl rfl rfl (ps_nilCheck rfl) rfl ?_
          | refine sk_pure_g rfl rfl rfl rfl (ps_fieldAddr rfl) rfl ?_
          | refine sk_pure_g rfl rfl rfl rfl (ps_add64 rfl rfl (by omega)) rfl ?_
          | refine sk_pure_g rfl rfl rfl rfl (ps_sub64 rfl rfl (by omega)) rfl ?_
          | refine sk_pure_g rfl rfl rfl rfl (ps_mul64 rfl rfl (by omega)) rfl ?_
          | refine sk_pure_g rfl rfl rfl rfl (ps_bin rfl rfl inferInstance) rfl ?_
          | refine sk_pure_g rfl rfl rfl rfl (ps_rem rfl rfl (by decide)) rfl ?_
          | refine sk_pure_g rfl rfl rfl rfl (ps_not rfl) rfl ?_
          | refine sk_pure_g rfl rfl rfl rfl (ps_conv rfl) rfl ?_
          | refine sk_pure_g rfl rfl rfl rfl (ps_shl rfl rfl (by decide) rfl) rfl ?_
          | refine sk_pure_g rfl rfl rfl rfl (ps_shr rfl rfl (by decide) rfl) rfl ?_
          | refine sk_pure_g rfl rfl rfl rfl (ps_len rfl) rfl ?_
          | refine sk_pure_g rfl rfl rfl rfl (ps_len_str rfl) rfl ?_
          | refine sk_pure_g rfl rfl rfl rfl (ps_extract rfl rfl) rfl ?_
          | refine sk_pure_g rfl rfl rfl rfl (ps_field rfl rfl) rfl ?_
          | refine sk_pure_g rfl rfl rfl rfl (ps_build rfl rfl) rfl ?_
          | refine sk_pure_g rfl rfl rfl rfl (ps_indexAddr rfl rfl rfl (by omega)) rfl ?_
          | refine sk_pure_g rfl rfl rfl rfl (ps_indexAddr (j := 0) rfl rfl rfl (by omega)) rfl ?_
          | refine sk_pure_g rfl rfl rfl rfl (ps_indexAddr (j := 1) rfl rfl rfl (by omega)) rfl ?_
          | refine sk_pure_g rfl rfl rfl rfl (ps_pick_t rfl rfl) rfl ?_
          | refine sk_pure_g rfl rfl rfl rfl (ps_pick_f rfl rfl) rfl ?_
          | refine sk_pure_g rfl rfl rfl rfl (ps_min2 rfl rfl) rfl ?_
          | refine sk_pure_g rfl rfl rfl rfl (ps_max2 rfl rfl) rfl ?_
          | refine sk_pure_g rfl rfl rfl rfl (ps_indexAddr_arr rfl rfl rfl (by omega)) rfl ?_
          | refine sk_load 0 rfl rfl rfl rfl rfl ?_
          | refine sk_load 1 rfl rfl rfl rfl rfl ?_
          | refine sk_load 2 rfl rfl rfl rfl rfl ?_
          | refine sk_load 3 rfl rfl rfl rfl rfl ?_
          | refine sk_load 4 rfl rfl rfl rfl rfl ?_
          | refine sk_load 5 rfl rfl rfl rfl rfl ?_
          | refine sk_load_g 0 rfl rfl rfl rfl rfl rfl rfl ?_
          | refine sk_load_g 1 rfl rfl rfl rfl rfl rfl rfl ?_
          | refine sk_load_g 2 rfl rfl rfl rfl rfl rfl rfl ?_
          | refine sk_load_g 3 rfl rfl rfl rfl rfl rfl rfl ?_
          | refine sk_load_g 4 rfl rfl rfl rfl rfl rfl rfl ?_
          | refine sk_load_g 5 rfl rfl rfl rfl rfl rfl rfl ?_
          | refine sk_eff rfl rfl ?_
          | refine sg_guard_yes rfl rfl ?_
          | refine sg_guard_nf rfl rfl rfl ?_
          | refine sg_guard_nt rfl rfl rfl ?_
          | refine sg_guard_nu rfl rfl rfl ?_
          | refine sk_back (fun w hO => hO) ?_
          | refine sg_store [] rfl rfl rfl (of_decide_eq_true rfl) ?_
          | refine sg_store [_] rfl rfl rfl (of_decide_eq_true rfl) ?_
          | refine sg_store [_, _] rfl rfl rfl (of_decide_eq_true rfl) ?_
          | refine sg_store [_, _, _] rfl rfl rfl (of_decide_eq_true rfl) ?_
          | refine sg_store [_, _, _, _] rfl rfl rfl (of_decide_eq_true rfl) ?_
          | refine sg_store [_, _, _, _, _] rfl rfl rfl (of_decide_eq_true rfl) ?_
          | refine sg_store [_, _, _, _, _, _] rfl rfl rfl (of_decide_eq_true rfl) ?_
          | refine sg_store [_, _, _, _, _, _, _] rfl rfl rfl (of_decide_eq_true rfl) ?_)
        refine sk_pure rfl rfl (ps_indexAddr (j := at_) rfl rfl (by omega) (by omega)) rfl ?_
        refine sk_load_rd rfl rfl hr1 rfl ?_
        repeat' (first
          | refine sk_nil ?_
          | refine sk_pure rfl rfl (ps_move rfl) rfl ?_
          | refine sk_pure rfl rfl (ps_assign rfl) rfl ?_
          | refine sk_pure rfl rfl (ps_nilCheck rfl) rfl ?_
          | refine sk_pure rfl rfl (ps_fieldAddr rfl) rfl ?_
          | refine sk_pure rfl rfl (ps_add64 rfl rfl (by omega)) rfl ?_
          | refine sk_pure rfl rfl (ps_sub64 rfl rfl (by omega)) rfl ?_
          | refine sk_pure rfl rfl (ps_mul64 rfl rfl (by omega)) rfl ?_
          | refine sk_pure rfl rfl (ps_bin rfl rfl inferInstance) rfl ?_
          | refine sk_pure rfl rfl (ps_rem rfl rfl (by decide)) rfl ?_
          | refine sk_pure rfl rfl (ps_not rfl) rfl ?_
          | refine sk_pure rfl rfl (ps_conv rfl) rfl ?_
          | refine sk_pure rfl rfl (ps_shl rfl rfl (by decide) rfl) rfl ?_
          | refine sk_pure rfl rfl (ps_shr rfl rfl (by decide) rfl) rfl ?_
          | refine sk_pure rfl rfl (ps_len rfl) rfl ?_
          | refine sk_pure rfl rfl (ps_len_str rfl) rfl ?_
          | refine sk_pure rfl rfl (ps_extract rfl rfl) rfl ?_
          | refine sk_pure rfl rfl (ps_field rfl rfl) rfl ?_
          | refine sk_pure rfl rfl (ps_build rfl rfl) rfl ?_
          | refine sk_pure rfl rfl (ps_indexAddr rfl rfl rfl (by omega)) rfl ?_
          | refine sk_pure rfl rfl (ps_indexAddr (j := 0) rfl rfl rfl (by omega)) rfl ?_
          | refine sk_pure rfl rfl (ps_indexAddr (j := 1) rfl rfl rfl (by omega)) rfl ?_
          | refine sk_pure rfl rfl (ps_pick_t rfl rfl) rfl ?_
          | refine sk_pure rfl rfl (ps_pick_f rfl rfl) rfl ?_
          | refine sk_pure rfl rfl (ps_min2 rfl rfl) rfl ?_
          | refine sk_pure rfl rfl (ps_max2 rfl rfl) rfl ?_
          | refine sk_pure rfl rfl (ps_indexAddr_arr rfl rfl rfl (by omega)) rfl ?_
          | refine sk_no rfl rfl rfl rfl rfl ?_
          | refine sk_pure_g rfl rfl rfl rfl (ps_move rfl) rfl ?_
          | refine sk_pure_g rfl rfl rfl rfl (ps_assign rfl) rfl ?_
          | refine sk_pure_g rfl rfl rfl rfl (ps_nilCheck rfl) rfl ?_
          | refine sk_pure_g rfl rfl rfl rfl (ps_fieldAddr rfl) rfl ?_
          | refine sk_pure_g rfl rfl rfl rfl (ps_add64 rfl rfl (by omega)) rfl ?_
          | refine sk_pure_g rfl rfl rfl rfl (ps_sub64 rfl rfl (by omega)) rfl ?_
          | refine sk_pure_g rfl rfl rfl rfl (ps_mul64 rfl rfl (by omega)) rfl ?_
          | refine sk_pure_g rfl rfl rfl rfl (ps_bin rfl rfl inferInstance) rfl ?_
          | refine sk_pure_g rfl rfl rfl rfl (ps_rem rfl rfl (by decide)) rfl ?_
          | refine sk_pure_g rfl rfl rfl rfl (ps_not rfl) rfl ?_
          | refine sk_pure_g rfl rfl rfl rfl (ps_conv rfl) rfl ?_
          | refine sk_pure_g rfl rfl rfl rfl (ps_shl rfl rfl (by decide) rfl) rfl ?_
          | refine sk_pure_g rfl rfl rfl rfl (ps_shr rfl rfl (by decide) rfl) rfl ?_
          | refine sk_pure_g rfl rfl rfl rfl (ps_len rfl) rfl ?_
          | refine sk_pure_g rfl rfl rfl rfl (ps_len_str rfl) rfl ?_
          | refine sk_pure_g rfl rfl rfl rfl (ps_extract rfl rfl) rfl ?_
          | refine sk_pure_g rfl rfl rfl rfl (ps_field rfl rfl) rfl ?_
          | refine sk_pure_g rfl rfl rfl rfl (ps_build rfl rfl) rfl ?_
          | refine sk_pure_g rfl rfl rfl rfl (ps_indexAddr rfl rfl rfl (by omega)) rfl ?_
          | refine sk_pure_g rfl rfl rfl rfl (ps_indexAddr (j := 0) rfl rfl rfl (by omega)) rfl ?_
          | refine sk_pure_g rfl rfl rfl rfl (ps_indexAddr (j := 1) rfl rfl rfl (by omega)) rfl ?_
          | refine sk_pure_g rfl rfl rfl rfl (ps_pick_t rfl rfl) rfl ?_
          | refine sk_pure_g rfl rfl rfl rfl (ps_pick_f rfl rfl) rfl ?_
          | refine sk_pure_g rfl rfl rfl rfl (ps_min2 rfl rfl) rfl ?_
          | refine sk_pure_g rfl rfl rfl rfl (ps_max2 rfl rfl) rfl ?_
          | refine sk_pure_g rfl rfl rfl rfl (ps_indexAddr_arr rfl rfl rfl (by omega)) rfl ?_
          | refine sk_load 0 rfl rfl rfl rfl rfl ?_
          | refine sk_load 1 rfl rfl rfl rfl rfl ?_
          | refine sk_load 2 rfl rfl rfl rfl rfl ?_
          | refine sk_load 3 rfl rfl rfl rfl rfl ?_
          | refine sk_load 4 rfl rfl rfl rfl rfl ?_
          | refine sk_load 5 rfl rfl rfl rfl rfl ?_
          | refine sk_load_g 0 rfl rfl rfl rfl rfl rfl rfl ?_
          | refine sk_load_g 1 rfl rfl rfl rfl rfl rfl rfl ?_
          | refine sk_load_g 2 rfl rfl rfl rfl rfl rfl rfl ?_
          | refine sk_load_g 3 rfl rfl rfl rfl rfl rfl rfl ?_
          | refine sk_load_g 4 rfl rfl rfl rfl rfl rfl rfl ?_
          | refine sk_load_g 5 rfl rfl rfl rfl rfl rfl rfl ?_
          | refine sk_eff rfl rfl ?_
          | refine sg_guard_yes rfl rfl ?_
          | refine sg_guard_nf rfl rfl rfl ?_
          | refine sg_guard_nt rfl rfl rfl ?_
          | refine sg_guard_nu rfl rfl rfl ?_
          | refine sk_back (fun w hO => hO) ?_
          | refine sg_store [] rfl rfl rfl (of_decide_eq_true rfl) ?_
          | refine sg_store [_] rfl rfl rfl (of_decide_eq_true rfl) ?_
          | refine sg_store [_, _] rfl rfl rfl (of_decide_eq_true rfl) ?_
          | refine sg_store [_, _, _] rfl rfl rfl (of_decide_eq_true rfl) ?_
          | refine sg_store [_, _, _, _] rfl rfl rfl (of_decide_eq_true rfl) ?_
          | refine sg_store [_, _, _, _, _] rfl rfl rfl (of_decide_eq_true rfl) ?_
          | refine sg_store [_, _, _, _, _, _] rfl rfl rfl (of_decide_eq_true rfl) ?_
          | refine sg_store [_, _, _, _, _, _, _] rfl rfl rfl (of_decide_eq_true rfl) ?_)
        repeat' (first
          | refine sg_wo ?_
          | refine sg_ps (ps_move rfl) rfl ?_
          | refine sg_ps (ps_assign rfl) rfl ?_
          | refine sg_seq ?_
          | refine sg_region ?_
          | refine sg_nil ?_
          | refine sg_then ?_
          | refine sg_ps (ps_fieldAddr rfl) rfl ?_
          | refine sg_ps (ps_nilCheck rfl) rfl ?_
          | refine sg_load 0 rfl rfl rfl rfl ?_
          | refine sg_load 1 rfl rfl rfl rfl ?_
          | refine sg_load 2 rfl rfl rfl rfl ?_
          | refine sg_load 3 rfl rfl rfl rfl ?_
          | refine sg_load 4 rfl rfl rfl rfl ?_
          | refine sg_load 5 rfl rfl rfl rfl ?_
          | refine sg_load 6 rfl rfl rfl rfl ?_
          | refine sg_load 7 rfl rfl rfl rfl ?_
          | refine sg_ps (ps_add64 rfl rfl (by omega)) rfl ?_
          | refine sg_ps (ps_sub64 rfl rfl (by omega)) rfl ?_
          | refine sg_ps (ps_mul64 rfl rfl (by omega)) rfl ?_
          | refine sg_ps (ps_bin rfl rfl inferInstance) rfl ?_
          | refine sg_ps (ps_rem rfl rfl (by decide)) rfl ?_
          | refine sg_ps (ps_quo64 rfl rfl (by decide) (by omega)) rfl ?_
          | refine sg_ps (ps_not rfl) rfl ?_
          | refine sg_ps (ps_conv rfl) rfl ?_
          | refine sg_ps (ps_shl rfl rfl (by decide) rfl) rfl ?_
          | refine sg_ps (ps_shr rfl rfl (by decide) rfl) rfl ?_
          | refine sg_cond_t rfl ?_
          | refine sg_cond_f rfl ?_
          | refine sg_guard_yes rfl rfl ?_
          | refine sg_guard_nf rfl rfl rfl ?_
          | refine sg_guard_nt rfl rfl rfl ?_
          | refine sg_guard_nu rfl rfl rfl ?_
          | refine sg_ps (ps_pick_t rfl rfl) rfl ?_
          | refine sg_ps (ps_pick_f rfl rfl) rfl ?_
          | refine sg_ps (ps_len rfl) rfl ?_
          | refine sg_ps (ps_len_str rfl) rfl ?_
          | refine sg_ps (ps_extract rfl rfl) rfl ?_
          | refine sg_ps (ps_field rfl rfl) rfl ?_
          | refine sg_ps (ps_min2 rfl rfl) rfl ?_
          | refine sg_ps (ps_max2 rfl rfl) rfl ?_
          | refine sg_ps (ps_build rfl rfl) rfl ?_
          | refine sg_box rfl rfl (fun bx => ?_)
          | refine sg_ps (ps_indexAddr rfl rfl rfl (by omega)) rfl ?_
          | refine sg_ps (ps_indexAddr (j := 0) rfl rfl rfl (by omega)) rfl ?_
          | refine sg_ps (ps_indexAddr (j := 1) rfl rfl rfl (by omega)) rfl ?_
          | refine sg_ps (ps_indexAddr_arr rfl rfl rfl (by omega)) rfl ?_
          | refine sg_block ?_
          | refine sg_skip ?_
          | refine sg_ret ?_
          | refine sg_exit ?_
          | refine ex_then_ret ?_
          | refine ex_then_exit ?_
          | refine ex_block_ret ?_
          | refine ex_block_normal ?_
          | refine ex_block_hit ?_
          | refine ex_block_miss rfl ?_
          | refine sg_store [] rfl rfl rfl (of_decide_eq_true rfl) ?_
          | refine sg_store [_] rfl rfl rfl (of_decide_eq_true rfl) ?_
          | refine sg_store [_, _] rfl rfl rfl (of_decide_eq_true rfl) ?_
          | refine sg_store [_, _, _] rfl rfl rfl (of_decide_eq_true rfl) ?_
          | refine sg_store [_, _, _, _] rfl rfl rfl (of_decide_eq_true rfl) ?_
          | refine sg_store [_, _, _, _, _] rfl rfl rfl (of_decide_eq_true rfl) ?_
          | refine sg_store [_, _, _, _, _, _] rfl rfl rfl (of_decide_eq_true rfl) ?_
          | refine sg_store [_, _, _, _, _, _, _] rfl rfl rfl (of_decide_eq_true rfl) ?_
          | (refine sg_guard_dec rfl rfl (fun hg => ?_) (fun hg => ?_) <;> first | (exfalso; omega) | (exact absurd rfl hg) | skip)
          | (refine sg_guard_ndec rfl rfl (fun hg => ?_) (fun hg => ?_) <;> first | (exfalso; omega) | (exact absurd rfl hg) | skip)
          | (refine sg_cond_dec rfl (fun hg => ?_) (fun hg => ?_) <;> first | (exfalso; omega) | (exact absurd rfl hg) | skip)
          | (refine sg_cond_ndec rfl (fun hg => ?_) (fun hg => ?_) <;> first | (exfalso; omega) | (exact absurd rfl hg) | skip)
          | refine sg_cond_not rfl (fun hg => ?_) (fun hg => ?_)
          | refine sg_cond rfl (fun hg => ?_) (fun hg => ?_))
        exact ex_ret1 rfl rfl () (congrArg Value.bool (decide_eq_decide.2 (by omega))) trivial (fun w hO => RefIn.shut (k := at_ + 1) (RX.fwd hx (by omega)) rfl hO)
theorem i64_mul (x y : Nat) (h : x < 2 ^ 32) (hy : y < 256) : IntKind.i64.wrap (IntKind.i64.wrap ((x : Int) * 256) + (y : Int)) = ((x * 256 + y : Nat) : Int) := by
  rw [IntWalk.i64_in ((x : Int) * 256) (by omega), IntWalk.i64_in _ (by omega)]; omega
theorem rText_tri (i : Nat) (S : IS) (R : List HP) :
    Tri Try.prog W 37 [dp i] (RefIn i S :: R) (X := Unit) (fun _ => .string (strOf S.text.1)) (fun _ => True) (fun _ => RefIn i S.text.2 :: R) := by
  refine tri_enter1 Try.func37 rfl Try.ntmps37 rfl ?_
  refine RefIn.open fun a c all at_ hx => ?_
  have hl := RX.len hx
  have hk : at_ ≤ all.length := hx.k
  have hc : all.length ≤ c := hx.c
  have hm : all.length ≤ 140737488355328 := hx.m
  by_cases hb : S.bad = true
  · have e : S.text = ([], S.spoil) := if_pos (.inl hb)
    rw [e, hb]
    repeat' (first
      | refine sg_wo ?_
      | refine sg_ps (ps_move rfl) rfl ?_
      | refine sg_ps (ps_assign rfl) rfl ?_
      | refine sg_seq ?_
      | refine sg_region ?_
      | refine sg_nil ?_
      | refine sg_then ?_
      | refine sg_ps (ps_fieldAddr rfl) rfl ?_
      | refine sg_ps (ps_nilCheck rfl) rfl ?_
      | refine sg_load 0 rfl rfl rfl rfl ?_
      | refine sg_load 1 rfl rfl rfl rfl ?_
      | refine sg_load 2 rfl rfl rfl rfl ?_
      | refine sg_load 3 rfl rfl rfl rfl ?_
      | refine sg_load 4 rfl rfl rfl rfl ?_
      | refine sg_load 5 rfl rfl rfl rfl ?_
      | refine sg_load 6 rfl rfl rfl rfl ?_
      | refine sg_load 7 rfl rfl rfl rfl ?_
      | refine sg_ps (ps_add64 rfl rfl (by omega)) rfl ?_
      | refine sg_ps (ps_sub64 rfl rfl (by omega)) rfl ?_
      | refine sg_ps (ps_mul64 rfl rfl (by omega)) rfl ?_
      | refine sg_ps (ps_bin rfl rfl inferInstance) rfl ?_
      | refine sg_ps (ps_rem rfl rfl (by decide)) rfl ?_
      | refine sg_ps (ps_quo64 rfl rfl (by decide) (by omega)) rfl ?_
      | refine sg_ps (ps_not rfl) rfl ?_
      | refine sg_ps (ps_conv rfl) rfl ?_
      | refine sg_ps (ps_shl rfl rfl (by decide) rfl) rfl ?_
      | refine sg_ps (ps_shr rfl rfl (by decide) rfl) rfl ?_
      | refine sg_cond_t rfl ?_
      | refine sg_cond_f rfl ?_
      | refine sg_guard_yes rfl rfl ?_
      | refine sg_guard_nf rfl rfl rfl ?_
      | refine sg_guard_nt rfl rfl rfl ?_
      | refine sg_guard_nu rfl rfl rfl ?_
      | refine sg_ps (ps_pick_t rfl rfl) rfl ?_
      | refine sg_ps (ps_pick_f rfl rfl) rfl ?_
      | refine sg_ps (ps_len rfl) rfl ?_
      | refine sg_ps (ps_len_str rfl) rfl ?_
      | refine sg_ps (ps_extract rfl rfl) rfl ?_
      | refine sg_ps (ps_field rfl rfl) rfl ?_
      | refine sg_ps (ps_min2 rfl rfl) rfl ?_
      | refine sg_ps (ps_max2 rfl rfl) rfl ?_
      | refine sg_ps (ps_build rfl rfl) rfl ?_
      | refine sg_box rfl rfl (fun bx => ?_)
      | refine sg_ps (ps_indexAddr rfl rfl rfl (by omega)) rfl ?_
      | refine sg_ps (ps_indexAddr (j := 0) rfl rfl rfl (by omega)) rfl ?_
      | refine sg_ps (ps_indexAddr (j := 1) rfl rfl rfl (by omega)) rfl ?_
      | refine sg_ps (ps_indexAddr_arr rfl rfl rfl (by omega)) rfl ?_
      | refine sg_block ?_
      | refine sg_skip ?_
      | refine sg_ret ?_
      | refine sg_exit ?_
      | refine ex_then_ret ?_
      | refine ex_then_exit ?_
      | refine ex_block_ret ?_
      | refine ex_block_normal ?_
      | refine ex_block_hit ?_
      | refine ex_block_miss rfl ?_
      | refine sg_store [] rfl rfl rfl (of_decide_eq_true rfl) ?_
      | refine sg_store [_] rfl rfl rfl (of_decide_eq_true rfl) ?_
      | refine sg_store [_, _] rfl rfl rfl (of_decide_eq_true rfl) ?_
      | refine sg_store [_, _, _] rfl rfl rfl (of_decide_eq_true rfl) ?_
      | refine sg_store [_, _, _, _] rfl rfl rfl (of_decide_eq_true rfl) ?_
      | refine sg_store [_, _, _, _, _] rfl rfl rfl (of_decide_eq_true rfl) ?_
      | refine sg_store [_, _, _, _, _, _] rfl rfl rfl (of_decide_eq_true rfl) ?_
      | refine sg_store [_, _, _, _, _, _, _] rfl rfl rfl (of_decide_eq_true rfl) ?_
      | (refine sg_guard_dec rfl rfl (fun hg => ?_) (fun hg => ?_) <;> first | (exfalso; omega) | (exact absurd rfl hg) | skip)
      | (refine sg_guard_ndec rfl rfl (fun hg => ?_) (fun hg => ?_) <;> first | (exfalso; omega) | (exact absurd rfl hg) | skip)
      | (refine sg_cond_dec rfl (fun hg => ?_) (fun hg => ?_) <;> first | (exfalso; omega) | (exact absurd rfl hg) | skip)
      | (refine sg_cond_ndec rfl (fun hg => ?_) (fun hg => ?_) <;> first | (exfalso; omega) | (exact absurd rfl hg) | skip)
      | refine sg_cond_not rfl (fun hg => ?_) (fun hg => ?_)
      | refine sg_cond rfl (fun hg => ?_) (fun hg => ?_))
    exact ex_ret1 rfl rfl () rfl trivial (fun w hO => RefIn.shut (RX.spoil hx) rfl hO)
  · have hbf : S.bad = false := by cases h : S.bad; rfl; exact absurd h hb
    rw [hbf]
    repeat' (first
      | refine sg_wo ?_
      | refine sg_ps (ps_move rfl) rfl ?_
      | refine sg_ps (ps_assign rfl) rfl ?_
      | refine sg_seq ?_
      | refine sg_region ?_
      | refine sg_nil ?_
      | refine sg_then ?_
      | refine sg_ps (ps_fieldAddr rfl) rfl ?_
      | refine sg_ps (ps_nilCheck rfl) rfl ?_
      | refine sg_load 0 rfl rfl rfl rfl ?_
      | refine sg_load 1 rfl rfl rfl rfl ?_
      | refine sg_load 2 rfl rfl rfl rfl ?_
      | refine sg_load 3 rfl rfl rfl rfl ?_
      | refine sg_load 4 rfl rfl rfl rfl ?_
      | refine sg_load 5 rfl rfl rfl rfl ?_
      | refine sg_load 6 rfl rfl rfl rfl ?_
      | refine sg_load 7 rfl rfl rfl rfl ?_
      | refine sg_ps (ps_add64 rfl rfl (by omega)) rfl ?_
      | refine sg_ps (ps_sub64 rfl rfl (by omega)) rfl ?_
      | refine sg_ps (ps_mul64 rfl rfl (by omega)) rfl ?_
      | refine sg_ps (ps_bin rfl rfl inferInstance) rfl ?_
      | refine sg_ps (ps_rem rfl rfl (by decide)) rfl ?_
      | refine sg_ps (ps_quo64 rfl rfl (by decide) (by omega)) rfl ?_
      | refine sg_ps (ps_not rfl) rfl ?_
      | refine sg_ps (ps_conv rfl) rfl ?_
      | refine sg_ps (ps_shl rfl rfl (by decide) rfl) rfl ?_
      | refine sg_ps (ps_shr rfl rfl (by decide) rfl) rfl ?_
      | refine sg_cond_t rfl ?_
      | refine sg_cond_f rfl ?_
      | refine sg_guard_yes rfl rfl ?_
      | refine sg_guard_nf rfl rfl rfl ?_
      | refine sg_guard_nt rfl rfl rfl ?_
      | refine sg_guard_nu rfl rfl rfl ?_
      | refine sg_ps (ps_pick_t rfl rfl) rfl ?_
      | refine sg_ps (ps_pick_f rfl rfl) rfl ?_
      | refine sg_ps (ps_len rfl) rfl ?_
      | refine sg_ps (ps_len_str rfl) rfl ?_
      | refine sg_ps (ps_extract rfl rfl) rfl ?_
      | refine sg_ps (ps_field rfl rfl) rfl ?_
      | refine sg_ps (ps_min2 rfl rfl) rfl ?_
      | refine sg_ps (ps_max2 rfl rfl) rfl ?_
      | refine sg_ps (ps_build rfl rfl) rfl ?_
      | refine sg_box rfl rfl (fun bx => ?_)
      | refine sg_ps (ps_indexAddr rfl rfl rfl (by omega)) rfl ?_
      | refine sg_ps (ps_indexAddr (j := 0) rfl rfl rfl (by omega)) rfl ?_
      | refine sg_ps (ps_indexAddr (j := 1) rfl rfl rfl (by omega)) rfl ?_
      | refine sg_ps (ps_indexAddr_arr rfl rfl rfl (by omega)) rfl ?_
      | refine sg_block ?_
      | refine sg_skip ?_
      | refine sg_ret ?_
      | refine sg_exit ?_
      | refine ex_then_ret ?_
      | refine ex_then_exit ?_
      | refine ex_block_ret ?_
      | refine ex_block_normal ?_
      | refine ex_block_hit ?_
      | refine ex_block_miss rfl ?_
      | refine sg_store [] rfl rfl rfl (of_decide_eq_true rfl) ?_
      | refine sg_store [_] rfl rfl rfl (of_decide_eq_true rfl) ?_
      | refine sg_store [_, _] rfl rfl rfl (of_decide_eq_true rfl) ?_
      | refine sg_store [_, _, _] rfl rfl rfl (of_decide_eq_true rfl) ?_
      | refine sg_store [_, _, _, _] rfl rfl rfl (of_decide_eq_true rfl) ?_
      | refine sg_store [_, _, _, _, _] rfl rfl rfl (of_decide_eq_true rfl) ?_
      | refine sg_store [_, _, _, _, _, _] rfl rfl rfl (of_decide_eq_true rfl) ?_
      | refine sg_store [_, _, _, _, _, _, _] rfl rfl rfl (of_decide_eq_true rfl) ?_
      | (refine sg_guard_dec rfl rfl (fun hg => ?_) (fun hg => ?_) <;> first | (exfalso; omega) | (exact absurd rfl hg) | skip)
      | (refine sg_guard_ndec rfl rfl (fun hg => ?_) (fun hg => ?_) <;> first | (exfalso; omega) | (exact absurd rfl hg) | skip)
      | (refine sg_cond_dec rfl (fun hg => ?_) (fun hg => ?_) <;> first | (exfalso; omega) | (exact absurd rfl hg) | skip)
      | (refine sg_cond_ndec rfl (fun hg => ?_) (fun hg => ?_) <;> first | (exfalso; omega) | (exact absurd rfl hg) | skip)
      | refine sg_cond_not rfl (fun hg => ?_) (fun hg => ?_)
      | refine sg_cond rfl (fun hg => ?_) (fun hg => ?_))
    refine sg_call (rLeft0 i a c all.length at_ hk hm false _) rfl rfl (fun _ _ => ?_)
    rw [← hl]
    repeat' (first
      | refine sg_wo ?_
      | refine sg_ps (ps_move rfl) rfl ?_
      | refine sg_ps (ps_assign rfl) rfl ?_
      | refine sg_seq ?_
      | refine sg_region ?_
      | refine sg_nil ?_
      | refine sg_then ?_
      | refine sg_ps (ps_fieldAddr rfl) rfl ?_
      | refine sg_ps (ps_nilCheck rfl) rfl ?_
      | refine sg_load 0 rfl rfl rfl rfl ?_
      | refine sg_load 1 rfl rfl rfl rfl ?_
      | refine sg_load 2 rfl rfl rfl rfl ?_
      | refine sg_load 3 rfl rfl rfl rfl ?_
      | refine sg_load 4 rfl rfl rfl rfl ?_
      | refine sg_load 5 rfl rfl rfl rfl ?_
      | refine sg_load 6 rfl rfl rfl rfl ?_
      | refine sg_load 7 rfl rfl rfl rfl ?_
      | refine sg_ps (ps_add64 rfl rfl (by omega)) rfl ?_
      | refine sg_ps (ps_sub64 rfl rfl (by omega)) rfl ?_
      | refine sg_ps (ps_mul64 rfl rfl (by omega)) rfl ?_
      | refine sg_ps (ps_bin rfl rfl inferInstance) rfl ?_
      | refine sg_ps (ps_rem rfl rfl (by decide)) rfl ?_
      | refine sg_ps (ps_quo64 rfl rfl (by decide) (by omega)) rfl ?_
      | refine sg_ps (ps_not rfl) rfl ?_
      | refine sg_ps (ps_conv rfl) rfl ?_
      | refine sg_ps (ps_shl rfl rfl (by decide) rfl) rfl ?_
      | refine sg_ps (ps_shr rfl rfl (by decide) rfl) rfl ?_
      | refine sg_cond_t rfl ?_
      | refine sg_cond_f rfl ?_
      | refine sg_guard_yes rfl rfl ?_
      | refine sg_guard_nf rfl rfl rfl ?_
      | refine sg_guard_nt rfl rfl rfl ?_
      | refine sg_guard_nu rfl rfl rfl ?_
      | refine sg_ps (ps_pick_t rfl rfl) rfl ?_
      | refine sg_ps (ps_pick_f rfl rfl) rfl ?_
      | refine sg_ps (ps_len rfl) rfl ?_
      | refine sg_ps (ps_len_str rfl) rfl ?_
      | refine sg_ps (ps_extract rfl rfl) rfl ?_
      | refine sg_ps (ps_field rfl rfl) rfl ?_
      | refine sg_ps (ps_min2 rfl rfl) rfl ?_
      | refine sg_ps (ps_max2 rfl rfl) rfl ?_
      | refine sg_ps (ps_build rfl rfl) rfl ?_
      | refine sg_box rfl rfl (fun bx => ?_)
      | refine sg_ps (ps_indexAddr rfl rfl rfl (by omega)) rfl ?_
      | refine sg_ps (ps_indexAddr (j := 0) rfl rfl rfl (by omega)) rfl ?_
      | refine sg_ps (ps_indexAddr (j := 1) rfl rfl rfl (by omega)) rfl ?_
      | refine sg_ps (ps_indexAddr_arr rfl rfl rfl (by omega)) rfl ?_
      | refine sg_block ?_
      | refine sg_skip ?_
      | refine sg_ret ?_
      | refine sg_exit ?_
      | refine ex_then_ret ?_
      | refine ex_then_exit ?_
      | refine ex_block_ret ?_
      | refine ex_block_normal ?_
      | refine ex_block_hit ?_
      | refine ex_block_miss rfl ?_
      | refine sg_store [] rfl rfl rfl (of_decide_eq_true rfl) ?_
      | refine sg_store [_] rfl rfl rfl (of_decide_eq_true rfl) ?_
      | refine sg_store [_, _] rfl rfl rfl (of_decide_eq_true rfl) ?_
      | refine sg_store [_, _, _] rfl rfl rfl (of_decide_eq_true rfl) ?_
      | refine sg_store [_, _, _, _] rfl rfl rfl (of_decide_eq_true rfl) ?_
      | refine sg_store [_, _, _, _, _] rfl rfl rfl (of_decide_eq_true rfl) ?_
      | refine sg_store [_, _, _, _, _, _] rfl rfl rfl (of_decide_eq_true rfl) ?_
      | refine sg_store [_, _, _, _, _, _, _] rfl rfl rfl (of_decide_eq_true rfl) ?_
      | (refine sg_guard_dec rfl rfl (fun hg => ?_) (fun hg => ?_) <;> first | (exfalso; omega) | (exact absurd rfl hg) | skip)
      | (refine sg_guard_ndec rfl rfl (fun hg => ?_) (fun hg => ?_) <;> first | (exfalso; omega) | (exact absurd rfl hg) | skip)
      | (refine sg_cond_dec rfl (fun hg => ?_) (fun hg => ?_) <;> first | (exfalso; omega) | (exact absurd rfl hg) | skip)
      | (refine sg_cond_ndec rfl (fun hg => ?_) (fun hg => ?_) <;> first | (exfalso; omega) | (exact absurd rfl hg) | skip)
      | refine sg_cond_not rfl (fun hg => ?_) (fun hg => ?_)
      | refine sg_cond rfl (fun hg => ?_) (fun hg => ?_))
    · have e : S.text = ([], S.spoil) := if_pos (.inr (.inl (by omega)))
      rw [e]
      exact ex_ret1 rfl rfl () rfl trivial (fun w hO => RefIn.shut (RX.spoil hx) rfl hO)
    · obtain ⟨h2, e2⟩ := RX.get hx (j := 0) (by omega)
      obtain ⟨h3, e3⟩ := RX.get hx (j := 1) (by omega)
      refine sg_rd_some (rd_rsl_self 1 rfl) (map_ne (by omega)) ?_
      rintro b o rfl
      have hr0 : Rd W (blk i (rcells (some ⟨b, o, none⟩) all.length c at_ false) :: rsl (some ⟨b, o, none⟩) (all.map bv) :: R) (some ⟨b, o + at_ * 1, none⟩) [bv all[at_ + 0]] := (rd_rsl_self 1 rfl).get at_ (bv_get (by omega))
      have hr1 : Rd W (blk i (rcells (some ⟨b, o, none⟩) all.length c at_ false) :: rsl (some ⟨b, o, none⟩) (all.map bv) :: R) (some ⟨b, o + (at_ + 1) * 1, none⟩) [bv all[at_ + 1]] := (rd_rsl_self 1 rfl).get (at_ + 1) (bv_get (by omega))
      have hy0 := all[at_ + 0].toNat_lt
      have hy1 := all[at_ + 1].toNat_lt
      have hlong : S.long = all[at_ + 0].toNat * 256 + all[at_ + 1].toNat := by rw [← e2, ← e3]; exact unbe2 (by omega)
      refine sg_drawK (blk i (rcells (some ⟨b, o, none⟩) all.length c at_ false) :: rsl (some ⟨b, o, none⟩) (all.map bv) :: R) [0, 1, 2, 4, 5, 6, 12, 13, 14, 16, 17, 18, 3, 7, 8, 9, 10, 11, 19, 20, 15, 21, 22, 23, 24, 25] (by kernel_rfl) (by kernel_rfl) (fun w hO => hO) ?_
      repeat' (first
        | refine sk_nil ?_
        | refine sk_pure rfl rfl (ps_move rfl) rfl ?_
        | refine sk_pure rfl rfl (ps_assign rfl) rfl ?_
        | refine sk_pure rfl rfl (ps_nilCheck rfl) rfl ?_
        | refine sk_pure rfl rfl (ps_fieldAddr rfl) rfl ?_
        | refine sk_pure rfl rfl (ps_add64 rfl rfl (by omega)) rfl ?_
        | refine sk_pure rfl rfl (ps_sub64 rfl rfl (by omega)) rfl ?_
        | refine sk_pure rfl rfl (ps_mul64 rfl rfl (by omega)) rfl ?_
        | refine sk_pure rfl rfl (ps_bin rfl rfl inferInstance) rfl ?_
        | refine sk_pure rfl rfl (ps_rem rfl rfl (by decide)) rfl ?_
        | refine sk_pure rfl rfl (ps_not rfl) rfl ?_
        | refine sk_pure rfl rfl (ps_conv rfl) rfl ?_
        | refine sk_pure rfl rfl (ps_shl rfl rfl (by decide) rfl) rfl ?_
        | refine sk_pure rfl rfl (ps_shr rfl rfl (by decide) rfl) rfl ?_
        | refine sk_pure rfl rfl (ps_len rfl) rfl ?_
        | refine sk_pure rfl rfl (ps_len_str rfl) rfl ?_
        | refine sk_pure rfl rfl (ps_extract rfl rfl) rfl ?_
        | refine sk_pure rfl rfl (ps_field rfl rfl) rfl ?_
        | refine sk_pure rfl rfl (ps_build rfl rfl) rfl ?_
        | refine sk_pure rfl rfl (ps_indexAddr rfl rfl rfl (by omega)) rfl ?_
        | refine sk_pure rfl rfl (ps_indexAddr (j := 0) rfl rfl rfl (by omega)) rfl ?_
        | refine sk_pure rfl rfl (ps_indexAddr (j := 1) rfl rfl rfl (by omega)) rfl ?_
        | refine sk_pure rfl rfl (ps_pick_t rfl rfl) rfl ?_
        | refine sk_pure rfl rfl (ps_pick_f rfl rfl) rfl ?_
        | refine sk_pure rfl rfl (ps_min2 rfl rfl) rfl ?_
        | refine sk_pure rfl rfl (ps_max2 rfl rfl) rfl ?_
        | refine sk_pure rfl rfl (ps_indexAddr_arr rfl rfl rfl (by omega)) rfl ?_
        | refine sk_no rfl rfl rfl rfl rfl ?_
        | refine sk_pure_g rfl rfl rfl rfl (ps_move rfl) rfl ?_
        | refine sk_pure_g rfl rfl rfl rfl (ps_assign rfl) rfl ?_
        | refine sk_pure_g rfl rfl rfl rfl (ps_nilCheck rfl) rfl ?_
        | refine sk_pure_g rfl rfl rfl rfl (ps_fieldAddr rfl) rfl ?_
        | refine sk_pure_g rfl rfl rfl rfl (ps_add64 rfl rfl (by omega)) rfl ?_
        | refine sk_pure_g rfl rfl rfl rfl (ps_sub64 rfl rfl (by omega)) rfl ?_
        | refine sk_pure_g rfl rfl rfl rfl (ps_mul64 rfl rfl (by omega)) rfl ?_
        | refine sk_pure_g rfl rfl rfl rfl (ps_bin rfl rfl inferInstance) rfl ?_
        | refine sk_pure_g rfl rfl rfl rfl (ps_rem rfl rfl (by decide)) rfl ?_
        | refine sk_pure_g rfl rfl rfl rfl (ps_not rfl) rfl ?_
        | refine sk_pure_g rfl rfl rfl rfl (ps_conv rfl) rfl ?_
        | refine sk_pure_g rfl rfl rfl rfl (ps_shl rfl rfl (by decide) rfl) rfl ?_
        | refine sk_pure_g rfl rfl rfl rfl (ps_shr rfl rfl (by decide) rfl) rfl ?_
        | refine sk_pure_g rfl rfl rfl rfl (ps_len rfl) rfl ?_
        | refine sk_pure_g rfl rfl rfl rfl (ps_len_str rfl) rfl ?_
        | refine sk_pure_g rfl rfl rfl rfl (ps_extract rfl rfl) rfl ?_
        | refine sk_pure_g rfl rfl rfl rfl (ps_field rfl rfl) rfl ?_
        | refine sk_pure_g rfl rfl rfl rfl (ps_build rfl rfl) rfl ?_
        | refine sk_pure_g rfl rfl rfl rfl (ps_indexAddr rfl rfl rfl (by omega)) rfl ?_
        | refine sk_pure_g rfl rfl rfl rfl (ps_indexAddr (j := 0) rfl rfl rfl (by omega)) rfl ?_
        | refine sk_pure_g rfl rfl rfl rfl (ps_indexAddr (j := 1) rfl rfl rfl (by omega)) rfl ?_
        | refine sk_pure_g rfl rfl rfl rfl (ps_pick_t rfl rfl) rfl ?_
        | refine sk_pure_g rfl rfl rfl rfl (ps_pick_f rfl rfl) rfl ?_
        | refine sk_pure_g rfl rfl rfl rfl (ps_min2 rfl rfl) rfl ?_
        | refine sk_pure_g rfl rfl rfl rfl (ps_max2 rfl rfl) rfl ?_
        | refine sk_pure_g rfl rfl rfl rfl (ps_indexAddr_arr rfl rfl rfl (by omega)) rfl ?_
        | refine sk_load 0 rfl rfl rfl rfl rfl ?_
        | refine sk_load 1 rfl rfl rfl rfl rfl ?_
        | refine sk_load 2 rfl rfl rfl rfl rfl ?_
        | refine sk_load 3 rfl rfl rfl rfl rfl ?_
        | refine sk_load 4 rfl rfl rfl rfl rfl ?_
        | refine sk_load 5 rfl rfl rfl rfl rfl ?_
        | refine sk_load_g 0 rfl rfl rfl rfl rfl rfl rfl ?_
        | refine sk_load_g 1 rfl rfl rfl rfl rfl rfl rfl ?_
        | refine sk_load_g 2 rfl rfl rfl rfl rfl rfl rfl ?_
        | refine sk_load_g 3 rfl rfl rfl rfl rfl rfl rfl ?_
        | refine sk_load_g 4 rfl rfl rfl rfl rfl rfl rfl ?_
        | refine sk_load_g 5 rfl rfl rfl rfl rfl rfl rfl ?_
        | refine sk_eff rfl rfl ?_
        | refine sg_guard_yes rfl rfl ?_
        | refine sg_guard_nf rfl rfl rfl ?_
        | refine sg_guard_nt rfl rfl rfl ?_
        | refine sg_guard_nu rfl rfl rfl ?_
        | refine sk_back (fun w hO => hO) ?_
        | refine sg_store [] rfl rfl rfl (of_decide_eq_true rfl) ?_
        | refine sg_store [_] rfl rfl rfl (of_decide_eq_true rfl) ?_
        | refine sg_store [_, _] rfl rfl rfl (of_decide_eq_true rfl) ?_
        | refine sg_store [_, _, _] rfl rfl rfl (of_decide_eq_true rfl) ?_
        | refine sg_store [_, _, _, _] rfl rfl rfl (of_decide_eq_true rfl) ?_
        | refine sg_store [_, _, _, _, _] rfl rfl rfl (of_decide_eq_true rfl) ?_
        | refine sg_store [_, _, _, _, _, _] rfl rfl rfl (of_decide_eq_true rfl) ?_
        | refine sg_store [_, _, _, _, _, _, _] rfl rfl rfl (of_decide_eq_true rfl) ?_)
      refine sk_load_rd rfl rfl hr0 rfl ?_
      repeat' (first
        | refine sk_nil ?_
        | refine sk_pure rfl rfl (ps_move rfl) rfl ?_
        | refine sk_pure rfl rfl (ps_assign rfl) rfl ?_
        | refine sk_pure rfl rfl (ps_nilCheck rfl) rfl ?_
        | refine sk_pure rfl rfl (ps_fieldAddr rfl) rfl ?_
        | refine sk_pure rfl rfl (ps_add64 rfl rfl (by omega)) rfl ?_
        | refine sk_pure rfl rfl (ps_sub64 rfl rfl (by omega)) rfl ?_
        | refine sk_pure rfl rfl (ps_mul64 rfl rfl (by omega)) rfl ?_
        | refine sk_pure rfl rfl (ps_bin rfl rfl inferInstance) rfl ?_
        | refine sk_pure rfl rfl (ps_rem rfl rfl (by decide)) rfl ?_
        | refine sk_pure rfl rfl (ps_not rfl) rfl ?_
        | refine sk_pure rfl rfl (ps_conv rfl) rfl ?_
        | refine sk_pure rfl rfl (ps_shl rfl rfl (by decide) rfl) rfl ?_
        | refine sk_pure rfl rfl (ps_shr rfl rfl (by decide) rfl) rfl ?_
        | refine sk_pure rfl rfl (ps_len rfl) rfl ?_
        | refine sk_pure rfl rfl (ps_len_str rfl) rfl ?_
        | refine sk_pure rfl rfl (ps_extract rfl rfl) rfl ?_
        | refine sk_pure rfl rfl (ps_field rfl rfl) rfl ?_
        | refine sk_pure rfl rfl (ps_build rfl rfl) rfl ?_
        | refine sk_pure rfl rfl (ps_indexAddr rfl rfl rfl (by omega)) rfl ?_
        | refine sk_pure rfl rfl (ps_indexAddr (j := 0) rfl rfl rfl (by omega)) rfl ?_
        | refine sk_pure rfl rfl (ps_indexAddr (j := 1) rfl rfl rfl (by omega)) rfl ?_
        | refine sk_pure rfl rfl (ps_pick_t rfl rfl) rfl ?_
        | refine sk_pure rfl rfl (ps_pick_f rfl rfl) rfl ?_
        | refine sk_pure rfl rfl (ps_min2 rfl rfl) rfl ?_
        | refine sk_pure rfl rfl (ps_max2 rfl rfl) rfl ?_
        | refine sk_pure rfl rfl (ps_indexAddr_arr rfl rfl rfl (by omega)) rfl ?_
        | refine sk_no rfl rfl rfl rfl rfl ?_
        | refine sk_pure_g rfl rfl rfl rfl (ps_move rfl) rfl ?_
        | refine sk_pure_g rfl rfl rfl rfl (ps_assign rfl) rfl ?_
        | refine sk_pure_g rfl rfl rfl rfl (ps_nilCheck rfl) rfl ?_
        | refine sk_pure_g rfl rfl rfl rfl (ps_fieldAddr rfl) rfl ?_
        | refine sk_pure_g rfl rfl rfl rfl (ps_add64 rfl rfl (by omega)) rfl ?_
        | refine sk_pure_g rfl rfl rfl rfl (ps_sub64 rfl rfl (by omega)) rfl ?_
        | refine sk_pure_g rfl rfl rfl rfl (ps_mul64 rfl rfl (by omega)) rfl ?_
        | refine sk_pure_g rfl rfl rfl rfl (ps_bin rfl rfl inferInstance) rfl ?_
        | refine sk_pure_g rfl rfl rfl rfl (ps_rem rfl rfl (by decide)) rfl ?_
        | refine sk_pure_g rfl rfl rfl rfl (ps_not rfl) rfl ?_
        | refine sk_pure_g rfl rfl rfl rfl (ps_conv rfl) rfl ?_
        | refine sk_pure_g rfl rfl rfl rfl (ps_shl rfl rfl (by decide) rfl) rfl ?_
        | refine sk_pure_g rfl rfl rfl rfl (ps_shr rfl rfl (by decide) rfl) rfl ?_
        | refine sk_pure_g rfl rfl rfl rfl (ps_len rfl) rfl ?_
        | refine sk_pure_g rfl rfl rfl rfl (ps_len_str rfl) rfl ?_
        | refine sk_pure_g rfl rfl rfl rfl (ps_extract rfl rfl) rfl ?_
        | refine sk_pure_g rfl rfl rfl rfl (ps_field rfl rfl) rfl ?_
        | refine sk_pure_g rfl rfl rfl rfl (ps_build rfl rfl) rfl ?_
        | refine sk_pure_g rfl rfl rfl rfl (ps_indexAddr rfl rfl rfl (by omega)) rfl ?_
        | refine sk_pure_g rfl rfl rfl rfl (ps_indexAddr (j := 0) rfl rfl rfl (by omega)) rfl ?_
        | refine sk_pure_g rfl rfl rfl rfl (ps_indexAddr (j := 1) rfl rfl rfl (by omega)) rfl ?_
        | refine sk_pure_g rfl rfl rfl rfl (ps_pick_t rfl rfl) rfl ?_
        | refine sk_pure_g rfl rfl rfl rfl (ps_pick_f rfl rfl) rfl ?_
        | refine sk_pure_g rfl rfl rfl rfl (ps_min2 rfl rfl) rfl ?_
        | refine sk_pure_g rfl rfl rfl rfl (ps_max2 rfl rfl) rfl ?_
        | refine sk_pure_g rfl rfl rfl rfl (ps_indexAddr_arr rfl rfl rfl (by omega)) rfl ?_
        | refine sk_load 0 rfl rfl rfl rfl rfl ?_
        | refine sk_load 1 rfl rfl rfl rfl rfl ?_
        | refine sk_load 2 rfl rfl rfl rfl rfl ?_
        | refine sk_load 3 rfl rfl rfl rfl rfl ?_
        | refine sk_load 4 rfl rfl rfl rfl rfl ?_
        | refine sk_load 5 rfl rfl rfl rfl rfl ?_
        | refine sk_load_g 0 rfl rfl rfl rfl rfl rfl rfl ?_
        | refine sk_load_g 1 rfl rfl rfl rfl rfl rfl rfl ?_
        | refine sk_load_g 2 rfl rfl rfl rfl rfl rfl rfl ?_
        | refine sk_load_g 3 rfl rfl rfl rfl rfl rfl rfl ?_
        | refine sk_load_g 4 rfl rfl rfl rfl rfl rfl rfl ?_
        | refine sk_load_g 5 rfl rfl rfl rfl rfl rfl rfl ?_
        | refine sk_eff rfl rfl ?_
        | refine sg_guard_yes rfl rfl ?_
        | refine sg_guard_nf rfl rfl rfl ?_
        | refine sg_guard_nt rfl rfl rfl ?_
        | refine sg_guard_nu rfl rfl rfl ?_
        | refine sk_back (fun w hO => hO) ?_
        | refine sg_store [] rfl rfl rfl (of_decide_eq_true rfl) ?_
        | refine sg_store [_] rfl rfl rfl (of_decide_eq_true rfl) ?_
        | refine sg_store [_, _] rfl rfl rfl (of_decide_eq_true rfl) ?_
        | refine sg_store [_, _, _] rfl rfl rfl (of_decide_eq_true rfl) ?_
        | refine sg_store [_, _, _, _] rfl rfl rfl (of_decide_eq_true rfl) ?_
        | refine sg_store [_, _, _, _, _] rfl rfl rfl (of_decide_eq_true rfl) ?_
        | refine sg_store [_, _, _, _, _, _] rfl rfl rfl (of_decide_eq_true rfl) ?_
        | refine sg_store [_, _, _, _, _, _, _] rfl rfl rfl (of_decide_eq_true rfl) ?_)
      refine sk_load_rd rfl rfl hr1 rfl ?_
      repeat' (first
        | refine sk_nil ?_
        | refine sk_pure rfl rfl (ps_move rfl) rfl ?_
        | refine sk_pure rfl rfl (ps_assign rfl) rfl ?_
        | refine sk_pure rfl rfl (ps_nilCheck rfl) rfl ?_
        | refine sk_pure rfl rfl (ps_fieldAddr rfl) rfl ?_
        | refine sk_pure rfl rfl (ps_add64 rfl rfl (by omega)) rfl ?_
        | refine sk_pure rfl rfl (ps_sub64 rfl rfl (by omega)) rfl ?_
        | refine sk_pure rfl rfl (ps_mul64 rfl rfl (by omega)) rfl ?_
        | refine sk_pure rfl rfl (ps_bin rfl rfl inferInstance) rfl ?_
        | refine sk_pure rfl rfl (ps_rem rfl rfl (by decide)) rfl ?_
        | refine sk_pure rfl rfl (ps_not rfl) rfl ?_
        | refine sk_pure rfl rfl (ps_conv rfl) rfl ?_
        | refine sk_pure rfl rfl (ps_shl rfl rfl (by decide) rfl) rfl ?_
        | refine sk_pure rfl rfl (ps_shr rfl rfl (by decide) rfl) rfl ?_
        | refine sk_pure rfl rfl (ps_len rfl) rfl ?_
        | refine sk_pure rfl rfl (ps_len_str rfl) rfl ?_
        | refine sk_pure rfl rfl (ps_extract rfl rfl) rfl ?_
        | refine sk_pure rfl rfl (ps_field rfl rfl) rfl ?_
        | refine sk_pure rfl rfl (ps_build rfl rfl) rfl ?_
        | refine sk_pure rfl rfl (ps_indexAddr rfl rfl rfl (by omega)) rfl ?_
        | refine sk_pure rfl rfl (ps_indexAddr (j := 0) rfl rfl rfl (by omega)) rfl ?_
        | refine sk_pure rfl rfl (ps_indexAddr (j := 1) rfl rfl rfl (by omega)) rfl ?_
        | refine sk_pure rfl rfl (ps_pick_t rfl rfl) rfl ?_
        | refine sk_pure rfl rfl (ps_pick_f rfl rfl) rfl ?_
        | refine sk_pure rfl rfl (ps_min2 rfl rfl) rfl ?_
        | refine sk_pure rfl rfl (ps_max2 rfl rfl) rfl ?_
        | refine sk_pure rfl rfl (ps_indexAddr_arr rfl rfl rfl (by omega)) rfl ?_
        | refine sk_no rfl rfl rfl rfl rfl ?_
        | refine sk_pure_g rfl rfl rfl rfl (ps_move rfl) rfl ?_
        | refine sk_pure_g rfl rfl rfl rfl (ps_assign rfl) rfl ?_
        | refine sk_pure_g rfl rfl rfl rfl (ps_nilCheck rfl) rfl ?_
        | refine sk_pure_g rfl rfl rfl rfl (ps_fieldAddr rfl) rfl ?_
        | refine sk_pure_g rfl rfl rfl rfl (ps_add64 rfl rfl (by omega)) rfl ?_
        | refine sk_pure_g rfl rfl rfl rfl (ps_sub64 rfl rfl (by omega)) rfl ?_
        | refine sk_pure_g rfl rfl rfl rfl (ps_mul64 rfl rfl (by omega)) rfl ?_
        | refine sk_pure_g rfl rfl rfl rfl (ps_bin rfl rfl inferInstance) rfl ?_
        | refine sk_pure_g rfl rfl rfl rfl (ps_rem rfl rfl (by decide)) rfl ?_
        | refine sk_pure_g rfl rfl rfl rfl (ps_not rfl) rfl ?_
        | refine sk_pure_g rfl rfl rfl rfl (ps_conv rfl) rfl ?_
        | refine sk_pure_g rfl rfl rfl rfl (ps_shl rfl rfl (by decide) rfl) rfl ?_
        | refine sk_pure_g rfl rfl rfl rfl (ps_shr rfl rfl (by decide) rfl) rfl ?_
        | refine sk_pure_g rfl rfl rfl rfl (ps_len rfl) rfl ?_
        | refine sk_pure_g rfl rfl rfl rfl (ps_len_str rfl) rfl ?_
        | refine sk_pure_g rfl rfl rfl rfl (ps_extract rfl rfl) rfl ?_
        | refine sk_pure_g rfl rfl rfl rfl (ps_field rfl rfl) rfl ?_
        | refine sk_pure_g rfl rfl rfl rfl (ps_build rfl rfl) rfl ?_
        | refine sk_pure_g rfl rfl rfl rfl (ps_indexAddr rfl rfl rfl (by omega)) rfl ?_
        | refine sk_pure_g rfl rfl rfl rfl (ps_indexAddr (j := 0) rfl rfl rfl (by omega)) rfl ?_
        | refine sk_pure_g rfl rfl rfl rfl (ps_indexAddr (j := 1) rfl rfl rfl (by omega)) rfl ?_
        | refine sk_pure_g rfl rfl rfl rfl (ps_pick_t rfl rfl) rfl ?_
        | refine sk_pure_g rfl rfl rfl rfl (ps_pick_f rfl rfl) rfl ?_
        | refine sk_pure_g rfl rfl rfl rfl (ps_min2 rfl rfl) rfl ?_
        | refine sk_pure_g rfl rfl rfl rfl (ps_max2 rfl rfl) rfl ?_
        | refine sk_pure_g rfl rfl rfl rfl (ps_indexAddr_arr rfl rfl rfl (by omega)) rfl ?_
        | refine sk_load 0 rfl rfl rfl rfl rfl ?_
        | refine sk_load 1 rfl rfl rfl rfl rfl ?_
        | refine sk_load 2 rfl rfl rfl rfl rfl ?_
        | refine sk_load 3 rfl rfl rfl rfl rfl ?_
        | refine sk_load 4 rfl rfl rfl rfl rfl ?_
        | refine sk_load 5 rfl rfl rfl rfl rfl ?_
        | refine sk_load_g 0 rfl rfl rfl rfl rfl rfl rfl ?_
        | refine sk_load_g 1 rfl rfl rfl rfl rfl rfl rfl ?_
        | refine sk_load_g 2 rfl rfl rfl rfl rfl rfl rfl ?_
        | refine sk_load_g 3 rfl rfl rfl rfl rfl rfl rfl ?_
        | refine sk_load_g 4 rfl rfl rfl rfl rfl rfl rfl ?_
        | refine sk_load_g 5 rfl rfl rfl rfl rfl rfl rfl ?_
        | refine sk_eff rfl rfl ?_
        | refine sg_guard_yes rfl rfl ?_
        | refine sg_guard_nf rfl rfl rfl ?_
        | refine sg_guard_nt rfl rfl rfl ?_
        | refine sg_guard_nu rfl rfl rfl ?_
        | refine sk_back (fun w hO => hO) ?_
        | refine sg_store [] rfl rfl rfl (of_decide_eq_true rfl) ?_
        | refine sg_store [_] rfl rfl rfl (of_decide_eq_true rfl) ?_
        | refine sg_store [_, _] rfl rfl rfl (of_decide_eq_true rfl) ?_
        | refine sg_store [_, _, _] rfl rfl rfl (of_decide_eq_true rfl) ?_
        | refine sg_store [_, _, _, _] rfl rfl rfl (of_decide_eq_true rfl) ?_
        | refine sg_store [_, _, _, _, _] rfl rfl rfl (of_decide_eq_true rfl) ?_
        | refine sg_store [_, _, _, _, _, _] rfl rfl rfl (of_decide_eq_true rfl) ?_
        | refine sg_store [_, _, _, _, _, _, _] rfl rfl rfl (of_decide_eq_true rfl) ?_)
      rw [i64_u8, i64_u8, i64_mul _ _ (by omega) hy1, ← hlong]
      have hN : S.long < 65536 := by rw [hlong]; omega
      repeat' (first
        | refine sg_wo ?_
        | refine sg_ps (ps_move rfl) rfl ?_
        | refine sg_ps (ps_assign rfl) rfl ?_
        | refine sg_seq ?_
        | refine sg_region ?_
        | refine sg_nil ?_
        | refine sg_then ?_
        | refine sg_ps (ps_fieldAddr rfl) rfl ?_
        | refine sg_ps (ps_nilCheck rfl) rfl ?_
        | refine sg_load 0 rfl rfl rfl rfl ?_
        | refine sg_load 1 rfl rfl rfl rfl ?_
        | refine sg_load 2 rfl rfl rfl rfl ?_
        | refine sg_load 3 rfl rfl rfl rfl ?_
        | refine sg_load 4 rfl rfl rfl rfl ?_
        | refine sg_load 5 rfl rfl rfl rfl ?_
        | refine sg_load 6 rfl rfl rfl rfl ?_
        | refine sg_load 7 rfl rfl rfl rfl ?_
        | refine sg_ps (ps_add64 rfl rfl (by omega)) rfl ?_
        | refine sg_ps (ps_sub64 rfl rfl (by omega)) rfl ?_
        | refine sg_ps (ps_mul64 rfl rfl (by omega)) rfl ?_
        | refine sg_ps (ps_bin rfl rfl inferInstance) rfl ?_
        | refine sg_ps (ps_rem rfl rfl (by decide)) rfl ?_
        | refine sg_ps (ps_quo64 rfl rfl (by decide) (by omega)) rfl ?_
        | refine sg_ps (ps_not rfl) rfl ?_
        | refine sg_ps (ps_conv rfl) rfl ?_
        | refine sg_ps (ps_shl rfl rfl (by decide) rfl) rfl ?_
        | refine sg_ps (ps_shr rfl rfl (by decide) rfl) rfl ?_
        | refine sg_cond_t rfl ?_
        | refine sg_cond_f rfl ?_
        | refine sg_guard_yes rfl rfl ?_
        | refine sg_guard_nf rfl rfl rfl ?_
        | refine sg_guard_nt rfl rfl rfl ?_
        | refine sg_guard_nu rfl rfl rfl ?_
        | refine sg_ps (ps_pick_t rfl rfl) rfl ?_
        | refine sg_ps (ps_pick_f rfl rfl) rfl ?_
        | refine sg_ps (ps_len rfl) rfl ?_
        | refine sg_ps (ps_len_str rfl) rfl ?_
        | refine sg_ps (ps_extract rfl rfl) rfl ?_
        | refine sg_ps (ps_field rfl rfl) rfl ?_
        | refine sg_ps (ps_min2 rfl rfl) rfl ?_
        | refine sg_ps (ps_max2 rfl rfl) rfl ?_
        | refine sg_ps (ps_build rfl rfl) rfl ?_
        | refine sg_box rfl rfl (fun bx => ?_)
        | refine sg_ps (ps_indexAddr rfl rfl rfl (by omega)) rfl ?_
        | refine sg_ps (ps_indexAddr (j := 0) rfl rfl rfl (by omega)) rfl ?_
        | refine sg_ps (ps_indexAddr (j := 1) rfl rfl rfl (by omega)) rfl ?_
        | refine sg_ps (ps_indexAddr_arr rfl rfl rfl (by omega)) rfl ?_
        | refine sg_block ?_
        | refine sg_skip ?_
        | refine sg_ret ?_
        | refine sg_exit ?_
        | refine ex_then_ret ?_
        | refine ex_then_exit ?_
        | refine ex_block_ret ?_
        | refine ex_block_normal ?_
        | refine ex_block_hit ?_
        | refine ex_block_miss rfl ?_
        | refine sg_store [] rfl rfl rfl (of_decide_eq_true rfl) ?_
        | refine sg_store [_] rfl rfl rfl (of_decide_eq_true rfl) ?_
        | refine sg_store [_, _] rfl rfl rfl (of_decide_eq_true rfl) ?_
        | refine sg_store [_, _, _] rfl rfl rfl (of_decide_eq_true rfl) ?_
        | refine sg_store [_, _, _, _] rfl rfl rfl (of_decide_eq_true rfl) ?_
        | refine sg_store [_, _, _, _, _] rfl rfl rfl (of_decide_eq_true rfl) ?_
        | refine sg_store [_, _, _, _, _, _] rfl rfl rfl (of_decide_eq_true rfl) ?_
        | refine sg_store [_, _, _, _, _, _, _] rfl rfl rfl (of_decide_eq_true rfl) ?_
        | (refine sg_guard_dec rfl rfl (fun hg => ?_) (fun hg => ?_) <;> first | (exfalso; omega) | (exact absurd rfl hg) | skip)
        | (refine sg_guard_ndec rfl rfl (fun hg => ?_) (fun hg => ?_) <;> first | (exfalso; omega) | (exact absurd rfl hg) | skip)
        | (refine sg_cond_dec rfl (fun hg => ?_) (fun hg => ?_) <;> first | (exfalso; omega) | (exact absurd rfl hg) | skip)
        | (refine sg_cond_ndec rfl (fun hg => ?_) (fun hg => ?_) <;> first | (exfalso; omega) | (exact absurd rfl hg) | skip)
        | refine sg_cond_not rfl (fun hg => ?_) (fun hg => ?_)
        | refine sg_cond rfl (fun hg => ?_) (fun hg => ?_))
      refine sg_call (rLeft0 i (some ⟨b, o, none⟩) c all.length at_ hk hm false _) rfl rfl (fun _ _ => ?_)
      rw [← hl]
      repeat' (first
        | refine sg_wo ?_
        | refine sg_ps (ps_move rfl) rfl ?_
        | refine sg_ps (ps_assign rfl) rfl ?_
        | refine sg_seq ?_
        | refine sg_region ?_
        | refine sg_nil ?_
        | refine sg_then ?_
        | refine sg_ps (ps_fieldAddr rfl) rfl ?_
        | refine sg_ps (ps_nilCheck rfl) rfl ?_
        | refine sg_load 0 rfl rfl rfl rfl ?_
        | refine sg_load 1 rfl rfl rfl rfl ?_
        | refine sg_load 2 rfl rfl rfl rfl ?_
        | refine sg_load 3 rfl rfl rfl rfl ?_
        | refine sg_load 4 rfl rfl rfl rfl ?_
        | refine sg_load 5 rfl rfl rfl rfl ?_
        | refine sg_load 6 rfl rfl rfl rfl ?_
        | refine sg_load 7 rfl rfl rfl rfl ?_
        | refine sg_ps (ps_add64 rfl rfl (by omega)) rfl ?_
        | refine sg_ps (ps_sub64 rfl rfl (by omega)) rfl ?_
        | refine sg_ps (ps_mul64 rfl rfl (by omega)) rfl ?_
        | refine sg_ps (ps_bin rfl rfl inferInstance) rfl ?_
        | refine sg_ps (ps_rem rfl rfl (by decide)) rfl ?_
        | refine sg_ps (ps_quo64 rfl rfl (by decide) (by omega)) rfl ?_
        | refine sg_ps (ps_not rfl) rfl ?_
        | refine sg_ps (ps_conv rfl) rfl ?_
        | refine sg_ps (ps_shl rfl rfl (by decide) rfl) rfl ?_
        | refine sg_ps (ps_shr rfl rfl (by decide) rfl) rfl ?_
        | refine sg_cond_t rfl ?_
        | refine sg_cond_f rfl ?_
        | refine sg_guard_yes rfl rfl ?_
        | refine sg_guard_nf rfl rfl rfl ?_
        | refine sg_guard_nt rfl rfl rfl ?_
        | refine sg_guard_nu rfl rfl rfl ?_
        | refine sg_ps (ps_pick_t rfl rfl) rfl ?_
        | refine sg_ps (ps_pick_f rfl rfl) rfl ?_
        | refine sg_ps (ps_len rfl) rfl ?_
        | refine sg_ps (ps_len_str rfl) rfl ?_
        | refine sg_ps (ps_extract rfl rfl) rfl ?_
        | refine sg_ps (ps_field rfl rfl) rfl ?_
        | refine sg_ps (ps_min2 rfl rfl) rfl ?_
        | refine sg_ps (ps_max2 rfl rfl) rfl ?_
        | refine sg_ps (ps_build rfl rfl) rfl ?_
        | refine sg_box rfl rfl (fun bx => ?_)
        | refine sg_ps (ps_indexAddr rfl rfl rfl (by omega)) rfl ?_
        | refine sg_ps (ps_indexAddr (j := 0) rfl rfl rfl (by omega)) rfl ?_
        | refine sg_ps (ps_indexAddr (j := 1) rfl rfl rfl (by omega)) rfl ?_
        | refine sg_ps (ps_indexAddr_arr rfl rfl rfl (by omega)) rfl ?_
        | refine sg_block ?_
        | refine sg_skip ?_
        | refine sg_ret ?_
        | refine sg_exit ?_
        | refine ex_then_ret ?_
        | refine ex_then_exit ?_
        | refine ex_block_ret ?_
        | refine ex_block_normal ?_
        | refine ex_block_hit ?_
        | refine ex_block_miss rfl ?_
        | refine sg_store [] rfl rfl rfl (of_decide_eq_true rfl) ?_
        | refine sg_store [_] rfl rfl rfl (of_decide_eq_true rfl) ?_
        | refine sg_store [_, _] rfl rfl rfl (of_decide_eq_true rfl) ?_
        | refine sg_store [_, _, _] rfl rfl rfl (of_decide_eq_true rfl) ?_
        | refine sg_store [_, _, _, _] rfl rfl rfl (of_decide_eq_true rfl) ?_
        | refine sg_store [_, _, _, _, _] rfl rfl rfl (of_decide_eq_true rfl) ?_
        | refine sg_store [_, _, _, _, _, _] rfl rfl rfl (of_decide_eq_true rfl) ?_
        | refine sg_store [_, _, _, _, _, _, _] rfl rfl rfl (of_decide_eq_true rfl) ?_
        | (refine sg_guard_dec rfl rfl (fun hg => ?_) (fun hg => ?_) <;> first | (exfalso; omega) | (exact absurd rfl hg) | skip)
        | (refine sg_guard_ndec rfl rfl (fun hg => ?_) (fun hg => ?_) <;> first | (exfalso; omega) | (exact absurd rfl hg) | skip)
        | (refine sg_cond_dec rfl (fun hg => ?_) (fun hg => ?_) <;> first | (exfalso; omega) | (exact absurd rfl hg) | skip)
        | (refine sg_cond_ndec rfl (fun hg => ?_) (fun hg => ?_) <;> first | (exfalso; omega) | (exact absurd rfl hg) | skip)
        | refine sg_cond_not rfl (fun hg => ?_) (fun hg => ?_)
        | refine sg_cond rfl (fun hg => ?_) (fun hg => ?_))
      · have e : S.text = ([], S.spoil) := if_pos (.inr (.inr (by omega)))
        rw [e]
        exact ex_ret1 rfl rfl () rfl trivial (fun w hO => RefIn.shut (RX.spoil hx) rfl hO)
      · have e : S.text = ((S.bs.drop 2).take S.long, S.fwd (2 + S.long)) := if_neg (by rintro (h | h | h); exact hb h; omega; omega)
        rw [e]
        have hrd : Rd W (blk i (rcells (some ⟨b, o, none⟩) all.length c (at_ + (2 + S.long)) false) :: rsl (some ⟨b, o, none⟩) (all.map bv) :: R) (sadd (some ⟨b, o, none⟩) c (at_ + 2)) (((S.bs.drop 2).take S.long).map bv) := by
          have h1 : Rd W (blk i (rcells (some ⟨b, o, none⟩) all.length c (at_ + (2 + S.long)) false) :: rsl (some ⟨b, o, none⟩) (all.map bv) :: R) (some ⟨b, o, none⟩) (all.map bv) := rd_rsl_self 1 rfl
          have h2 := (h1.sub (c := c) (at_ + 2) (by simpa using hc)).take S.long
          rw [← List.map_drop, ← List.map_take, ← List.drop_drop] at h2
          rw [hx.bs]
          exact h2
        refine sg_draw [0, 1, 2, 4, 5, 6, 8, 10, 11, 12, 7, 9, 3, 13, 14, 15, 16] (by kernel_rfl) (by kernel_rfl) ?_
        repeat' (first
          | refine sd_nil ?_
          | refine sd_pure rfl rfl (ps_move rfl) rfl ?_
          | refine sd_pure rfl rfl (ps_assign rfl) rfl ?_
          | refine sd_pure rfl rfl (ps_nilCheck rfl) rfl ?_
          | refine sd_pure rfl rfl (ps_fieldAddr rfl) rfl ?_
          | refine sd_pure rfl rfl (ps_add64 rfl rfl (by omega)) rfl ?_
          | refine sd_pure rfl rfl (ps_sub64 rfl rfl (by omega)) rfl ?_
          | refine sd_pure rfl rfl (ps_mul64 rfl rfl (by omega)) rfl ?_
          | refine sd_pure rfl rfl (ps_bin rfl rfl inferInstance) rfl ?_
          | refine sd_pure rfl rfl (ps_rem rfl rfl (by decide)) rfl ?_
          | refine sd_pure rfl rfl (ps_not rfl) rfl ?_
          | refine sd_pure rfl rfl (ps_conv rfl) rfl ?_
          | refine sd_pure rfl rfl (ps_shl rfl rfl (by decide) rfl) rfl ?_
          | refine sd_pure rfl rfl (ps_shr rfl rfl (by decide) rfl) rfl ?_
          | refine sd_pure rfl rfl (ps_len rfl) rfl ?_
          | refine sd_pure rfl rfl (ps_len_str rfl) rfl ?_
          | refine sd_pure rfl rfl (ps_extract rfl rfl) rfl ?_
          | refine sd_pure rfl rfl (ps_field rfl rfl) rfl ?_
          | refine sd_pure rfl rfl (ps_build rfl rfl) rfl ?_
          | refine sd_pure rfl rfl (ps_indexAddr rfl rfl rfl (by omega)) rfl ?_
          | refine sd_pure rfl rfl (ps_indexAddr (j := 0) rfl rfl rfl (by omega)) rfl ?_
          | refine sd_pure rfl rfl (ps_indexAddr (j := 1) rfl rfl rfl (by omega)) rfl ?_
          | refine sd_pure rfl rfl (ps_pick_t rfl rfl) rfl ?_
          | refine sd_pure rfl rfl (ps_pick_f rfl rfl) rfl ?_
          | refine sd_pure rfl rfl (ps_min2 rfl rfl) rfl ?_
          | refine sd_pure rfl rfl (ps_max2 rfl rfl) rfl ?_
          | refine sd_pure rfl rfl (ps_indexAddr_arr rfl rfl rfl (by omega)) rfl ?_
          | refine sd_no rfl rfl rfl rfl rfl ?_
          | refine sd_pure_g rfl rfl rfl rfl (ps_move rfl) rfl ?_
          | refine sd_pure_g rfl rfl rfl rfl (ps_assign rfl) rfl ?_
          | refine sd_pure_g rfl rfl rfl rfl (ps_nilCheck rfl) rfl ?_
          | refine sd_pure_g rfl rfl rfl rfl (ps_fieldAddr rfl) rfl ?_
          | refine sd_pure_g rfl rfl rfl rfl (ps_add64 rfl rfl (by omega)) rfl ?_
          | refine sd_pure_g rfl rfl rfl rfl (ps_sub64 rfl rfl (by omega)) rfl ?_
          | refine sd_pure_g rfl rfl rfl rfl (ps_mul64 rfl rfl (by omega)) rfl ?_
          | refine sd_pure_g rfl rfl rfl rfl (ps_bin rfl rfl inferInstance) rfl ?_
          | refine sd_pure_g rfl rfl rfl rfl (ps_rem rfl rfl (by decide)) rfl ?_
          | refine sd_pure_g rfl rfl rfl rfl (ps_not rfl) rfl ?_
          | refine sd_pure_g rfl rfl rfl rfl (ps_conv rfl) rfl ?_
          | refine sd_pure_g rfl rfl rfl rfl (ps_shl rfl rfl (by decide) rfl) rfl ?_
          | refine sd_pure_g rfl rfl rfl rfl (ps_shr rfl rfl (by decide) rfl) rfl ?_
          | refine sd_pure_g rfl rfl rfl rfl (ps_len rfl) rfl ?_
          | refine sd_pure_g rfl rfl rfl rfl (ps_len_str rfl) rfl ?_
          | refine sd_pure_g rfl rfl rfl rfl (ps_extract rfl rfl) rfl ?_
          | refine sd_pure_g rfl rfl rfl rfl (ps_field rfl rfl) rfl ?_
          | refine sd_pure_g rfl rfl rfl rfl (ps_build rfl rfl) rfl ?_
          | refine sd_pure_g rfl rfl rfl rfl (ps_indexAddr rfl rfl rfl (by omega)) rfl ?_
          | refine sd_pure_g rfl rfl rfl rfl (ps_indexAddr (j := 0) rfl rfl rfl (by omega)) rfl ?_
          | refine sd_pure_g rfl rfl rfl rfl (ps_indexAddr (j := 1) rfl rfl rfl (by omega)) rfl ?_
          | refine sd_pure_g rfl rfl rfl rfl (ps_pick_t rfl rfl) rfl ?_
          | refine sd_pure_g rfl rfl rfl rfl (ps_pick_f rfl rfl) rfl ?_
          | refine sd_pure_g rfl rfl rfl rfl (ps_min2 rfl rfl) rfl ?_
          | refine sd_pure_g rfl rfl rfl rfl (ps_max2 rfl rfl) rfl ?_
          | refine sd_pure_g rfl rfl rfl rfl (ps_indexAddr_arr rfl rfl rfl (by omega)) rfl ?_
          | refine sd_load 0 rfl rfl rfl rfl rfl ?_
          | refine sd_load 1 rfl rfl rfl rfl rfl ?_
          | refine sd_load 2 rfl rfl rfl rfl rfl ?_
          | refine sd_load 3 rfl rfl rfl rfl rfl ?_
          | refine sd_load 4 rfl rfl rfl rfl rfl ?_
          | refine sd_load 5 rfl rfl rfl rfl rfl ?_
          | refine sd_load 6 rfl rfl rfl rfl rfl ?_
          | refine sd_load 7 rfl rfl rfl rfl rfl ?_
          | refine sd_eff rfl rfl ?_
          | refine sg_guard_yes rfl rfl ?_
          | refine sg_guard_nf rfl rfl rfl ?_
          | refine sg_guard_nt rfl rfl rfl ?_
          | refine sg_guard_nu rfl rfl rfl ?_
          | refine sg_store [] rfl rfl rfl (of_decide_eq_true rfl) ?_
          | refine sg_store [_] rfl rfl rfl (of_decide_eq_true rfl) ?_
          | refine sg_store [_, _] rfl rfl rfl (of_decide_eq_true rfl) ?_
          | refine sg_store [_, _, _] rfl rfl rfl (of_decide_eq_true rfl) ?_
          | refine sg_store [_, _, _, _] rfl rfl rfl (of_decide_eq_true rfl) ?_
          | refine sg_store [_, _, _, _, _] rfl rfl rfl (of_decide_eq_true rfl) ?_
          | refine sg_store [_, _, _, _, _, _] rfl rfl rfl (of_decide_eq_true rfl) ?_
          | refine sg_store [_, _, _, _, _, _, _] rfl rfl rfl (of_decide_eq_true rfl) ?_)
        refine sd_pure rfl rfl (ps_slice_lh1 (l := at_ + 2) (h' := at_ + (2 + S.long)) rfl rfl rfl (by omega) (by omega) (by omega) (by omega)) rfl ?_
        refine sd_str rfl rfl rfl ?_ hrd ?_
        · simp; omega
        repeat' (first
          | refine sd_nil ?_
          | refine sd_pure rfl rfl (ps_move rfl) rfl ?_
          | refine sd_pure rfl rfl (ps_assign rfl) rfl ?_
          | refine sd_pure rfl rfl (ps_nilCheck rfl) rfl ?_
          | refine sd_pure rfl rfl (ps_fieldAddr rfl) rfl ?_
          | refine sd_pure rfl rfl (ps_add64 rfl rfl (by omega)) rfl ?_
          | refine sd_pure rfl rfl (ps_sub64 rfl rfl (by omega)) rfl ?_
          | refine sd_pure rfl rfl (ps_mul64 rfl rfl (by omega)) rfl ?_
          | refine sd_pure rfl rfl (ps_bin rfl rfl inferInstance) rfl ?_
          | refine sd_pure rfl rfl (ps_rem rfl rfl (by decide)) rfl ?_
          | refine sd_pure rfl rfl (ps_not rfl) rfl ?_
          | refine sd_pure rfl rfl (ps_conv rfl) rfl ?_
          | refine sd_pure rfl rfl (ps_shl rfl rfl (by decide) rfl) rfl ?_
          | refine sd_pure rfl rfl (ps_shr rfl rfl (by decide) rfl) rfl ?_
          | refine sd_pure rfl rfl (ps_len rfl) rfl ?_
          | refine sd_pure rfl rfl (ps_len_str rfl) rfl ?_
          | refine sd_pure rfl rfl (ps_extract rfl rfl) rfl ?_
          | refine sd_pure rfl rfl (ps_field rfl rfl) rfl ?_
          | refine sd_pure rfl rfl (ps_build rfl rfl) rfl ?_
          | refine sd_pure rfl rfl (ps_indexAddr rfl rfl rfl (by omega)) rfl ?_
          | refine sd_pure rfl rfl (ps_indexAddr (j := 0) rfl rfl rfl (by omega)) rfl ?_
          | refine sd_pure rfl rfl (ps_indexAddr (j := 1) rfl rfl rfl (by omega)) rfl ?_
          | refine sd_pure rfl rfl (ps_pick_t rfl rfl) rfl ?_
          | refine sd_pure rfl rfl (ps_pick_f rfl rfl) rfl ?_
          | refine sd_pure rfl rfl (ps_min2 rfl rfl) rfl ?_
          | refine sd_pure rfl rfl (ps_max2 rfl rfl) rfl ?_
          | refine sd_pure rfl rfl (ps_indexAddr_arr rfl rfl rfl (by omega)) rfl ?_
          | refine sd_no rfl rfl rfl rfl rfl ?_
          | refine sd_pure_g rfl rfl rfl rfl (ps_move rfl) rfl ?_
          | refine sd_pure_g rfl rfl rfl rfl (ps_assign rfl) rfl ?_
          | refine sd_pure_g rfl rfl rfl rfl (ps_nilCheck rfl) rfl ?_
          | refine sd_pure_g rfl rfl rfl rfl (ps_fieldAddr rfl) rfl ?_
          | refine sd_pure_g rfl rfl rfl rfl (ps_add64 rfl rfl (by omega)) rfl ?_
          | refine sd_pure_g rfl rfl rfl rfl (ps_sub64 rfl rfl (by omega)) rfl ?_
          | refine sd_pure_g rfl rfl rfl rfl (ps_mul64 rfl rfl (by omega)) rfl ?_
          | refine sd_pure_g rfl rfl rfl rfl (ps_bin rfl rfl inferInstance) rfl ?_
          | refine sd_pure_g rfl rfl rfl rfl (ps_rem rfl rfl (by decide)) rfl ?_
          | refine sd_pure_g rfl rfl rfl rfl (ps_not rfl) rfl ?_
          | refine sd_pure_g rfl rfl rfl rfl (ps_conv rfl) rfl ?_
          | refine sd_pure_g rfl rfl rfl rfl (ps_shl rfl rfl (by decide) rfl) rfl ?_
          | refine sd_pure_g rfl rfl rfl rfl (ps_shr rfl rfl (by decide) rfl) rfl ?_
          | refine sd_pure_g rfl rfl rfl rfl (ps_len rfl) rfl ?_
          | refine sd_pure_g rfl rfl rfl rfl (ps_len_str rfl) rfl ?_
          | refine sd_pure_g rfl rfl rfl rfl (ps_extract rfl rfl) rfl ?_
          | refine sd_pure_g rfl rfl rfl rfl (ps_field rfl rfl) rfl ?_
          | refine sd_pure_g rfl rfl rfl rfl (ps_build rfl rfl) rfl ?_
          | refine sd_pure_g rfl rfl rfl rfl (ps_indexAddr rfl rfl rfl (by omega)) rfl ?_
          | refine sd_pure_g rfl rfl rfl rfl (ps_indexAddr (j := 0) rfl rfl rfl (by omega)) rfl ?_
          | refine sd_pure_g rfl rfl rfl rfl (ps_indexAddr (j := 1) rfl rfl rfl (by omega)) rfl ?_
          | refine sd_pure_g rfl rfl rfl rfl (ps_pick_t rfl rfl) rfl ?_
          | refine sd_pure_g rfl rfl rfl rfl (ps_pick_f rfl rfl) rfl ?_
          | refine sd_pure_g rfl rfl rfl rfl (ps_min2 rfl rfl) rfl ?_
          | refine sd_pure_g rfl rfl rfl rfl (ps_max2 rfl rfl) rfl ?_
          | refine sd_pure_g rfl rfl rfl rfl (ps_indexAddr_arr rfl rfl rfl (by omega)) rfl ?_
          | refine sd_load 0 rfl rfl rfl rfl rfl ?_
          | refine sd_load 1 rfl rfl rfl rfl rfl ?_
          | refine sd_load 2 rfl rfl rfl rfl rfl ?_
          | refine sd_load 3 rfl rfl rfl rfl rfl ?_
          | refine sd_load 4 rfl rfl rfl rfl rfl ?_
          | refine sd_load 5 rfl rfl rfl rfl rfl ?_
          | refine sd_load 6 rfl rfl rfl rfl rfl ?_
          | refine sd_load 7 rfl rfl rfl rfl rfl ?_
          | refine sd_eff rfl rfl ?_
          | refine sg_guard_yes rfl rfl ?_
          | refine sg_guard_nf rfl rfl rfl ?_
          | refine sg_guard_nt rfl rfl rfl ?_
          | refine sg_guard_nu rfl rfl rfl ?_
          | refine sg_store [] rfl rfl rfl (of_decide_eq_true rfl) ?_
          | refine sg_store [_] rfl rfl rfl (of_decide_eq_true rfl) ?_
          | refine sg_store [_, _] rfl rfl rfl (of_decide_eq_true rfl) ?_
          | refine sg_store [_, _, _] rfl rfl rfl (of_decide_eq_true rfl) ?_
          | refine sg_store [_, _, _, _] rfl rfl rfl (of_decide_eq_true rfl) ?_
          | refine sg_store [_, _, _, _, _] rfl rfl rfl (of_decide_eq_true rfl) ?_
          | refine sg_store [_, _, _, _, _, _] rfl rfl rfl (of_decide_eq_true rfl) ?_
          | refine sg_store [_, _, _, _, _, _, _] rfl rfl rfl (of_decide_eq_true rfl) ?_)
        repeat' (first
          | refine sg_wo ?_
          | refine sg_ps (ps_move rfl) rfl ?_
          | refine sg_ps (ps_assign rfl) rfl ?_
          | refine sg_seq ?_
          | refine sg_region ?_
          | refine sg_nil ?_
          | refine sg_then ?_
          | refine sg_ps (ps_fieldAddr rfl) rfl ?_
          | refine sg_ps (ps_nilCheck rfl) rfl ?_
          | refine sg_load 0 rfl rfl rfl rfl ?_
          | refine sg_load 1 rfl rfl rfl rfl ?_
          | refine sg_load 2 rfl rfl rfl rfl ?_
          | refine sg_load 3 rfl rfl rfl rfl ?_
          | refine sg_load 4 rfl rfl rfl rfl ?_
          | refine sg_load 5 rfl rfl rfl rfl ?_
          | refine sg_load 6 rfl rfl rfl rfl ?_
          | refine sg_load 7 rfl rfl rfl rfl ?_
          | refine sg_ps (ps_add64 rfl rfl (by omega)) rfl ?_
          | refine sg_ps (ps_sub64 rfl rfl (by omega)) rfl ?_
          | refine sg_ps (ps_mul64 rfl rfl (by omega)) rfl ?_
          | refine sg_ps (ps_bin rfl rfl inferInstance) rfl ?_
          | refine sg_ps (ps_rem rfl rfl (by decide)) rfl ?_
          | refine sg_ps (ps_quo64 rfl rfl (by decide) (by omega)) rfl ?_
          | refine sg_ps (ps_not rfl) rfl ?_
          | refine sg_ps (ps_conv rfl) rfl ?_
          | refine sg_ps (ps_shl rfl rfl (by decide) rfl) rfl ?_
          | refine sg_ps (ps_shr rfl rfl (by decide) rfl) rfl ?_
          | refine sg_cond_t rfl ?_
          | refine sg_cond_f rfl ?_
          | refine sg_guard_yes rfl rfl ?_
          | refine sg_guard_nf rfl rfl rfl ?_
          | refine sg_guard_nt rfl rfl rfl ?_
          | refine sg_guard_nu rfl rfl rfl ?_
          | refine sg_ps (ps_pick_t rfl rfl) rfl ?_
          | refine sg_ps (ps_pick_f rfl rfl) rfl ?_
          | refine sg_ps (ps_len rfl) rfl ?_
          | refine sg_ps (ps_len_str rfl) rfl ?_
          | refine sg_ps (ps_extract rfl rfl) rfl ?_
          | refine sg_ps (ps_field rfl rfl) rfl ?_
          | refine sg_ps (ps_min2 rfl rfl) rfl ?_
          | refine sg_ps (ps_max2 rfl rfl) rfl ?_
          | refine sg_ps (ps_build rfl rfl) rfl ?_
          | refine sg_box rfl rfl (fun bx => ?_)
          | refine sg_ps (ps_indexAddr rfl rfl rfl (by omega)) rfl ?_
          | refine sg_ps (ps_indexAddr (j := 0) rfl rfl rfl (by omega)) rfl ?_
          | refine sg_ps (ps_indexAddr (j := 1) rfl rfl rfl (by omega)) rfl ?_
          | refine sg_ps (ps_indexAddr_arr rfl rfl rfl (by omega)) rfl ?_
          | refine sg_block ?_
          | refine sg_skip ?_
          | refine sg_ret ?_
          | refine sg_exit ?_
          | refine ex_then_ret ?_
          | refine ex_then_exit ?_
          | refine ex_block_ret ?_
          | refine ex_block_normal ?_
          | refine ex_block_hit ?_
          | refine ex_block_miss rfl ?_
          | refine sg_store [] rfl rfl rfl (of_decide_eq_true rfl) ?_
          | refine sg_store [_] rfl rfl rfl (of_decide_eq_true rfl) ?_
          | refine sg_store [_, _] rfl rfl rfl (of_decide_eq_true rfl) ?_
          | refine sg_store [_, _, _] rfl rfl rfl (of_decide_eq_true rfl) ?_
          | refine sg_store [_, _, _, _] rfl rfl rfl (of_decide_eq_true rfl) ?_
          | refine sg_store [_, _, _, _, _] rfl rfl rfl (of_decide_eq_true rfl) ?_
          | refine sg_store [_, _, _, _, _, _] rfl rfl rfl (of_decide_eq_true rfl) ?_
          | refine sg_store [_, _, _, _, _, _, _] rfl rfl rfl (of_decide_eq_true rfl) ?_
          | (refine sg_guard_dec rfl rfl (fun hg => ?_) (fun hg => ?_) <;> first | (exfalso; omega) | (exact absurd rfl hg) | skip)
          | (refine sg_guard_ndec rfl rfl (fun hg => ?_) (fun hg => ?_) <;> first | (exfalso; omega) | (exact absurd rfl hg) | skip)
          | (refine sg_cond_dec rfl (fun hg => ?_) (fun hg => ?_) <;> first | (exfalso; omega) | (exact absurd rfl hg) | skip)
          | (refine sg_cond_ndec rfl (fun hg => ?_) (fun hg => ?_) <;> first | (exfalso; omega) | (exact absurd rfl hg) | skip)
          | refine sg_cond_not rfl (fun hg => ?_) (fun hg => ?_)
          | refine sg_cond rfl (fun hg => ?_) (fun hg => ?_))
        exact ex_ret1 rfl rfl () rfl trivial (fun w hO => RefIn.shut (k := at_ + (2 + S.long)) (RX.fwd hx (by omega)) rfl hO)
end Go.Proofs.Ytgjcnoecagiafaa
