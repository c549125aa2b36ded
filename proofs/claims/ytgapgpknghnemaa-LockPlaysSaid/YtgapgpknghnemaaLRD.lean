/- The reference table: Try. -/
import Derived.Test.YtgapgpknghnemaaLRC
namespace Go.Proofs.Ytgapgpknghnemaa
set_option linter.unusedVariables false
set_option linter.unusedSimpArgs false
set_option linter.unusedSectionVars false
set_option linter.unnecessarySimpa false
open Go Go.Proofs
def rtryS (R : RL) (o : Int) (l : List Lk) : Int × RL := if o = 0 then (1, R) else if rfreeS R o l = true then (0, R ++ l.map fun x => (o, x)) else (9, R)
set_option maxRecDepth 20000
set_option maxHeartbeats 4000000
attribute [local irreducible] SG WC WO W1 WD WK PS Rd Tri Exit.then Exit.inBlock bodyPost calmQ Mid sadd
variable {W : World} {n : Nat} {F : Fr} {L : List HP} {G : Act → World → Prop}
theorem rtry_tri (r : Nat) (R : RL) (o : Int) (l : List Lk) (la : Option Addr) (lc : Nat) (K : List HP) (hR : R.length ≤ 500000) (hll : l.length ≤ 500000) (hr : ∀ L, Rd W (L ++ K) la (lcells l)) :
    Tri Try.prog W 13 [dp r, u64 o, .slice la l.length lc] (RTab r R :: K) (X := Unit) (fun _ => i64 (rtryS R o l).1) (fun _ => True) (fun _ => RTab r (rtryS R o l).2 :: K) := by
  unfold rtryS
  refine tri_enter3 Try.func13 rfl Try.ntmps13 rfl ?_
  by_cases ho : o = 0
  · rw [if_pos ho]
    repeat' (first
      | refine sg_wo ?_
      | refine sg_ps (ps_move rfl) rfl ?_
      | refine sg_ps (ps_assign rfl) rfl ?_
      | refine sg_seq ?_
      | refine sg_region ?_
      | refine sg_nil ?_
      | refine sg_then ?_
      | refine sg_ps (ps_fieldAddr rfl) rfl ?_
      | refine sg_ps (ps_nilCheck rfl) rfl ?_
      | refine sg_load 0 rfl rfl rfl rfl ?_
      | refine sg_load 1 rfl rfl rfl rfl ?_
      | refine sg_load 2 rfl rfl rfl rfl ?_
      | refine sg_load 3 rfl rfl rfl rfl ?_
      | refine sg_load 4 rfl rfl rfl rfl ?_
      | refine sg_load 5 rfl rfl rfl rfl ?_
      | refine sg_load 6 rfl rfl rfl rfl ?_
      | refine sg_load 7 rfl rfl rfl rfl ?_
      | refine sg_ps (ps_add64 rfl rfl (by omega)) rfl ?_
      | refine sg_ps (ps_sub64 rfl rfl (by omega)) rfl ?_
      | refine sg_ps (ps_mul64 rfl rfl (by omega)) rfl ?_
      | refine sg_ps (ps_bin rfl rfl inferInstance) rfl ?_
      | refine sg_ps (ps_rem rfl rfl (by decide)) rfl ?_
      | refine sg_ps (ps_quo64 rfl rfl (by decide) (by omega)) rfl ?_
      | refine sg_ps (ps_not rfl) rfl ?_
      | refine sg_ps (ps_conv rfl) rfl ?_
      | refine sg_ps (ps_shl rfl rfl (by decide) rfl) rfl ?_
      | refine sg_ps (ps_shr rfl rfl (by decide) rfl) rfl ?_
      | refine sg_cond_t rfl ?_
      | refine sg_cond_f rfl ?_
      | refine sg_guard_yes rfl rfl ?_
      | refine sg_guard_nf rfl rfl rfl ?_
      | refine sg_guard_nt rfl rfl rfl ?_
      | refine sg_guard_nu rfl rfl rfl ?_
      | refine sg_ps (ps_pick_t rfl rfl) rfl ?_
      | refine sg_ps (ps_pick_f rfl rfl) rfl ?_
      | refine sg_ps (ps_len rfl) rfl ?_
      | refine sg_ps (ps_len_str rfl) rfl ?_
      | refine sg_ps (ps_extract rfl rfl) rfl ?_
      | refine sg_ps (ps_field rfl rfl) rfl ?_
      | refine sg_ps (ps_min2 rfl rfl) rfl ?_
      | refine sg_ps (ps_max2 rfl rfl) rfl ?_
      | refine sg_ps (ps_build rfl rfl) rfl ?_
      | refine sg_box rfl rfl (fun bx => ?_)
      | refine sg_ps (ps_indexAddr rfl rfl rfl (by omega)) rfl ?_
      | refine sg_ps (ps_indexAddr (j := 0) rfl rfl rfl (by omega)) rfl ?_
      | refine sg_ps (ps_indexAddr (j := 1) rfl rfl rfl (by omega)) rfl ?_
      | refine sg_ps (ps_indexAddr_arr rfl rfl rfl (by omega)) rfl ?_
      | refine sg_load_whole 0 rfl rfl rfl rfl ?_
      | refine sg_load_whole 1 rfl rfl rfl rfl ?_
      | refine sg_load_whole 2 rfl rfl rfl rfl ?_
      | refine sg_load_whole 3 rfl rfl rfl rfl ?_
      | refine sg_load_whole 4 rfl rfl rfl rfl ?_
      | refine sg_load_whole 5 rfl rfl rfl rfl ?_
      | refine sg_load_whole 6 rfl rfl rfl rfl ?_
      | refine sg_load_whole 7 rfl rfl rfl rfl ?_
      | refine sg_store_whole [] rfl rfl rfl rfl rfl ?_
      | refine sg_store_whole [_] rfl rfl rfl rfl rfl ?_
      | refine sg_store_whole [_, _] rfl rfl rfl rfl rfl ?_
      | refine sg_store_whole [_, _, _] rfl rfl rfl rfl rfl ?_
      | refine sg_store_whole [_, _, _, _] rfl rfl rfl rfl rfl ?_
      | refine sg_store_whole [_, _, _, _, _] rfl rfl rfl rfl rfl ?_
      | refine sg_store_whole [_, _, _, _, _, _] rfl rfl rfl rfl rfl ?_
      | refine sg_alloc rfl (fun al => ?_)
      | refine sg_block ?_
      | refine sg_skip ?_
      | refine sg_ret ?_
      | refine sg_exit ?_
      | refine ex_then_ret ?_
      | refine ex_then_exit ?_
      | refine ex_block_ret ?_
      | refine ex_block_normal ?_
      | refine ex_block_hit ?_
      | refine ex_block_miss rfl ?_
      | refine sg_store [] rfl rfl rfl (of_decide_eq_true rfl) ?_
      | refine sg_store [_] rfl rfl rfl (of_decide_eq_true rfl) ?_
      | refine sg_store [_, _] rfl rfl rfl (of_decide_eq_true rfl) ?_
      | refine sg_store [_, _, _] rfl rfl rfl (of_decide_eq_true rfl) ?_
      | refine sg_store [_, _, _, _] rfl rfl rfl (of_decide_eq_true rfl) ?_
      | refine sg_store [_, _, _, _, _] rfl rfl rfl (of_decide_eq_true rfl) ?_
      | refine sg_store [_, _, _, _, _, _] rfl rfl rfl (of_decide_eq_true rfl) ?_
      | refine sg_store [_, _, _, _, _, _, _] rfl rfl rfl (of_decide_eq_true rfl) ?_
      | (refine sg_guard_dec rfl rfl (fun hg => ?_) (fun hg => ?_) <;> first | (exfalso; omega) | (exact absurd rfl hg) | skip)
      | (refine sg_guard_ndec rfl rfl (fun hg => ?_) (fun hg => ?_) <;> first | (exfalso; omega) | (exact absurd rfl hg) | skip)
      | (refine sg_cond_dec rfl (fun hg => ?_) (fun hg => ?_) <;> first | (exfalso; omega) | (exact absurd rfl hg) | skip)
      | (refine sg_cond_ndec rfl (fun hg => ?_) (fun hg => ?_) <;> first | (exfalso; omega) | (exact absurd rfl hg) | skip)
      | refine sg_cond_not rfl (fun hg => ?_) (fun hg => ?_)
      | refine sg_cond rfl (fun hg => ?_) (fun hg => ?_))
    exact ex_ret1 rfl rfl () rfl trivial (fun w hO => hO)
  rw [if_neg ho]
  repeat' (first
    | refine sg_wo ?_
    | refine sg_ps (ps_move rfl) rfl ?_
    | refine sg_ps (ps_assign rfl) rfl ?_
    | refine sg_seq ?_
    | refine sg_region ?_
    | refine sg_nil ?_
    | refine sg_then ?_
    | refine sg_ps (ps_fieldAddr rfl) rfl ?_
    | refine sg_ps (ps_nilCheck rfl) rfl ?_
    | refine sg_load 0 rfl rfl rfl rfl ?_
    | refine sg_load 1 rfl rfl rfl rfl ?_
    | refine sg_load 2 rfl rfl rfl rfl ?_
    | refine sg_load 3 rfl rfl rfl rfl ?_
    | refine sg_load 4 rfl rfl rfl rfl ?_
    | refine sg_load 5 rfl rfl rfl rfl ?_
    | refine sg_load 6 rfl rfl rfl rfl ?_
    | refine sg_load 7 rfl rfl rfl rfl ?_
    | refine sg_ps (ps_add64 rfl rfl (by omega)) rfl ?_
    | refine sg_ps (ps_sub64 rfl rfl (by omega)) rfl ?_
    | refine sg_ps (ps_mul64 rfl rfl (by omega)) rfl ?_
    | refine sg_ps (ps_bin rfl rfl inferInstance) rfl ?_
    | refine sg_ps (ps_rem rfl rfl (by decide)) rfl ?_
    | refine sg_ps (ps_quo64 rfl rfl (by decide) (by omega)) rfl ?_
    | refine sg_ps (ps_not rfl) rfl ?_
    | refine sg_ps (ps_conv rfl) rfl ?_
    | refine sg_ps (ps_shl rfl rfl (by decide) rfl) rfl ?_
    | refine sg_ps (ps_shr rfl rfl (by decide) rfl) rfl ?_
    | refine sg_cond_t rfl ?_
    | refine sg_cond_f rfl ?_
    | refine sg_guard_yes rfl rfl ?_
    | refine sg_guard_nf rfl rfl rfl ?_
    | refine sg_guard_nt rfl rfl rfl ?_
    | refine sg_guard_nu rfl rfl rfl ?_
    | refine sg_ps (ps_pick_t rfl rfl) rfl ?_
    | refine sg_ps (ps_pick_f rfl rfl) rfl ?_
    | refine sg_ps (ps_len rfl) rfl ?_
    | refine sg_ps (ps_len_str rfl) rfl ?_
    | refine sg_ps (ps_extract rfl rfl) rfl ?_
    | refine sg_ps (ps_field rfl rfl) rfl ?_
    | refine sg_ps (ps_min2 rfl rfl) rfl ?_
    | refine sg_ps (ps_max2 rfl rfl) rfl ?_
    | refine sg_ps (ps_build rfl rfl) rfl ?_
    | refine sg_box rfl rfl (fun bx => ?_)
    | refine sg_ps (ps_indexAddr rfl rfl rfl (by omega)) rfl ?_
    | refine sg_ps (ps_indexAddr (j := 0) rfl rfl rfl (by omega)) rfl ?_
    | refine sg_ps (ps_indexAddr (j := 1) rfl rfl rfl (by omega)) rfl ?_
    | refine sg_ps (ps_indexAddr_arr rfl rfl rfl (by omega)) rfl ?_
    | refine sg_load_whole 0 rfl rfl rfl rfl ?_
    | refine sg_load_whole 1 rfl rfl rfl rfl ?_
    | refine sg_load_whole 2 rfl rfl rfl rfl ?_
    | refine sg_load_whole 3 rfl rfl rfl rfl ?_
    | refine sg_load_whole 4 rfl rfl rfl rfl ?_
    | refine sg_load_whole 5 rfl rfl rfl rfl ?_
    | refine sg_load_whole 6 rfl rfl rfl rfl ?_
    | refine sg_load_whole 7 rfl rfl rfl rfl ?_
    | refine sg_store_whole [] rfl rfl rfl rfl rfl ?_
    | refine sg_store_whole [_] rfl rfl rfl rfl rfl ?_
    | refine sg_store_whole [_, _] rfl rfl rfl rfl rfl ?_
    | refine sg_store_whole [_, _, _] rfl rfl rfl rfl rfl ?_
    | refine sg_store_whole [_, _, _, _] rfl rfl rfl rfl rfl ?_
    | refine sg_store_whole [_, _, _, _, _] rfl rfl rfl rfl rfl ?_
    | refine sg_store_whole [_, _, _, _, _, _] rfl rfl rfl rfl rfl ?_
    | refine sg_alloc rfl (fun al => ?_)
    | refine sg_block ?_
    | refine sg_skip ?_
    | refine sg_ret ?_
    | refine sg_exit ?_
    | refine ex_then_ret ?_
    | refine ex_then_exit ?_
    | refine ex_block_ret ?_
    | refine ex_block_normal ?_
    | refine ex_block_hit ?_
    | refine ex_block_miss rfl ?_
    | refine sg_store [] rfl rfl rfl (of_decide_eq_true rfl) ?_
    | refine sg_store [_] rfl rfl rfl (of_decide_eq_true rfl) ?_
    | refine sg_store [_, _] rfl rfl rfl (of_decide_eq_true rfl) ?_
    | refine sg_store [_, _, _] rfl rfl rfl (of_decide_eq_true rfl) ?_
    | refine sg_store [_, _, _, _] rfl rfl rfl (of_decide_eq_true rfl) ?_
    | refine sg_store [_, _, _, _, _] rfl rfl rfl (of_decide_eq_true rfl) ?_
    | refine sg_store [_, _, _, _, _, _] rfl rfl rfl (of_decide_eq_true rfl) ?_
    | refine sg_store [_, _, _, _, _, _, _] rfl rfl rfl (of_decide_eq_true rfl) ?_
    | (refine sg_guard_dec rfl rfl (fun hg => ?_) (fun hg => ?_) <;> first | (exfalso; omega) | (exact absurd rfl hg) | skip)
    | (refine sg_guard_ndec rfl rfl (fun hg => ?_) (fun hg => ?_) <;> first | (exfalso; omega) | (exact absurd rfl hg) | skip)
    | (refine sg_cond_dec rfl (fun hg => ?_) (fun hg => ?_) <;> first | (exfalso; omega) | (exact absurd rfl hg) | skip)
    | (refine sg_cond_ndec rfl (fun hg => ?_) (fun hg => ?_) <;> first | (exfalso; omega) | (exact absurd rfl hg) | skip)
    | refine sg_cond_not rfl (fun hg => ?_) (fun hg => ?_)
    | refine sg_cond rfl (fun hg => ?_) (fun hg => ?_))
  refine sg_call (rfree_tri r R o l la lc K (by omega) (by omega) hr) rfl rfl (fun _ _ => ?_)
  cases hf : rfreeS R o l
  · rw [if_neg (by simp), if_neg (by simp)]
    repeat' (first
      | refine sg_wo ?_
      | refine sg_ps (ps_move rfl) rfl ?_
      | refine sg_ps (ps_assign rfl) rfl ?_
      | refine sg_seq ?_
      | refine sg_region ?_
      | refine sg_nil ?_
      | refine sg_then ?_
      | refine sg_ps (ps_fieldAddr rfl) rfl ?_
      | refine sg_ps (ps_nilCheck rfl) rfl ?_
      | refine sg_load 0 rfl rfl rfl rfl ?_
      | refine sg_load 1 rfl rfl rfl rfl ?_
      | refine sg_load 2 rfl rfl rfl rfl ?_
      | refine sg_load 3 rfl rfl rfl rfl ?_
      | refine sg_load 4 rfl rfl rfl rfl ?_
      | refine sg_load 5 rfl rfl rfl rfl ?_
      | refine sg_load 6 rfl rfl rfl rfl ?_
      | refine sg_load 7 rfl rfl rfl rfl ?_
      | refine sg_ps (ps_add64 rfl rfl (by omega)) rfl ?_
      | refine sg_ps (ps_sub64 rfl rfl (by omega)) rfl ?_
      | refine sg_ps (ps_mul64 rfl rfl (by omega)) rfl ?_
      | refine sg_ps (ps_bin rfl rfl inferInstance) rfl ?_
      | refine sg_ps (ps_rem rfl rfl (by decide)) rfl ?_
      | refine sg_ps (ps_quo64 rfl rfl (by decide) (by omega)) rfl ?_
      | refine sg_ps (ps_not rfl) rfl ?_
      | refine sg_ps (ps_conv rfl) rfl ?_
      | refine sg_ps (ps_shl rfl rfl (by decide) rfl) rfl ?_
      | refine sg_ps (ps_shr rfl rfl (by decide) rfl) rfl ?_
      | refine sg_cond_t rfl ?_
      | refine sg_cond_f rfl ?_
      | refine sg_guard_yes rfl rfl ?_
      | refine sg_guard_nf rfl rfl rfl ?_
      | refine sg_guard_nt rfl rfl rfl ?_
      | refine sg_guard_nu rfl rfl rfl ?_
      | refine sg_ps (ps_pick_t rfl rfl) rfl ?_
      | refine sg_ps (ps_pick_f rfl rfl) rfl ?_
      | refine sg_ps (ps_len rfl) rfl ?_
      | refine sg_ps (ps_len_str rfl) rfl ?_
      | refine sg_ps (ps_extract rfl rfl) rfl ?_
      | refine sg_ps (ps_field rfl rfl) rfl ?_
      | refine sg_ps (ps_min2 rfl rfl) rfl ?_
      | refine sg_ps (ps_max2 rfl rfl) rfl ?_
      | refine sg_ps (ps_build rfl rfl) rfl ?_
      | refine sg_box rfl rfl (fun bx => ?_)
      | refine sg_ps (ps_indexAddr rfl rfl rfl (by omega)) rfl ?_
      | refine sg_ps (ps_indexAddr (j := 0) rfl rfl rfl (by omega)) rfl ?_
      | refine sg_ps (ps_indexAddr (j := 1) rfl rfl rfl (by omega)) rfl ?_
      | refine sg_ps (ps_indexAddr_arr rfl rfl rfl (by omega)) rfl ?_
      | refine sg_load_whole 0 rfl rfl rfl rfl ?_
      | refine sg_load_whole 1 rfl rfl rfl rfl ?_
      | refine sg_load_whole 2 rfl rfl rfl rfl ?_
      | refine sg_load_whole 3 rfl rfl rfl rfl ?_
      | refine sg_load_whole 4 rfl rfl rfl rfl ?_
      | refine sg_load_whole 5 rfl rfl rfl rfl ?_
      | refine sg_load_whole 6 rfl rfl rfl rfl ?_
      | refine sg_load_whole 7 rfl rfl rfl rfl ?_
      | refine sg_store_whole [] rfl rfl rfl rfl rfl ?_
      | refine sg_store_whole [_] rfl rfl rfl rfl rfl ?_
      | refine sg_store_whole [_, _] rfl rfl rfl rfl rfl ?_
      | refine sg_store_whole [_, _, _] rfl rfl rfl rfl rfl ?_
      | refine sg_store_whole [_, _, _, _] rfl rfl rfl rfl rfl ?_
      | refine sg_store_whole [_, _, _, _, _] rfl rfl rfl rfl rfl ?_
      | refine sg_store_whole [_, _, _, _, _, _] rfl rfl rfl rfl rfl ?_
      | refine sg_alloc rfl (fun al => ?_)
      | refine sg_block ?_
      | refine sg_skip ?_
      | refine sg_ret ?_
      | refine sg_exit ?_
      | refine ex_then_ret ?_
      | refine ex_then_exit ?_
      | refine ex_block_ret ?_
      | refine ex_block_normal ?_
      | refine ex_block_hit ?_
      | refine ex_block_miss rfl ?_
      | refine sg_store [] rfl rfl rfl (of_decide_eq_true rfl) ?_
      | refine sg_store [_] rfl rfl rfl (of_decide_eq_true rfl) ?_
      | refine sg_store [_, _] rfl rfl rfl (of_decide_eq_true rfl) ?_
      | refine sg_store [_, _, _] rfl rfl rfl (of_decide_eq_true rfl) ?_
      | refine sg_store [_, _, _, _] rfl rfl rfl (of_decide_eq_true rfl) ?_
      | refine sg_store [_, _, _, _, _] rfl rfl rfl (of_decide_eq_true rfl) ?_
      | refine sg_store [_, _, _, _, _, _] rfl rfl rfl (of_decide_eq_true rfl) ?_
      | refine sg_store [_, _, _, _, _, _, _] rfl rfl rfl (of_decide_eq_true rfl) ?_
      | (refine sg_guard_dec rfl rfl (fun hg => ?_) (fun hg => ?_) <;> first | (exfalso; omega) | (exact absurd rfl hg) | skip)
      | (refine sg_guard_ndec rfl rfl (fun hg => ?_) (fun hg => ?_) <;> first | (exfalso; omega) | (exact absurd rfl hg) | skip)
      | (refine sg_cond_dec rfl (fun hg => ?_) (fun hg => ?_) <;> first | (exfalso; omega) | (exact absurd rfl hg) | skip)
      | (refine sg_cond_ndec rfl (fun hg => ?_) (fun hg => ?_) <;> first | (exfalso; omega) | (exact absurd rfl hg) | skip)
      | refine sg_cond_not rfl (fun hg => ?_) (fun hg => ?_)
      | refine sg_cond rfl (fun hg => ?_) (fun hg => ?_))
    exact ex_ret1 rfl rfl () rfl trivial (fun w hO => hO)
  rw [if_pos rfl, if_pos rfl]
  repeat' (first
    | refine sg_wo ?_
    | refine sg_ps (ps_move rfl) rfl ?_
    | refine sg_ps (ps_assign rfl) rfl ?_
    | refine sg_seq ?_
    | refine sg_region ?_
    | refine sg_nil ?_
    | refine sg_then ?_
    | refine sg_ps (ps_fieldAddr rfl) rfl ?_
    | refine sg_ps (ps_nilCheck rfl) rfl ?_
    | refine sg_load 0 rfl rfl rfl rfl ?_
    | refine sg_load 1 rfl rfl rfl rfl ?_
    | refine sg_load 2 rfl rfl rfl rfl ?_
    | refine sg_load 3 rfl rfl rfl rfl ?_
    | refine sg_load 4 rfl rfl rfl rfl ?_
    | refine sg_load 5 rfl rfl rfl rfl ?_
    | refine sg_load 6 rfl rfl rfl rfl ?_
    | refine sg_load 7 rfl rfl rfl rfl ?_
    | refine sg_ps (ps_add64 rfl rfl (by omega)) rfl ?_
    | refine sg_ps (ps_sub64 rfl rfl (by omega)) rfl ?_
    | refine sg_ps (ps_mul64 rfl rfl (by omega)) rfl ?_
    | refine sg_ps (ps_bin rfl rfl inferInstance) rfl ?_
    | refine sg_ps (ps_rem rfl rfl (by decide)) rfl ?_
    | refine sg_ps (ps_quo64 rfl rfl (by decide) (by omega)) rfl ?_
    | refine sg_ps (ps_not rfl) rfl ?_
    | refine sg_ps (ps_conv rfl) rfl ?_
    | refine sg_ps (ps_shl rfl rfl (by decide) rfl) rfl ?_
    | refine sg_ps (ps_shr rfl rfl (by decide) rfl) rfl ?_
    | refine sg_cond_t rfl ?_
    | refine sg_cond_f rfl ?_
    | refine sg_guard_yes rfl rfl ?_
    | refine sg_guard_nf rfl rfl rfl ?_
    | refine sg_guard_nt rfl rfl rfl ?_
    | refine sg_guard_nu rfl rfl rfl ?_
    | refine sg_ps (ps_pick_t rfl rfl) rfl ?_
    | refine sg_ps (ps_pick_f rfl rfl) rfl ?_
    | refine sg_ps (ps_len rfl) rfl ?_
    | refine sg_ps (ps_len_str rfl) rfl ?_
    | refine sg_ps (ps_extract rfl rfl) rfl ?_
    | refine sg_ps (ps_field rfl rfl) rfl ?_
    | refine sg_ps (ps_min2 rfl rfl) rfl ?_
    | refine sg_ps (ps_max2 rfl rfl) rfl ?_
    | refine sg_ps (ps_build rfl rfl) rfl ?_
    | refine sg_box rfl rfl (fun bx => ?_)
    | refine sg_ps (ps_indexAddr rfl rfl rfl (by omega)) rfl ?_
    | refine sg_ps (ps_indexAddr (j := 0) rfl rfl rfl (by omega)) rfl ?_
    | refine sg_ps (ps_indexAddr (j := 1) rfl rfl rfl (by omega)) rfl ?_
    | refine sg_ps (ps_indexAddr_arr rfl rfl rfl (by omega)) rfl ?_
    | refine sg_load_whole 0 rfl rfl rfl rfl ?_
    | refine sg_load_whole 1 rfl rfl rfl rfl ?_
    | refine sg_load_whole 2 rfl rfl rfl rfl ?_
    | refine sg_load_whole 3 rfl rfl rfl rfl ?_
    | refine sg_load_whole 4 rfl rfl rfl rfl ?_
    | refine sg_load_whole 5 rfl rfl rfl rfl ?_
    | refine sg_load_whole 6 rfl rfl rfl rfl ?_
    | refine sg_load_whole 7 rfl rfl rfl rfl ?_
    | refine sg_store_whole [] rfl rfl rfl rfl rfl ?_
    | refine sg_store_whole [_] rfl rfl rfl rfl rfl ?_
    | refine sg_store_whole [_, _] rfl rfl rfl rfl rfl ?_
    | refine sg_store_whole [_, _, _] rfl rfl rfl rfl rfl ?_
    | refine sg_store_whole [_, _, _, _] rfl rfl rfl rfl rfl ?_
    | refine sg_store_whole [_, _, _, _, _] rfl rfl rfl rfl rfl ?_
    | refine sg_store_whole [_, _, _, _, _, _] rfl rfl rfl rfl rfl ?_
    | refine sg_alloc rfl (fun al => ?_)
    | refine sg_block ?_
    | refine sg_skip ?_
    | refine sg_ret ?_
    | refine sg_exit ?_
    | refine ex_then_ret ?_
    | refine ex_then_exit ?_
    | refine ex_block_ret ?_
    | refine ex_block_normal ?_
    | refine ex_block_hit ?_
    | refine ex_block_miss rfl ?_
    | refine sg_store [] rfl rfl rfl (of_decide_eq_true rfl) ?_
    | refine sg_store [_] rfl rfl rfl (of_decide_eq_true rfl) ?_
    | refine sg_store [_, _] rfl rfl rfl (of_decide_eq_true rfl) ?_
    | refine sg_store [_, _, _] rfl rfl rfl (of_decide_eq_true rfl) ?_
    | refine sg_store [_, _, _, _] rfl rfl rfl (of_decide_eq_true rfl) ?_
    | refine sg_store [_, _, _, _, _] rfl rfl rfl (of_decide_eq_true rfl) ?_
    | refine sg_store [_, _, _, _, _, _] rfl rfl rfl (of_decide_eq_true rfl) ?_
    | refine sg_store [_, _, _, _, _, _, _] rfl rfl rfl (of_decide_eq_true rfl) ?_
    | (refine sg_guard_dec rfl rfl (fun hg => ?_) (fun hg => ?_) <;> first | (exfalso; omega) | (exact absurd rfl hg) | skip)
    | (refine sg_guard_ndec rfl rfl (fun hg => ?_) (fun hg => ?_) <;> first | (exfalso; omega) | (exact absurd rfl hg) | skip)
    | (refine sg_cond_dec rfl (fun hg => ?_) (fun hg => ?_) <;> first | (exfalso; omega) | (exact absurd rfl hg) | skip)
    | (refine sg_cond_ndec rfl (fun hg => ?_) (fun hg => ?_) <;> first | (exfalso; omega) | (exact absurd rfl hg) | skip)
    | refine sg_cond_not rfl (fun hg => ?_) (fun hg => ?_)
    | refine sg_cond rfl (fun hg => ?_) (fun hg => ?_))
  refine RTab.open fun a c => ?_
  refine sg_loop (γ := Nat × Option Addr × Nat) (fun g => g.1 ≤ l.length) (fun g => [(0, dp r), (1, u64 o), (2, .slice la l.length lc), (8, i64 g.1)])
    (fun g => blk r [.slice g.2.1 (R ++ (l.take g.1).map fun x => (o, x)).length g.2.2] :: sown g.2.1 (R ++ (l.take g.1).map fun x => (o, x)).length g.2.2 6 (rcells (R ++ (l.take g.1).map fun x => (o, x))) :: K) (fun g => l.length - g.1) (0, a, c)
    (Nat.zero_le _) (.cons rfl (.cons rfl (.cons rfl (.cons rfl .nil)))) (fun w hO => ?_) ?_
  · dsimp only
    rw [List.take_zero, List.map_nil, List.append_nil]
    exact hO
  rintro ⟨i, xa, xc⟩ hi
  dsimp only at hi ⊢
  by_cases hil : i < l.length
  case neg =>
    have e : l.take i = l := List.take_of_length_le (by omega)
    rw [e]
    repeat' (first
      | refine sg_wo ?_
      | refine sg_ps (ps_move rfl) rfl ?_
      | refine sg_ps (ps_assign rfl) rfl ?_
      | refine sg_seq ?_
      | refine sg_region ?_
      | refine sg_nil ?_
      | refine sg_then ?_
      | refine sg_ps (ps_fieldAddr rfl) rfl ?_
      | refine sg_ps (ps_nilCheck rfl) rfl ?_
      | refine sg_load 0 rfl rfl rfl rfl ?_
      | refine sg_load 1 rfl rfl rfl rfl ?_
      | refine sg_load 2 rfl rfl rfl rfl ?_
      | refine sg_load 3 rfl rfl rfl rfl ?_
      | refine sg_load 4 rfl rfl rfl rfl ?_
      | refine sg_load 5 rfl rfl rfl rfl ?_
      | refine sg_load 6 rfl rfl rfl rfl ?_
      | refine sg_load 7 rfl rfl rfl rfl ?_
      | refine sg_ps (ps_add64 rfl rfl (by omega)) rfl ?_
      | refine sg_ps (ps_sub64 rfl rfl (by omega)) rfl ?_
      | refine sg_ps (ps_mul64 rfl rfl (by omega)) rfl ?_
      | refine sg_ps (ps_bin rfl rfl inferInstance) rfl ?_
      | refine sg_ps (ps_rem rfl rfl (by decide)) rfl ?_
      | refine sg_ps (ps_quo64 rfl rfl (by decide) (by omega)) rfl ?_
      | refine sg_ps (ps_not rfl) rfl ?_
      | refine sg_ps (ps_conv rfl) rfl ?_
      | refine sg_ps (ps_shl rfl rfl (by decide) rfl) rfl ?_
      | refine sg_ps (ps_shr rfl rfl (by decide) rfl) rfl ?_
      | refine sg_cond_t rfl ?_
      | refine sg_cond_f rfl ?_
      | refine sg_guard_yes rfl rfl ?_
      | refine sg_guard_nf rfl rfl rfl ?_
      | refine sg_guard_nt rfl rfl rfl ?_
      | refine sg_guard_nu rfl rfl rfl ?_
      | refine sg_ps (ps_pick_t rfl rfl) rfl ?_
      | refine sg_ps (ps_pick_f rfl rfl) rfl ?_
      | refine sg_ps (ps_len rfl) rfl ?_
      | refine sg_ps (ps_len_str rfl) rfl ?_
      | refine sg_ps (ps_extract rfl rfl) rfl ?_
      | refine sg_ps (ps_field rfl rfl) rfl ?_
      | refine sg_ps (ps_min2 rfl rfl) rfl ?_
      | refine sg_ps (ps_max2 rfl rfl) rfl ?_
      | refine sg_ps (ps_build rfl rfl) rfl ?_
      | refine sg_box rfl rfl (fun bx => ?_)
      | refine sg_ps (ps_indexAddr rfl rfl rfl (by omega)) rfl ?_
      | refine sg_ps (ps_indexAddr (j := 0) rfl rfl rfl (by omega)) rfl ?_
      | refine sg_ps (ps_indexAddr (j := 1) rfl rfl rfl (by omega)) rfl ?_
      | refine sg_ps (ps_indexAddr_arr rfl rfl rfl (by omega)) rfl ?_
      | refine sg_load_whole 0 rfl rfl rfl rfl ?_
      | refine sg_load_whole 1 rfl rfl rfl rfl ?_
      | refine sg_load_whole 2 rfl rfl rfl rfl ?_
      | refine sg_load_whole 3 rfl rfl rfl rfl ?_
      | refine sg_load_whole 4 rfl rfl rfl rfl ?_
      | refine sg_load_whole 5 rfl rfl rfl rfl ?_
      | refine sg_load_whole 6 rfl rfl rfl rfl ?_
      | refine sg_load_whole 7 rfl rfl rfl rfl ?_
      | refine sg_store_whole [] rfl rfl rfl rfl rfl ?_
      | refine sg_store_whole [_] rfl rfl rfl rfl rfl ?_
      | refine sg_store_whole [_, _] rfl rfl rfl rfl rfl ?_
      | refine sg_store_whole [_, _, _] rfl rfl rfl rfl rfl ?_
      | refine sg_store_whole [_, _, _, _] rfl rfl rfl rfl rfl ?_
      | refine sg_store_whole [_, _, _, _, _] rfl rfl rfl rfl rfl ?_
      | refine sg_store_whole [_, _, _, _, _, _] rfl rfl rfl rfl rfl ?_
      | refine sg_alloc rfl (fun al => ?_)
      | refine sg_block ?_
      | refine sg_skip ?_
      | refine sg_ret ?_
      | refine sg_exit ?_
      | refine ex_then_ret ?_
      | refine ex_then_exit ?_
      | refine ex_block_ret ?_
      | refine ex_block_normal ?_
      | refine ex_block_hit ?_
      | refine ex_block_miss rfl ?_
      | refine sg_store [] rfl rfl rfl (of_decide_eq_true rfl) ?_
      | refine sg_store [_] rfl rfl rfl (of_decide_eq_true rfl) ?_
      | refine sg_store [_, _] rfl rfl rfl (of_decide_eq_true rfl) ?_
      | refine sg_store [_, _, _] rfl rfl rfl (of_decide_eq_true rfl) ?_
      | refine sg_store [_, _, _, _] rfl rfl rfl (of_decide_eq_true rfl) ?_
      | refine sg_store [_, _, _, _, _] rfl rfl rfl (of_decide_eq_true rfl) ?_
      | refine sg_store [_, _, _, _, _, _] rfl rfl rfl (of_decide_eq_true rfl) ?_
      | refine sg_store [_, _, _, _, _, _, _] rfl rfl rfl (of_decide_eq_true rfl) ?_
      | (refine sg_guard_dec rfl rfl (fun hg => ?_) (fun hg => ?_) <;> first | (exfalso; omega) | (exact absurd rfl hg) | skip)
      | (refine sg_guard_ndec rfl rfl (fun hg => ?_) (fun hg => ?_) <;> first | (exfalso; omega) | (exact absurd rfl hg) | skip)
      | (refine sg_cond_dec rfl (fun hg => ?_) (fun hg => ?_) <;> first | (exfalso; omega) | (exact absurd rfl hg) | skip)
      | (refine sg_cond_ndec rfl (fun hg => ?_) (fun hg => ?_) <;> first | (exfalso; omega) | (exact absurd rfl hg) | skip)
      | refine sg_cond_not rfl (fun hg => ?_) (fun hg => ?_)
      | refine sg_cond rfl (fun hg => ?_) (fun hg => ?_))
    exact ex_ret1 rfl rfl () rfl trivial (fun w hO => RTab.shut hO)
  refine sg_rd_some (hr [_, _]) (lcells_ne (by omega)) fun zb zo he => ?_
  subst he
  have hy : ∀ X : HP, Rd W (X :: K) (some ⟨zb, zo + i * 5, none⟩) l[i].cells := fun X => Rd.at5 (hr [X]) rfl i hil
  have e1 : R ++ (l.take (i + 1)).map (fun x => (o, x)) = (R ++ (l.take i).map fun x => (o, x)) ++ [(o, l[i])] := by
    rw [List.take_succ_eq_append_getElem hil, List.map_append, List.append_assoc]; rfl
  have hMl : (R ++ (l.take i).map fun x => (o, x)).length ≤ 1000000 := by
    rw [List.length_append, List.length_map, List.length_take]; omega
  generalize (R ++ (l.take i).map fun x => (o, x)) = M at e1 hMl ⊢
  generalize l[i] = y at hy e1
  repeat' (first
    | refine sg_wo ?_
    | refine sg_ps (ps_move rfl) rfl ?_
    | refine sg_ps (ps_assign rfl) rfl ?_
    | refine sg_seq ?_
    | refine sg_region ?_
    | refine sg_nil ?_
    | refine sg_then ?_
    | refine sg_ps (ps_fieldAddr rfl) rfl ?_
    | refine sg_ps (ps_nilCheck rfl) rfl ?_
    | refine sg_load 0 rfl rfl rfl rfl ?_
    | refine sg_load 1 rfl rfl rfl rfl ?_
    | refine sg_load 2 rfl rfl rfl rfl ?_
    | refine sg_load 3 rfl rfl rfl rfl ?_
    | refine sg_load 4 rfl rfl rfl rfl ?_
    | refine sg_load 5 rfl rfl rfl rfl ?_
    | refine sg_load 6 rfl rfl rfl rfl ?_
    | refine sg_load 7 rfl rfl rfl rfl ?_
    | refine sg_ps (ps_add64 rfl rfl (by omega)) rfl ?_
    | refine sg_ps (ps_sub64 rfl rfl (by omega)) rfl ?_
    | refine sg_ps (ps_mul64 rfl rfl (by omega)) rfl ?_
    | refine sg_ps (ps_bin rfl rfl inferInstance) rfl ?_
    | refine sg_ps (ps_rem rfl rfl (by decide)) rfl ?_
    | refine sg_ps (ps_quo64 rfl rfl (by decide) (by omega)) rfl ?_
    | refine sg_ps (ps_not rfl) rfl ?_
    | refine sg_ps (ps_conv rfl) rfl ?_
    | refine sg_ps (ps_shl rfl rfl (by decide) rfl) rfl ?_
    | refine sg_ps (ps_shr rfl rfl (by decide) rfl) rfl ?_
    | refine sg_cond_t rfl ?_
    | refine sg_cond_f rfl ?_
    | refine sg_guard_yes rfl rfl ?_
    | refine sg_guard_nf rfl rfl rfl ?_
    | refine sg_guard_nt rfl rfl rfl ?_
    | refine sg_guard_nu rfl rfl rfl ?_
    | refine sg_ps (ps_pick_t rfl rfl) rfl ?_
    | refine sg_ps (ps_pick_f rfl rfl) rfl ?_
    | refine sg_ps (ps_len rfl) rfl ?_
    | refine sg_ps (ps_len_str rfl) rfl ?_
    | refine sg_ps (ps_extract rfl rfl) rfl ?_
    | refine sg_ps (ps_field rfl rfl) rfl ?_
    | refine sg_ps (ps_min2 rfl rfl) rfl ?_
    | refine sg_ps (ps_max2 rfl rfl) rfl ?_
    | refine sg_ps (ps_build rfl rfl) rfl ?_
    | refine sg_box rfl rfl (fun bx => ?_)
    | refine sg_ps (ps_indexAddr rfl rfl rfl (by omega)) rfl ?_
    | refine sg_ps (ps_indexAddr (j := 0) rfl rfl rfl (by omega)) rfl ?_
    | refine sg_ps (ps_indexAddr (j := 1) rfl rfl rfl (by omega)) rfl ?_
    | refine sg_ps (ps_indexAddr_arr rfl rfl rfl (by omega)) rfl ?_
    | refine sg_load_whole 0 rfl rfl rfl rfl ?_
    | refine sg_load_whole 1 rfl rfl rfl rfl ?_
    | refine sg_load_whole 2 rfl rfl rfl rfl ?_
    | refine sg_load_whole 3 rfl rfl rfl rfl ?_
    | refine sg_load_whole 4 rfl rfl rfl rfl ?_
    | refine sg_load_whole 5 rfl rfl rfl rfl ?_
    | refine sg_load_whole 6 rfl rfl rfl rfl ?_
    | refine sg_load_whole 7 rfl rfl rfl rfl ?_
    | refine sg_store_whole [] rfl rfl rfl rfl rfl ?_
    | refine sg_store_whole [_] rfl rfl rfl rfl rfl ?_
    | refine sg_store_whole [_, _] rfl rfl rfl rfl rfl ?_
    | refine sg_store_whole [_, _, _] rfl rfl rfl rfl rfl ?_
    | refine sg_store_whole [_, _, _, _] rfl rfl rfl rfl rfl ?_
    | refine sg_store_whole [_, _, _, _, _] rfl rfl rfl rfl rfl ?_
    | refine sg_store_whole [_, _, _, _, _, _] rfl rfl rfl rfl rfl ?_
    | refine sg_alloc rfl (fun al => ?_)
    | refine sg_block ?_
    | refine sg_skip ?_
    | refine sg_ret ?_
    | refine sg_exit ?_
    | refine ex_then_ret ?_
    | refine ex_then_exit ?_
    | refine ex_block_ret ?_
    | refine ex_block_normal ?_
    | refine ex_block_hit ?_
    | refine ex_block_miss rfl ?_
    | refine sg_store [] rfl rfl rfl (of_decide_eq_true rfl) ?_
    | refine sg_store [_] rfl rfl rfl (of_decide_eq_true rfl) ?_
    | refine sg_store [_, _] rfl rfl rfl (of_decide_eq_true rfl) ?_
    | refine sg_store [_, _, _] rfl rfl rfl (of_decide_eq_true rfl) ?_
    | refine sg_store [_, _, _, _] rfl rfl rfl (of_decide_eq_true rfl) ?_
    | refine sg_store [_, _, _, _, _] rfl rfl rfl (of_decide_eq_true rfl) ?_
    | refine sg_store [_, _, _, _, _, _] rfl rfl rfl (of_decide_eq_true rfl) ?_
    | refine sg_store [_, _, _, _, _, _, _] rfl rfl rfl (of_decide_eq_true rfl) ?_
    | (refine sg_guard_dec rfl rfl (fun hg => ?_) (fun hg => ?_) <;> first | (exfalso; omega) | (exact absurd rfl hg) | skip)
    | (refine sg_guard_ndec rfl rfl (fun hg => ?_) (fun hg => ?_) <;> first | (exfalso; omega) | (exact absurd rfl hg) | skip)
    | (refine sg_cond_dec rfl (fun hg => ?_) (fun hg => ?_) <;> first | (exfalso; omega) | (exact absurd rfl hg) | skip)
    | (refine sg_cond_ndec rfl (fun hg => ?_) (fun hg => ?_) <;> first | (exfalso; omega) | (exact absurd rfl hg) | skip)
    | refine sg_cond_not rfl (fun hg => ?_) (fun hg => ?_)
    | refine sg_cond rfl (fun hg => ?_) (fun hg => ?_))
  refine sg_drawK (blk r [.slice xa M.length xc] :: K) [0, 1, 2, 3, 5, 6, 7, 8, 4, 9, 10, 11, 12, 13, 14, 15] (by kernel_rfl) (by kernel_rfl) (fun w hO => Own.pickA [_, _] hO [0] (by decide)) ?_
  repeat' (first
    | refine sk_nil ?_
    | refine sk_pure rfl rfl (ps_move rfl) rfl ?_
    | refine sk_pure rfl rfl (ps_assign rfl) rfl ?_
    | refine sk_pure rfl rfl (ps_nilCheck rfl) rfl ?_
    | refine sk_pure rfl rfl (ps_fieldAddr rfl) rfl ?_
    | refine sk_pure rfl rfl (ps_add64 rfl rfl (by omega)) rfl ?_
    | refine sk_pure rfl rfl (ps_sub64 rfl rfl (by omega)) rfl ?_
    | refine sk_pure rfl rfl (ps_mul64 rfl rfl (by omega)) rfl ?_
    | refine sk_pure rfl rfl (ps_bin rfl rfl inferInstance) rfl ?_
    | refine sk_pure rfl rfl (ps_rem rfl rfl (by decide)) rfl ?_
    | refine sk_pure rfl rfl (ps_not rfl) rfl ?_
    | refine sk_pure rfl rfl (ps_conv rfl) rfl ?_
    | refine sk_pure rfl rfl (ps_shl rfl rfl (by decide) rfl) rfl ?_
    | refine sk_pure rfl rfl (ps_shr rfl rfl (by decide) rfl) rfl ?_
    | refine sk_pure rfl rfl (ps_len rfl) rfl ?_
    | refine sk_pure rfl rfl (ps_len_str rfl) rfl ?_
    | refine sk_pure rfl rfl (ps_extract rfl rfl) rfl ?_
    | refine sk_pure rfl rfl (ps_field rfl rfl) rfl ?_
    | refine sk_pure rfl rfl (ps_build rfl rfl) rfl ?_
    | refine sk_pure rfl rfl (ps_indexAddr rfl rfl rfl (by omega)) rfl ?_
    | refine sk_pure rfl rfl (ps_indexAddr (j := 0) rfl rfl rfl (by omega)) rfl ?_
    | refine sk_pure rfl rfl (ps_indexAddr (j := 1) rfl rfl rfl (by omega)) rfl ?_
    | refine sk_pure rfl rfl (ps_pick_t rfl rfl) rfl ?_
    | refine sk_pure rfl rfl (ps_pick_f rfl rfl) rfl ?_
    | refine sk_pure rfl rfl (ps_min2 rfl rfl) rfl ?_
    | refine sk_pure rfl rfl (ps_max2 rfl rfl) rfl ?_
    | refine sk_pure rfl rfl (ps_indexAddr_arr rfl rfl rfl (by omega)) rfl ?_
    | refine sk_no rfl rfl rfl rfl rfl ?_
    | refine sk_pure_g rfl rfl rfl rfl (ps_move rfl) rfl ?_
    | refine sk_pure_g rfl rfl rfl rfl (ps_assign rfl) rfl ?_
    | refine sk_pure_g rfl rfl rfl rfl (ps_nilCheck rfl) rfl ?_
    | refine sk_pure_g rfl rfl rfl rfl (ps_fieldAddr rfl) rfl ?_
    | refine sk_pure_g rfl rfl rfl rfl (ps_add64 rfl rfl (by omega)) rfl ?_
    | refine sk_pure_g rfl rfl rfl rfl (ps_sub64 rfl rfl (by omega)) rfl ?_
    | refine sk_pure_g rfl rfl rfl rfl (ps_mul64 rfl rfl (by omega)) rfl ?_
    | refine sk_pure_g rfl rfl rfl rfl (ps_bin rfl rfl inferInstance) rfl ?_
    | refine sk_pure_g rfl rfl rfl rfl (ps_rem rfl rfl (by decide)) rfl ?_
    | refine sk_pure_g rfl rfl rfl rfl (ps_not rfl) rfl ?_
    | refine sk_pure_g rfl rfl rfl rfl (ps_conv rfl) rfl ?_
    | refine sk_pure_g rfl rfl rfl rfl (ps_shl rfl rfl (by decide) rfl) rfl ?_
    | refine sk_pure_g rfl rfl rfl rfl (ps_shr rfl rfl (by decide) rfl) rfl ?_
    | refine sk_pure_g rfl rfl rfl rfl (ps_len rfl) rfl ?_
    | refine sk_pure_g rfl rfl rfl rfl (ps_len_str rfl) rfl ?_
    | refine sk_pure_g rfl rfl rfl rfl (ps_extract rfl rfl) rfl ?_
    | refine sk_pure_g rfl rfl rfl rfl (ps_field rfl rfl) rfl ?_
    | refine sk_pure_g rfl rfl rfl rfl (ps_build rfl rfl) rfl ?_
    | refine sk_pure_g rfl rfl rfl rfl (ps_indexAddr rfl rfl rfl (by omega)) rfl ?_
    | refine sk_pure_g rfl rfl rfl rfl (ps_indexAddr (j := 0) rfl rfl rfl (by omega)) rfl ?_
    | refine sk_pure_g rfl rfl rfl rfl (ps_indexAddr (j := 1) rfl rfl rfl (by omega)) rfl ?_
    | refine sk_pure_g rfl rfl rfl rfl (ps_pick_t rfl rfl) rfl ?_
    | refine sk_pure_g rfl rfl rfl rfl (ps_pick_f rfl rfl) rfl ?_
    | refine sk_pure_g rfl rfl rfl rfl (ps_min2 rfl rfl) rfl ?_
    | refine sk_pure_g rfl rfl rfl rfl (ps_max2 rfl rfl) rfl ?_
    | refine sk_pure_g rfl rfl rfl rfl (ps_indexAddr_arr rfl rfl rfl (by omega)) rfl ?_
    | refine sk_load 0 rfl rfl rfl rfl rfl ?_
    | refine sk_load 1 rfl rfl rfl rfl rfl ?_
    | refine sk_load 2 rfl rfl rfl rfl rfl ?_
    | refine sk_load 3 rfl rfl rfl rfl rfl ?_
    | refine sk_load 4 rfl rfl rfl rfl rfl ?_
    | refine sk_load 5 rfl rfl rfl rfl rfl ?_
    | refine sk_load_g 0 rfl rfl rfl rfl rfl rfl rfl ?_
    | refine sk_load_g 1 rfl rfl rfl rfl rfl rfl rfl ?_
    | refine sk_load_g 2 rfl rfl rfl rfl rfl rfl rfl ?_
    | refine sk_load_g 3 rfl rfl rfl rfl rfl rfl rfl ?_
    | refine sk_load_g 4 rfl rfl rfl rfl rfl rfl rfl ?_
    | refine sk_load_g 5 rfl rfl rfl rfl rfl rfl rfl ?_
    | refine sk_lw 0 rfl rfl rfl rfl rfl ?_
    | refine sk_lw 1 rfl rfl rfl rfl rfl ?_
    | refine sk_lw 2 rfl rfl rfl rfl rfl ?_
    | refine sk_lw 3 rfl rfl rfl rfl rfl ?_
    | refine sk_lw 4 rfl rfl rfl rfl rfl ?_
    | refine sk_lw 5 rfl rfl rfl rfl rfl ?_
    | refine sk_lwg 0 rfl rfl rfl rfl rfl rfl rfl ?_
    | refine sk_lwg 1 rfl rfl rfl rfl rfl rfl rfl ?_
    | refine sk_lwg 2 rfl rfl rfl rfl rfl rfl rfl ?_
    | refine sk_lwg 3 rfl rfl rfl rfl rfl rfl rfl ?_
    | refine sk_lwg 4 rfl rfl rfl rfl rfl rfl rfl ?_
    | refine sk_lwg 5 rfl rfl rfl rfl rfl rfl rfl ?_
    | refine sk_eff rfl rfl ?_
    | refine sg_store_whole [] rfl rfl rfl rfl rfl ?_
    | refine sg_store_whole [_] rfl rfl rfl rfl rfl ?_
    | refine sg_store_whole [_, _] rfl rfl rfl rfl rfl ?_
    | refine sg_store_whole [_, _, _] rfl rfl rfl rfl rfl ?_
    | refine sg_store_whole [_, _, _, _] rfl rfl rfl rfl rfl ?_
    | refine sg_store_whole [_, _, _, _, _] rfl rfl rfl rfl rfl ?_
    | refine sg_store_whole [_, _, _, _, _, _] rfl rfl rfl rfl rfl ?_
    | refine sg_guard_yes rfl rfl ?_
    | refine sg_guard_nf rfl rfl rfl ?_
    | refine sg_guard_nt rfl rfl rfl ?_
    | refine sg_guard_nu rfl rfl rfl ?_
    | refine sk_back (fun w hO => hO) ?_
    | refine sg_store [] rfl rfl rfl (of_decide_eq_true rfl) ?_
    | refine sg_store [_] rfl rfl rfl (of_decide_eq_true rfl) ?_
    | refine sg_store [_, _] rfl rfl rfl (of_decide_eq_true rfl) ?_
    | refine sg_store [_, _, _] rfl rfl rfl (of_decide_eq_true rfl) ?_
    | refine sg_store [_, _, _, _] rfl rfl rfl (of_decide_eq_true rfl) ?_
    | refine sg_store [_, _, _, _, _] rfl rfl rfl (of_decide_eq_true rfl) ?_
    | refine sg_store [_, _, _, _, _, _] rfl rfl rfl (of_decide_eq_true rfl) ?_
    | refine sg_store [_, _, _, _, _, _, _] rfl rfl rfl (of_decide_eq_true rfl) ?_)
  refine sk_load_agg_rd rfl rfl rfl (fun w hO => Own.pickA [_, _] hO [0] (by decide)) (hy _) rfl ?_
  repeat' (first
    | refine sk_nil ?_
    | refine sk_pure rfl rfl (ps_move rfl) rfl ?_
    | refine sk_pure rfl rfl (ps_assign rfl) rfl ?_
    | refine sk_pure rfl rfl (ps_nilCheck rfl) rfl ?_
    | refine sk_pure rfl rfl (ps_fieldAddr rfl) rfl ?_
    | refine sk_pure rfl rfl (ps_add64 rfl rfl (by omega)) rfl ?_
    | refine sk_pure rfl rfl (ps_sub64 rfl rfl (by omega)) rfl ?_
    | refine sk_pure rfl rfl (ps_mul64 rfl rfl (by omega)) rfl ?_
    | refine sk_pure rfl rfl (ps_bin rfl rfl inferInstance) rfl ?_
    | refine sk_pure rfl rfl (ps_rem rfl rfl (by decide)) rfl ?_
    | refine sk_pure rfl rfl (ps_not rfl) rfl ?_
    | refine sk_pure rfl rfl (ps_conv rfl) rfl ?_
    | refine sk_pure rfl rfl (ps_shl rfl rfl (by decide) rfl) rfl ?_
    | refine sk_pure rfl rfl (ps_shr rfl rfl (by decide) rfl) rfl ?_
    | refine sk_pure rfl rfl (ps_len rfl) rfl ?_
    | refine sk_pure rfl rfl (ps_len_str rfl) rfl ?_
    | refine sk_pure rfl rfl (ps_extract rfl rfl) rfl ?_
    | refine sk_pure rfl rfl (ps_field rfl rfl) rfl ?_
    | refine sk_pure rfl rfl (ps_build rfl rfl) rfl ?_
    | refine sk_pure rfl rfl (ps_indexAddr rfl rfl rfl (by omega)) rfl ?_
    | refine sk_pure rfl rfl (ps_indexAddr (j := 0) rfl rfl rfl (by omega)) rfl ?_
    | refine sk_pure rfl rfl (ps_indexAddr (j := 1) rfl rfl rfl (by omega)) rfl ?_
    | refine sk_pure rfl rfl (ps_pick_t rfl rfl) rfl ?_
    | refine sk_pure rfl rfl (ps_pick_f rfl rfl) rfl ?_
    | refine sk_pure rfl rfl (ps_min2 rfl rfl) rfl ?_
    | refine sk_pure rfl rfl (ps_max2 rfl rfl) rfl ?_
    | refine sk_pure rfl rfl (ps_indexAddr_arr rfl rfl rfl (by omega)) rfl ?_
    | refine sk_no rfl rfl rfl rfl rfl ?_
    | refine sk_pure_g rfl rfl rfl rfl (ps_move rfl) rfl ?_
    | refine sk_pure_g rfl rfl rfl rfl (ps_assign rfl) rfl ?_
    | refine sk_pure_g rfl rfl rfl rfl (ps_nilCheck rfl) rfl ?_
    | refine sk_pure_g rfl rfl rfl rfl (ps_fieldAddr rfl) rfl ?_
    | refine sk_pure_g rfl rfl rfl rfl (ps_add64 rfl rfl (by omega)) rfl ?_
    | refine sk_pure_g rfl rfl rfl rfl (ps_sub64 rfl rfl (by omega)) rfl ?_
    | refine sk_pure_g rfl rfl rfl rfl (ps_mul64 rfl rfl (by omega)) rfl ?_
    | refine sk_pure_g rfl rfl rfl rfl (ps_bin rfl rfl inferInstance) rfl ?_
    | refine sk_pure_g rfl rfl rfl rfl (ps_rem rfl rfl (by decide)) rfl ?_
    | refine sk_pure_g rfl rfl rfl rfl (ps_not rfl) rfl ?_
    | refine sk_pure_g rfl rfl rfl rfl (ps_conv rfl) rfl ?_
    | refine sk_pure_g rfl rfl rfl rfl (ps_shl rfl rfl (by decide) rfl) rfl ?_
    | refine sk_pure_g rfl rfl rfl rfl (ps_shr rfl rfl (by decide) rfl) rfl ?_
    | refine sk_pure_g rfl rfl rfl rfl (ps_len rfl) rfl ?_
    | refine sk_pure_g rfl rfl rfl rfl (ps_len_str rfl) rfl ?_
    | refine sk_pure_g rfl rfl rfl rfl (ps_extract rfl rfl) rfl ?_
    | refine sk_pure_g rfl rfl rfl rfl (ps_field rfl rfl) rfl ?_
    | refine sk_pure_g rfl rfl rfl rfl (ps_build rfl rfl) rfl ?_
    | refine sk_pure_g rfl rfl rfl rfl (ps_indexAddr rfl rfl rfl (by omega)) rfl ?_
    | refine sk_pure_g rfl rfl rfl rfl (ps_indexAddr (j := 0) rfl rfl rfl (by omega)) rfl ?_
    | refine sk_pure_g rfl rfl rfl rfl (ps_indexAddr (j := 1) rfl rfl rfl (by omega)) rfl ?_
    | refine sk_pure_g rfl rfl rfl rfl (ps_pick_t rfl rfl) rfl ?_
    | refine sk_pure_g rfl rfl rfl rfl (ps_pick_f rfl rfl) rfl ?_
    | refine sk_pure_g rfl rfl rfl rfl (ps_min2 rfl rfl) rfl ?_
    | refine sk_pure_g rfl rfl rfl rfl (ps_max2 rfl rfl) rfl ?_
    | refine sk_pure_g rfl rfl rfl rfl (ps_indexAddr_arr rfl rfl rfl (by omega)) rfl ?_
    | refine sk_load 0 rfl rfl rfl rfl rfl ?_
    | refine sk_load 1 rfl rfl rfl rfl rfl ?_
    | refine sk_load 2 rfl rfl rfl rfl rfl ?_
    | refine sk_load 3 rfl rfl rfl rfl rfl ?_
    | refine sk_load 4 rfl rfl rfl rfl rfl ?_
    | refine sk_load 5 rfl rfl rfl rfl rfl ?_
    | refine sk_load_g 0 rfl rfl rfl rfl rfl rfl rfl ?_
    | refine sk_load_g 1 rfl rfl rfl rfl rfl rfl rfl ?_
    | refine sk_load_g 2 rfl rfl rfl rfl rfl rfl rfl ?_
    | refine sk_load_g 3 rfl rfl rfl rfl rfl rfl rfl ?_
    | refine sk_load_g 4 rfl rfl rfl rfl rfl rfl rfl ?_
    | refine sk_load_g 5 rfl rfl rfl rfl rfl rfl rfl ?_
    | refine sk_lw 0 rfl rfl rfl rfl rfl ?_
    | refine sk_lw 1 rfl rfl rfl rfl rfl ?_
    | refine sk_lw 2 rfl rfl rfl rfl rfl ?_
    | refine sk_lw 3 rfl rfl rfl rfl rfl ?_
    | refine sk_lw 4 rfl rfl rfl rfl rfl ?_
    | refine sk_lw 5 rfl rfl rfl rfl rfl ?_
    | refine sk_lwg 0 rfl rfl rfl rfl rfl rfl rfl ?_
    | refine sk_lwg 1 rfl rfl rfl rfl rfl rfl rfl ?_
    | refine sk_lwg 2 rfl rfl rfl rfl rfl rfl rfl ?_
    | refine sk_lwg 3 rfl rfl rfl rfl rfl rfl rfl ?_
    | refine sk_lwg 4 rfl rfl rfl rfl rfl rfl rfl ?_
    | refine sk_lwg 5 rfl rfl rfl rfl rfl rfl rfl ?_
    | refine sk_eff rfl rfl ?_
    | refine sg_store_whole [] rfl rfl rfl rfl rfl ?_
    | refine sg_store_whole [_] rfl rfl rfl rfl rfl ?_
    | refine sg_store_whole [_, _] rfl rfl rfl rfl rfl ?_
    | refine sg_store_whole [_, _, _] rfl rfl rfl rfl rfl ?_
    | refine sg_store_whole [_, _, _, _] rfl rfl rfl rfl rfl ?_
    | refine sg_store_whole [_, _, _, _, _] rfl rfl rfl rfl rfl ?_
    | refine sg_store_whole [_, _, _, _, _, _] rfl rfl rfl rfl rfl ?_
    | refine sg_guard_yes rfl rfl ?_
    | refine sg_guard_nf rfl rfl rfl ?_
    | refine sg_guard_nt rfl rfl rfl ?_
    | refine sg_guard_nu rfl rfl rfl ?_
    | refine sk_back (fun w hO => hO) ?_
    | refine sg_store [] rfl rfl rfl (of_decide_eq_true rfl) ?_
    | refine sg_store [_] rfl rfl rfl (of_decide_eq_true rfl) ?_
    | refine sg_store [_, _] rfl rfl rfl (of_decide_eq_true rfl) ?_
    | refine sg_store [_, _, _] rfl rfl rfl (of_decide_eq_true rfl) ?_
    | refine sg_store [_, _, _, _] rfl rfl rfl (of_decide_eq_true rfl) ?_
    | refine sg_store [_, _, _, _, _] rfl rfl rfl (of_decide_eq_true rfl) ?_
    | refine sg_store [_, _, _, _, _, _] rfl rfl rfl (of_decide_eq_true rfl) ?_
    | refine sg_store [_, _, _, _, _, _, _] rfl rfl rfl (of_decide_eq_true rfl) ?_)
  refine sg_buildSlice1 (vs := rcells [(o, y)]) rfl (of_decide_eq_true rfl) rfl rfl rfl (fun b1 => ?_)
  refine sk_back (fun w hO => Own.pickA [_, _, _] hO [1] (by decide)) ?_
  repeat' (first
    | refine sk_nil ?_
    | refine sk_pure rfl rfl (ps_move rfl) rfl ?_
    | refine sk_pure rfl rfl (ps_assign rfl) rfl ?_
    | refine sk_pure rfl rfl (ps_nilCheck rfl) rfl ?_
    | refine sk_pure rfl rfl (ps_fieldAddr rfl) rfl ?_
    | refine sk_pure rfl rfl (ps_add64 rfl rfl (by omega)) rfl ?_
    | refine sk_pure rfl rfl (ps_sub64 rfl rfl (by omega)) rfl ?_
    | refine sk_pure rfl rfl (ps_mul64 rfl rfl (by omega)) rfl ?_
    | refine sk_pure rfl rfl (ps_bin rfl rfl inferInstance) rfl ?_
    | refine sk_pure rfl rfl (ps_rem rfl rfl (by decide)) rfl ?_
    | refine sk_pure rfl rfl (ps_not rfl) rfl ?_
    | refine sk_pure rfl rfl (ps_conv rfl) rfl ?_
    | refine sk_pure rfl rfl (ps_shl rfl rfl (by decide) rfl) rfl ?_
    | refine sk_pure rfl rfl (ps_shr rfl rfl (by decide) rfl) rfl ?_
    | refine sk_pure rfl rfl (ps_len rfl) rfl ?_
    | refine sk_pure rfl rfl (ps_len_str rfl) rfl ?_
    | refine sk_pure rfl rfl (ps_extract rfl rfl) rfl ?_
    | refine sk_pure rfl rfl (ps_field rfl rfl) rfl ?_
    | refine sk_pure rfl rfl (ps_build rfl rfl) rfl ?_
    | refine sk_pure rfl rfl (ps_indexAddr rfl rfl rfl (by omega)) rfl ?_
    | refine sk_pure rfl rfl (ps_indexAddr (j := 0) rfl rfl rfl (by omega)) rfl ?_
    | refine sk_pure rfl rfl (ps_indexAddr (j := 1) rfl rfl rfl (by omega)) rfl ?_
    | refine sk_pure rfl rfl (ps_pick_t rfl rfl) rfl ?_
    | refine sk_pure rfl rfl (ps_pick_f rfl rfl) rfl ?_
    | refine sk_pure rfl rfl (ps_min2 rfl rfl) rfl ?_
    | refine sk_pure rfl rfl (ps_max2 rfl rfl) rfl ?_
    | refine sk_pure rfl rfl (ps_indexAddr_arr rfl rfl rfl (by omega)) rfl ?_
    | refine sk_no rfl rfl rfl rfl rfl ?_
    | refine sk_pure_g rfl rfl rfl rfl (ps_move rfl) rfl ?_
    | refine sk_pure_g rfl rfl rfl rfl (ps_assign rfl) rfl ?_
    | refine sk_pure_g rfl rfl rfl rfl (ps_nilCheck rfl) rfl ?_
    | refine sk_pure_g rfl rfl rfl rfl (ps_fieldAddr rfl) rfl ?_
    | refine sk_pure_g rfl rfl rfl rfl (ps_add64 rfl rfl (by omega)) rfl ?_
    | refine sk_pure_g rfl rfl rfl rfl (ps_sub64 rfl rfl (by omega)) rfl ?_
    | refine sk_pure_g rfl rfl rfl rfl (ps_mul64 rfl rfl (by omega)) rfl ?_
    | refine sk_pure_g rfl rfl rfl rfl (ps_bin rfl rfl inferInstance) rfl ?_
    | refine sk_pure_g rfl rfl rfl rfl (ps_rem rfl rfl (by decide)) rfl ?_
    | refine sk_pure_g rfl rfl rfl rfl (ps_not rfl) rfl ?_
    | refine sk_pure_g rfl rfl rfl rfl (ps_conv rfl) rfl ?_
    | refine sk_pure_g rfl rfl rfl rfl (ps_shl rfl rfl (by decide) rfl) rfl ?_
    | refine sk_pure_g rfl rfl rfl rfl (ps_shr rfl rfl (by decide) rfl) rfl ?_
    | refine sk_pure_g rfl rfl rfl rfl (ps_len rfl) rfl ?_
    | refine sk_pure_g rfl rfl rfl rfl (ps_len_str rfl) rfl ?_
    | refine sk_pure_g rfl rfl rfl rfl (ps_extract rfl rfl) rfl ?_
    | refine sk_pure_g rfl rfl rfl rfl (ps_field rfl rfl) rfl ?_
    | refine sk_pure_g rfl rfl rfl rfl (ps_build rfl rfl) rfl ?_
    | refine sk_pure_g rfl rfl rfl rfl (ps_indexAddr rfl rfl rfl (by omega)) rfl ?_
    | refine sk_pure_g rfl rfl rfl rfl (ps_indexAddr (j := 0) rfl rfl rfl (by omega)) rfl ?_
    | refine sk_pure_g rfl rfl rfl rfl (ps_indexAddr (j := 1) rfl rfl rfl (by omega)) rfl ?_
    | refine sk_pure_g rfl rfl rfl rfl (ps_pick_t rfl rfl) rfl ?_
    | refine sk_pure_g rfl rfl rfl rfl (ps_pick_f rfl rfl) rfl ?_
    | refine sk_pure_g rfl rfl rfl rfl (ps_min2 rfl rfl) rfl ?_
    | refine sk_pure_g rfl rfl rfl rfl (ps_max2 rfl rfl) rfl ?_
    | refine sk_pure_g rfl rfl rfl rfl (ps_indexAddr_arr rfl rfl rfl (by omega)) rfl ?_
    | refine sk_load 0 rfl rfl rfl rfl rfl ?_
    | refine sk_load 1 rfl rfl rfl rfl rfl ?_
    | refine sk_load 2 rfl rfl rfl rfl rfl ?_
    | refine sk_load 3 rfl rfl rfl rfl rfl ?_
    | refine sk_load 4 rfl rfl rfl rfl rfl ?_
    | refine sk_load 5 rfl rfl rfl rfl rfl ?_
    | refine sk_load_g 0 rfl rfl rfl rfl rfl rfl rfl ?_
    | refine sk_load_g 1 rfl rfl rfl rfl rfl rfl rfl ?_
    | refine sk_load_g 2 rfl rfl rfl rfl rfl rfl rfl ?_
    | refine sk_load_g 3 rfl rfl rfl rfl rfl rfl rfl ?_
    | refine sk_load_g 4 rfl rfl rfl rfl rfl rfl rfl ?_
    | refine sk_load_g 5 rfl rfl rfl rfl rfl rfl rfl ?_
    | refine sk_lw 0 rfl rfl rfl rfl rfl ?_
    | refine sk_lw 1 rfl rfl rfl rfl rfl ?_
    | refine sk_lw 2 rfl rfl rfl rfl rfl ?_
    | refine sk_lw 3 rfl rfl rfl rfl rfl ?_
    | refine sk_lw 4 rfl rfl rfl rfl rfl ?_
    | refine sk_lw 5 rfl rfl rfl rfl rfl ?_
    | refine sk_lwg 0 rfl rfl rfl rfl rfl rfl rfl ?_
    | refine sk_lwg 1 rfl rfl rfl rfl rfl rfl rfl ?_
    | refine sk_lwg 2 rfl rfl rfl rfl rfl rfl rfl ?_
    | refine sk_lwg 3 rfl rfl rfl rfl rfl rfl rfl ?_
    | refine sk_lwg 4 rfl rfl rfl rfl rfl rfl rfl ?_
    | refine sk_lwg 5 rfl rfl rfl rfl rfl rfl rfl ?_
    | refine sk_eff rfl rfl ?_
    | refine sg_store_whole [] rfl rfl rfl rfl rfl ?_
    | refine sg_store_whole [_] rfl rfl rfl rfl rfl ?_
    | refine sg_store_whole [_, _] rfl rfl rfl rfl rfl ?_
    | refine sg_store_whole [_, _, _] rfl rfl rfl rfl rfl ?_
    | refine sg_store_whole [_, _, _, _] rfl rfl rfl rfl rfl ?_
    | refine sg_store_whole [_, _, _, _, _] rfl rfl rfl rfl rfl ?_
    | refine sg_store_whole [_, _, _, _, _, _] rfl rfl rfl rfl rfl ?_
    | refine sg_guard_yes rfl rfl ?_
    | refine sg_guard_nf rfl rfl rfl ?_
    | refine sg_guard_nt rfl rfl rfl ?_
    | refine sg_guard_nu rfl rfl rfl ?_
    | refine sk_back (fun w hO => hO) ?_
    | refine sg_store [] rfl rfl rfl (of_decide_eq_true rfl) ?_
    | refine sg_store [_] rfl rfl rfl (of_decide_eq_true rfl) ?_
    | refine sg_store [_, _] rfl rfl rfl (of_decide_eq_true rfl) ?_
    | refine sg_store [_, _, _] rfl rfl rfl (of_decide_eq_true rfl) ?_
    | refine sg_store [_, _, _, _] rfl rfl rfl (of_decide_eq_true rfl) ?_
    | refine sg_store [_, _, _, _, _] rfl rfl rfl (of_decide_eq_true rfl) ?_
    | refine sg_store [_, _, _, _, _, _] rfl rfl rfl (of_decide_eq_true rfl) ?_
    | refine sg_store [_, _, _, _, _, _, _] rfl rfl rfl (of_decide_eq_true rfl) ?_)
  refine sg_front2 ?_
  refine sg_append (news := rcells [(o, y)]) rfl rfl rfl (rcells_len [(o, y)]) (rcells_one [(o, y)]) (rd_blk 1 rfl (fun j u hj => by rw [Nat.zero_add]; exact hj)) (by simp only [maxLen]; omega) (by omega) fun a' c' => ?_
  refine sk_back (fun w hO => Own.pickA [_, _, _] hO [2] (by decide)) ?_
  repeat' (first
    | refine sk_nil ?_
    | refine sk_pure rfl rfl (ps_move rfl) rfl ?_
    | refine sk_pure rfl rfl (ps_assign rfl) rfl ?_
    | refine sk_pure rfl rfl (ps_nilCheck rfl) rfl ?_
    | refine sk_pure rfl rfl (ps_fieldAddr rfl) rfl ?_
    | refine sk_pure rfl rfl (ps_add64 rfl rfl (by omega)) rfl ?_
    | refine sk_pure rfl rfl (ps_sub64 rfl rfl (by omega)) rfl ?_
    | refine sk_pure rfl rfl (ps_mul64 rfl rfl (by omega)) rfl ?_
    | refine sk_pure rfl rfl (ps_bin rfl rfl inferInstance) rfl ?_
    | refine sk_pure rfl rfl (ps_rem rfl rfl (by decide)) rfl ?_
    | refine sk_pure rfl rfl (ps_not rfl) rfl ?_
    | refine sk_pure rfl rfl (ps_conv rfl) rfl ?_
    | refine sk_pure rfl rfl (ps_shl rfl rfl (by decide) rfl) rfl ?_
    | refine sk_pure rfl rfl (ps_shr rfl rfl (by decide) rfl) rfl ?_
    | refine sk_pure rfl rfl (ps_len rfl) rfl ?_
    | refine sk_pure rfl rfl (ps_len_str rfl) rfl ?_
    | refine sk_pure rfl rfl (ps_extract rfl rfl) rfl ?_
    | refine sk_pure rfl rfl (ps_field rfl rfl) rfl ?_
    | refine sk_pure rfl rfl (ps_build rfl rfl) rfl ?_
    | refine sk_pure rfl rfl (ps_indexAddr rfl rfl rfl (by omega)) rfl ?_
    | refine sk_pure rfl rfl (ps_indexAddr (j := 0) rfl rfl rfl (by omega)) rfl ?_
    | refine sk_pure rfl rfl (ps_indexAddr (j := 1) rfl rfl rfl (by omega)) rfl ?_
    | refine sk_pure rfl rfl (ps_pick_t rfl rfl) rfl ?_
    | refine sk_pure rfl rfl (ps_pick_f rfl rfl) rfl ?_
    | refine sk_pure rfl rfl (ps_min2 rfl rfl) rfl ?_
    | refine sk_pure rfl rfl (ps_max2 rfl rfl) rfl ?_
    | refine sk_pure rfl rfl (ps_indexAddr_arr rfl rfl rfl (by omega)) rfl ?_
    | refine sk_no rfl rfl rfl rfl rfl ?_
    | refine sk_pure_g rfl rfl rfl rfl (ps_move rfl) rfl ?_
    | refine sk_pure_g rfl rfl rfl rfl (ps_assign rfl) rfl ?_
    | refine sk_pure_g rfl rfl rfl rfl (ps_nilCheck rfl) rfl ?_
    | refine sk_pure_g rfl rfl rfl rfl (ps_fieldAddr rfl) rfl ?_
    | refine sk_pure_g rfl rfl rfl rfl (ps_add64 rfl rfl (by omega)) rfl ?_
    | refine sk_pure_g rfl rfl rfl rfl (ps_sub64 rfl rfl (by omega)) rfl ?_
    | refine sk_pure_g rfl rfl rfl rfl (ps_mul64 rfl rfl (by omega)) rfl ?_
    | refine sk_pure_g rfl rfl rfl rfl (ps_bin rfl rfl inferInstance) rfl ?_
    | refine sk_pure_g rfl rfl rfl rfl (ps_rem rfl rfl (by decide)) rfl ?_
    | refine sk_pure_g rfl rfl rfl rfl (ps_not rfl) rfl ?_
    | refine sk_pure_g rfl rfl rfl rfl (ps_conv rfl) rfl ?_
    | refine sk_pure_g rfl rfl rfl rfl (ps_shl rfl rfl (by decide) rfl) rfl ?_
    | refine sk_pure_g rfl rfl rfl rfl (ps_shr rfl rfl (by decide) rfl) rfl ?_
    | refine sk_pure_g rfl rfl rfl rfl (ps_len rfl) rfl ?_
    | refine sk_pure_g rfl rfl rfl rfl (ps_len_str rfl) rfl ?_
    | refine sk_pure_g rfl rfl rfl rfl (ps_extract rfl rfl) rfl ?_
    | refine sk_pure_g rfl rfl rfl rfl (ps_field rfl rfl) rfl ?_
    | refine sk_pure_g rfl rfl rfl rfl (ps_build rfl rfl) rfl ?_
    | refine sk_pure_g rfl rfl rfl rfl (ps_indexAddr rfl rfl rfl (by omega)) rfl ?_
    | refine sk_pure_g rfl rfl rfl rfl (ps_indexAddr (j := 0) rfl rfl rfl (by omega)) rfl ?_
    | refine sk_pure_g rfl rfl rfl rfl (ps_indexAddr (j := 1) rfl rfl rfl (by omega)) rfl ?_
    | refine sk_pure_g rfl rfl rfl rfl (ps_pick_t rfl rfl) rfl ?_
    | refine sk_pure_g rfl rfl rfl rfl (ps_pick_f rfl rfl) rfl ?_
    | refine sk_pure_g rfl rfl rfl rfl (ps_min2 rfl rfl) rfl ?_
    | refine sk_pure_g rfl rfl rfl rfl (ps_max2 rfl rfl) rfl ?_
    | refine sk_pure_g rfl rfl rfl rfl (ps_indexAddr_arr rfl rfl rfl (by omega)) rfl ?_
    | refine sk_load 0 rfl rfl rfl rfl rfl ?_
    | refine sk_load 1 rfl rfl rfl rfl rfl ?_
    | refine sk_load 2 rfl rfl rfl rfl rfl ?_
    | refine sk_load 3 rfl rfl rfl rfl rfl ?_
    | refine sk_load 4 rfl rfl rfl rfl rfl ?_
    | refine sk_load 5 rfl rfl rfl rfl rfl ?_
    | refine sk_load_g 0 rfl rfl rfl rfl rfl rfl rfl ?_
    | refine sk_load_g 1 rfl rfl rfl rfl rfl rfl rfl ?_
    | refine sk_load_g 2 rfl rfl rfl rfl rfl rfl rfl ?_
    | refine sk_load_g 3 rfl rfl rfl rfl rfl rfl rfl ?_
    | refine sk_load_g 4 rfl rfl rfl rfl rfl rfl rfl ?_
    | refine sk_load_g 5 rfl rfl rfl rfl rfl rfl rfl ?_
    | refine sk_lw 0 rfl rfl rfl rfl rfl ?_
    | refine sk_lw 1 rfl rfl rfl rfl rfl ?_
    | refine sk_lw 2 rfl rfl rfl rfl rfl ?_
    | refine sk_lw 3 rfl rfl rfl rfl rfl ?_
    | refine sk_lw 4 rfl rfl rfl rfl rfl ?_
    | refine sk_lw 5 rfl rfl rfl rfl rfl ?_
    | refine sk_lwg 0 rfl rfl rfl rfl rfl rfl rfl ?_
    | refine sk_lwg 1 rfl rfl rfl rfl rfl rfl rfl ?_
    | refine sk_lwg 2 rfl rfl rfl rfl rfl rfl rfl ?_
    | refine sk_lwg 3 rfl rfl rfl rfl rfl rfl rfl ?_
    | refine sk_lwg 4 rfl rfl rfl rfl rfl rfl rfl ?_
    | refine sk_lwg 5 rfl rfl rfl rfl rfl rfl rfl ?_
    | refine sk_eff rfl rfl ?_
    | refine sg_store_whole [] rfl rfl rfl rfl rfl ?_
    | refine sg_store_whole [_] rfl rfl rfl rfl rfl ?_
    | refine sg_store_whole [_, _] rfl rfl rfl rfl rfl ?_
    | refine sg_store_whole [_, _, _] rfl rfl rfl rfl rfl ?_
    | refine sg_store_whole [_, _, _, _] rfl rfl rfl rfl rfl ?_
    | refine sg_store_whole [_, _, _, _, _] rfl rfl rfl rfl rfl ?_
    | refine sg_store_whole [_, _, _, _, _, _] rfl rfl rfl rfl rfl ?_
    | refine sg_guard_yes rfl rfl ?_
    | refine sg_guard_nf rfl rfl rfl ?_
    | refine sg_guard_nt rfl rfl rfl ?_
    | refine sg_guard_nu rfl rfl rfl ?_
    | refine sk_back (fun w hO => hO) ?_
    | refine sg_store [] rfl rfl rfl (of_decide_eq_true rfl) ?_
    | refine sg_store [_] rfl rfl rfl (of_decide_eq_true rfl) ?_
    | refine sg_store [_, _] rfl rfl rfl (of_decide_eq_true rfl) ?_
    | refine sg_store [_, _, _] rfl rfl rfl (of_decide_eq_true rfl) ?_
    | refine sg_store [_, _, _, _] rfl rfl rfl (of_decide_eq_true rfl) ?_
    | refine sg_store [_, _, _, _, _] rfl rfl rfl (of_decide_eq_true rfl) ?_
    | refine sg_store [_, _, _, _, _, _] rfl rfl rfl (of_decide_eq_true rfl) ?_
    | refine sg_store [_, _, _, _, _, _, _] rfl rfl rfl (of_decide_eq_true rfl) ?_)
  refine sk_end (by kernel_rfl) ?_
  repeat' (first
    | refine sk_nil ?_
    | refine sk_pure rfl rfl (ps_move rfl) rfl ?_
    | refine sk_pure rfl rfl (ps_assign rfl) rfl ?_
    | refine sk_pure rfl rfl (ps_nilCheck rfl) rfl ?_
    | refine sk_pure rfl rfl (ps_fieldAddr rfl) rfl ?_
    | refine sk_pure rfl rfl (ps_add64 rfl rfl (by omega)) rfl ?_
    | refine sk_pure rfl rfl (ps_sub64 rfl rfl (by omega)) rfl ?_
    | refine sk_pure rfl rfl (ps_mul64 rfl rfl (by omega)) rfl ?_
    | refine sk_pure rfl rfl (ps_bin rfl rfl inferInstance) rfl ?_
    | refine sk_pure rfl rfl (ps_rem rfl rfl (by decide)) rfl ?_
    | refine sk_pure rfl rfl (ps_not rfl) rfl ?_
    | refine sk_pure rfl rfl (ps_conv rfl) rfl ?_
    | refine sk_pure rfl rfl (ps_shl rfl rfl (by decide) rfl) rfl ?_
    | refine sk_pure rfl rfl (ps_shr rfl rfl (by decide) rfl) rfl ?_
    | refine sk_pure rfl rfl (ps_len rfl) rfl ?_
    | refine sk_pure rfl rfl (ps_len_str rfl) rfl ?_
    | refine sk_pure rfl rfl (ps_extract rfl rfl) rfl ?_
    | refine sk_pure rfl rfl (ps_field rfl rfl) rfl ?_
    | refine sk_pure rfl rfl (ps_build rfl rfl) rfl ?_
    | refine sk_pure rfl rfl (ps_indexAddr rfl rfl rfl (by omega)) rfl ?_
    | refine sk_pure rfl rfl (ps_indexAddr (j := 0) rfl rfl rfl (by omega)) rfl ?_
    | refine sk_pure rfl rfl (ps_indexAddr (j := 1) rfl rfl rfl (by omega)) rfl ?_
    | refine sk_pure rfl rfl (ps_pick_t rfl rfl) rfl ?_
    | refine sk_pure rfl rfl (ps_pick_f rfl rfl) rfl ?_
    | refine sk_pure rfl rfl (ps_min2 rfl rfl) rfl ?_
    | refine sk_pure rfl rfl (ps_max2 rfl rfl) rfl ?_
    | refine sk_pure rfl rfl (ps_indexAddr_arr rfl rfl rfl (by omega)) rfl ?_
    | refine sk_no rfl rfl rfl rfl rfl ?_
    | refine sk_pure_g rfl rfl rfl rfl (ps_move rfl) rfl ?_
    | refine sk_pure_g rfl rfl rfl rfl (ps_assign rfl) rfl ?_
    | refine sk_pure_g rfl rfl rfl rfl (ps_nilCheck rfl) rfl ?_
    | refine sk_pure_g rfl rfl rfl rfl (ps_fieldAddr rfl) rfl ?_
    | refine sk_pure_g rfl rfl rfl rfl (ps_add64 rfl rfl (by omega)) rfl ?_
    | refine sk_pure_g rfl rfl rfl rfl (ps_sub64 rfl rfl (by omega)) rfl ?_
    | refine sk_pure_g rfl rfl rfl rfl (ps_mul64 rfl rfl (by omega)) rfl ?_
    | refine sk_pure_g rfl rfl rfl rfl (ps_bin rfl rfl inferInstance) rfl ?_
    | refine sk_pure_g rfl rfl rfl rfl (ps_rem rfl rfl (by decide)) rfl ?_
    | refine sk_pure_g rfl rfl rfl rfl (ps_not rfl) rfl ?_
    | refine sk_pure_g rfl rfl rfl rfl (ps_conv rfl) rfl ?_
    | refine sk_pure_g rfl rfl rfl rfl (ps_shl rfl rfl (by decide) rfl) rfl ?_
    | refine sk_pure_g rfl rfl rfl rfl (ps_shr rfl rfl (by decide) rfl) rfl ?_
    | refine sk_pure_g rfl rfl rfl rfl (ps_len rfl) rfl ?_
    | refine sk_pure_g rfl rfl rfl rfl (ps_len_str rfl) rfl ?_
    | refine sk_pure_g rfl rfl rfl rfl (ps_extract rfl rfl) rfl ?_
    | refine sk_pure_g rfl rfl rfl rfl (ps_field rfl rfl) rfl ?_
    | refine sk_pure_g rfl rfl rfl rfl (ps_build rfl rfl) rfl ?_
    | refine sk_pure_g rfl rfl rfl rfl (ps_indexAddr rfl rfl rfl (by omega)) rfl ?_
    | refine sk_pure_g rfl rfl rfl rfl (ps_indexAddr (j := 0) rfl rfl rfl (by omega)) rfl ?_
    | refine sk_pure_g rfl rfl rfl rfl (ps_indexAddr (j := 1) rfl rfl rfl (by omega)) rfl ?_
    | refine sk_pure_g rfl rfl rfl rfl (ps_pick_t rfl rfl) rfl ?_
    | refine sk_pure_g rfl rfl rfl rfl (ps_pick_f rfl rfl) rfl ?_
    | refine sk_pure_g rfl rfl rfl rfl (ps_min2 rfl rfl) rfl ?_
    | refine sk_pure_g rfl rfl rfl rfl (ps_max2 rfl rfl) rfl ?_
    | refine sk_pure_g rfl rfl rfl rfl (ps_indexAddr_arr rfl rfl rfl (by omega)) rfl ?_
    | refine sk_load 0 rfl rfl rfl rfl rfl ?_
    | refine sk_load 1 rfl rfl rfl rfl rfl ?_
    | refine sk_load 2 rfl rfl rfl rfl rfl ?_
    | refine sk_load 3 rfl rfl rfl rfl rfl ?_
    | refine sk_load 4 rfl rfl rfl rfl rfl ?_
    | refine sk_load 5 rfl rfl rfl rfl rfl ?_
    | refine sk_load_g 0 rfl rfl rfl rfl rfl rfl rfl ?_
    | refine sk_load_g 1 rfl rfl rfl rfl rfl rfl rfl ?_
    | refine sk_load_g 2 rfl rfl rfl rfl rfl rfl rfl ?_
    | refine sk_load_g 3 rfl rfl rfl rfl rfl rfl rfl ?_
    | refine sk_load_g 4 rfl rfl rfl rfl rfl rfl rfl ?_
    | refine sk_load_g 5 rfl rfl rfl rfl rfl rfl rfl ?_
    | refine sk_lw 0 rfl rfl rfl rfl rfl ?_
    | refine sk_lw 1 rfl rfl rfl rfl rfl ?_
    | refine sk_lw 2 rfl rfl rfl rfl rfl ?_
    | refine sk_lw 3 rfl rfl rfl rfl rfl ?_
    | refine sk_lw 4 rfl rfl rfl rfl rfl ?_
    | refine sk_lw 5 rfl rfl rfl rfl rfl ?_
    | refine sk_lwg 0 rfl rfl rfl rfl rfl rfl rfl ?_
    | refine sk_lwg 1 rfl rfl rfl rfl rfl rfl rfl ?_
    | refine sk_lwg 2 rfl rfl rfl rfl rfl rfl rfl ?_
    | refine sk_lwg 3 rfl rfl rfl rfl rfl rfl rfl ?_
    | refine sk_lwg 4 rfl rfl rfl rfl rfl rfl rfl ?_
    | refine sk_lwg 5 rfl rfl rfl rfl rfl rfl rfl ?_
    | refine sk_eff rfl rfl ?_
    | refine sg_store_whole [] rfl rfl rfl rfl rfl ?_
    | refine sg_store_whole [_] rfl rfl rfl rfl rfl ?_
    | refine sg_store_whole [_, _] rfl rfl rfl rfl rfl ?_
    | refine sg_store_whole [_, _, _] rfl rfl rfl rfl rfl ?_
    | refine sg_store_whole [_, _, _, _] rfl rfl rfl rfl rfl ?_
    | refine sg_store_whole [_, _, _, _, _] rfl rfl rfl rfl rfl ?_
    | refine sg_store_whole [_, _, _, _, _, _] rfl rfl rfl rfl rfl ?_
    | refine sg_guard_yes rfl rfl ?_
    | refine sg_guard_nf rfl rfl rfl ?_
    | refine sg_guard_nt rfl rfl rfl ?_
    | refine sg_guard_nu rfl rfl rfl ?_
    | refine sk_back (fun w hO => hO) ?_
    | refine sg_store [] rfl rfl rfl (of_decide_eq_true rfl) ?_
    | refine sg_store [_] rfl rfl rfl (of_decide_eq_true rfl) ?_
    | refine sg_store [_, _] rfl rfl rfl (of_decide_eq_true rfl) ?_
    | refine sg_store [_, _, _] rfl rfl rfl (of_decide_eq_true rfl) ?_
    | refine sg_store [_, _, _, _] rfl rfl rfl (of_decide_eq_true rfl) ?_
    | refine sg_store [_, _, _, _, _] rfl rfl rfl (of_decide_eq_true rfl) ?_
    | refine sg_store [_, _, _, _, _, _] rfl rfl rfl (of_decide_eq_true rfl) ?_
    | refine sg_store [_, _, _, _, _, _, _] rfl rfl rfl (of_decide_eq_true rfl) ?_)
  repeat' (first
    | refine sg_wo ?_
    | refine sg_ps (ps_move rfl) rfl ?_
    | refine sg_ps (ps_assign rfl) rfl ?_
    | refine sg_seq ?_
    | refine sg_region ?_
    | refine sg_nil ?_
    | refine sg_then ?_
    | refine sg_ps (ps_fieldAddr rfl) rfl ?_
    | refine sg_ps (ps_nilCheck rfl) rfl ?_
    | refine sg_load 0 rfl rfl rfl rfl ?_
    | refine sg_load 1 rfl rfl rfl rfl ?_
    | refine sg_load 2 rfl rfl rfl rfl ?_
    | refine sg_load 3 rfl rfl rfl rfl ?_
    | refine sg_load 4 rfl rfl rfl rfl ?_
    | refine sg_load 5 rfl rfl rfl rfl ?_
    | refine sg_load 6 rfl rfl rfl rfl ?_
    | refine sg_load 7 rfl rfl rfl rfl ?_
    | refine sg_ps (ps_add64 rfl rfl (by omega)) rfl ?_
    | refine sg_ps (ps_sub64 rfl rfl (by omega)) rfl ?_
    | refine sg_ps (ps_mul64 rfl rfl (by omega)) rfl ?_
    | refine sg_ps (ps_bin rfl rfl inferInstance) rfl ?_
    | refine sg_ps (ps_rem rfl rfl (by decide)) rfl ?_
    | refine sg_ps (ps_quo64 rfl rfl (by decide) (by omega)) rfl ?_
    | refine sg_ps (ps_not rfl) rfl ?_
    | refine sg_ps (ps_conv rfl) rfl ?_
    | refine sg_ps (ps_shl rfl rfl (by decide) rfl) rfl ?_
    | refine sg_ps (ps_shr rfl rfl (by decide) rfl) rfl ?_
    | refine sg_cond_t rfl ?_
    | refine sg_cond_f rfl ?_
    | refine sg_guard_yes rfl rfl ?_
    | refine sg_guard_nf rfl rfl rfl ?_
    | refine sg_guard_nt rfl rfl rfl ?_
    | refine sg_guard_nu rfl rfl rfl ?_
    | refine sg_ps (ps_pick_t rfl rfl) rfl ?_
    | refine sg_ps (ps_pick_f rfl rfl) rfl ?_
    | refine sg_ps (ps_len rfl) rfl ?_
    | refine sg_ps (ps_len_str rfl) rfl ?_
    | refine sg_ps (ps_extract rfl rfl) rfl ?_
    | refine sg_ps (ps_field rfl rfl) rfl ?_
    | refine sg_ps (ps_min2 rfl rfl) rfl ?_
    | refine sg_ps (ps_max2 rfl rfl) rfl ?_
    | refine sg_ps (ps_build rfl rfl) rfl ?_
    | refine sg_box rfl rfl (fun bx => ?_)
    | refine sg_ps (ps_indexAddr rfl rfl rfl (by omega)) rfl ?_
    | refine sg_ps (ps_indexAddr (j := 0) rfl rfl rfl (by omega)) rfl ?_
    | refine sg_ps (ps_indexAddr (j := 1) rfl rfl rfl (by omega)) rfl ?_
    | refine sg_ps (ps_indexAddr_arr rfl rfl rfl (by omega)) rfl ?_
    | refine sg_load_whole 0 rfl rfl rfl rfl ?_
    | refine sg_load_whole 1 rfl rfl rfl rfl ?_
    | refine sg_load_whole 2 rfl rfl rfl rfl ?_
    | refine sg_load_whole 3 rfl rfl rfl rfl ?_
    | refine sg_load_whole 4 rfl rfl rfl rfl ?_
    | refine sg_load_whole 5 rfl rfl rfl rfl ?_
    | refine sg_load_whole 6 rfl rfl rfl rfl ?_
    | refine sg_load_whole 7 rfl rfl rfl rfl ?_
    | refine sg_store_whole [] rfl rfl rfl rfl rfl ?_
    | refine sg_store_whole [_] rfl rfl rfl rfl rfl ?_
    | refine sg_store_whole [_, _] rfl rfl rfl rfl rfl ?_
    | refine sg_store_whole [_, _, _] rfl rfl rfl rfl rfl ?_
    | refine sg_store_whole [_, _, _, _] rfl rfl rfl rfl rfl ?_
    | refine sg_store_whole [_, _, _, _, _] rfl rfl rfl rfl rfl ?_
    | refine sg_store_whole [_, _, _, _, _, _] rfl rfl rfl rfl rfl ?_
    | refine sg_alloc rfl (fun al => ?_)
    | refine sg_block ?_
    | refine sg_skip ?_
    | refine sg_ret ?_
    | refine sg_exit ?_
    | refine ex_then_ret ?_
    | refine ex_then_exit ?_
    | refine ex_block_ret ?_
    | refine ex_block_normal ?_
    | refine ex_block_hit ?_
    | refine ex_block_miss rfl ?_
    | refine sg_store [] rfl rfl rfl (of_decide_eq_true rfl) ?_
    | refine sg_store [_] rfl rfl rfl (of_decide_eq_true rfl) ?_
    | refine sg_store [_, _] rfl rfl rfl (of_decide_eq_true rfl) ?_
    | refine sg_store [_, _, _] rfl rfl rfl (of_decide_eq_true rfl) ?_
    | refine sg_store [_, _, _, _] rfl rfl rfl (of_decide_eq_true rfl) ?_
    | refine sg_store [_, _, _, _, _] rfl rfl rfl (of_decide_eq_true rfl) ?_
    | refine sg_store [_, _, _, _, _, _] rfl rfl rfl (of_decide_eq_true rfl) ?_
    | refine sg_store [_, _, _, _, _, _, _] rfl rfl rfl (of_decide_eq_true rfl) ?_
    | (refine sg_guard_dec rfl rfl (fun hg => ?_) (fun hg => ?_) <;> first | (exfalso; omega) | (exact absurd rfl hg) | skip)
    | (refine sg_guard_ndec rfl rfl (fun hg => ?_) (fun hg => ?_) <;> first | (exfalso; omega) | (exact absurd rfl hg) | skip)
    | (refine sg_cond_dec rfl (fun hg => ?_) (fun hg => ?_) <;> first | (exfalso; omega) | (exact absurd rfl hg) | skip)
    | (refine sg_cond_ndec rfl (fun hg => ?_) (fun hg => ?_) <;> first | (exfalso; omega) | (exact absurd rfl hg) | skip)
    | refine sg_cond_not rfl (fun hg => ?_) (fun hg => ?_)
    | refine sg_cond rfl (fun hg => ?_) (fun hg => ?_))
  refine ex_mid (i + 1, a', c') ⟨by omega, by omega⟩ (.cons rfl (.cons rfl (.cons rfl (.cons rfl .nil)))) (fun w hO => ?_)
  dsimp only
  rw [e1, rcells_app, List.length_append]
  exact Own.pickA [_, _, _] hO [2, 0] (by decide)
end Go.Proofs.Ytgapgpknghnemaa
