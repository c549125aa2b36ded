/- Package msg: Apply. -/
import Derived.Test.YtlafdffjkdiigaaMG2
import Derived.Test.YtlafdffjkdiigaaMG3
import Derived.Test.YtlafdffjkdiigaaAG2
namespace Go.Proofs.Ytlafdffjkdiigaa
set_option linter.unusedVariables false
set_option linter.unusedSimpArgs false
set_option linter.unusedSectionVars false
set_option linter.unnecessarySimpa false
open Go Go.Proofs
set_option maxRecDepth 20000
set_option maxHeartbeats 4000000
attribute [local irreducible] SG WC WO W1 WD WK PS Rd Tri Exit.then Exit.inBlock bodyPost calmQ Mid sadd
variable {W : World} {n : Nat} {F : Fr} {L : List HP} {G : Act → World → Prop}
abbrev big : Nat := 140737488355328
def applyW (e : EN) (m : MS) (wk : ST → ST) : EN :=
  if m.kind = 4 then mkE e.key (wk e.old) (wk e.own) e.txn
  else if m.txn = 0 then mkE e.key (wk e.old) e.own e.txn
  else if e.txn = 0 then mkE e.key e.old (wk e.old) m.txn
  else if e.txn = m.txn then mkE e.key e.old (wk e.own) e.txn
  else mkE e.key e.old e.own e.txn
theorem apply_work (f : FuncId) [IsFn Try.prog f] (wk : ST → ST) (e : EN) (m : MS) (h1 : e.val.length ≤ big) (h2 : e.nval.length ≤ big)
    (hw : ∀ R, Tri Try.prog W 15 [m.v] R (X := Unit) (fun _ => .func (.func f) #[] #[]) (fun _ => True) (fun _ => R))
    (hC : ∀ (s : ST), s.val.length ≤ big → ∀ R, Tri Try.prog W f [s.v, m.v] R (X := Unit) (fun _ => (wk s).v) (fun _ => True) (fun _ => R)) (R : List HP) :
    Tri Try.prog W 9 [e.v, m.v] R (X := Unit) (fun _ => (applyW e m wk).v) (fun _ => True) (fun _ => R) := by
  refine tri_enter2 Try.func9 rfl Try.ntmps9 rfl ?_
  repeat' (first
    | refine sg_wo ?_
    | refine sg_ps (ps_move rfl) rfl ?_
    | refine sg_ps (ps_assign rfl) rfl ?_
    | refine sg_seq ?_
    | refine sg_region ?_
    | refine sg_nil ?_
    | refine sg_then ?_
    | refine sg_ps (ps_fieldAddr rfl) rfl ?_
    | refine sg_ps (ps_nilCheck rfl) rfl ?_
    | refine sg_load 0 rfl rfl rfl rfl ?_
    | refine sg_load 1 rfl rfl rfl rfl ?_
    | refine sg_load 2 rfl rfl rfl rfl ?_
    | refine sg_load 3 rfl rfl rfl rfl ?_
    | refine sg_load 4 rfl rfl rfl rfl ?_
    | refine sg_load 5 rfl rfl rfl rfl ?_
    | refine sg_load 6 rfl rfl rfl rfl ?_
    | refine sg_load 7 rfl rfl rfl rfl ?_
    | refine sg_ps (ps_add64 rfl rfl (by omega)) rfl ?_
    | refine sg_ps (ps_sub64 rfl rfl (by omega)) rfl ?_
    | refine sg_ps (ps_mul64 rfl rfl (by omega)) rfl ?_
    | refine sg_ps (ps_bin rfl rfl inferInstance) rfl ?_
    | refine sg_ps (ps_rem rfl rfl (by decide)) rfl ?_
    | refine sg_ps (ps_quo64 rfl rfl (by decide) (by omega)) rfl ?_
    | refine sg_ps (ps_not rfl) rfl ?_
    | refine sg_ps (ps_conv rfl) rfl ?_
    | refine sg_ps (ps_shl rfl rfl (by decide) rfl) rfl ?_
    | refine sg_ps (ps_shr rfl rfl (by decide) rfl) rfl ?_
    | refine sg_cond_t rfl ?_
    | refine sg_cond_f rfl ?_
    | refine sg_guard_yes rfl rfl ?_
    | refine sg_guard_nf rfl rfl rfl ?_
    | refine sg_guard_nt rfl rfl rfl ?_
    | refine sg_guard_nu rfl rfl rfl ?_
    | refine sg_ps (ps_pick_t rfl rfl) rfl ?_
    | refine sg_ps (ps_pick_f rfl rfl) rfl ?_
    | refine sg_ps (ps_len rfl) rfl ?_
    | refine sg_ps (ps_len_str rfl) rfl ?_
    | refine sg_ps (ps_extract rfl rfl) rfl ?_
    | refine sg_ps (ps_field rfl rfl) rfl ?_
    | refine sg_ps (ps_min2 rfl rfl) rfl ?_
    | refine sg_ps (ps_max2 rfl rfl) rfl ?_
    | refine sg_ps (ps_build rfl rfl) rfl ?_
    | refine sg_box rfl rfl (fun bx => ?_)
    | refine sg_ps (ps_indexAddr rfl rfl rfl (by omega)) rfl ?_
    | refine sg_ps (ps_indexAddr (j := 0) rfl rfl rfl (by omega)) rfl ?_
    | refine sg_ps (ps_indexAddr (j := 1) rfl rfl rfl (by omega)) rfl ?_
    | refine sg_ps (ps_indexAddr_arr rfl rfl rfl (by omega)) rfl ?_
    | refine sg_load_whole 0 rfl rfl rfl rfl ?_
    | refine sg_load_whole 1 rfl rfl rfl rfl ?_
    | refine sg_load_whole 2 rfl rfl rfl rfl ?_
    | refine sg_load_whole 3 rfl rfl rfl rfl ?_
    | refine sg_load_whole 4 rfl rfl rfl rfl ?_
    | refine sg_load_whole 5 rfl rfl rfl rfl ?_
    | refine sg_load_whole 6 rfl rfl rfl rfl ?_
    | refine sg_load_whole 7 rfl rfl rfl rfl ?_
    | refine sg_store_whole [] rfl rfl rfl rfl rfl ?_
    | refine sg_store_whole [_] rfl rfl rfl rfl rfl ?_
    | refine sg_store_whole [_, _] rfl rfl rfl rfl rfl ?_
    | refine sg_store_whole [_, _, _] rfl rfl rfl rfl rfl ?_
    | refine sg_store_whole [_, _, _, _] rfl rfl rfl rfl rfl ?_
    | refine sg_store_whole [_, _, _, _, _] rfl rfl rfl rfl rfl ?_
    | refine sg_store_whole [_, _, _, _, _, _] rfl rfl rfl rfl rfl ?_
    | refine sg_alloc rfl (fun al => ?_)
    | refine sg_block ?_
    | refine sg_skip ?_
    | refine sg_ret ?_
    | refine sg_exit ?_
    | refine ex_then_ret ?_
    | refine ex_then_exit ?_
    | refine ex_block_ret ?_
    | refine ex_block_normal ?_
    | refine ex_block_hit ?_
    | refine ex_block_miss rfl ?_
    | refine sg_store [] rfl rfl rfl (of_decide_eq_true rfl) ?_
    | refine sg_store [_] rfl rfl rfl (of_decide_eq_true rfl) ?_
    | refine sg_store [_, _] rfl rfl rfl (of_decide_eq_true rfl) ?_
    | refine sg_store [_, _, _] rfl rfl rfl (of_decide_eq_true rfl) ?_
    | refine sg_store [_, _, _, _] rfl rfl rfl (of_decide_eq_true rfl) ?_
    | refine sg_store [_, _, _, _, _] rfl rfl rfl (of_decide_eq_true rfl) ?_
    | refine sg_store [_, _, _, _, _, _] rfl rfl rfl (of_decide_eq_true rfl) ?_
    | refine sg_store [_, _, _, _, _, _, _] rfl rfl rfl (of_decide_eq_true rfl) ?_
    | (refine sg_guard_dec rfl rfl (fun hg => ?_) (fun hg => ?_) <;> first | (exfalso; omega) | (exact absurd rfl hg) | skip)
    | (refine sg_guard_ndec rfl rfl (fun hg => ?_) (fun hg => ?_) <;> first | (exfalso; omega) | (exact absurd rfl hg) | skip)
    | (refine sg_cond_dec rfl (fun hg => ?_) (fun hg => ?_) <;> first | (exfalso; omega) | (exact absurd rfl hg) | skip)
    | (refine sg_cond_ndec rfl (fun hg => ?_) (fun hg => ?_) <;> first | (exfalso; omega) | (exact absurd rfl hg) | skip)
    | refine sg_cond_not rfl (fun hg => ?_) (fun hg => ?_)
    | refine sg_cond rfl (fun hg => ?_) (fun hg => ?_))
  rename_i be
  revert bx al
  intro bm br
  refine sg_call (parts_tri e _) rfl rfl (fun _ _ => ?_)
  repeat' (first
    | refine sg_wo ?_
    | refine sg_ps (ps_move rfl) rfl ?_
    | refine sg_ps (ps_assign rfl) rfl ?_
    | refine sg_seq ?_
    | refine sg_region ?_
    | refine sg_nil ?_
    | refine sg_then ?_
    | refine sg_ps (ps_fieldAddr rfl) rfl ?_
    | refine sg_ps (ps_nilCheck rfl) rfl ?_
    | refine sg_load 0 rfl rfl rfl rfl ?_
    | refine sg_load 1 rfl rfl rfl rfl ?_
    | refine sg_load 2 rfl rfl rfl rfl ?_
    | refine sg_load 3 rfl rfl rfl rfl ?_
    | refine sg_load 4 rfl rfl rfl rfl ?_
    | refine sg_load 5 rfl rfl rfl rfl ?_
    | refine sg_load 6 rfl rfl rfl rfl ?_
    | refine sg_load 7 rfl rfl rfl rfl ?_
    | refine sg_ps (ps_add64 rfl rfl (by omega)) rfl ?_
    | refine sg_ps (ps_sub64 rfl rfl (by omega)) rfl ?_
    | refine sg_ps (ps_mul64 rfl rfl (by omega)) rfl ?_
    | refine sg_ps (ps_bin rfl rfl inferInstance) rfl ?_
    | refine sg_ps (ps_rem rfl rfl (by decide)) rfl ?_
    | refine sg_ps (ps_quo64 rfl rfl (by decide) (by omega)) rfl ?_
    | refine sg_ps (ps_not rfl) rfl ?_
    | refine sg_ps (ps_conv rfl) rfl ?_
    | refine sg_ps (ps_shl rfl rfl (by decide) rfl) rfl ?_
    | refine sg_ps (ps_shr rfl rfl (by decide) rfl) rfl ?_
    | refine sg_cond_t rfl ?_
    | refine sg_cond_f rfl ?_
    | refine sg_guard_yes rfl rfl ?_
    | refine sg_guard_nf rfl rfl rfl ?_
    | refine sg_guard_nt rfl rfl rfl ?_
    | refine sg_guard_nu rfl rfl rfl ?_
    | refine sg_ps (ps_pick_t rfl rfl) rfl ?_
    | refine sg_ps (ps_pick_f rfl rfl) rfl ?_
    | refine sg_ps (ps_len rfl) rfl ?_
    | refine sg_ps (ps_len_str rfl) rfl ?_
    | refine sg_ps (ps_extract rfl rfl) rfl ?_
    | refine sg_ps (ps_field rfl rfl) rfl ?_
    | refine sg_ps (ps_min2 rfl rfl) rfl ?_
    | refine sg_ps (ps_max2 rfl rfl) rfl ?_
    | refine sg_ps (ps_build rfl rfl) rfl ?_
    | refine sg_box rfl rfl (fun bx => ?_)
    | refine sg_ps (ps_indexAddr rfl rfl rfl (by omega)) rfl ?_
    | refine sg_ps (ps_indexAddr (j := 0) rfl rfl rfl (by omega)) rfl ?_
    | refine sg_ps (ps_indexAddr (j := 1) rfl rfl rfl (by omega)) rfl ?_
    | refine sg_ps (ps_indexAddr_arr rfl rfl rfl (by omega)) rfl ?_
    | refine sg_load_whole 0 rfl rfl rfl rfl ?_
    | refine sg_load_whole 1 rfl rfl rfl rfl ?_
    | refine sg_load_whole 2 rfl rfl rfl rfl ?_
    | refine sg_load_whole 3 rfl rfl rfl rfl ?_
    | refine sg_load_whole 4 rfl rfl rfl rfl ?_
    | refine sg_load_whole 5 rfl rfl rfl rfl ?_
    | refine sg_load_whole 6 rfl rfl rfl rfl ?_
    | refine sg_load_whole 7 rfl rfl rfl rfl ?_
    | refine sg_store_whole [] rfl rfl rfl rfl rfl ?_
    | refine sg_store_whole [_] rfl rfl rfl rfl rfl ?_
    | refine sg_store_whole [_, _] rfl rfl rfl rfl rfl ?_
    | refine sg_store_whole [_, _, _] rfl rfl rfl rfl rfl ?_
    | refine sg_store_whole [_, _, _, _] rfl rfl rfl rfl rfl ?_
    | refine sg_store_whole [_, _, _, _, _] rfl rfl rfl rfl rfl ?_
    | refine sg_store_whole [_, _, _, _, _, _] rfl rfl rfl rfl rfl ?_
    | refine sg_alloc rfl (fun al => ?_)
    | refine sg_block ?_
    | refine sg_skip ?_
    | refine sg_ret ?_
    | refine sg_exit ?_
    | refine ex_then_ret ?_
    | refine ex_then_exit ?_
    | refine ex_block_ret ?_
    | refine ex_block_normal ?_
    | refine ex_block_hit ?_
    | refine ex_block_miss rfl ?_
    | refine sg_store [] rfl rfl rfl (of_decide_eq_true rfl) ?_
    | refine sg_store [_] rfl rfl rfl (of_decide_eq_true rfl) ?_
    | refine sg_store [_, _] rfl rfl rfl (of_decide_eq_true rfl) ?_
    | refine sg_store [_, _, _] rfl rfl rfl (of_decide_eq_true rfl) ?_
    | refine sg_store [_, _, _, _] rfl rfl rfl (of_decide_eq_true rfl) ?_
    | refine sg_store [_, _, _, _, _] rfl rfl rfl (of_decide_eq_true rfl) ?_
    | refine sg_store [_, _, _, _, _, _] rfl rfl rfl (of_decide_eq_true rfl) ?_
    | refine sg_store [_, _, _, _, _, _, _] rfl rfl rfl (of_decide_eq_true rfl) ?_
    | (refine sg_guard_dec rfl rfl (fun hg => ?_) (fun hg => ?_) <;> first | (exfalso; omega) | (exact absurd rfl hg) | skip)
    | (refine sg_guard_ndec rfl rfl (fun hg => ?_) (fun hg => ?_) <;> first | (exfalso; omega) | (exact absurd rfl hg) | skip)
    | (refine sg_cond_dec rfl (fun hg => ?_) (fun hg => ?_) <;> first | (exfalso; omega) | (exact absurd rfl hg) | skip)
    | (refine sg_cond_ndec rfl (fun hg => ?_) (fun hg => ?_) <;> first | (exfalso; omega) | (exact absurd rfl hg) | skip)
    | refine sg_cond_not rfl (fun hg => ?_) (fun hg => ?_)
    | refine sg_cond rfl (fun hg => ?_) (fun hg => ?_))
  rename_i bo
  revert al
  intro bw
  refine sg_call (hw _) rfl rfl (fun _ _ => ?_)
  repeat' (first
    | refine sg_wo ?_
    | refine sg_ps (ps_move rfl) rfl ?_
    | refine sg_ps (ps_assign rfl) rfl ?_
    | refine sg_seq ?_
    | refine sg_region ?_
    | refine sg_nil ?_
    | refine sg_then ?_
    | refine sg_ps (ps_fieldAddr rfl) rfl ?_
    | refine sg_ps (ps_nilCheck rfl) rfl ?_
    | refine sg_load 0 rfl rfl rfl rfl ?_
    | refine sg_load 1 rfl rfl rfl rfl ?_
    | refine sg_load 2 rfl rfl rfl rfl ?_
    | refine sg_load 3 rfl rfl rfl rfl ?_
    | refine sg_load 4 rfl rfl rfl rfl ?_
    | refine sg_load 5 rfl rfl rfl rfl ?_
    | refine sg_load 6 rfl rfl rfl rfl ?_
    | refine sg_load 7 rfl rfl rfl rfl ?_
    | refine sg_ps (ps_add64 rfl rfl (by omega)) rfl ?_
    | refine sg_ps (ps_sub64 rfl rfl (by omega)) rfl ?_
    | refine sg_ps (ps_mul64 rfl rfl (by omega)) rfl ?_
    | refine sg_ps (ps_bin rfl rfl inferInstance) rfl ?_
    | refine sg_ps (ps_rem rfl rfl (by decide)) rfl ?_
    | refine sg_ps (ps_quo64 rfl rfl (by decide) (by omega)) rfl ?_
    | refine sg_ps (ps_not rfl) rfl ?_
    | refine sg_ps (ps_conv rfl) rfl ?_
    | refine sg_ps (ps_shl rfl rfl (by decide) rfl) rfl ?_
    | refine sg_ps (ps_shr rfl rfl (by decide) rfl) rfl ?_
    | refine sg_cond_t rfl ?_
    | refine sg_cond_f rfl ?_
    | refine sg_guard_yes rfl rfl ?_
    | refine sg_guard_nf rfl rfl rfl ?_
    | refine sg_guard_nt rfl rfl rfl ?_
    | refine sg_guard_nu rfl rfl rfl ?_
    | refine sg_ps (ps_pick_t rfl rfl) rfl ?_
    | refine sg_ps (ps_pick_f rfl rfl) rfl ?_
    | refine sg_ps (ps_len rfl) rfl ?_
    | refine sg_ps (ps_len_str rfl) rfl ?_
    | refine sg_ps (ps_extract rfl rfl) rfl ?_
    | refine sg_ps (ps_field rfl rfl) rfl ?_
    | refine sg_ps (ps_min2 rfl rfl) rfl ?_
    | refine sg_ps (ps_max2 rfl rfl) rfl ?_
    | refine sg_ps (ps_build rfl rfl) rfl ?_
    | refine sg_box rfl rfl (fun bx => ?_)
    | refine sg_ps (ps_indexAddr rfl rfl rfl (by omega)) rfl ?_
    | refine sg_ps (ps_indexAddr (j := 0) rfl rfl rfl (by omega)) rfl ?_
    | refine sg_ps (ps_indexAddr (j := 1) rfl rfl rfl (by omega)) rfl ?_
    | refine sg_ps (ps_indexAddr_arr rfl rfl rfl (by omega)) rfl ?_
    | refine sg_load_whole 0 rfl rfl rfl rfl ?_
    | refine sg_load_whole 1 rfl rfl rfl rfl ?_
    | refine sg_load_whole 2 rfl rfl rfl rfl ?_
    | refine sg_load_whole 3 rfl rfl rfl rfl ?_
    | refine sg_load_whole 4 rfl rfl rfl rfl ?_
    | refine sg_load_whole 5 rfl rfl rfl rfl ?_
    | refine sg_load_whole 6 rfl rfl rfl rfl ?_
    | refine sg_load_whole 7 rfl rfl rfl rfl ?_
    | refine sg_store_whole [] rfl rfl rfl rfl rfl ?_
    | refine sg_store_whole [_] rfl rfl rfl rfl rfl ?_
    | refine sg_store_whole [_, _] rfl rfl rfl rfl rfl ?_
    | refine sg_store_whole [_, _, _] rfl rfl rfl rfl rfl ?_
    | refine sg_store_whole [_, _, _, _] rfl rfl rfl rfl rfl ?_
    | refine sg_store_whole [_, _, _, _, _] rfl rfl rfl rfl rfl ?_
    | refine sg_store_whole [_, _, _, _, _, _] rfl rfl rfl rfl rfl ?_
    | refine sg_alloc rfl (fun al => ?_)
    | refine sg_block ?_
    | refine sg_skip ?_
    | refine sg_ret ?_
    | refine sg_exit ?_
    | refine ex_then_ret ?_
    | refine ex_then_exit ?_
    | refine ex_block_ret ?_
    | refine ex_block_normal ?_
    | refine ex_block_hit ?_
    | refine ex_block_miss rfl ?_
    | refine sg_store [] rfl rfl rfl (of_decide_eq_true rfl) ?_
    | refine sg_store [_] rfl rfl rfl (of_decide_eq_true rfl) ?_
    | refine sg_store [_, _] rfl rfl rfl (of_decide_eq_true rfl) ?_
    | refine sg_store [_, _, _] rfl rfl rfl (of_decide_eq_true rfl) ?_
    | refine sg_store [_, _, _, _] rfl rfl rfl (of_decide_eq_true rfl) ?_
    | refine sg_store [_, _, _, _, _] rfl rfl rfl (of_decide_eq_true rfl) ?_
    | refine sg_store [_, _, _, _, _, _] rfl rfl rfl (of_decide_eq_true rfl) ?_
    | refine sg_store [_, _, _, _, _, _, _] rfl rfl rfl (of_decide_eq_true rfl) ?_
    | (refine sg_guard_dec rfl rfl (fun hg => ?_) (fun hg => ?_) <;> first | (exfalso; omega) | (exact absurd rfl hg) | skip)
    | (refine sg_guard_ndec rfl rfl (fun hg => ?_) (fun hg => ?_) <;> first | (exfalso; omega) | (exact absurd rfl hg) | skip)
    | (refine sg_cond_dec rfl (fun hg => ?_) (fun hg => ?_) <;> first | (exfalso; omega) | (exact absurd rfl hg) | skip)
    | (refine sg_cond_ndec rfl (fun hg => ?_) (fun hg => ?_) <;> first | (exfalso; omega) | (exact absurd rfl hg) | skip)
    | refine sg_cond_not rfl (fun hg => ?_) (fun hg => ?_)
    | refine sg_cond rfl (fun hg => ?_) (fun hg => ?_))
  · have e' : applyW e m wk = mkE e.key (wk e.old) (wk e.own) e.txn := if_pos (by omega)
    rw [e']
    refine sg_drawK [blk bw e.own.v.cells.toList, blk bo e.old.v.cells.toList, blk bm m.v.cells.toList] [0, 4, 1, 2, 5, 6, 3, 7, 8, 9] (by kernel_rfl) (by kernel_rfl) (fun w hO => hO.pick [0, 1, 3] (by decide)) ?_
    repeat' (first
      | refine sk_nil ?_
      | refine sk_pure rfl rfl (ps_move rfl) rfl ?_
      | refine sk_pure rfl rfl (ps_assign rfl) rfl ?_
      | refine sk_pure rfl rfl (ps_nilCheck rfl) rfl ?_
      | refine sk_pure rfl rfl (ps_fieldAddr rfl) rfl ?_
      | refine sk_pure rfl rfl (ps_add64 rfl rfl (by omega)) rfl ?_
      | refine sk_pure rfl rfl (ps_sub64 rfl rfl (by omega)) rfl ?_
      | refine sk_pure rfl rfl (ps_mul64 rfl rfl (by omega)) rfl ?_
      | refine sk_pure rfl rfl (ps_bin rfl rfl inferInstance) rfl ?_
      | refine sk_pure rfl rfl (ps_rem rfl rfl (by decide)) rfl ?_
      | refine sk_pure rfl rfl (ps_not rfl) rfl ?_
      | refine sk_pure rfl rfl (ps_conv rfl) rfl ?_
      | refine sk_pure rfl rfl (ps_shl rfl rfl (by decide) rfl) rfl ?_
      | refine sk_pure rfl rfl (ps_shr rfl rfl (by decide) rfl) rfl ?_
      | refine sk_pure rfl rfl (ps_len rfl) rfl ?_
      | refine sk_pure rfl rfl (ps_len_str rfl) rfl ?_
      | refine sk_pure rfl rfl (ps_extract rfl rfl) rfl ?_
      | refine sk_pure rfl rfl (ps_field rfl rfl) rfl ?_
      | refine sk_pure rfl rfl (ps_build rfl rfl) rfl ?_
      | refine sk_pure rfl rfl (ps_indexAddr rfl rfl rfl (by omega)) rfl ?_
      | refine sk_pure rfl rfl (ps_indexAddr (j := 0) rfl rfl rfl (by omega)) rfl ?_
      | refine sk_pure rfl rfl (ps_indexAddr (j := 1) rfl rfl rfl (by omega)) rfl ?_
      | refine sk_pure rfl rfl (ps_pick_t rfl rfl) rfl ?_
      | refine sk_pure rfl rfl (ps_pick_f rfl rfl) rfl ?_
      | refine sk_pure rfl rfl (ps_min2 rfl rfl) rfl ?_
      | refine sk_pure rfl rfl (ps_max2 rfl rfl) rfl ?_
      | refine sk_pure rfl rfl (ps_indexAddr_arr rfl rfl rfl (by omega)) rfl ?_
      | refine sk_no rfl rfl rfl rfl rfl ?_
      | refine sk_pure_g rfl rfl rfl rfl (ps_move rfl) rfl ?_
      | refine sk_pure_g rfl rfl rfl rfl (ps_assign rfl) rfl ?_
      | refine sk_pure_g rfl rfl rfl rfl (ps_nilCheck rfl) rfl ?_
      | refine sk_pure_g rfl rfl rfl rfl (ps_fieldAddr rfl) rfl ?_
      | refine sk_pure_g rfl rfl rfl rfl (ps_add64 rfl rfl (by omega)) rfl ?_
      | refine sk_pure_g rfl rfl rfl rfl (ps_sub64 rfl rfl (by omega)) rfl ?_
      | refine sk_pure_g rfl rfl rfl rfl (ps_mul64 rfl rfl (by omega)) rfl ?_
      | refine sk_pure_g rfl rfl rfl rfl (ps_bin rfl rfl inferInstance) rfl ?_
      | refine sk_pure_g rfl rfl rfl rfl (ps_rem rfl rfl (by decide)) rfl ?_
      | refine sk_pure_g rfl rfl rfl rfl (ps_not rfl) rfl ?_
      | refine sk_pure_g rfl rfl rfl rfl (ps_conv rfl) rfl ?_
      | refine sk_pure_g rfl rfl rfl rfl (ps_shl rfl rfl (by decide) rfl) rfl ?_
      | refine sk_pure_g rfl rfl rfl rfl (ps_shr rfl rfl (by decide) rfl) rfl ?_
      | refine sk_pure_g rfl rfl rfl rfl (ps_len rfl) rfl ?_
      | refine sk_pure_g rfl rfl rfl rfl (ps_len_str rfl) rfl ?_
      | refine sk_pure_g rfl rfl rfl rfl (ps_extract rfl rfl) rfl ?_
      | refine sk_pure_g rfl rfl rfl rfl (ps_field rfl rfl) rfl ?_
      | refine sk_pure_g rfl rfl rfl rfl (ps_build rfl rfl) rfl ?_
      | refine sk_pure_g rfl rfl rfl rfl (ps_indexAddr rfl rfl rfl (by omega)) rfl ?_
      | refine sk_pure_g rfl rfl rfl rfl (ps_indexAddr (j := 0) rfl rfl rfl (by omega)) rfl ?_
      | refine sk_pure_g rfl rfl rfl rfl (ps_indexAddr (j := 1) rfl rfl rfl (by omega)) rfl ?_
      | refine sk_pure_g rfl rfl rfl rfl (ps_pick_t rfl rfl) rfl ?_
      | refine sk_pure_g rfl rfl rfl rfl (ps_pick_f rfl rfl) rfl ?_
      | refine sk_pure_g rfl rfl rfl rfl (ps_min2 rfl rfl) rfl ?_
      | refine sk_pure_g rfl rfl rfl rfl (ps_max2 rfl rfl) rfl ?_
      | refine sk_pure_g rfl rfl rfl rfl (ps_indexAddr_arr rfl rfl rfl (by omega)) rfl ?_
      | refine sk_load 0 rfl rfl rfl rfl rfl ?_
      | refine sk_load 1 rfl rfl rfl rfl rfl ?_
      | refine sk_load 2 rfl rfl rfl rfl rfl ?_
      | refine sk_load 3 rfl rfl rfl rfl rfl ?_
      | refine sk_load 4 rfl rfl rfl rfl rfl ?_
      | refine sk_load 5 rfl rfl rfl rfl rfl ?_
      | refine sk_load_g 0 rfl rfl rfl rfl rfl rfl rfl ?_
      | refine sk_load_g 1 rfl rfl rfl rfl rfl rfl rfl ?_
      | refine sk_load_g 2 rfl rfl rfl rfl rfl rfl rfl ?_
      | refine sk_load_g 3 rfl rfl rfl rfl rfl rfl rfl ?_
      | refine sk_load_g 4 rfl rfl rfl rfl rfl rfl rfl ?_
      | refine sk_load_g 5 rfl rfl rfl rfl rfl rfl rfl ?_
      | refine sk_lw 0 rfl rfl rfl rfl rfl ?_
      | refine sk_lw 1 rfl rfl rfl rfl rfl ?_
      | refine sk_lw 2 rfl rfl rfl rfl rfl ?_
      | refine sk_lw 3 rfl rfl rfl rfl rfl ?_
      | refine sk_lw 4 rfl rfl rfl rfl rfl ?_
      | refine sk_lw 5 rfl rfl rfl rfl rfl ?_
      | refine sk_lwg 0 rfl rfl rfl rfl rfl rfl rfl ?_
      | refine sk_lwg 1 rfl rfl rfl rfl rfl rfl rfl ?_
      | refine sk_lwg 2 rfl rfl rfl rfl rfl rfl rfl ?_
      | refine sk_lwg 3 rfl rfl rfl rfl rfl rfl rfl ?_
      | refine sk_lwg 4 rfl rfl rfl rfl rfl rfl rfl ?_
      | refine sk_lwg 5 rfl rfl rfl rfl rfl rfl rfl ?_
      | refine sk_eff rfl rfl ?_
      | refine sg_store_whole [] rfl rfl rfl rfl rfl ?_
      | refine sg_store_whole [_] rfl rfl rfl rfl rfl ?_
      | refine sg_store_whole [_, _] rfl rfl rfl rfl rfl ?_
      | refine sg_store_whole [_, _, _] rfl rfl rfl rfl rfl ?_
      | refine sg_store_whole [_, _, _, _] rfl rfl rfl rfl rfl ?_
      | refine sg_store_whole [_, _, _, _, _] rfl rfl rfl rfl rfl ?_
      | refine sg_store_whole [_, _, _, _, _, _] rfl rfl rfl rfl rfl ?_
      | refine sg_guard_yes rfl rfl ?_
      | refine sg_guard_nf rfl rfl rfl ?_
      | refine sg_guard_nt rfl rfl rfl ?_
      | refine sg_guard_nu rfl rfl rfl ?_
      | refine sk_back (fun w hO => hO) ?_
      | refine sg_store [] rfl rfl rfl (of_decide_eq_true rfl) ?_
      | refine sg_store [_] rfl rfl rfl (of_decide_eq_true rfl) ?_
      | refine sg_store [_, _] rfl rfl rfl (of_decide_eq_true rfl) ?_
      | refine sg_store [_, _, _] rfl rfl rfl (of_decide_eq_true rfl) ?_
      | refine sg_store [_, _, _, _] rfl rfl rfl (of_decide_eq_true rfl) ?_
      | refine sg_store [_, _, _, _, _] rfl rfl rfl (of_decide_eq_true rfl) ?_
      | refine sg_store [_, _, _, _, _, _] rfl rfl rfl (of_decide_eq_true rfl) ?_
      | refine sg_store [_, _, _, _, _, _, _] rfl rfl rfl (of_decide_eq_true rfl) ?_)
    refine sg_callv rfl (hC e.old h1 _) rfl rfl (fun _ _ => ?_)
    refine sk_back (fun w hO => hO.pick [0, 1, 3] (by decide)) ?_
    repeat' (first
      | refine sk_nil ?_
      | refine sk_pure rfl rfl (ps_move rfl) rfl ?_
      | refine sk_pure rfl rfl (ps_assign rfl) rfl ?_
      | refine sk_pure rfl rfl (ps_nilCheck rfl) rfl ?_
      | refine sk_pure rfl rfl (ps_fieldAddr rfl) rfl ?_
      | refine sk_pure rfl rfl (ps_add64 rfl rfl (by omega)) rfl ?_
      | refine sk_pure rfl rfl (ps_sub64 rfl rfl (by omega)) rfl ?_
      | refine sk_pure rfl rfl (ps_mul64 rfl rfl (by omega)) rfl ?_
      | refine sk_pure rfl rfl (ps_bin rfl rfl inferInstance) rfl ?_
      | refine sk_pure rfl rfl (ps_rem rfl rfl (by decide)) rfl ?_
      | refine sk_pure rfl rfl (ps_not rfl) rfl ?_
      | refine sk_pure rfl rfl (ps_conv rfl) rfl ?_
      | refine sk_pure rfl rfl (ps_shl rfl rfl (by decide) rfl) rfl ?_
      | refine sk_pure rfl rfl (ps_shr rfl rfl (by decide) rfl) rfl ?_
      | refine sk_pure rfl rfl (ps_len rfl) rfl ?_
      | refine sk_pure rfl rfl (ps_len_str rfl) rfl ?_
      | refine sk_pure rfl rfl (ps_extract rfl rfl) rfl ?_
      | refine sk_pure rfl rfl (ps_field rfl rfl) rfl ?_
      | refine sk_pure rfl rfl (ps_build rfl rfl) rfl ?_
      | refine sk_pure rfl rfl (ps_indexAddr rfl rfl rfl (by omega)) rfl ?_
      | refine sk_pure rfl rfl (ps_indexAddr (j := 0) rfl rfl rfl (by omega)) rfl ?_
      | refine sk_pure rfl rfl (ps_indexAddr (j := 1) rfl rfl rfl (by omega)) rfl ?_
      | refine sk_pure rfl rfl (ps_pick_t rfl rfl) rfl ?_
      | refine sk_pure rfl rfl (ps_pick_f rfl rfl) rfl ?_
      | refine sk_pure rfl rfl (ps_min2 rfl rfl) rfl ?_
      | refine sk_pure rfl rfl (ps_max2 rfl rfl) rfl ?_
      | refine sk_pure rfl rfl (ps_indexAddr_arr rfl rfl rfl (by omega)) rfl ?_
      | refine sk_no rfl rfl rfl rfl rfl ?_
      | refine sk_pure_g rfl rfl rfl rfl (ps_move rfl) rfl ?_
      | refine sk_pure_g rfl rfl rfl rfl (ps_assign rfl) rfl ?_
      | refine sk_pure_g rfl rfl rfl rfl (ps_nilCheck rfl) rfl ?_
      | refine sk_pure_g rfl rfl rfl rfl (ps_fieldAddr rfl) rfl ?_
      | refine sk_pure_g rfl rfl rfl rfl (ps_add64 rfl rfl (by omega)) rfl ?_
      | refine sk_pure_g rfl rfl rfl rfl (ps_sub64 rfl rfl (by omega)) rfl ?_
      | refine sk_pure_g rfl rfl rfl rfl (ps_mul64 rfl rfl (by omega)) rfl ?_
      | refine sk_pure_g rfl rfl rfl rfl (ps_bin rfl rfl inferInstance) rfl ?_
      | refine sk_pure_g rfl rfl rfl rfl (ps_rem rfl rfl (by decide)) rfl ?_
      | refine sk_pure_g rfl rfl rfl rfl (ps_not rfl) rfl ?_
      | refine sk_pure_g rfl rfl rfl rfl (ps_conv rfl) rfl ?_
      | refine sk_pure_g rfl rfl rfl rfl (ps_shl rfl rfl (by decide) rfl) rfl ?_
      | refine sk_pure_g rfl rfl rfl rfl (ps_shr rfl rfl (by decide) rfl) rfl ?_
      | refine sk_pure_g rfl rfl rfl rfl (ps_len rfl) rfl ?_
      | refine sk_pure_g rfl rfl rfl rfl (ps_len_str rfl) rfl ?_
      | refine sk_pure_g rfl rfl rfl rfl (ps_extract rfl rfl) rfl ?_
      | refine sk_pure_g rfl rfl rfl rfl (ps_field rfl rfl) rfl ?_
      | refine sk_pure_g rfl rfl rfl rfl (ps_build rfl rfl) rfl ?_
      | refine sk_pure_g rfl rfl rfl rfl (ps_indexAddr rfl rfl rfl (by omega)) rfl ?_
      | refine sk_pure_g rfl rfl rfl rfl (ps_indexAddr (j := 0) rfl rfl rfl (by omega)) rfl ?_
      | refine sk_pure_g rfl rfl rfl rfl (ps_indexAddr (j := 1) rfl rfl rfl (by omega)) rfl ?_
      | refine sk_pure_g rfl rfl rfl rfl (ps_pick_t rfl rfl) rfl ?_
      | refine sk_pure_g rfl rfl rfl rfl (ps_pick_f rfl rfl) rfl ?_
      | refine sk_pure_g rfl rfl rfl rfl (ps_min2 rfl rfl) rfl ?_
      | refine sk_pure_g rfl rfl rfl rfl (ps_max2 rfl rfl) rfl ?_
      | refine sk_pure_g rfl rfl rfl rfl (ps_indexAddr_arr rfl rfl rfl (by omega)) rfl ?_
      | refine sk_load 0 rfl rfl rfl rfl rfl ?_
      | refine sk_load 1 rfl rfl rfl rfl rfl ?_
      | refine sk_load 2 rfl rfl rfl rfl rfl ?_
      | refine sk_load 3 rfl rfl rfl rfl rfl ?_
      | refine sk_load 4 rfl rfl rfl rfl rfl ?_
      | refine sk_load 5 rfl rfl rfl rfl rfl ?_
      | refine sk_load_g 0 rfl rfl rfl rfl rfl rfl rfl ?_
      | refine sk_load_g 1 rfl rfl rfl rfl rfl rfl rfl ?_
      | refine sk_load_g 2 rfl rfl rfl rfl rfl rfl rfl ?_
      | refine sk_load_g 3 rfl rfl rfl rfl rfl rfl rfl ?_
      | refine sk_load_g 4 rfl rfl rfl rfl rfl rfl rfl ?_
      | refine sk_load_g 5 rfl rfl rfl rfl rfl rfl rfl ?_
      | refine sk_lw 0 rfl rfl rfl rfl rfl ?_
      | refine sk_lw 1 rfl rfl rfl rfl rfl ?_
      | refine sk_lw 2 rfl rfl rfl rfl rfl ?_
      | refine sk_lw 3 rfl rfl rfl rfl rfl ?_
      | refine sk_lw 4 rfl rfl rfl rfl rfl ?_
      | refine sk_lw 5 rfl rfl rfl rfl rfl ?_
      | refine sk_lwg 0 rfl rfl rfl rfl rfl rfl rfl ?_
      | refine sk_lwg 1 rfl rfl rfl rfl rfl rfl rfl ?_
      | refine sk_lwg 2 rfl rfl rfl rfl rfl rfl rfl ?_
      | refine sk_lwg 3 rfl rfl rfl rfl rfl rfl rfl ?_
      | refine sk_lwg 4 rfl rfl rfl rfl rfl rfl rfl ?_
      | refine sk_lwg 5 rfl rfl rfl rfl rfl rfl rfl ?_
      | refine sk_eff rfl rfl ?_
      | refine sg_store_whole [] rfl rfl rfl rfl rfl ?_
      | refine sg_store_whole [_] rfl rfl rfl rfl rfl ?_
      | refine sg_store_whole [_, _] rfl rfl rfl rfl rfl ?_
      | refine sg_store_whole [_, _, _] rfl rfl rfl rfl rfl ?_
      | refine sg_store_whole [_, _, _, _] rfl rfl rfl rfl rfl ?_
      | refine sg_store_whole [_, _, _, _, _] rfl rfl rfl rfl rfl ?_
      | refine sg_store_whole [_, _, _, _, _, _] rfl rfl rfl rfl rfl ?_
      | refine sg_guard_yes rfl rfl ?_
      | refine sg_guard_nf rfl rfl rfl ?_
      | refine sg_guard_nt rfl rfl rfl ?_
      | refine sg_guard_nu rfl rfl rfl ?_
      | refine sk_back (fun w hO => hO) ?_
      | refine sg_store [] rfl rfl rfl (of_decide_eq_true rfl) ?_
      | refine sg_store [_] rfl rfl rfl (of_decide_eq_true rfl) ?_
      | refine sg_store [_, _] rfl rfl rfl (of_decide_eq_true rfl) ?_
      | refine sg_store [_, _, _] rfl rfl rfl (of_decide_eq_true rfl) ?_
      | refine sg_store [_, _, _, _] rfl rfl rfl (of_decide_eq_true rfl) ?_
      | refine sg_store [_, _, _, _, _] rfl rfl rfl (of_decide_eq_true rfl) ?_
      | refine sg_store [_, _, _, _, _, _] rfl rfl rfl (of_decide_eq_true rfl) ?_
      | refine sg_store [_, _, _, _, _, _, _] rfl rfl rfl (of_decide_eq_true rfl) ?_)
    refine sg_callv rfl (hC e.own h2 _) rfl rfl (fun _ _ => ?_)
    refine sk_back (fun w hO => hO.pick [0, 1, 3] (by decide)) ?_
    repeat' (first
      | refine sk_nil ?_
      | refine sk_pure rfl rfl (ps_move rfl) rfl ?_
      | refine sk_pure rfl rfl (ps_assign rfl) rfl ?_
      | refine sk_pure rfl rfl (ps_nilCheck rfl) rfl ?_
      | refine sk_pure rfl rfl (ps_fieldAddr rfl) rfl ?_
      | refine sk_pure rfl rfl (ps_add64 rfl rfl (by omega)) rfl ?_
      | refine sk_pure rfl rfl (ps_sub64 rfl rfl (by omega)) rfl ?_
      | refine sk_pure rfl rfl (ps_mul64 rfl rfl (by omega)) rfl ?_
      | refine sk_pure rfl rfl (ps_bin rfl rfl inferInstance) rfl ?_
      | refine sk_pure rfl rfl (ps_rem rfl rfl (by decide)) rfl ?_
      | refine sk_pure rfl rfl (ps_not rfl) rfl ?_
      | refine sk_pure rfl rfl (ps_conv rfl) rfl ?_
      | refine sk_pure rfl rfl (ps_shl rfl rfl (by decide) rfl) rfl ?_
      | refine sk_pure rfl rfl (ps_shr rfl rfl (by decide) rfl) rfl ?_
      | refine sk_pure rfl rfl (ps_len rfl) rfl ?_
      | refine sk_pure rfl rfl (ps_len_str rfl) rfl ?_
      | refine sk_pure rfl rfl (ps_extract rfl rfl) rfl ?_
      | refine sk_pure rfl rfl (ps_field rfl rfl) rfl ?_
      | refine sk_pure rfl rfl (ps_build rfl rfl) rfl ?_
      | refine sk_pure rfl rfl (ps_indexAddr rfl rfl rfl (by omega)) rfl ?_
      | refine sk_pure rfl rfl (ps_indexAddr (j := 0) rfl rfl rfl (by omega)) rfl ?_
      | refine sk_pure rfl rfl (ps_indexAddr (j := 1) rfl rfl rfl (by omega)) rfl ?_
      | refine sk_pure rfl rfl (ps_pick_t rfl rfl) rfl ?_
      | refine sk_pure rfl rfl (ps_pick_f rfl rfl) rfl ?_
      | refine sk_pure rfl rfl (ps_min2 rfl rfl) rfl ?_
      | refine sk_pure rfl rfl (ps_max2 rfl rfl) rfl ?_
      | refine sk_pure rfl rfl (ps_indexAddr_arr rfl rfl rfl (by omega)) rfl ?_
      | refine sk_no rfl rfl rfl rfl rfl ?_
      | refine sk_pure_g rfl rfl rfl rfl (ps_move rfl) rfl ?_
      | refine sk_pure_g rfl rfl rfl rfl (ps_assign rfl) rfl ?_
      | refine sk_pure_g rfl rfl rfl rfl (ps_nilCheck rfl) rfl ?_
      | refine sk_pure_g rfl rfl rfl rfl (ps_fieldAddr rfl) rfl ?_
      | refine sk_pure_g rfl rfl rfl rfl (ps_add64 rfl rfl (by omega)) rfl ?_
      | refine sk_pure_g rfl rfl rfl rfl (ps_sub64 rfl rfl (by omega)) rfl ?_
      | refine sk_pure_g rfl rfl rfl rfl (ps_mul64 rfl rfl (by omega)) rfl ?_
      | refine sk_pure_g rfl rfl rfl rfl (ps_bin rfl rfl inferInstance) rfl ?_
      | refine sk_pure_g rfl rfl rfl rfl (ps_rem rfl rfl (by decide)) rfl ?_
      | refine sk_pure_g rfl rfl rfl rfl (ps_not rfl) rfl ?_
      | refine sk_pure_g rfl rfl rfl rfl (ps_conv rfl) rfl ?_
      | refine sk_pure_g rfl rfl rfl rfl (ps_shl rfl rfl (by decide) rfl) rfl ?_
      | refine sk_pure_g rfl rfl rfl rfl (ps_shr rfl rfl (by decide) rfl) rfl ?_
      | refine sk_pure_g rfl rfl rfl rfl (ps_len rfl) rfl ?_
      | refine sk_pure_g rfl rfl rfl rfl (ps_len_str rfl) rfl ?_
      | refine sk_pure_g rfl rfl rfl rfl (ps_extract rfl rfl) rfl ?_
      | refine sk_pure_g rfl rfl rfl rfl (ps_field rfl rfl) rfl ?_
      | refine sk_pure_g rfl rfl rfl rfl (ps_build rfl rfl) rfl ?_
      | refine sk_pure_g rfl rfl rfl rfl (ps_indexAddr rfl rfl rfl (by omega)) rfl ?_
      | refine sk_pure_g rfl rfl rfl rfl (ps_indexAddr (j := 0) rfl rfl rfl (by omega)) rfl ?_
      | refine sk_pure_g rfl rfl rfl rfl (ps_indexAddr (j := 1) rfl rfl rfl (by omega)) rfl ?_
      | refine sk_pure_g rfl rfl rfl rfl (ps_pick_t rfl rfl) rfl ?_
      | refine sk_pure_g rfl rfl rfl rfl (ps_pick_f rfl rfl) rfl ?_
      | refine sk_pure_g rfl rfl rfl rfl (ps_min2 rfl rfl) rfl ?_
      | refine sk_pure_g rfl rfl rfl rfl (ps_max2 rfl rfl) rfl ?_
      | refine sk_pure_g rfl rfl rfl rfl (ps_indexAddr_arr rfl rfl rfl (by omega)) rfl ?_
      | refine sk_load 0 rfl rfl rfl rfl rfl ?_
      | refine sk_load 1 rfl rfl rfl rfl rfl ?_
      | refine sk_load 2 rfl rfl rfl rfl rfl ?_
      | refine sk_load 3 rfl rfl rfl rfl rfl ?_
      | refine sk_load 4 rfl rfl rfl rfl rfl ?_
      | refine sk_load 5 rfl rfl rfl rfl rfl ?_
      | refine sk_load_g 0 rfl rfl rfl rfl rfl rfl rfl ?_
      | refine sk_load_g 1 rfl rfl rfl rfl rfl rfl rfl ?_
      | refine sk_load_g 2 rfl rfl rfl rfl rfl rfl rfl ?_
      | refine sk_load_g 3 rfl rfl rfl rfl rfl rfl rfl ?_
      | refine sk_load_g 4 rfl rfl rfl rfl rfl rfl rfl ?_
      | refine sk_load_g 5 rfl rfl rfl rfl rfl rfl rfl ?_
      | refine sk_lw 0 rfl rfl rfl rfl rfl ?_
      | refine sk_lw 1 rfl rfl rfl rfl rfl ?_
      | refine sk_lw 2 rfl rfl rfl rfl rfl ?_
      | refine sk_lw 3 rfl rfl rfl rfl rfl ?_
      | refine sk_lw 4 rfl rfl rfl rfl rfl ?_
      | refine sk_lw 5 rfl rfl rfl rfl rfl ?_
      | refine sk_lwg 0 rfl rfl rfl rfl rfl rfl rfl ?_
      | refine sk_lwg 1 rfl rfl rfl rfl rfl rfl rfl ?_
      | refine sk_lwg 2 rfl rfl rfl rfl rfl rfl rfl ?_
      | refine sk_lwg 3 rfl rfl rfl rfl rfl rfl rfl ?_
      | refine sk_lwg 4 rfl rfl rfl rfl rfl rfl rfl ?_
      | refine sk_lwg 5 rfl rfl rfl rfl rfl rfl rfl ?_
      | refine sk_eff rfl rfl ?_
      | refine sg_store_whole [] rfl rfl rfl rfl rfl ?_
      | refine sg_store_whole [_] rfl rfl rfl rfl rfl ?_
      | refine sg_store_whole [_, _] rfl rfl rfl rfl rfl ?_
      | refine sg_store_whole [_, _, _] rfl rfl rfl rfl rfl ?_
      | refine sg_store_whole [_, _, _, _] rfl rfl rfl rfl rfl ?_
      | refine sg_store_whole [_, _, _, _, _] rfl rfl rfl rfl rfl ?_
      | refine sg_store_whole [_, _, _, _, _, _] rfl rfl rfl rfl rfl ?_
      | refine sg_guard_yes rfl rfl ?_
      | refine sg_guard_nf rfl rfl rfl ?_
      | refine sg_guard_nt rfl rfl rfl ?_
      | refine sg_guard_nu rfl rfl rfl ?_
      | refine sk_back (fun w hO => hO) ?_
      | refine sg_store [] rfl rfl rfl (of_decide_eq_true rfl) ?_
      | refine sg_store [_] rfl rfl rfl (of_decide_eq_true rfl) ?_
      | refine sg_store [_, _] rfl rfl rfl (of_decide_eq_true rfl) ?_
      | refine sg_store [_, _, _] rfl rfl rfl (of_decide_eq_true rfl) ?_
      | refine sg_store [_, _, _, _] rfl rfl rfl (of_decide_eq_true rfl) ?_
      | refine sg_store [_, _, _, _, _] rfl rfl rfl (of_decide_eq_true rfl) ?_
      | refine sg_store [_, _, _, _, _, _] rfl rfl rfl (of_decide_eq_true rfl) ?_
      | refine sg_store [_, _, _, _, _, _, _] rfl rfl rfl (of_decide_eq_true rfl) ?_)
    refine sk_end (by kernel_rfl) ?_
    repeat' (first
      | refine sk_nil ?_
      | refine sk_pure rfl rfl (ps_move rfl) rfl ?_
      | refine sk_pure rfl rfl (ps_assign rfl) rfl ?_
      | refine sk_pure rfl rfl (ps_nilCheck rfl) rfl ?_
      | refine sk_pure rfl rfl (ps_fieldAddr rfl) rfl ?_
      | refine sk_pure rfl rfl (ps_add64 rfl rfl (by omega)) rfl ?_
      | refine sk_pure rfl rfl (ps_sub64 rfl rfl (by omega)) rfl ?_
      | refine sk_pure rfl rfl (ps_mul64 rfl rfl (by omega)) rfl ?_
      | refine sk_pure rfl rfl (ps_bin rfl rfl inferInstance) rfl ?_
      | refine sk_pure rfl rfl (ps_rem rfl rfl (by decide)) rfl ?_
      | refine sk_pure rfl rfl (ps_not rfl) rfl ?_
      | refine sk_pure rfl rfl (ps_conv rfl) rfl ?_
      | refine sk_pure rfl rfl (ps_shl rfl rfl (by decide) rfl) rfl ?_
      | refine sk_pure rfl rfl (ps_shr rfl rfl (by decide) rfl) rfl ?_
      | refine sk_pure rfl rfl (ps_len rfl) rfl ?_
      | refine sk_pure rfl rfl (ps_len_str rfl) rfl ?_
      | refine sk_pure rfl rfl (ps_extract rfl rfl) rfl ?_
      | refine sk_pure rfl rfl (ps_field rfl rfl) rfl ?_
      | refine sk_pure rfl rfl (ps_build rfl rfl) rfl ?_
      | refine sk_pure rfl rfl (ps_indexAddr rfl rfl rfl (by omega)) rfl ?_
      | refine sk_pure rfl rfl (ps_indexAddr (j := 0) rfl rfl rfl (by omega)) rfl ?_
      | refine sk_pure rfl rfl (ps_indexAddr (j := 1) rfl rfl rfl (by omega)) rfl ?_
      | refine sk_pure rfl rfl (ps_pick_t rfl rfl) rfl ?_
      | refine sk_pure rfl rfl (ps_pick_f rfl rfl) rfl ?_
      | refine sk_pure rfl rfl (ps_min2 rfl rfl) rfl ?_
      | refine sk_pure rfl rfl (ps_max2 rfl rfl) rfl ?_
      | refine sk_pure rfl rfl (ps_indexAddr_arr rfl rfl rfl (by omega)) rfl ?_
      | refine sk_no rfl rfl rfl rfl rfl ?_
      | refine sk_pure_g rfl rfl rfl rfl (ps_move rfl) rfl ?_
      | refine sk_pure_g rfl rfl rfl rfl (ps_assign rfl) rfl ?_
      | refine sk_pure_g rfl rfl rfl rfl (ps_nilCheck rfl) rfl ?_
      | refine sk_pure_g rfl rfl rfl rfl (ps_fieldAddr rfl) rfl ?_
      | refine sk_pure_g rfl rfl rfl rfl (ps_add64 rfl rfl (by omega)) rfl ?_
      | refine sk_pure_g rfl rfl rfl rfl (ps_sub64 rfl rfl (by omega)) rfl ?_
      | refine sk_pure_g rfl rfl rfl rfl (ps_mul64 rfl rfl (by omega)) rfl ?_
      | refine sk_pure_g rfl rfl rfl rfl (ps_bin rfl rfl inferInstance) rfl ?_
      | refine sk_pure_g rfl rfl rfl rfl (ps_rem rfl rfl (by decide)) rfl ?_
      | refine sk_pure_g rfl rfl rfl rfl (ps_not rfl) rfl ?_
      | refine sk_pure_g rfl rfl rfl rfl (ps_conv rfl) rfl ?_
      | refine sk_pure_g rfl rfl rfl rfl (ps_shl rfl rfl (by decide) rfl) rfl ?_
      | refine sk_pure_g rfl rfl rfl rfl (ps_shr rfl rfl (by decide) rfl) rfl ?_
      | refine sk_pure_g rfl rfl rfl rfl (ps_len rfl) rfl ?_
      | refine sk_pure_g rfl rfl rfl rfl (ps_len_str rfl) rfl ?_
      | refine sk_pure_g rfl rfl rfl rfl (ps_extract rfl rfl) rfl ?_
      | refine sk_pure_g rfl rfl rfl rfl (ps_field rfl rfl) rfl ?_
      | refine sk_pure_g rfl rfl rfl rfl (ps_build rfl rfl) rfl ?_
      | refine sk_pure_g rfl rfl rfl rfl (ps_indexAddr rfl rfl rfl (by omega)) rfl ?_
      | refine sk_pure_g rfl rfl rfl rfl (ps_indexAddr (j := 0) rfl rfl rfl (by omega)) rfl ?_
      | refine sk_pure_g rfl rfl rfl rfl (ps_indexAddr (j := 1) rfl rfl rfl (by omega)) rfl ?_
      | refine sk_pure_g rfl rfl rfl rfl (ps_pick_t rfl rfl) rfl ?_
      | refine sk_pure_g rfl rfl rfl rfl (ps_pick_f rfl rfl) rfl ?_
      | refine sk_pure_g rfl rfl rfl rfl (ps_min2 rfl rfl) rfl ?_
      | refine sk_pure_g rfl rfl rfl rfl (ps_max2 rfl rfl) rfl ?_
      | refine sk_pure_g rfl rfl rfl rfl (ps_indexAddr_arr rfl rfl rfl (by omega)) rfl ?_
      | refine sk_load 0 rfl rfl rfl rfl rfl ?_
      | refine sk_load 1 rfl rfl rfl rfl rfl ?_
      | refine sk_load 2 rfl rfl rfl rfl rfl ?_
      | refine sk_load 3 rfl rfl rfl rfl rfl ?_
      | refine sk_load 4 rfl rfl rfl rfl rfl ?_
      | refine sk_load 5 rfl rfl rfl rfl rfl ?_
      | refine sk_load_g 0 rfl rfl rfl rfl rfl rfl rfl ?_
      | refine sk_load_g 1 rfl rfl rfl rfl rfl rfl rfl ?_
      | refine sk_load_g 2 rfl rfl rfl rfl rfl rfl rfl ?_
      | refine sk_load_g 3 rfl rfl rfl rfl rfl rfl rfl ?_
      | refine sk_load_g 4 rfl rfl rfl rfl rfl rfl rfl ?_
      | refine sk_load_g 5 rfl rfl rfl rfl rfl rfl rfl ?_
      | refine sk_lw 0 rfl rfl rfl rfl rfl ?_
      | refine sk_lw 1 rfl rfl rfl rfl rfl ?_
      | refine sk_lw 2 rfl rfl rfl rfl rfl ?_
      | refine sk_lw 3 rfl rfl rfl rfl rfl ?_
      | refine sk_lw 4 rfl rfl rfl rfl rfl ?_
      | refine sk_lw 5 rfl rfl rfl rfl rfl ?_
      | refine sk_lwg 0 rfl rfl rfl rfl rfl rfl rfl ?_
      | refine sk_lwg 1 rfl rfl rfl rfl rfl rfl rfl ?_
      | refine sk_lwg 2 rfl rfl rfl rfl rfl rfl rfl ?_
      | refine sk_lwg 3 rfl rfl rfl rfl rfl rfl rfl ?_
      | refine sk_lwg 4 rfl rfl rfl rfl rfl rfl rfl ?_
      | refine sk_lwg 5 rfl rfl rfl rfl rfl rfl rfl ?_
      | refine sk_eff rfl rfl ?_
      | refine sg_store_whole [] rfl rfl rfl rfl rfl ?_
      | refine sg_store_whole [_] rfl rfl rfl rfl rfl ?_
      | refine sg_store_whole [_, _] rfl rfl rfl rfl rfl ?_
      | refine sg_store_whole [_, _, _] rfl rfl rfl rfl rfl ?_
      | refine sg_store_whole [_, _, _, _] rfl rfl rfl rfl rfl ?_
      | refine sg_store_whole [_, _, _, _, _] rfl rfl rfl rfl rfl ?_
      | refine sg_store_whole [_, _, _, _, _, _] rfl rfl rfl rfl rfl ?_
      | refine sg_guard_yes rfl rfl ?_
      | refine sg_guard_nf rfl rfl rfl ?_
      | refine sg_guard_nt rfl rfl rfl ?_
      | refine sg_guard_nu rfl rfl rfl ?_
      | refine sk_back (fun w hO => hO) ?_
      | refine sg_store [] rfl rfl rfl (of_decide_eq_true rfl) ?_
      | refine sg_store [_] rfl rfl rfl (of_decide_eq_true rfl) ?_
      | refine sg_store [_, _] rfl rfl rfl (of_decide_eq_true rfl) ?_
      | refine sg_store [_, _, _] rfl rfl rfl (of_decide_eq_true rfl) ?_
      | refine sg_store [_, _, _, _] rfl rfl rfl (of_decide_eq_true rfl) ?_
      | refine sg_store [_, _, _, _, _] rfl rfl rfl (of_decide_eq_true rfl) ?_
      | refine sg_store [_, _, _, _, _, _] rfl rfl rfl (of_decide_eq_true rfl) ?_
      | refine sg_store [_, _, _, _, _, _, _] rfl rfl rfl (of_decide_eq_true rfl) ?_)
    refine sk_end (by kernel_rfl) ?_
    repeat' (first
      | refine sk_nil ?_
      | refine sk_pure rfl rfl (ps_move rfl) rfl ?_
      | refine sk_pure rfl rfl (ps_assign rfl) rfl ?_
      | refine sk_pure rfl rfl (ps_nilCheck rfl) rfl ?_
      | refine sk_pure rfl rfl (ps_fieldAddr rfl) rfl ?_
      | refine sk_pure rfl rfl (ps_add64 rfl rfl (by omega)) rfl ?_
      | refine sk_pure rfl rfl (ps_sub64 rfl rfl (by omega)) rfl ?_
      | refine sk_pure rfl rfl (ps_mul64 rfl rfl (by omega)) rfl ?_
      | refine sk_pure rfl rfl (ps_bin rfl rfl inferInstance) rfl ?_
      | refine sk_pure rfl rfl (ps_rem rfl rfl (by decide)) rfl ?_
      | refine sk_pure rfl rfl (ps_not rfl) rfl ?_
      | refine sk_pure rfl rfl (ps_conv rfl) rfl ?_
      | refine sk_pure rfl rfl (ps_shl rfl rfl (by decide) rfl) rfl ?_
      | refine sk_pure rfl rfl (ps_shr rfl rfl (by decide) rfl) rfl ?_
      | refine sk_pure rfl rfl (ps_len rfl) rfl ?_
      | refine sk_pure rfl rfl (ps_len_str rfl) rfl ?_
      | refine sk_pure rfl rfl (ps_extract rfl rfl) rfl ?_
      | refine sk_pure rfl rfl (ps_field rfl rfl) rfl ?_
      | refine sk_pure rfl rfl (ps_build rfl rfl) rfl ?_
      | refine sk_pure rfl rfl (ps_indexAddr rfl rfl rfl (by omega)) rfl ?_
      | refine sk_pure rfl rfl (ps_indexAddr (j := 0) rfl rfl rfl (by omega)) rfl ?_
      | refine sk_pure rfl rfl (ps_indexAddr (j := 1) rfl rfl rfl (by omega)) rfl ?_
      | refine sk_pure rfl rfl (ps_pick_t rfl rfl) rfl ?_
      | refine sk_pure rfl rfl (ps_pick_f rfl rfl) rfl ?_
      | refine sk_pure rfl rfl (ps_min2 rfl rfl) rfl ?_
      | refine sk_pure rfl rfl (ps_max2 rfl rfl) rfl ?_
      | refine sk_pure rfl rfl (ps_indexAddr_arr rfl rfl rfl (by omega)) rfl ?_
      | refine sk_no rfl rfl rfl rfl rfl ?_
      | refine sk_pure_g rfl rfl rfl rfl (ps_move rfl) rfl ?_
      | refine sk_pure_g rfl rfl rfl rfl (ps_assign rfl) rfl ?_
      | refine sk_pure_g rfl rfl rfl rfl (ps_nilCheck rfl) rfl ?_
      | refine sk_pure_g rfl rfl rfl rfl (ps_fieldAddr rfl) rfl ?_
      | refine sk_pure_g rfl rfl rfl rfl (ps_add64 rfl rfl (by omega)) rfl ?_
      | refine sk_pure_g rfl rfl rfl rfl (ps_sub64 rfl rfl (by omega)) rfl ?_
      | refine sk_pure_g rfl rfl rfl rfl (ps_mul64 rfl rfl (by omega)) rfl ?_
      | refine sk_pure_g rfl rfl rfl rfl (ps_bin rfl rfl inferInstance) rfl ?_
      | refine sk_pure_g rfl rfl rfl rfl (ps_rem rfl rfl (by decide)) rfl ?_
      | refine sk_pure_g rfl rfl rfl rfl (ps_not rfl) rfl ?_
      | refine sk_pure_g rfl rfl rfl rfl (ps_conv rfl) rfl ?_
      | refine sk_pure_g rfl rfl rfl rfl (ps_shl rfl rfl (by decide) rfl) rfl ?_
      | refine sk_pure_g rfl rfl rfl rfl (ps_shr rfl rfl (by decide) rfl) rfl ?_
      | refine sk_pure_g rfl rfl rfl rfl (ps_len rfl) rfl ?_
      | refine sk_pure_g rfl rfl rfl rfl (ps_len_str rfl) rfl ?_
      | refine sk_pure_g rfl rfl rfl rfl (ps_extract rfl rfl) rfl ?_
      | refine sk_pure_g rfl rfl rfl rfl (ps_field rfl rfl) rfl ?_
      | refine sk_pure_g rfl rfl rfl rfl (ps_build rfl rfl) rfl ?_
      | refine sk_pure_g rfl rfl rfl rfl (ps_indexAddr rfl rfl rfl (by omega)) rfl ?_
      | refine sk_pure_g rfl rfl rfl rfl (ps_indexAddr (j := 0) rfl rfl rfl (by omega)) rfl ?_
      | refine sk_pure_g rfl rfl rfl rfl (ps_indexAddr (j := 1) rfl rfl rfl (by omega)) rfl ?_
      | refine sk_pure_g rfl rfl rfl rfl (ps_pick_t rfl rfl) rfl ?_
      | refine sk_pure_g rfl rfl rfl rfl (ps_pick_f rfl rfl) rfl ?_
      | refine sk_pure_g rfl rfl rfl rfl (ps_min2 rfl rfl) rfl ?_
      | refine sk_pure_g rfl rfl rfl rfl (ps_max2 rfl rfl) rfl ?_
      | refine sk_pure_g rfl rfl rfl rfl (ps_indexAddr_arr rfl rfl rfl (by omega)) rfl ?_
      | refine sk_load 0 rfl rfl rfl rfl rfl ?_
      | refine sk_load 1 rfl rfl rfl rfl rfl ?_
      | refine sk_load 2 rfl rfl rfl rfl rfl ?_
      | refine sk_load 3 rfl rfl rfl rfl rfl ?_
      | refine sk_load 4 rfl rfl rfl rfl rfl ?_
      | refine sk_load 5 rfl rfl rfl rfl rfl ?_
      | refine sk_load_g 0 rfl rfl rfl rfl rfl rfl rfl ?_
      | refine sk_load_g 1 rfl rfl rfl rfl rfl rfl rfl ?_
      | refine sk_load_g 2 rfl rfl rfl rfl rfl rfl rfl ?_
      | refine sk_load_g 3 rfl rfl rfl rfl rfl rfl rfl ?_
      | refine sk_load_g 4 rfl rfl rfl rfl rfl rfl rfl ?_
      | refine sk_load_g 5 rfl rfl rfl rfl rfl rfl rfl ?_
      | refine sk_lw 0 rfl rfl rfl rfl rfl ?_
      | refine sk_lw 1 rfl rfl rfl rfl rfl ?_
      | refine sk_lw 2 rfl rfl rfl rfl rfl ?_
      | refine sk_lw 3 rfl rfl rfl rfl rfl ?_
      | refine sk_lw 4 rfl rfl rfl rfl rfl ?_
      | refine sk_lw 5 rfl rfl rfl rfl rfl ?_
      | refine sk_lwg 0 rfl rfl rfl rfl rfl rfl rfl ?_
      | refine sk_lwg 1 rfl rfl rfl rfl rfl rfl rfl ?_
      | refine sk_lwg 2 rfl rfl rfl rfl rfl rfl rfl ?_
      | refine sk_lwg 3 rfl rfl rfl rfl rfl rfl rfl ?_
      | refine sk_lwg 4 rfl rfl rfl rfl rfl rfl rfl ?_
      | refine sk_lwg 5 rfl rfl rfl rfl rfl rfl rfl ?_
      | refine sk_eff rfl rfl ?_
      | refine sg_store_whole [] rfl rfl rfl rfl rfl ?_
      | refine sg_store_whole [_] rfl rfl rfl rfl rfl ?_
      | refine sg_store_whole [_, _] rfl rfl rfl rfl rfl ?_
      | refine sg_store_whole [_, _, _] rfl rfl rfl rfl rfl ?_
      | refine sg_store_whole [_, _, _, _] rfl rfl rfl rfl rfl ?_
      | refine sg_store_whole [_, _, _, _, _] rfl rfl rfl rfl rfl ?_
      | refine sg_store_whole [_, _, _, _, _, _] rfl rfl rfl rfl rfl ?_
      | refine sg_guard_yes rfl rfl ?_
      | refine sg_guard_nf rfl rfl rfl ?_
      | refine sg_guard_nt rfl rfl rfl ?_
      | refine sg_guard_nu rfl rfl rfl ?_
      | refine sk_back (fun w hO => hO) ?_
      | refine sg_store [] rfl rfl rfl (of_decide_eq_true rfl) ?_
      | refine sg_store [_] rfl rfl rfl (of_decide_eq_true rfl) ?_
      | refine sg_store [_, _] rfl rfl rfl (of_decide_eq_true rfl) ?_
      | refine sg_store [_, _, _] rfl rfl rfl (of_decide_eq_true rfl) ?_
      | refine sg_store [_, _, _, _] rfl rfl rfl (of_decide_eq_true rfl) ?_
      | refine sg_store [_, _, _, _, _] rfl rfl rfl (of_decide_eq_true rfl) ?_
      | refine sg_store [_, _, _, _, _, _] rfl rfl rfl (of_decide_eq_true rfl) ?_
      | refine sg_store [_, _, _, _, _, _, _] rfl rfl rfl (of_decide_eq_true rfl) ?_)
    repeat' (first
      | refine sg_wo ?_
      | refine sg_ps (ps_move rfl) rfl ?_
      | refine sg_ps (ps_assign rfl) rfl ?_
      | refine sg_seq ?_
      | refine sg_region ?_
      | refine sg_nil ?_
      | refine sg_then ?_
      | refine sg_ps (ps_fieldAddr rfl) rfl ?_
      | refine sg_ps (ps_nilCheck rfl) rfl ?_
      | refine sg_load 0 rfl rfl rfl rfl ?_
      | refine sg_load 1 rfl rfl rfl rfl ?_
      | refine sg_load 2 rfl rfl rfl rfl ?_
      | refine sg_load 3 rfl rfl rfl rfl ?_
      | refine sg_load 4 rfl rfl rfl rfl ?_
      | refine sg_load 5 rfl rfl rfl rfl ?_
      | refine sg_load 6 rfl rfl rfl rfl ?_
      | refine sg_load 7 rfl rfl rfl rfl ?_
      | refine sg_ps (ps_add64 rfl rfl (by omega)) rfl ?_
      | refine sg_ps (ps_sub64 rfl rfl (by omega)) rfl ?_
      | refine sg_ps (ps_mul64 rfl rfl (by omega)) rfl ?_
      | refine sg_ps (ps_bin rfl rfl inferInstance) rfl ?_
      | refine sg_ps (ps_rem rfl rfl (by decide)) rfl ?_
      | refine sg_ps (ps_quo64 rfl rfl (by decide) (by omega)) rfl ?_
      | refine sg_ps (ps_not rfl) rfl ?_
      | refine sg_ps (ps_conv rfl) rfl ?_
      | refine sg_ps (ps_shl rfl rfl (by decide) rfl) rfl ?_
      | refine sg_ps (ps_shr rfl rfl (by decide) rfl) rfl ?_
      | refine sg_cond_t rfl ?_
      | refine sg_cond_f rfl ?_
      | refine sg_guard_yes rfl rfl ?_
      | refine sg_guard_nf rfl rfl rfl ?_
      | refine sg_guard_nt rfl rfl rfl ?_
      | refine sg_guard_nu rfl rfl rfl ?_
      | refine sg_ps (ps_pick_t rfl rfl) rfl ?_
      | refine sg_ps (ps_pick_f rfl rfl) rfl ?_
      | refine sg_ps (ps_len rfl) rfl ?_
      | refine sg_ps (ps_len_str rfl) rfl ?_
      | refine sg_ps (ps_extract rfl rfl) rfl ?_
      | refine sg_ps (ps_field rfl rfl) rfl ?_
      | refine sg_ps (ps_min2 rfl rfl) rfl ?_
      | refine sg_ps (ps_max2 rfl rfl) rfl ?_
      | refine sg_ps (ps_build rfl rfl) rfl ?_
      | refine sg_box rfl rfl (fun bx => ?_)
      | refine sg_ps (ps_indexAddr rfl rfl rfl (by omega)) rfl ?_
      | refine sg_ps (ps_indexAddr (j := 0) rfl rfl rfl (by omega)) rfl ?_
      | refine sg_ps (ps_indexAddr (j := 1) rfl rfl rfl (by omega)) rfl ?_
      | refine sg_ps (ps_indexAddr_arr rfl rfl rfl (by omega)) rfl ?_
      | refine sg_load_whole 0 rfl rfl rfl rfl ?_
      | refine sg_load_whole 1 rfl rfl rfl rfl ?_
      | refine sg_load_whole 2 rfl rfl rfl rfl ?_
      | refine sg_load_whole 3 rfl rfl rfl rfl ?_
      | refine sg_load_whole 4 rfl rfl rfl rfl ?_
      | refine sg_load_whole 5 rfl rfl rfl rfl ?_
      | refine sg_load_whole 6 rfl rfl rfl rfl ?_
      | refine sg_load_whole 7 rfl rfl rfl rfl ?_
      | refine sg_store_whole [] rfl rfl rfl rfl rfl ?_
      | refine sg_store_whole [_] rfl rfl rfl rfl rfl ?_
      | refine sg_store_whole [_, _] rfl rfl rfl rfl rfl ?_
      | refine sg_store_whole [_, _, _] rfl rfl rfl rfl rfl ?_
      | refine sg_store_whole [_, _, _, _] rfl rfl rfl rfl rfl ?_
      | refine sg_store_whole [_, _, _, _, _] rfl rfl rfl rfl rfl ?_
      | refine sg_store_whole [_, _, _, _, _, _] rfl rfl rfl rfl rfl ?_
      | refine sg_alloc rfl (fun al => ?_)
      | refine sg_block ?_
      | refine sg_skip ?_
      | refine sg_ret ?_
      | refine sg_exit ?_
      | refine ex_then_ret ?_
      | refine ex_then_exit ?_
      | refine ex_block_ret ?_
      | refine ex_block_normal ?_
      | refine ex_block_hit ?_
      | refine ex_block_miss rfl ?_
      | refine sg_store [] rfl rfl rfl (of_decide_eq_true rfl) ?_
      | refine sg_store [_] rfl rfl rfl (of_decide_eq_true rfl) ?_
      | refine sg_store [_, _] rfl rfl rfl (of_decide_eq_true rfl) ?_
      | refine sg_store [_, _, _] rfl rfl rfl (of_decide_eq_true rfl) ?_
      | refine sg_store [_, _, _, _] rfl rfl rfl (of_decide_eq_true rfl) ?_
      | refine sg_store [_, _, _, _, _] rfl rfl rfl (of_decide_eq_true rfl) ?_
      | refine sg_store [_, _, _, _, _, _] rfl rfl rfl (of_decide_eq_true rfl) ?_
      | refine sg_store [_, _, _, _, _, _, _] rfl rfl rfl (of_decide_eq_true rfl) ?_
      | (refine sg_guard_dec rfl rfl (fun hg => ?_) (fun hg => ?_) <;> first | (exfalso; omega) | (exact absurd rfl hg) | skip)
      | (refine sg_guard_ndec rfl rfl (fun hg => ?_) (fun hg => ?_) <;> first | (exfalso; omega) | (exact absurd rfl hg) | skip)
      | (refine sg_cond_dec rfl (fun hg => ?_) (fun hg => ?_) <;> first | (exfalso; omega) | (exact absurd rfl hg) | skip)
      | (refine sg_cond_ndec rfl (fun hg => ?_) (fun hg => ?_) <;> first | (exfalso; omega) | (exact absurd rfl hg) | skip)
      | refine sg_cond_not rfl (fun hg => ?_) (fun hg => ?_)
      | refine sg_cond rfl (fun hg => ?_) (fun hg => ?_))
    refine sg_call (entry_tri e.key (wk e.old) (wk e.own) e.txn _) rfl rfl (fun _ _ => ?_)
    repeat' (first
      | refine sg_wo ?_
      | refine sg_ps (ps_move rfl) rfl ?_
      | refine sg_ps (ps_assign rfl) rfl ?_
      | refine sg_seq ?_
      | refine sg_region ?_
      | refine sg_nil ?_
      | refine sg_then ?_
      | refine sg_ps (ps_fieldAddr rfl) rfl ?_
      | refine sg_ps (ps_nilCheck rfl) rfl ?_
      | refine sg_load 0 rfl rfl rfl rfl ?_
      | refine sg_load 1 rfl rfl rfl rfl ?_
      | refine sg_load 2 rfl rfl rfl rfl ?_
      | refine sg_load 3 rfl rfl rfl rfl ?_
      | refine sg_load 4 rfl rfl rfl rfl ?_
      | refine sg_load 5 rfl rfl rfl rfl ?_
      | refine sg_load 6 rfl rfl rfl rfl ?_
      | refine sg_load 7 rfl rfl rfl rfl ?_
      | refine sg_ps (ps_add64 rfl rfl (by omega)) rfl ?_
      | refine sg_ps (ps_sub64 rfl rfl (by omega)) rfl ?_
      | refine sg_ps (ps_mul64 rfl rfl (by omega)) rfl ?_
      | refine sg_ps (ps_bin rfl rfl inferInstance) rfl ?_
      | refine sg_ps (ps_rem rfl rfl (by decide)) rfl ?_
      | refine sg_ps (ps_quo64 rfl rfl (by decide) (by omega)) rfl ?_
      | refine sg_ps (ps_not rfl) rfl ?_
      | refine sg_ps (ps_conv rfl) rfl ?_
      | refine sg_ps (ps_shl rfl rfl (by decide) rfl) rfl ?_
      | refine sg_ps (ps_shr rfl rfl (by decide) rfl) rfl ?_
      | refine sg_cond_t rfl ?_
      | refine sg_cond_f rfl ?_
      | refine sg_guard_yes rfl rfl ?_
      | refine sg_guard_nf rfl rfl rfl ?_
      | refine sg_guard_nt rfl rfl rfl ?_
      | refine sg_guard_nu rfl rfl rfl ?_
      | refine sg_ps (ps_pick_t rfl rfl) rfl ?_
      | refine sg_ps (ps_pick_f rfl rfl) rfl ?_
      | refine sg_ps (ps_len rfl) rfl ?_
      | refine sg_ps (ps_len_str rfl) rfl ?_
      | refine sg_ps (ps_extract rfl rfl) rfl ?_
      | refine sg_ps (ps_field rfl rfl) rfl ?_
      | refine sg_ps (ps_min2 rfl rfl) rfl ?_
      | refine sg_ps (ps_max2 rfl rfl) rfl ?_
      | refine sg_ps (ps_build rfl rfl) rfl ?_
      | refine sg_box rfl rfl (fun bx => ?_)
      | refine sg_ps (ps_indexAddr rfl rfl rfl (by omega)) rfl ?_
      | refine sg_ps (ps_indexAddr (j := 0) rfl rfl rfl (by omega)) rfl ?_
      | refine sg_ps (ps_indexAddr (j := 1) rfl rfl rfl (by omega)) rfl ?_
      | refine sg_ps (ps_indexAddr_arr rfl rfl rfl (by omega)) rfl ?_
      | refine sg_load_whole 0 rfl rfl rfl rfl ?_
      | refine sg_load_whole 1 rfl rfl rfl rfl ?_
      | refine sg_load_whole 2 rfl rfl rfl rfl ?_
      | refine sg_load_whole 3 rfl rfl rfl rfl ?_
      | refine sg_load_whole 4 rfl rfl rfl rfl ?_
      | refine sg_load_whole 5 rfl rfl rfl rfl ?_
      | refine sg_load_whole 6 rfl rfl rfl rfl ?_
      | refine sg_load_whole 7 rfl rfl rfl rfl ?_
      | refine sg_store_whole [] rfl rfl rfl rfl rfl ?_
      | refine sg_store_whole [_] rfl rfl rfl rfl rfl ?_
      | refine sg_store_whole [_, _] rfl rfl rfl rfl rfl ?_
      | refine sg_store_whole [_, _, _] rfl rfl rfl rfl rfl ?_
      | refine sg_store_whole [_, _, _, _] rfl rfl rfl rfl rfl ?_
      | refine sg_store_whole [_, _, _, _, _] rfl rfl rfl rfl rfl ?_
      | refine sg_store_whole [_, _, _, _, _, _] rfl rfl rfl rfl rfl ?_
      | refine sg_alloc rfl (fun al => ?_)
      | refine sg_block ?_
      | refine sg_skip ?_
      | refine sg_ret ?_
      | refine sg_exit ?_
      | refine ex_then_ret ?_
      | refine ex_then_exit ?_
      | refine ex_block_ret ?_
      | refine ex_block_normal ?_
      | refine ex_block_hit ?_
      | refine ex_block_miss rfl ?_
      | refine sg_store [] rfl rfl rfl (of_decide_eq_true rfl) ?_
      | refine sg_store [_] rfl rfl rfl (of_decide_eq_true rfl) ?_
      | refine sg_store [_, _] rfl rfl rfl (of_decide_eq_true rfl) ?_
      | refine sg_store [_, _, _] rfl rfl rfl (of_decide_eq_true rfl) ?_
      | refine sg_store [_, _, _, _] rfl rfl rfl (of_decide_eq_true rfl) ?_
      | refine sg_store [_, _, _, _, _] rfl rfl rfl (of_decide_eq_true rfl) ?_
      | refine sg_store [_, _, _, _, _, _] rfl rfl rfl (of_decide_eq_true rfl) ?_
      | refine sg_store [_, _, _, _, _, _, _] rfl rfl rfl (of_decide_eq_true rfl) ?_
      | (refine sg_guard_dec rfl rfl (fun hg => ?_) (fun hg => ?_) <;> first | (exfalso; omega) | (exact absurd rfl hg) | skip)
      | (refine sg_guard_ndec rfl rfl (fun hg => ?_) (fun hg => ?_) <;> first | (exfalso; omega) | (exact absurd rfl hg) | skip)
      | (refine sg_cond_dec rfl (fun hg => ?_) (fun hg => ?_) <;> first | (exfalso; omega) | (exact absurd rfl hg) | skip)
      | (refine sg_cond_ndec rfl (fun hg => ?_) (fun hg => ?_) <;> first | (exfalso; omega) | (exact absurd rfl hg) | skip)
      | refine sg_cond_not rfl (fun hg => ?_) (fun hg => ?_)
      | refine sg_cond rfl (fun hg => ?_) (fun hg => ?_))
    exact ex_retc 2 rfl rfl rfl rfl () rfl trivial (fun w hO => hO.tail.tail.tail.tail.tail)
  · have e' : applyW e m wk = mkE e.key (wk e.old) e.own e.txn := by unfold applyW; rw [if_neg (by omega), if_pos (by omega)]
    rw [e']
    refine sg_callv rfl (hC e.old h1 _) rfl rfl (fun _ _ => ?_)
    repeat' (first
      | refine sg_wo ?_
      | refine sg_ps (ps_move rfl) rfl ?_
      | refine sg_ps (ps_assign rfl) rfl ?_
      | refine sg_seq ?_
      | refine sg_region ?_
      | refine sg_nil ?_
      | refine sg_then ?_
      | refine sg_ps (ps_fieldAddr rfl) rfl ?_
      | refine sg_ps (ps_nilCheck rfl) rfl ?_
      | refine sg_load 0 rfl rfl rfl rfl ?_
      | refine sg_load 1 rfl rfl rfl rfl ?_
      | refine sg_load 2 rfl rfl rfl rfl ?_
      | refine sg_load 3 rfl rfl rfl rfl ?_
      | refine sg_load 4 rfl rfl rfl rfl ?_
      | refine sg_load 5 rfl rfl rfl rfl ?_
      | refine sg_load 6 rfl rfl rfl rfl ?_
      | refine sg_load 7 rfl rfl rfl rfl ?_
      | refine sg_ps (ps_add64 rfl rfl (by omega)) rfl ?_
      | refine sg_ps (ps_sub64 rfl rfl (by omega)) rfl ?_
      | refine sg_ps (ps_mul64 rfl rfl (by omega)) rfl ?_
      | refine sg_ps (ps_bin rfl rfl inferInstance) rfl ?_
      | refine sg_ps (ps_rem rfl rfl (by decide)) rfl ?_
      | refine sg_ps (ps_quo64 rfl rfl (by decide) (by omega)) rfl ?_
      | refine sg_ps (ps_not rfl) rfl ?_
      | refine sg_ps (ps_conv rfl) rfl ?_
      | refine sg_ps (ps_shl rfl rfl (by decide) rfl) rfl ?_
      | refine sg_ps (ps_shr rfl rfl (by decide) rfl) rfl ?_
      | refine sg_cond_t rfl ?_
      | refine sg_cond_f rfl ?_
      | refine sg_guard_yes rfl rfl ?_
      | refine sg_guard_nf rfl rfl rfl ?_
      | refine sg_guard_nt rfl rfl rfl ?_
      | refine sg_guard_nu rfl rfl rfl ?_
      | refine sg_ps (ps_pick_t rfl rfl) rfl ?_
      | refine sg_ps (ps_pick_f rfl rfl) rfl ?_
      | refine sg_ps (ps_len rfl) rfl ?_
      | refine sg_ps (ps_len_str rfl) rfl ?_
      | refine sg_ps (ps_extract rfl rfl) rfl ?_
      | refine sg_ps (ps_field rfl rfl) rfl ?_
      | refine sg_ps (ps_min2 rfl rfl) rfl ?_
      | refine sg_ps (ps_max2 rfl rfl) rfl ?_
      | refine sg_ps (ps_build rfl rfl) rfl ?_
      | refine sg_box rfl rfl (fun bx => ?_)
      | refine sg_ps (ps_indexAddr rfl rfl rfl (by omega)) rfl ?_
      | refine sg_ps (ps_indexAddr (j := 0) rfl rfl rfl (by omega)) rfl ?_
      | refine sg_ps (ps_indexAddr (j := 1) rfl rfl rfl (by omega)) rfl ?_
      | refine sg_ps (ps_indexAddr_arr rfl rfl rfl (by omega)) rfl ?_
      | refine sg_load_whole 0 rfl rfl rfl rfl ?_
      | refine sg_load_whole 1 rfl rfl rfl rfl ?_
      | refine sg_load_whole 2 rfl rfl rfl rfl ?_
      | refine sg_load_whole 3 rfl rfl rfl rfl ?_
      | refine sg_load_whole 4 rfl rfl rfl rfl ?_
      | refine sg_load_whole 5 rfl rfl rfl rfl ?_
      | refine sg_load_whole 6 rfl rfl rfl rfl ?_
      | refine sg_load_whole 7 rfl rfl rfl rfl ?_
      | refine sg_store_whole [] rfl rfl rfl rfl rfl ?_
      | refine sg_store_whole [_] rfl rfl rfl rfl rfl ?_
      | refine sg_store_whole [_, _] rfl rfl rfl rfl rfl ?_
      | refine sg_store_whole [_, _, _] rfl rfl rfl rfl rfl ?_
      | refine sg_store_whole [_, _, _, _] rfl rfl rfl rfl rfl ?_
      | refine sg_store_whole [_, _, _, _, _] rfl rfl rfl rfl rfl ?_
      | refine sg_store_whole [_, _, _, _, _, _] rfl rfl rfl rfl rfl ?_
      | refine sg_alloc rfl (fun al => ?_)
      | refine sg_block ?_
      | refine sg_skip ?_
      | refine sg_ret ?_
      | refine sg_exit ?_
      | refine ex_then_ret ?_
      | refine ex_then_exit ?_
      | refine ex_block_ret ?_
      | refine ex_block_normal ?_
      | refine ex_block_hit ?_
      | refine ex_block_miss rfl ?_
      | refine sg_store [] rfl rfl rfl (of_decide_eq_true rfl) ?_
      | refine sg_store [_] rfl rfl rfl (of_decide_eq_true rfl) ?_
      | refine sg_store [_, _] rfl rfl rfl (of_decide_eq_true rfl) ?_
      | refine sg_store [_, _, _] rfl rfl rfl (of_decide_eq_true rfl) ?_
      | refine sg_store [_, _, _, _] rfl rfl rfl (of_decide_eq_true rfl) ?_
      | refine sg_store [_, _, _, _, _] rfl rfl rfl (of_decide_eq_true rfl) ?_
      | refine sg_store [_, _, _, _, _, _] rfl rfl rfl (of_decide_eq_true rfl) ?_
      | refine sg_store [_, _, _, _, _, _, _] rfl rfl rfl (of_decide_eq_true rfl) ?_
      | (refine sg_guard_dec rfl rfl (fun hg => ?_) (fun hg => ?_) <;> first | (exfalso; omega) | (exact absurd rfl hg) | skip)
      | (refine sg_guard_ndec rfl rfl (fun hg => ?_) (fun hg => ?_) <;> first | (exfalso; omega) | (exact absurd rfl hg) | skip)
      | (refine sg_cond_dec rfl (fun hg => ?_) (fun hg => ?_) <;> first | (exfalso; omega) | (exact absurd rfl hg) | skip)
      | (refine sg_cond_ndec rfl (fun hg => ?_) (fun hg => ?_) <;> first | (exfalso; omega) | (exact absurd rfl hg) | skip)
      | refine sg_cond_not rfl (fun hg => ?_) (fun hg => ?_)
      | refine sg_cond rfl (fun hg => ?_) (fun hg => ?_))
    refine sg_call (entry_tri e.key (wk e.old) e.own e.txn _) rfl rfl (fun _ _ => ?_)
    repeat' (first
      | refine sg_wo ?_
      | refine sg_ps (ps_move rfl) rfl ?_
      | refine sg_ps (ps_assign rfl) rfl ?_
      | refine sg_seq ?_
      | refine sg_region ?_
      | refine sg_nil ?_
      | refine sg_then ?_
      | refine sg_ps (ps_fieldAddr rfl) rfl ?_
      | refine sg_ps (ps_nilCheck rfl) rfl ?_
      | refine sg_load 0 rfl rfl rfl rfl ?_
      | refine sg_load 1 rfl rfl rfl rfl ?_
      | refine sg_load 2 rfl rfl rfl rfl ?_
      | refine sg_load 3 rfl rfl rfl rfl ?_
      | refine sg_load 4 rfl rfl rfl rfl ?_
      | refine sg_load 5 rfl rfl rfl rfl ?_
      | refine sg_load 6 rfl rfl rfl rfl ?_
      | refine sg_load 7 rfl rfl rfl rfl ?_
      | refine sg_ps (ps_add64 rfl rfl (by omega)) rfl ?_
      | refine sg_ps (ps_sub64 rfl rfl (by omega)) rfl ?_
      | refine sg_ps (ps_mul64 rfl rfl (by omega)) rfl ?_
      | refine sg_ps (ps_bin rfl rfl inferInstance) rfl ?_
      | refine sg_ps (ps_rem rfl rfl (by decide)) rfl ?_
      | refine sg_ps (ps_quo64 rfl rfl (by decide) (by omega)) rfl ?_
      | refine sg_ps (ps_not rfl) rfl ?_
      | refine sg_ps (ps_conv rfl) rfl ?_
      | refine sg_ps (ps_shl rfl rfl (by decide) rfl) rfl ?_
      | refine sg_ps (ps_shr rfl rfl (by decide) rfl) rfl ?_
      | refine sg_cond_t rfl ?_
      | refine sg_cond_f rfl ?_
      | refine sg_guard_yes rfl rfl ?_
      | refine sg_guard_nf rfl rfl rfl ?_
      | refine sg_guard_nt rfl rfl rfl ?_
      | refine sg_guard_nu rfl rfl rfl ?_
      | refine sg_ps (ps_pick_t rfl rfl) rfl ?_
      | refine sg_ps (ps_pick_f rfl rfl) rfl ?_
      | refine sg_ps (ps_len rfl) rfl ?_
      | refine sg_ps (ps_len_str rfl) rfl ?_
      | refine sg_ps (ps_extract rfl rfl) rfl ?_
      | refine sg_ps (ps_field rfl rfl) rfl ?_
      | refine sg_ps (ps_min2 rfl rfl) rfl ?_
      | refine sg_ps (ps_max2 rfl rfl) rfl ?_
      | refine sg_ps (ps_build rfl rfl) rfl ?_
      | refine sg_box rfl rfl (fun bx => ?_)
      | refine sg_ps (ps_indexAddr rfl rfl rfl (by omega)) rfl ?_
      | refine sg_ps (ps_indexAddr (j := 0) rfl rfl rfl (by omega)) rfl ?_
      | refine sg_ps (ps_indexAddr (j := 1) rfl rfl rfl (by omega)) rfl ?_
      | refine sg_ps (ps_indexAddr_arr rfl rfl rfl (by omega)) rfl ?_
      | refine sg_load_whole 0 rfl rfl rfl rfl ?_
      | refine sg_load_whole 1 rfl rfl rfl rfl ?_
      | refine sg_load_whole 2 rfl rfl rfl rfl ?_
      | refine sg_load_whole 3 rfl rfl rfl rfl ?_
      | refine sg_load_whole 4 rfl rfl rfl rfl ?_
      | refine sg_load_whole 5 rfl rfl rfl rfl ?_
      | refine sg_load_whole 6 rfl rfl rfl rfl ?_
      | refine sg_load_whole 7 rfl rfl rfl rfl ?_
      | refine sg_store_whole [] rfl rfl rfl rfl rfl ?_
      | refine sg_store_whole [_] rfl rfl rfl rfl rfl ?_
      | refine sg_store_whole [_, _] rfl rfl rfl rfl rfl ?_
      | refine sg_store_whole [_, _, _] rfl rfl rfl rfl rfl ?_
      | refine sg_store_whole [_, _, _, _] rfl rfl rfl rfl rfl ?_
      | refine sg_store_whole [_, _, _, _, _] rfl rfl rfl rfl rfl ?_
      | refine sg_store_whole [_, _, _, _, _, _] rfl rfl rfl rfl rfl ?_
      | refine sg_alloc rfl (fun al => ?_)
      | refine sg_block ?_
      | refine sg_skip ?_
      | refine sg_ret ?_
      | refine sg_exit ?_
      | refine ex_then_ret ?_
      | refine ex_then_exit ?_
      | refine ex_block_ret ?_
      | refine ex_block_normal ?_
      | refine ex_block_hit ?_
      | refine ex_block_miss rfl ?_
      | refine sg_store [] rfl rfl rfl (of_decide_eq_true rfl) ?_
      | refine sg_store [_] rfl rfl rfl (of_decide_eq_true rfl) ?_
      | refine sg_store [_, _] rfl rfl rfl (of_decide_eq_true rfl) ?_
      | refine sg_store [_, _, _] rfl rfl rfl (of_decide_eq_true rfl) ?_
      | refine sg_store [_, _, _, _] rfl rfl rfl (of_decide_eq_true rfl) ?_
      | refine sg_store [_, _, _, _, _] rfl rfl rfl (of_decide_eq_true rfl) ?_
      | refine sg_store [_, _, _, _, _, _] rfl rfl rfl (of_decide_eq_true rfl) ?_
      | refine sg_store [_, _, _, _, _, _, _] rfl rfl rfl (of_decide_eq_true rfl) ?_
      | (refine sg_guard_dec rfl rfl (fun hg => ?_) (fun hg => ?_) <;> first | (exfalso; omega) | (exact absurd rfl hg) | skip)
      | (refine sg_guard_ndec rfl rfl (fun hg => ?_) (fun hg => ?_) <;> first | (exfalso; omega) | (exact absurd rfl hg) | skip)
      | (refine sg_cond_dec rfl (fun hg => ?_) (fun hg => ?_) <;> first | (exfalso; omega) | (exact absurd rfl hg) | skip)
      | (refine sg_cond_ndec rfl (fun hg => ?_) (fun hg => ?_) <;> first | (exfalso; omega) | (exact absurd rfl hg) | skip)
      | refine sg_cond_not rfl (fun hg => ?_) (fun hg => ?_)
      | refine sg_cond rfl (fun hg => ?_) (fun hg => ?_))
    exact ex_retc 2 rfl rfl rfl rfl () rfl trivial (fun w hO => hO.tail.tail.tail.tail.tail)
  · have e' : applyW e m wk = mkE e.key e.old (wk e.old) m.txn := by unfold applyW; rw [if_neg (by omega), if_neg (by omega), if_pos (by omega)]
    rw [e']
    refine sg_drawK [blk bo e.old.v.cells.toList, blk bm m.v.cells.toList] [0, 2, 3, 4, 1, 5, 6, 7] (by kernel_rfl) (by kernel_rfl) (fun w hO => hO.pick [1, 3] (by decide)) ?_
    repeat' (first
      | refine sk_nil ?_
      | refine sk_pure rfl rfl (ps_move rfl) rfl ?_
      | refine sk_pure rfl rfl (ps_assign rfl) rfl ?_
      | refine sk_pure rfl rfl (ps_nilCheck rfl) rfl ?_
      | refine sk_pure rfl rfl (ps_fieldAddr rfl) rfl ?_
      | refine sk_pure rfl rfl (ps_add64 rfl rfl (by omega)) rfl ?_
      | refine sk_pure rfl rfl (ps_sub64 rfl rfl (by omega)) rfl ?_
      | refine sk_pure rfl rfl (ps_mul64 rfl rfl (by omega)) rfl ?_
      | refine sk_pure rfl rfl (ps_bin rfl rfl inferInstance) rfl ?_
      | refine sk_pure rfl rfl (ps_rem rfl rfl (by decide)) rfl ?_
      | refine sk_pure rfl rfl (ps_not rfl) rfl ?_
      | refine sk_pure rfl rfl (ps_conv rfl) rfl ?_
      | refine sk_pure rfl rfl (ps_shl rfl rfl (by decide) rfl) rfl ?_
      | refine sk_pure rfl rfl (ps_shr rfl rfl (by decide) rfl) rfl ?_
      | refine sk_pure rfl rfl (ps_len rfl) rfl ?_
      | refine sk_pure rfl rfl (ps_len_str rfl) rfl ?_
      | refine sk_pure rfl rfl (ps_extract rfl rfl) rfl ?_
      | refine sk_pure rfl rfl (ps_field rfl rfl) rfl ?_
      | refine sk_pure rfl rfl (ps_build rfl rfl) rfl ?_
      | refine sk_pure rfl rfl (ps_indexAddr rfl rfl rfl (by omega)) rfl ?_
      | refine sk_pure rfl rfl (ps_indexAddr (j := 0) rfl rfl rfl (by omega)) rfl ?_
      | refine sk_pure rfl rfl (ps_indexAddr (j := 1) rfl rfl rfl (by omega)) rfl ?_
      | refine sk_pure rfl rfl (ps_pick_t rfl rfl) rfl ?_
      | refine sk_pure rfl rfl (ps_pick_f rfl rfl) rfl ?_
      | refine sk_pure rfl rfl (ps_min2 rfl rfl) rfl ?_
      | refine sk_pure rfl rfl (ps_max2 rfl rfl) rfl ?_
      | refine sk_pure rfl rfl (ps_indexAddr_arr rfl rfl rfl (by omega)) rfl ?_
      | refine sk_no rfl rfl rfl rfl rfl ?_
      | refine sk_pure_g rfl rfl rfl rfl (ps_move rfl) rfl ?_
      | refine sk_pure_g rfl rfl rfl rfl (ps_assign rfl) rfl ?_
      | refine sk_pure_g rfl rfl rfl rfl (ps_nilCheck rfl) rfl ?_
      | refine sk_pure_g rfl rfl rfl rfl (ps_fieldAddr rfl) rfl ?_
      | refine sk_pure_g rfl rfl rfl rfl (ps_add64 rfl rfl (by omega)) rfl ?_
      | refine sk_pure_g rfl rfl rfl rfl (ps_sub64 rfl rfl (by omega)) rfl ?_
      | refine sk_pure_g rfl rfl rfl rfl (ps_mul64 rfl rfl (by omega)) rfl ?_
      | refine sk_pure_g rfl rfl rfl rfl (ps_bin rfl rfl inferInstance) rfl ?_
      | refine sk_pure_g rfl rfl rfl rfl (ps_rem rfl rfl (by decide)) rfl ?_
      | refine sk_pure_g rfl rfl rfl rfl (ps_not rfl) rfl ?_
      | refine sk_pure_g rfl rfl rfl rfl (ps_conv rfl) rfl ?_
      | refine sk_pure_g rfl rfl rfl rfl (ps_shl rfl rfl (by decide) rfl) rfl ?_
      | refine sk_pure_g rfl rfl rfl rfl (ps_shr rfl rfl (by decide) rfl) rfl ?_
      | refine sk_pure_g rfl rfl rfl rfl (ps_len rfl) rfl ?_
      | refine sk_pure_g rfl rfl rfl rfl (ps_len_str rfl) rfl ?_
      | refine sk_pure_g rfl rfl rfl rfl (ps_extract rfl rfl) rfl ?_
      | refine sk_pure_g rfl rfl rfl rfl (ps_field rfl rfl) rfl ?_
      | refine sk_pure_g rfl rfl rfl rfl (ps_build rfl rfl) rfl ?_
      | refine sk_pure_g rfl rfl rfl rfl (ps_indexAddr rfl rfl rfl (by omega)) rfl ?_
      | refine sk_pure_g rfl rfl rfl rfl (ps_indexAddr (j := 0) rfl rfl rfl (by omega)) rfl ?_
      | refine sk_pure_g rfl rfl rfl rfl (ps_indexAddr (j := 1) rfl rfl rfl (by omega)) rfl ?_
      | refine sk_pure_g rfl rfl rfl rfl (ps_pick_t rfl rfl) rfl ?_
      | refine sk_pure_g rfl rfl rfl rfl (ps_pick_f rfl rfl) rfl ?_
      | refine sk_pure_g rfl rfl rfl rfl (ps_min2 rfl rfl) rfl ?_
      | refine sk_pure_g rfl rfl rfl rfl (ps_max2 rfl rfl) rfl ?_
      | refine sk_pure_g rfl rfl rfl rfl (ps_indexAddr_arr rfl rfl rfl (by omega)) rfl ?_
      | refine sk_load 0 rfl rfl rfl rfl rfl ?_
      | refine sk_load 1 rfl rfl rfl rfl rfl ?_
      | refine sk_load 2 rfl rfl rfl rfl rfl ?_
      | refine sk_load 3 rfl rfl rfl rfl rfl ?_
      | refine sk_load 4 rfl rfl rfl rfl rfl ?_
      | refine sk_load 5 rfl rfl rfl rfl rfl ?_
      | refine sk_load_g 0 rfl rfl rfl rfl rfl rfl rfl ?_
      | refine sk_load_g 1 rfl rfl rfl rfl rfl rfl rfl ?_
      | refine sk_load_g 2 rfl rfl rfl rfl rfl rfl rfl ?_
      | refine sk_load_g 3 rfl rfl rfl rfl rfl rfl rfl ?_
      | refine sk_load_g 4 rfl rfl rfl rfl rfl rfl rfl ?_
      | refine sk_load_g 5 rfl rfl rfl rfl rfl rfl rfl ?_
      | refine sk_lw 0 rfl rfl rfl rfl rfl ?_
      | refine sk_lw 1 rfl rfl rfl rfl rfl ?_
      | refine sk_lw 2 rfl rfl rfl rfl rfl ?_
      | refine sk_lw 3 rfl rfl rfl rfl rfl ?_
      | refine sk_lw 4 rfl rfl rfl rfl rfl ?_
      | refine sk_lw 5 rfl rfl rfl rfl rfl ?_
      | refine sk_lwg 0 rfl rfl rfl rfl rfl rfl rfl ?_
      | refine sk_lwg 1 rfl rfl rfl rfl rfl rfl rfl ?_
      | refine sk_lwg 2 rfl rfl rfl rfl rfl rfl rfl ?_
      | refine sk_lwg 3 rfl rfl rfl rfl rfl rfl rfl ?_
      | refine sk_lwg 4 rfl rfl rfl rfl rfl rfl rfl ?_
      | refine sk_lwg 5 rfl rfl rfl rfl rfl rfl rfl ?_
      | refine sk_eff rfl rfl ?_
      | refine sg_store_whole [] rfl rfl rfl rfl rfl ?_
      | refine sg_store_whole [_] rfl rfl rfl rfl rfl ?_
      | refine sg_store_whole [_, _] rfl rfl rfl rfl rfl ?_
      | refine sg_store_whole [_, _, _] rfl rfl rfl rfl rfl ?_
      | refine sg_store_whole [_, _, _, _] rfl rfl rfl rfl rfl ?_
      | refine sg_store_whole [_, _, _, _, _] rfl rfl rfl rfl rfl ?_
      | refine sg_store_whole [_, _, _, _, _, _] rfl rfl rfl rfl rfl ?_
      | refine sg_guard_yes rfl rfl ?_
      | refine sg_guard_nf rfl rfl rfl ?_
      | refine sg_guard_nt rfl rfl rfl ?_
      | refine sg_guard_nu rfl rfl rfl ?_
      | refine sk_back (fun w hO => hO) ?_
      | refine sg_store [] rfl rfl rfl (of_decide_eq_true rfl) ?_
      | refine sg_store [_] rfl rfl rfl (of_decide_eq_true rfl) ?_
      | refine sg_store [_, _] rfl rfl rfl (of_decide_eq_true rfl) ?_
      | refine sg_store [_, _, _] rfl rfl rfl (of_decide_eq_true rfl) ?_
      | refine sg_store [_, _, _, _] rfl rfl rfl (of_decide_eq_true rfl) ?_
      | refine sg_store [_, _, _, _, _] rfl rfl rfl (of_decide_eq_true rfl) ?_
      | refine sg_store [_, _, _, _, _, _] rfl rfl rfl (of_decide_eq_true rfl) ?_
      | refine sg_store [_, _, _, _, _, _, _] rfl rfl rfl (of_decide_eq_true rfl) ?_)
    refine sg_callv rfl (hC e.old h1 _) rfl rfl (fun _ _ => ?_)
    refine sk_back (fun w hO => hO.pick [1, 3] (by decide)) ?_
    repeat' (first
      | refine sk_nil ?_
      | refine sk_pure rfl rfl (ps_move rfl) rfl ?_
      | refine sk_pure rfl rfl (ps_assign rfl) rfl ?_
      | refine sk_pure rfl rfl (ps_nilCheck rfl) rfl ?_
      | refine sk_pure rfl rfl (ps_fieldAddr rfl) rfl ?_
      | refine sk_pure rfl rfl (ps_add64 rfl rfl (by omega)) rfl ?_
      | refine sk_pure rfl rfl (ps_sub64 rfl rfl (by omega)) rfl ?_
      | refine sk_pure rfl rfl (ps_mul64 rfl rfl (by omega)) rfl ?_
      | refine sk_pure rfl rfl (ps_bin rfl rfl inferInstance) rfl ?_
      | refine sk_pure rfl rfl (ps_rem rfl rfl (by decide)) rfl ?_
      | refine sk_pure rfl rfl (ps_not rfl) rfl ?_
      | refine sk_pure rfl rfl (ps_conv rfl) rfl ?_
      | refine sk_pure rfl rfl (ps_shl rfl rfl (by decide) rfl) rfl ?_
      | refine sk_pure rfl rfl (ps_shr rfl rfl (by decide) rfl) rfl ?_
      | refine sk_pure rfl rfl (ps_len rfl) rfl ?_
      | refine sk_pure rfl rfl (ps_len_str rfl) rfl ?_
      | refine sk_pure rfl rfl (ps_extract rfl rfl) rfl ?_
      | refine sk_pure rfl rfl (ps_field rfl rfl) rfl ?_
      | refine sk_pure rfl rfl (ps_build rfl rfl) rfl ?_
      | refine sk_pure rfl rfl (ps_indexAddr rfl rfl rfl (by omega)) rfl ?_
      | refine sk_pure rfl rfl (ps_indexAddr (j := 0) rfl rfl rfl (by omega)) rfl ?_
      | refine sk_pure rfl rfl (ps_indexAddr (j := 1) rfl rfl rfl (by omega)) rfl ?_
      | refine sk_pure rfl rfl (ps_pick_t rfl rfl) rfl ?_
      | refine sk_pure rfl rfl (ps_pick_f rfl rfl) rfl ?_
      | refine sk_pure rfl rfl (ps_min2 rfl rfl) rfl ?_
      | refine sk_pure rfl rfl (ps_max2 rfl rfl) rfl ?_
      | refine sk_pure rfl rfl (ps_indexAddr_arr rfl rfl rfl (by omega)) rfl ?_
      | refine sk_no rfl rfl rfl rfl rfl ?_
      | refine sk_pure_g rfl rfl rfl rfl (ps_move rfl) rfl ?_
      | refine sk_pure_g rfl rfl rfl rfl (ps_assign rfl) rfl ?_
      | refine sk_pure_g rfl rfl rfl rfl (ps_nilCheck rfl) rfl ?_
      | refine sk_pure_g rfl rfl rfl rfl (ps_fieldAddr rfl) rfl ?_
      | refine sk_pure_g rfl rfl rfl rfl (ps_add64 rfl rfl (by omega)) rfl ?_
      | refine sk_pure_g rfl rfl rfl rfl (ps_sub64 rfl rfl (by omega)) rfl ?_
      | refine sk_pure_g rfl rfl rfl rfl (ps_mul64 rfl rfl (by omega)) rfl ?_
      | refine sk_pure_g rfl rfl rfl rfl (ps_bin rfl rfl inferInstance) rfl ?_
      | refine sk_pure_g rfl rfl rfl rfl (ps_rem rfl rfl (by decide)) rfl ?_
      | refine sk_pure_g rfl rfl rfl rfl (ps_not rfl) rfl ?_
      | refine sk_pure_g rfl rfl rfl rfl (ps_conv rfl) rfl ?_
      | refine sk_pure_g rfl rfl rfl rfl (ps_shl rfl rfl (by decide) rfl) rfl ?_
      | refine sk_pure_g rfl rfl rfl rfl (ps_shr rfl rfl (by decide) rfl) rfl ?_
      | refine sk_pure_g rfl rfl rfl rfl (ps_len rfl) rfl ?_
      | refine sk_pure_g rfl rfl rfl rfl (ps_len_str rfl) rfl ?_
      | refine sk_pure_g rfl rfl rfl rfl (ps_extract rfl rfl) rfl ?_
      | refine sk_pure_g rfl rfl rfl rfl (ps_field rfl rfl) rfl ?_
      | refine sk_pure_g rfl rfl rfl rfl (ps_build rfl rfl) rfl ?_
      | refine sk_pure_g rfl rfl rfl rfl (ps_indexAddr rfl rfl rfl (by omega)) rfl ?_
      | refine sk_pure_g rfl rfl rfl rfl (ps_indexAddr (j := 0) rfl rfl rfl (by omega)) rfl ?_
      | refine sk_pure_g rfl rfl rfl rfl (ps_indexAddr (j := 1) rfl rfl rfl (by omega)) rfl ?_
      | refine sk_pure_g rfl rfl rfl rfl (ps_pick_t rfl rfl) rfl ?_
      | refine sk_pure_g rfl rfl rfl rfl (ps_pick_f rfl rfl) rfl ?_
      | refine sk_pure_g rfl rfl rfl rfl (ps_min2 rfl rfl) rfl ?_
      | refine sk_pure_g rfl rfl rfl rfl (ps_max2 rfl rfl) rfl ?_
      | refine sk_pure_g rfl rfl rfl rfl (ps_indexAddr_arr rfl rfl rfl (by omega)) rfl ?_
      | refine sk_load 0 rfl rfl rfl rfl rfl ?_
      | refine sk_load 1 rfl rfl rfl rfl rfl ?_
      | refine sk_load 2 rfl rfl rfl rfl rfl ?_
      | refine sk_load 3 rfl rfl rfl rfl rfl ?_
      | refine sk_load 4 rfl rfl rfl rfl rfl ?_
      | refine sk_load 5 rfl rfl rfl rfl rfl ?_
      | refine sk_load_g 0 rfl rfl rfl rfl rfl rfl rfl ?_
      | refine sk_load_g 1 rfl rfl rfl rfl rfl rfl rfl ?_
      | refine sk_load_g 2 rfl rfl rfl rfl rfl rfl rfl ?_
      | refine sk_load_g 3 rfl rfl rfl rfl rfl rfl rfl ?_
      | refine sk_load_g 4 rfl rfl rfl rfl rfl rfl rfl ?_
      | refine sk_load_g 5 rfl rfl rfl rfl rfl rfl rfl ?_
      | refine sk_lw 0 rfl rfl rfl rfl rfl ?_
      | refine sk_lw 1 rfl rfl rfl rfl rfl ?_
      | refine sk_lw 2 rfl rfl rfl rfl rfl ?_
      | refine sk_lw 3 rfl rfl rfl rfl rfl ?_
      | refine sk_lw 4 rfl rfl rfl rfl rfl ?_
      | refine sk_lw 5 rfl rfl rfl rfl rfl ?_
      | refine sk_lwg 0 rfl rfl rfl rfl rfl rfl rfl ?_
      | refine sk_lwg 1 rfl rfl rfl rfl rfl rfl rfl ?_
      | refine sk_lwg 2 rfl rfl rfl rfl rfl rfl rfl ?_
      | refine sk_lwg 3 rfl rfl rfl rfl rfl rfl rfl ?_
      | refine sk_lwg 4 rfl rfl rfl rfl rfl rfl rfl ?_
      | refine sk_lwg 5 rfl rfl rfl rfl rfl rfl rfl ?_
      | refine sk_eff rfl rfl ?_
      | refine sg_store_whole [] rfl rfl rfl rfl rfl ?_
      | refine sg_store_whole [_] rfl rfl rfl rfl rfl ?_
      | refine sg_store_whole [_, _] rfl rfl rfl rfl rfl ?_
      | refine sg_store_whole [_, _, _] rfl rfl rfl rfl rfl ?_
      | refine sg_store_whole [_, _, _, _] rfl rfl rfl rfl rfl ?_
      | refine sg_store_whole [_, _, _, _, _] rfl rfl rfl rfl rfl ?_
      | refine sg_store_whole [_, _, _, _, _, _] rfl rfl rfl rfl rfl ?_
      | refine sg_guard_yes rfl rfl ?_
      | refine sg_guard_nf rfl rfl rfl ?_
      | refine sg_guard_nt rfl rfl rfl ?_
      | refine sg_guard_nu rfl rfl rfl ?_
      | refine sk_back (fun w hO => hO) ?_
      | refine sg_store [] rfl rfl rfl (of_decide_eq_true rfl) ?_
      | refine sg_store [_] rfl rfl rfl (of_decide_eq_true rfl) ?_
      | refine sg_store [_, _] rfl rfl rfl (of_decide_eq_true rfl) ?_
      | refine sg_store [_, _, _] rfl rfl rfl (of_decide_eq_true rfl) ?_
      | refine sg_store [_, _, _, _] rfl rfl rfl (of_decide_eq_true rfl) ?_
      | refine sg_store [_, _, _, _, _] rfl rfl rfl (of_decide_eq_true rfl) ?_
      | refine sg_store [_, _, _, _, _, _] rfl rfl rfl (of_decide_eq_true rfl) ?_
      | refine sg_store [_, _, _, _, _, _, _] rfl rfl rfl (of_decide_eq_true rfl) ?_)
    refine sk_end (by kernel_rfl) ?_
    repeat' (first
      | refine sk_nil ?_
      | refine sk_pure rfl rfl (ps_move rfl) rfl ?_
      | refine sk_pure rfl rfl (ps_assign rfl) rfl ?_
      | refine sk_pure rfl rfl (ps_nilCheck rfl) rfl ?_
      | refine sk_pure rfl rfl (ps_fieldAddr rfl) rfl ?_
      | refine sk_pure rfl rfl (ps_add64 rfl rfl (by omega)) rfl ?_
      | refine sk_pure rfl rfl (ps_sub64 rfl rfl (by omega)) rfl ?_
      | refine sk_pure rfl rfl (ps_mul64 rfl rfl (by omega)) rfl ?_
      | refine sk_pure rfl rfl (ps_bin rfl rfl inferInstance) rfl ?_
      | refine sk_pure rfl rfl (ps_rem rfl rfl (by decide)) rfl ?_
      | refine sk_pure rfl rfl (ps_not rfl) rfl ?_
      | refine sk_pure rfl rfl (ps_conv rfl) rfl ?_
      | refine sk_pure rfl rfl (ps_shl rfl rfl (by decide) rfl) rfl ?_
      | refine sk_pure rfl rfl (ps_shr rfl rfl (by decide) rfl) rfl ?_
      | refine sk_pure rfl rfl (ps_len rfl) rfl ?_
      | refine sk_pure rfl rfl (ps_len_str rfl) rfl ?_
      | refine sk_pure rfl rfl (ps_extract rfl rfl) rfl ?_
      | refine sk_pure rfl rfl (ps_field rfl rfl) rfl ?_
      | refine sk_pure rfl rfl (ps_build rfl rfl) rfl ?_
      | refine sk_pure rfl rfl (ps_indexAddr rfl rfl rfl (by omega)) rfl ?_
      | refine sk_pure rfl rfl (ps_indexAddr (j := 0) rfl rfl rfl (by omega)) rfl ?_
      | refine sk_pure rfl rfl (ps_indexAddr (j := 1) rfl rfl rfl (by omega)) rfl ?_
      | refine sk_pure rfl rfl (ps_pick_t rfl rfl) rfl ?_
      | refine sk_pure rfl rfl (ps_pick_f rfl rfl) rfl ?_
      | refine sk_pure rfl rfl (ps_min2 rfl rfl) rfl ?_
      | refine sk_pure rfl rfl (ps_max2 rfl rfl) rfl ?_
      | refine sk_pure rfl rfl (ps_indexAddr_arr rfl rfl rfl (by omega)) rfl ?_
      | refine sk_no rfl rfl rfl rfl rfl ?_
      | refine sk_pure_g rfl rfl rfl rfl (ps_move rfl) rfl ?_
      | refine sk_pure_g rfl rfl rfl rfl (ps_assign rfl) rfl ?_
      | refine sk_pure_g rfl rfl rfl rfl (ps_nilCheck rfl) rfl ?_
      | refine sk_pure_g rfl rfl rfl rfl (ps_fieldAddr rfl) rfl ?_
      | refine sk_pure_g rfl rfl rfl rfl (ps_add64 rfl rfl (by omega)) rfl ?_
      | refine sk_pure_g rfl rfl rfl rfl (ps_sub64 rfl rfl (by omega)) rfl ?_
      | refine sk_pure_g rfl rfl rfl rfl (ps_mul64 rfl rfl (by omega)) rfl ?_
      | refine sk_pure_g rfl rfl rfl rfl (ps_bin rfl rfl inferInstance) rfl ?_
      | refine sk_pure_g rfl rfl rfl rfl (ps_rem rfl rfl (by decide)) rfl ?_
      | refine sk_pure_g rfl rfl rfl rfl (ps_not rfl) rfl ?_
      | refine sk_pure_g rfl rfl rfl rfl (ps_conv rfl) rfl ?_
      | refine sk_pure_g rfl rfl rfl rfl (ps_shl rfl rfl (by decide) rfl) rfl ?_
      | refine sk_pure_g rfl rfl rfl rfl (ps_shr rfl rfl (by decide) rfl) rfl ?_
      | refine sk_pure_g rfl rfl rfl rfl (ps_len rfl) rfl ?_
      | refine sk_pure_g rfl rfl rfl rfl (ps_len_str rfl) rfl ?_
      | refine sk_pure_g rfl rfl rfl rfl (ps_extract rfl rfl) rfl ?_
      | refine sk_pure_g rfl rfl rfl rfl (ps_field rfl rfl) rfl ?_
      | refine sk_pure_g rfl rfl rfl rfl (ps_build rfl rfl) rfl ?_
      | refine sk_pure_g rfl rfl rfl rfl (ps_indexAddr rfl rfl rfl (by omega)) rfl ?_
      | refine sk_pure_g rfl rfl rfl rfl (ps_indexAddr (j := 0) rfl rfl rfl (by omega)) rfl ?_
      | refine sk_pure_g rfl rfl rfl rfl (ps_indexAddr (j := 1) rfl rfl rfl (by omega)) rfl ?_
      | refine sk_pure_g rfl rfl rfl rfl (ps_pick_t rfl rfl) rfl ?_
      | refine sk_pure_g rfl rfl rfl rfl (ps_pick_f rfl rfl) rfl ?_
      | refine sk_pure_g rfl rfl rfl rfl (ps_min2 rfl rfl) rfl ?_
      | refine sk_pure_g rfl rfl rfl rfl (ps_max2 rfl rfl) rfl ?_
      | refine sk_pure_g rfl rfl rfl rfl (ps_indexAddr_arr rfl rfl rfl (by omega)) rfl ?_
      | refine sk_load 0 rfl rfl rfl rfl rfl ?_
      | refine sk_load 1 rfl rfl rfl rfl rfl ?_
      | refine sk_load 2 rfl rfl rfl rfl rfl ?_
      | refine sk_load 3 rfl rfl rfl rfl rfl ?_
      | refine sk_load 4 rfl rfl rfl rfl rfl ?_
      | refine sk_load 5 rfl rfl rfl rfl rfl ?_
      | refine sk_load_g 0 rfl rfl rfl rfl rfl rfl rfl ?_
      | refine sk_load_g 1 rfl rfl rfl rfl rfl rfl rfl ?_
      | refine sk_load_g 2 rfl rfl rfl rfl rfl rfl rfl ?_
      | refine sk_load_g 3 rfl rfl rfl rfl rfl rfl rfl ?_
      | refine sk_load_g 4 rfl rfl rfl rfl rfl rfl rfl ?_
      | refine sk_load_g 5 rfl rfl rfl rfl rfl rfl rfl ?_
      | refine sk_lw 0 rfl rfl rfl rfl rfl ?_
      | refine sk_lw 1 rfl rfl rfl rfl rfl ?_
      | refine sk_lw 2 rfl rfl rfl rfl rfl ?_
      | refine sk_lw 3 rfl rfl rfl rfl rfl ?_
      | refine sk_lw 4 rfl rfl rfl rfl rfl ?_
      | refine sk_lw 5 rfl rfl rfl rfl rfl ?_
      | refine sk_lwg 0 rfl rfl rfl rfl rfl rfl rfl ?_
      | refine sk_lwg 1 rfl rfl rfl rfl rfl rfl rfl ?_
      | refine sk_lwg 2 rfl rfl rfl rfl rfl rfl rfl ?_
      | refine sk_lwg 3 rfl rfl rfl rfl rfl rfl rfl ?_
      | refine sk_lwg 4 rfl rfl rfl rfl rfl rfl rfl ?_
      | refine sk_lwg 5 rfl rfl rfl rfl rfl rfl rfl ?_
      | refine sk_eff rfl rfl ?_
      | refine sg_store_whole [] rfl rfl rfl rfl rfl ?_
      | refine sg_store_whole [_] rfl rfl rfl rfl rfl ?_
      | refine sg_store_whole [_, _] rfl rfl rfl rfl rfl ?_
      | refine sg_store_whole [_, _, _] rfl rfl rfl rfl rfl ?_
      | refine sg_store_whole [_, _, _, _] rfl rfl rfl rfl rfl ?_
      | refine sg_store_whole [_, _, _, _, _] rfl rfl rfl rfl rfl ?_
      | refine sg_store_whole [_, _, _, _, _, _] rfl rfl rfl rfl rfl ?_
      | refine sg_guard_yes rfl rfl ?_
      | refine sg_guard_nf rfl rfl rfl ?_
      | refine sg_guard_nt rfl rfl rfl ?_
      | refine sg_guard_nu rfl rfl rfl ?_
      | refine sk_back (fun w hO => hO) ?_
      | refine sg_store [] rfl rfl rfl (of_decide_eq_true rfl) ?_
      | refine sg_store [_] rfl rfl rfl (of_decide_eq_true rfl) ?_
      | refine sg_store [_, _] rfl rfl rfl (of_decide_eq_true rfl) ?_
      | refine sg_store [_, _, _] rfl rfl rfl (of_decide_eq_true rfl) ?_
      | refine sg_store [_, _, _, _] rfl rfl rfl (of_decide_eq_true rfl) ?_
      | refine sg_store [_, _, _, _, _] rfl rfl rfl (of_decide_eq_true rfl) ?_
      | refine sg_store [_, _, _, _, _, _] rfl rfl rfl (of_decide_eq_true rfl) ?_
      | refine sg_store [_, _, _, _, _, _, _] rfl rfl rfl (of_decide_eq_true rfl) ?_)
    repeat' (first
      | refine sg_wo ?_
      | refine sg_ps (ps_move rfl) rfl ?_
      | refine sg_ps (ps_assign rfl) rfl ?_
      | refine sg_seq ?_
      | refine sg_region ?_
      | refine sg_nil ?_
      | refine sg_then ?_
      | refine sg_ps (ps_fieldAddr rfl) rfl ?_
      | refine sg_ps (ps_nilCheck rfl) rfl ?_
      | refine sg_load 0 rfl rfl rfl rfl ?_
      | refine sg_load 1 rfl rfl rfl rfl ?_
      | refine sg_load 2 rfl rfl rfl rfl ?_
      | refine sg_load 3 rfl rfl rfl rfl ?_
      | refine sg_load 4 rfl rfl rfl rfl ?_
      | refine sg_load 5 rfl rfl rfl rfl ?_
      | refine sg_load 6 rfl rfl rfl rfl ?_
      | refine sg_load 7 rfl rfl rfl rfl ?_
      | refine sg_ps (ps_add64 rfl rfl (by omega)) rfl ?_
      | refine sg_ps (ps_sub64 rfl rfl (by omega)) rfl ?_
      | refine sg_ps (ps_mul64 rfl rfl (by omega)) rfl ?_
      | refine sg_ps (ps_bin rfl rfl inferInstance) rfl ?_
      | refine sg_ps (ps_rem rfl rfl (by decide)) rfl ?_
      | refine sg_ps (ps_quo64 rfl rfl (by decide) (by omega)) rfl ?_
      | refine sg_ps (ps_not rfl) rfl ?_
      | refine sg_ps (ps_conv rfl) rfl ?_
      | refine sg_ps (ps_shl rfl rfl (by decide) rfl) rfl ?_
      | refine sg_ps (ps_shr rfl rfl (by decide) rfl) rfl ?_
      | refine sg_cond_t rfl ?_
      | refine sg_cond_f rfl ?_
      | refine sg_guard_yes rfl rfl ?_
      | refine sg_guard_nf rfl rfl rfl ?_
      | refine sg_guard_nt rfl rfl rfl ?_
      | refine sg_guard_nu rfl rfl rfl ?_
      | refine sg_ps (ps_pick_t rfl rfl) rfl ?_
      | refine sg_ps (ps_pick_f rfl rfl) rfl ?_
      | refine sg_ps (ps_len rfl) rfl ?_
      | refine sg_ps (ps_len_str rfl) rfl ?_
      | refine sg_ps (ps_extract rfl rfl) rfl ?_
      | refine sg_ps (ps_field rfl rfl) rfl ?_
      | refine sg_ps (ps_min2 rfl rfl) rfl ?_
      | refine sg_ps (ps_max2 rfl rfl) rfl ?_
      | refine sg_ps (ps_build rfl rfl) rfl ?_
      | refine sg_box rfl rfl (fun bx => ?_)
      | refine sg_ps (ps_indexAddr rfl rfl rfl (by omega)) rfl ?_
      | refine sg_ps (ps_indexAddr (j := 0) rfl rfl rfl (by omega)) rfl ?_
      | refine sg_ps (ps_indexAddr (j := 1) rfl rfl rfl (by omega)) rfl ?_
      | refine sg_ps (ps_indexAddr_arr rfl rfl rfl (by omega)) rfl ?_
      | refine sg_load_whole 0 rfl rfl rfl rfl ?_
      | refine sg_load_whole 1 rfl rfl rfl rfl ?_
      | refine sg_load_whole 2 rfl rfl rfl rfl ?_
      | refine sg_load_whole 3 rfl rfl rfl rfl ?_
      | refine sg_load_whole 4 rfl rfl rfl rfl ?_
      | refine sg_load_whole 5 rfl rfl rfl rfl ?_
      | refine sg_load_whole 6 rfl rfl rfl rfl ?_
      | refine sg_load_whole 7 rfl rfl rfl rfl ?_
      | refine sg_store_whole [] rfl rfl rfl rfl rfl ?_
      | refine sg_store_whole [_] rfl rfl rfl rfl rfl ?_
      | refine sg_store_whole [_, _] rfl rfl rfl rfl rfl ?_
      | refine sg_store_whole [_, _, _] rfl rfl rfl rfl rfl ?_
      | refine sg_store_whole [_, _, _, _] rfl rfl rfl rfl rfl ?_
      | refine sg_store_whole [_, _, _, _, _] rfl rfl rfl rfl rfl ?_
      | refine sg_store_whole [_, _, _, _, _, _] rfl rfl rfl rfl rfl ?_
      | refine sg_alloc rfl (fun al => ?_)
      | refine sg_block ?_
      | refine sg_skip ?_
      | refine sg_ret ?_
      | refine sg_exit ?_
      | refine ex_then_ret ?_
      | refine ex_then_exit ?_
      | refine ex_block_ret ?_
      | refine ex_block_normal ?_
      | refine ex_block_hit ?_
      | refine ex_block_miss rfl ?_
      | refine sg_store [] rfl rfl rfl (of_decide_eq_true rfl) ?_
      | refine sg_store [_] rfl rfl rfl (of_decide_eq_true rfl) ?_
      | refine sg_store [_, _] rfl rfl rfl (of_decide_eq_true rfl) ?_
      | refine sg_store [_, _, _] rfl rfl rfl (of_decide_eq_true rfl) ?_
      | refine sg_store [_, _, _, _] rfl rfl rfl (of_decide_eq_true rfl) ?_
      | refine sg_store [_, _, _, _, _] rfl rfl rfl (of_decide_eq_true rfl) ?_
      | refine sg_store [_, _, _, _, _, _] rfl rfl rfl (of_decide_eq_true rfl) ?_
      | refine sg_store [_, _, _, _, _, _, _] rfl rfl rfl (of_decide_eq_true rfl) ?_
      | (refine sg_guard_dec rfl rfl (fun hg => ?_) (fun hg => ?_) <;> first | (exfalso; omega) | (exact absurd rfl hg) | skip)
      | (refine sg_guard_ndec rfl rfl (fun hg => ?_) (fun hg => ?_) <;> first | (exfalso; omega) | (exact absurd rfl hg) | skip)
      | (refine sg_cond_dec rfl (fun hg => ?_) (fun hg => ?_) <;> first | (exfalso; omega) | (exact absurd rfl hg) | skip)
      | (refine sg_cond_ndec rfl (fun hg => ?_) (fun hg => ?_) <;> first | (exfalso; omega) | (exact absurd rfl hg) | skip)
      | refine sg_cond_not rfl (fun hg => ?_) (fun hg => ?_)
      | refine sg_cond rfl (fun hg => ?_) (fun hg => ?_))
    refine sg_call (entry_tri e.key e.old (wk e.old) m.txn _) rfl rfl (fun _ _ => ?_)
    repeat' (first
      | refine sg_wo ?_
      | refine sg_ps (ps_move rfl) rfl ?_
      | refine sg_ps (ps_assign rfl) rfl ?_
      | refine sg_seq ?_
      | refine sg_region ?_
      | refine sg_nil ?_
      | refine sg_then ?_
      | refine sg_ps (ps_fieldAddr rfl) rfl ?_
      | refine sg_ps (ps_nilCheck rfl) rfl ?_
      | refine sg_load 0 rfl rfl rfl rfl ?_
      | refine sg_load 1 rfl rfl rfl rfl ?_
      | refine sg_load 2 rfl rfl rfl rfl ?_
      | refine sg_load 3 rfl rfl rfl rfl ?_
      | refine sg_load 4 rfl rfl rfl rfl ?_
      | refine sg_load 5 rfl rfl rfl rfl ?_
      | refine sg_load 6 rfl rfl rfl rfl ?_
      | refine sg_load 7 rfl rfl rfl rfl ?_
      | refine sg_ps (ps_add64 rfl rfl (by omega)) rfl ?_
      | refine sg_ps (ps_sub64 rfl rfl (by omega)) rfl ?_
      | refine sg_ps (ps_mul64 rfl rfl (by omega)) rfl ?_
      | refine sg_ps (ps_bin rfl rfl inferInstance) rfl ?_
      | refine sg_ps (ps_rem rfl rfl (by decide)) rfl ?_
      | refine sg_ps (ps_quo64 rfl rfl (by decide) (by omega)) rfl ?_
      | refine sg_ps (ps_not rfl) rfl ?_
      | refine sg_ps (ps_conv rfl) rfl ?_
      | refine sg_ps (ps_shl rfl rfl (by decide) rfl) rfl ?_
      | refine sg_ps (ps_shr rfl rfl (by decide) rfl) rfl ?_
      | refine sg_cond_t rfl ?_
      | refine sg_cond_f rfl ?_
      | refine sg_guard_yes rfl rfl ?_
      | refine sg_guard_nf rfl rfl rfl ?_
      | refine sg_guard_nt rfl rfl rfl ?_
      | refine sg_guard_nu rfl rfl rfl ?_
      | refine sg_ps (ps_pick_t rfl rfl) rfl ?_
      | refine sg_ps (ps_pick_f rfl rfl) rfl ?_
      | refine sg_ps (ps_len rfl) rfl ?_
      | refine sg_ps (ps_len_str rfl) rfl ?_
      | refine sg_ps (ps_extract rfl rfl) rfl ?_
      | refine sg_ps (ps_field rfl rfl) rfl ?_
      | refine sg_ps (ps_min2 rfl rfl) rfl ?_
      | refine sg_ps (ps_max2 rfl rfl) rfl ?_
      | refine sg_ps (ps_build rfl rfl) rfl ?_
      | refine sg_box rfl rfl (fun bx => ?_)
      | refine sg_ps (ps_indexAddr rfl rfl rfl (by omega)) rfl ?_
      | refine sg_ps (ps_indexAddr (j := 0) rfl rfl rfl (by omega)) rfl ?_
      | refine sg_ps (ps_indexAddr (j := 1) rfl rfl rfl (by omega)) rfl ?_
      | refine sg_ps (ps_indexAddr_arr rfl rfl rfl (by omega)) rfl ?_
      | refine sg_load_whole 0 rfl rfl rfl rfl ?_
      | refine sg_load_whole 1 rfl rfl rfl rfl ?_
      | refine sg_load_whole 2 rfl rfl rfl rfl ?_
      | refine sg_load_whole 3 rfl rfl rfl rfl ?_
      | refine sg_load_whole 4 rfl rfl rfl rfl ?_
      | refine sg_load_whole 5 rfl rfl rfl rfl ?_
      | refine sg_load_whole 6 rfl rfl rfl rfl ?_
      | refine sg_load_whole 7 rfl rfl rfl rfl ?_
      | refine sg_store_whole [] rfl rfl rfl rfl rfl ?_
      | refine sg_store_whole [_] rfl rfl rfl rfl rfl ?_
      | refine sg_store_whole [_, _] rfl rfl rfl rfl rfl ?_
      | refine sg_store_whole [_, _, _] rfl rfl rfl rfl rfl ?_
      | refine sg_store_whole [_, _, _, _] rfl rfl rfl rfl rfl ?_
      | refine sg_store_whole [_, _, _, _, _] rfl rfl rfl rfl rfl ?_
      | refine sg_store_whole [_, _, _, _, _, _] rfl rfl rfl rfl rfl ?_
      | refine sg_alloc rfl (fun al => ?_)
      | refine sg_block ?_
      | refine sg_skip ?_
      | refine sg_ret ?_
      | refine sg_exit ?_
      | refine ex_then_ret ?_
      | refine ex_then_exit ?_
      | refine ex_block_ret ?_
      | refine ex_block_normal ?_
      | refine ex_block_hit ?_
      | refine ex_block_miss rfl ?_
      | refine sg_store [] rfl rfl rfl (of_decide_eq_true rfl) ?_
      | refine sg_store [_] rfl rfl rfl (of_decide_eq_true rfl) ?_
      | refine sg_store [_, _] rfl rfl rfl (of_decide_eq_true rfl) ?_
      | refine sg_store [_, _, _] rfl rfl rfl (of_decide_eq_true rfl) ?_
      | refine sg_store [_, _, _, _] rfl rfl rfl (of_decide_eq_true rfl) ?_
      | refine sg_store [_, _, _, _, _] rfl rfl rfl (of_decide_eq_true rfl) ?_
      | refine sg_store [_, _, _, _, _, _] rfl rfl rfl (of_decide_eq_true rfl) ?_
      | refine sg_store [_, _, _, _, _, _, _] rfl rfl rfl (of_decide_eq_true rfl) ?_
      | (refine sg_guard_dec rfl rfl (fun hg => ?_) (fun hg => ?_) <;> first | (exfalso; omega) | (exact absurd rfl hg) | skip)
      | (refine sg_guard_ndec rfl rfl (fun hg => ?_) (fun hg => ?_) <;> first | (exfalso; omega) | (exact absurd rfl hg) | skip)
      | (refine sg_cond_dec rfl (fun hg => ?_) (fun hg => ?_) <;> first | (exfalso; omega) | (exact absurd rfl hg) | skip)
      | (refine sg_cond_ndec rfl (fun hg => ?_) (fun hg => ?_) <;> first | (exfalso; omega) | (exact absurd rfl hg) | skip)
      | refine sg_cond_not rfl (fun hg => ?_) (fun hg => ?_)
      | refine sg_cond rfl (fun hg => ?_) (fun hg => ?_))
    exact ex_retc 2 rfl rfl rfl rfl () rfl trivial (fun w hO => hO.tail.tail.tail.tail.tail)
  · have e' : applyW e m wk = mkE e.key e.old (wk e.own) e.txn := by unfold applyW; rw [if_neg (by omega), if_neg (by omega), if_neg (by omega), if_pos (by omega)]
    rw [e']
    refine sg_callv rfl (hC e.own h2 _) rfl rfl (fun _ _ => ?_)
    repeat' (first
      | refine sg_wo ?_
      | refine sg_ps (ps_move rfl) rfl ?_
      | refine sg_ps (ps_assign rfl) rfl ?_
      | refine sg_seq ?_
      | refine sg_region ?_
      | refine sg_nil ?_
      | refine sg_then ?_
      | refine sg_ps (ps_fieldAddr rfl) rfl ?_
      | refine sg_ps (ps_nilCheck rfl) rfl ?_
      | refine sg_load 0 rfl rfl rfl rfl ?_
      | refine sg_load 1 rfl rfl rfl rfl ?_
      | refine sg_load 2 rfl rfl rfl rfl ?_
      | refine sg_load 3 rfl rfl rfl rfl ?_
      | refine sg_load 4 rfl rfl rfl rfl ?_
      | refine sg_load 5 rfl rfl rfl rfl ?_
      | refine sg_load 6 rfl rfl rfl rfl ?_
      | refine sg_load 7 rfl rfl rfl rfl ?_
      | refine sg_ps (ps_add64 rfl rfl (by omega)) rfl ?_
      | refine sg_ps (ps_sub64 rfl rfl (by omega)) rfl ?_
      | refine sg_ps (ps_mul64 rfl rfl (by omega)) rfl ?_
      | refine sg_ps (ps_bin rfl rfl inferInstance) rfl ?_
      | refine sg_ps (ps_rem rfl rfl (by decide)) rfl ?_
      | refine sg_ps (ps_quo64 rfl rfl (by decide) (by omega)) rfl ?_
      | refine sg_ps (ps_not rfl) rfl ?_
      | refine sg_ps (ps_conv rfl) rfl ?_
      | refine sg_ps (ps_shl rfl rfl (by decide) rfl) rfl ?_
      | refine sg_ps (ps_shr rfl rfl (by decide) rfl) rfl ?_
      | refine sg_cond_t rfl ?_
      | refine sg_cond_f rfl ?_
      | refine sg_guard_yes rfl rfl ?_
      | refine sg_guard_nf rfl rfl rfl ?_
      | refine sg_guard_nt rfl rfl rfl ?_
      | refine sg_guard_nu rfl rfl rfl ?_
      | refine sg_ps (ps_pick_t rfl rfl) rfl ?_
      | refine sg_ps (ps_pick_f rfl rfl) rfl ?_
      | refine sg_ps (ps_len rfl) rfl ?_
      | refine sg_ps (ps_len_str rfl) rfl ?_
      | refine sg_ps (ps_extract rfl rfl) rfl ?_
      | refine sg_ps (ps_field rfl rfl) rfl ?_
      | refine sg_ps (ps_min2 rfl rfl) rfl ?_
      | refine sg_ps (ps_max2 rfl rfl) rfl ?_
      | refine sg_ps (ps_build rfl rfl) rfl ?_
      | refine sg_box rfl rfl (fun bx => ?_)
      | refine sg_ps (ps_indexAddr rfl rfl rfl (by omega)) rfl ?_
      | refine sg_ps (ps_indexAddr (j := 0) rfl rfl rfl (by omega)) rfl ?_
      | refine sg_ps (ps_indexAddr (j := 1) rfl rfl rfl (by omega)) rfl ?_
      | refine sg_ps (ps_indexAddr_arr rfl rfl rfl (by omega)) rfl ?_
      | refine sg_load_whole 0 rfl rfl rfl rfl ?_
      | refine sg_load_whole 1 rfl rfl rfl rfl ?_
      | refine sg_load_whole 2 rfl rfl rfl rfl ?_
      | refine sg_load_whole 3 rfl rfl rfl rfl ?_
      | refine sg_load_whole 4 rfl rfl rfl rfl ?_
      | refine sg_load_whole 5 rfl rfl rfl rfl ?_
      | refine sg_load_whole 6 rfl rfl rfl rfl ?_
      | refine sg_load_whole 7 rfl rfl rfl rfl ?_
      | refine sg_store_whole [] rfl rfl rfl rfl rfl ?_
      | refine sg_store_whole [_] rfl rfl rfl rfl rfl ?_
      | refine sg_store_whole [_, _] rfl rfl rfl rfl rfl ?_
      | refine sg_store_whole [_, _, _] rfl rfl rfl rfl rfl ?_
      | refine sg_store_whole [_, _, _, _] rfl rfl rfl rfl rfl ?_
      | refine sg_store_whole [_, _, _, _, _] rfl rfl rfl rfl rfl ?_
      | refine sg_store_whole [_, _, _, _, _, _] rfl rfl rfl rfl rfl ?_
      | refine sg_alloc rfl (fun al => ?_)
      | refine sg_block ?_
      | refine sg_skip ?_
      | refine sg_ret ?_
      | refine sg_exit ?_
      | refine ex_then_ret ?_
      | refine ex_then_exit ?_
      | refine ex_block_ret ?_
      | refine ex_block_normal ?_
      | refine ex_block_hit ?_
      | refine ex_block_miss rfl ?_
      | refine sg_store [] rfl rfl rfl (of_decide_eq_true rfl) ?_
      | refine sg_store [_] rfl rfl rfl (of_decide_eq_true rfl) ?_
      | refine sg_store [_, _] rfl rfl rfl (of_decide_eq_true rfl) ?_
      | refine sg_store [_, _, _] rfl rfl rfl (of_decide_eq_true rfl) ?_
      | refine sg_store [_, _, _, _] rfl rfl rfl (of_decide_eq_true rfl) ?_
      | refine sg_store [_, _, _, _, _] rfl rfl rfl (of_decide_eq_true rfl) ?_
      | refine sg_store [_, _, _, _, _, _] rfl rfl rfl (of_decide_eq_true rfl) ?_
      | refine sg_store [_, _, _, _, _, _, _] rfl rfl rfl (of_decide_eq_true rfl) ?_
      | (refine sg_guard_dec rfl rfl (fun hg => ?_) (fun hg => ?_) <;> first | (exfalso; omega) | (exact absurd rfl hg) | skip)
      | (refine sg_guard_ndec rfl rfl (fun hg => ?_) (fun hg => ?_) <;> first | (exfalso; omega) | (exact absurd rfl hg) | skip)
      | (refine sg_cond_dec rfl (fun hg => ?_) (fun hg => ?_) <;> first | (exfalso; omega) | (exact absurd rfl hg) | skip)
      | (refine sg_cond_ndec rfl (fun hg => ?_) (fun hg => ?_) <;> first | (exfalso; omega) | (exact absurd rfl hg) | skip)
      | refine sg_cond_not rfl (fun hg => ?_) (fun hg => ?_)
      | refine sg_cond rfl (fun hg => ?_) (fun hg => ?_))
    refine sg_call (entry_tri e.key e.old (wk e.own) e.txn _) rfl rfl (fun _ _ => ?_)
    repeat' (first
      | refine sg_wo ?_
      | refine sg_ps (ps_move rfl) rfl ?_
      | refine sg_ps (ps_assign rfl) rfl ?_
      | refine sg_seq ?_
      | refine sg_region ?_
      | refine sg_nil ?_
      | refine sg_then ?_
      | refine sg_ps (ps_fieldAddr rfl) rfl ?_
      | refine sg_ps (ps_nilCheck rfl) rfl ?_
      | refine sg_load 0 rfl rfl rfl rfl ?_
      | refine sg_load 1 rfl rfl rfl rfl ?_
      | refine sg_load 2 rfl rfl rfl rfl ?_
      | refine sg_load 3 rfl rfl rfl rfl ?_
      | refine sg_load 4 rfl rfl rfl rfl ?_
      | refine sg_load 5 rfl rfl rfl rfl ?_
      | refine sg_load 6 rfl rfl rfl rfl ?_
      | refine sg_load 7 rfl rfl rfl rfl ?_
      | refine sg_ps (ps_add64 rfl rfl (by omega)) rfl ?_
      | refine sg_ps (ps_sub64 rfl rfl (by omega)) rfl ?_
      | refine sg_ps (ps_mul64 rfl rfl (by omega)) rfl ?_
      | refine sg_ps (ps_bin rfl rfl inferInstance) rfl ?_
      | refine sg_ps (ps_rem rfl rfl (by decide)) rfl ?_
      | refine sg_ps (ps_quo64 rfl rfl (by decide) (by omega)) rfl ?_
      | refine sg_ps (ps_not rfl) rfl ?_
      | refine sg_ps (ps_conv rfl) rfl ?_
      | refine sg_ps (ps_shl rfl rfl (by decide) rfl) rfl ?_
      | refine sg_ps (ps_shr rfl rfl (by decide) rfl) rfl ?_
      | refine sg_cond_t rfl ?_
      | refine sg_cond_f rfl ?_
      | refine sg_guard_yes rfl rfl ?_
      | refine sg_guard_nf rfl rfl rfl ?_
      | refine sg_guard_nt rfl rfl rfl ?_
      | refine sg_guard_nu rfl rfl rfl ?_
      | refine sg_ps (ps_pick_t rfl rfl) rfl ?_
      | refine sg_ps (ps_pick_f rfl rfl) rfl ?_
      | refine sg_ps (ps_len rfl) rfl ?_
      | refine sg_ps (ps_len_str rfl) rfl ?_
      | refine sg_ps (ps_extract rfl rfl) rfl ?_
      | refine sg_ps (ps_field rfl rfl) rfl ?_
      | refine sg_ps (ps_min2 rfl rfl) rfl ?_
      | refine sg_ps (ps_max2 rfl rfl) rfl ?_
      | refine sg_ps (ps_build rfl rfl) rfl ?_
      | refine sg_box rfl rfl (fun bx => ?_)
      | refine sg_ps (ps_indexAddr rfl rfl rfl (by omega)) rfl ?_
      | refine sg_ps (ps_indexAddr (j := 0) rfl rfl rfl (by omega)) rfl ?_
      | refine sg_ps (ps_indexAddr (j := 1) rfl rfl rfl (by omega)) rfl ?_
      | refine sg_ps (ps_indexAddr_arr rfl rfl rfl (by omega)) rfl ?_
      | refine sg_load_whole 0 rfl rfl rfl rfl ?_
      | refine sg_load_whole 1 rfl rfl rfl rfl ?_
      | refine sg_load_whole 2 rfl rfl rfl rfl ?_
      | refine sg_load_whole 3 rfl rfl rfl rfl ?_
      | refine sg_load_whole 4 rfl rfl rfl rfl ?_
      | refine sg_load_whole 5 rfl rfl rfl rfl ?_
      | refine sg_load_whole 6 rfl rfl rfl rfl ?_
      | refine sg_load_whole 7 rfl rfl rfl rfl ?_
      | refine sg_store_whole [] rfl rfl rfl rfl rfl ?_
      | refine sg_store_whole [_] rfl rfl rfl rfl rfl ?_
      | refine sg_store_whole [_, _] rfl rfl rfl rfl rfl ?_
      | refine sg_store_whole [_, _, _] rfl rfl rfl rfl rfl ?_
      | refine sg_store_whole [_, _, _, _] rfl rfl rfl rfl rfl ?_
      | refine sg_store_whole [_, _, _, _, _] rfl rfl rfl rfl rfl ?_
      | refine sg_store_whole [_, _, _, _, _, _] rfl rfl rfl rfl rfl ?_
      | refine sg_alloc rfl (fun al => ?_)
      | refine sg_block ?_
      | refine sg_skip ?_
      | refine sg_ret ?_
      | refine sg_exit ?_
      | refine ex_then_ret ?_
      | refine ex_then_exit ?_
      | refine ex_block_ret ?_
      | refine ex_block_normal ?_
      | refine ex_block_hit ?_
      | refine ex_block_miss rfl ?_
      | refine sg_store [] rfl rfl rfl (of_decide_eq_true rfl) ?_
      | refine sg_store [_] rfl rfl rfl (of_decide_eq_true rfl) ?_
      | refine sg_store [_, _] rfl rfl rfl (of_decide_eq_true rfl) ?_
      | refine sg_store [_, _, _] rfl rfl rfl (of_decide_eq_true rfl) ?_
      | refine sg_store [_, _, _, _] rfl rfl rfl (of_decide_eq_true rfl) ?_
      | refine sg_store [_, _, _, _, _] rfl rfl rfl (of_decide_eq_true rfl) ?_
      | refine sg_store [_, _, _, _, _, _] rfl rfl rfl (of_decide_eq_true rfl) ?_
      | refine sg_store [_, _, _, _, _, _, _] rfl rfl rfl (of_decide_eq_true rfl) ?_
      | (refine sg_guard_dec rfl rfl (fun hg => ?_) (fun hg => ?_) <;> first | (exfalso; omega) | (exact absurd rfl hg) | skip)
      | (refine sg_guard_ndec rfl rfl (fun hg => ?_) (fun hg => ?_) <;> first | (exfalso; omega) | (exact absurd rfl hg) | skip)
      | (refine sg_cond_dec rfl (fun hg => ?_) (fun hg => ?_) <;> first | (exfalso; omega) | (exact absurd rfl hg) | skip)
      | (refine sg_cond_ndec rfl (fun hg => ?_) (fun hg => ?_) <;> first | (exfalso; omega) | (exact absurd rfl hg) | skip)
      | refine sg_cond_not rfl (fun hg => ?_) (fun hg => ?_)
      | refine sg_cond rfl (fun hg => ?_) (fun hg => ?_))
    exact ex_retc 2 rfl rfl rfl rfl () rfl trivial (fun w hO => hO.tail.tail.tail.tail.tail)
  · have e' : applyW e m wk = mkE e.key e.old e.own e.txn := by unfold applyW; rw [if_neg (by omega), if_neg (by omega), if_neg (by omega), if_neg (by omega)]
    rw [e']
    refine sg_call (entry_tri e.key e.old e.own e.txn _) rfl rfl (fun _ _ => ?_)
    repeat' (first
      | refine sg_wo ?_
      | refine sg_ps (ps_move rfl) rfl ?_
      | refine sg_ps (ps_assign rfl) rfl ?_
      | refine sg_seq ?_
      | refine sg_region ?_
      | refine sg_nil ?_
      | refine sg_then ?_
      | refine sg_ps (ps_fieldAddr rfl) rfl ?_
      | refine sg_ps (ps_nilCheck rfl) rfl ?_
      | refine sg_load 0 rfl rfl rfl rfl ?_
      | refine sg_load 1 rfl rfl rfl rfl ?_
      | refine sg_load 2 rfl rfl rfl rfl ?_
      | refine sg_load 3 rfl rfl rfl rfl ?_
      | refine sg_load 4 rfl rfl rfl rfl ?_
      | refine sg_load 5 rfl rfl rfl rfl ?_
      | refine sg_load 6 rfl rfl rfl rfl ?_
      | refine sg_load 7 rfl rfl rfl rfl ?_
      | refine sg_ps (ps_add64 rfl rfl (by omega)) rfl ?_
      | refine sg_ps (ps_sub64 rfl rfl (by omega)) rfl ?_
      | refine sg_ps (ps_mul64 rfl rfl (by omega)) rfl ?_
      | refine sg_ps (ps_bin rfl rfl inferInstance) rfl ?_
      | refine sg_ps (ps_rem rfl rfl (by decide)) rfl ?_
      | refine sg_ps (ps_quo64 rfl rfl (by decide) (by omega)) rfl ?_
      | refine sg_ps (ps_not rfl) rfl ?_
      | refine sg_ps (ps_conv rfl) rfl ?_
      | refine sg_ps (ps_shl rfl rfl (by decide) rfl) rfl ?_
      | refine sg_ps (ps_shr rfl rfl (by decide) rfl) rfl ?_
      | refine sg_cond_t rfl ?_
      | refine sg_cond_f rfl ?_
      | refine sg_guard_yes rfl rfl ?_
      | refine sg_guard_nf rfl rfl rfl ?_
      | refine sg_guard_nt rfl rfl rfl ?_
      | refine sg_guard_nu rfl rfl rfl ?_
      | refine sg_ps (ps_pick_t rfl rfl) rfl ?_
      | refine sg_ps (ps_pick_f rfl rfl) rfl ?_
      | refine sg_ps (ps_len rfl) rfl ?_
      | refine sg_ps (ps_len_str rfl) rfl ?_
      | refine sg_ps (ps_extract rfl rfl) rfl ?_
      | refine sg_ps (ps_field rfl rfl) rfl ?_
      | refine sg_ps (ps_min2 rfl rfl) rfl ?_
      | refine sg_ps (ps_max2 rfl rfl) rfl ?_
      | refine sg_ps (ps_build rfl rfl) rfl ?_
      | refine sg_box rfl rfl (fun bx => ?_)
      | refine sg_ps (ps_indexAddr rfl rfl rfl (by omega)) rfl ?_
      | refine sg_ps (ps_indexAddr (j := 0) rfl rfl rfl (by omega)) rfl ?_
      | refine sg_ps (ps_indexAddr (j := 1) rfl rfl rfl (by omega)) rfl ?_
      | refine sg_ps (ps_indexAddr_arr rfl rfl rfl (by omega)) rfl ?_
      | refine sg_load_whole 0 rfl rfl rfl rfl ?_
      | refine sg_load_whole 1 rfl rfl rfl rfl ?_
      | refine sg_load_whole 2 rfl rfl rfl rfl ?_
      | refine sg_load_whole 3 rfl rfl rfl rfl ?_
      | refine sg_load_whole 4 rfl rfl rfl rfl ?_
      | refine sg_load_whole 5 rfl rfl rfl rfl ?_
      | refine sg_load_whole 6 rfl rfl rfl rfl ?_
      | refine sg_load_whole 7 rfl rfl rfl rfl ?_
      | refine sg_store_whole [] rfl rfl rfl rfl rfl ?_
      | refine sg_store_whole [_] rfl rfl rfl rfl rfl ?_
      | refine sg_store_whole [_, _] rfl rfl rfl rfl rfl ?_
      | refine sg_store_whole [_, _, _] rfl rfl rfl rfl rfl ?_
      | refine sg_store_whole [_, _, _, _] rfl rfl rfl rfl rfl ?_
      | refine sg_store_whole [_, _, _, _, _] rfl rfl rfl rfl rfl ?_
      | refine sg_store_whole [_, _, _, _, _, _] rfl rfl rfl rfl rfl ?_
      | refine sg_alloc rfl (fun al => ?_)
      | refine sg_block ?_
      | refine sg_skip ?_
      | refine sg_ret ?_
      | refine sg_exit ?_
      | refine ex_then_ret ?_
      | refine ex_then_exit ?_
      | refine ex_block_ret ?_
      | refine ex_block_normal ?_
      | refine ex_block_hit ?_
      | refine ex_block_miss rfl ?_
      | refine sg_store [] rfl rfl rfl (of_decide_eq_true rfl) ?_
      | refine sg_store [_] rfl rfl rfl (of_decide_eq_true rfl) ?_
      | refine sg_store [_, _] rfl rfl rfl (of_decide_eq_true rfl) ?_
      | refine sg_store [_, _, _] rfl rfl rfl (of_decide_eq_true rfl) ?_
      | refine sg_store [_, _, _, _] rfl rfl rfl (of_decide_eq_true rfl) ?_
      | refine sg_store [_, _, _, _, _] rfl rfl rfl (of_decide_eq_true rfl) ?_
      | refine sg_store [_, _, _, _, _, _] rfl rfl rfl (of_decide_eq_true rfl) ?_
      | refine sg_store [_, _, _, _, _, _, _] rfl rfl rfl (of_decide_eq_true rfl) ?_
      | (refine sg_guard_dec rfl rfl (fun hg => ?_) (fun hg => ?_) <;> first | (exfalso; omega) | (exact absurd rfl hg) | skip)
      | (refine sg_guard_ndec rfl rfl (fun hg => ?_) (fun hg => ?_) <;> first | (exfalso; omega) | (exact absurd rfl hg) | skip)
      | (refine sg_cond_dec rfl (fun hg => ?_) (fun hg => ?_) <;> first | (exfalso; omega) | (exact absurd rfl hg) | skip)
      | (refine sg_cond_ndec rfl (fun hg => ?_) (fun hg => ?_) <;> first | (exfalso; omega) | (exact absurd rfl hg) | skip)
      | refine sg_cond_not rfl (fun hg => ?_) (fun hg => ?_)
      | refine sg_cond rfl (fun hg => ?_) (fun hg => ?_))
    exact ex_retc 2 rfl rfl rfl rfl () rfl trivial (fun w hO => hO.tail.tail.tail.tail.tail)
def applyN (e : EN) (m : MS) : EN :=
  if e.txn ≠ 0 ∧ e.txn = m.txn then
    (if m.kind = 5 then mkE e.key e.own e.own 0 else if m.kind = 6 then mkE e.key e.old e.own 0 else mkE e.key e.old e.own e.txn)
  else mkE e.key e.old e.own e.txn
theorem apply_none (e : EN) (m : MS) (h : ¬ (m.kind = 1 ∨ m.kind = 2 ∨ (m.kind = 3 ∧ 0 ≤ m.off) ∨ m.kind = 4)) (R : List HP) :
    Tri Try.prog W 9 [e.v, m.v] R (X := Unit) (fun _ => (applyN e m).v) (fun _ => True) (fun _ => R) := by
  refine tri_enter2 Try.func9 rfl Try.ntmps9 rfl ?_
  repeat' (first
    | refine sg_wo ?_
    | refine sg_ps (ps_move rfl) rfl ?_
    | refine sg_ps (ps_assign rfl) rfl ?_
    | refine sg_seq ?_
    | refine sg_region ?_
    | refine sg_nil ?_
    | refine sg_then ?_
    | refine sg_ps (ps_fieldAddr rfl) rfl ?_
    | refine sg_ps (ps_nilCheck rfl) rfl ?_
    | refine sg_load 0 rfl rfl rfl rfl ?_
    | refine sg_load 1 rfl rfl rfl rfl ?_
    | refine sg_load 2 rfl rfl rfl rfl ?_
    | refine sg_load 3 rfl rfl rfl rfl ?_
    | refine sg_load 4 rfl rfl rfl rfl ?_
    | refine sg_load 5 rfl rfl rfl rfl ?_
    | refine sg_load 6 rfl rfl rfl rfl ?_
    | refine sg_load 7 rfl rfl rfl rfl ?_
    | refine sg_ps (ps_add64 rfl rfl (by omega)) rfl ?_
    | refine sg_ps (ps_sub64 rfl rfl (by omega)) rfl ?_
    | refine sg_ps (ps_mul64 rfl rfl (by omega)) rfl ?_
    | refine sg_ps (ps_bin rfl rfl inferInstance) rfl ?_
    | refine sg_ps (ps_rem rfl rfl (by decide)) rfl ?_
    | refine sg_ps (ps_quo64 rfl rfl (by decide) (by omega)) rfl ?_
    | refine sg_ps (ps_not rfl) rfl ?_
    | refine sg_ps (ps_conv rfl) rfl ?_
    | refine sg_ps (ps_shl rfl rfl (by decide) rfl) rfl ?_
    | refine sg_ps (ps_shr rfl rfl (by decide) rfl) rfl ?_
    | refine sg_cond_t rfl ?_
    | refine sg_cond_f rfl ?_
    | refine sg_guard_yes rfl rfl ?_
    | refine sg_guard_nf rfl rfl rfl ?_
    | refine sg_guard_nt rfl rfl rfl ?_
    | refine sg_guard_nu rfl rfl rfl ?_
    | refine sg_ps (ps_pick_t rfl rfl) rfl ?_
    | refine sg_ps (ps_pick_f rfl rfl) rfl ?_
    | refine sg_ps (ps_len rfl) rfl ?_
    | refine sg_ps (ps_len_str rfl) rfl ?_
    | refine sg_ps (ps_extract rfl rfl) rfl ?_
    | refine sg_ps (ps_field rfl rfl) rfl ?_
    | refine sg_ps (ps_min2 rfl rfl) rfl ?_
    | refine sg_ps (ps_max2 rfl rfl) rfl ?_
    | refine sg_ps (ps_build rfl rfl) rfl ?_
    | refine sg_box rfl rfl (fun bx => ?_)
    | refine sg_ps (ps_indexAddr rfl rfl rfl (by omega)) rfl ?_
    | refine sg_ps (ps_indexAddr (j := 0) rfl rfl rfl (by omega)) rfl ?_
    | refine sg_ps (ps_indexAddr (j := 1) rfl rfl rfl (by omega)) rfl ?_
    | refine sg_ps (ps_indexAddr_arr rfl rfl rfl (by omega)) rfl ?_
    | refine sg_load_whole 0 rfl rfl rfl rfl ?_
    | refine sg_load_whole 1 rfl rfl rfl rfl ?_
    | refine sg_load_whole 2 rfl rfl rfl rfl ?_
    | refine sg_load_whole 3 rfl rfl rfl rfl ?_
    | refine sg_load_whole 4 rfl rfl rfl rfl ?_
    | refine sg_load_whole 5 rfl rfl rfl rfl ?_
    | refine sg_load_whole 6 rfl rfl rfl rfl ?_
    | refine sg_load_whole 7 rfl rfl rfl rfl ?_
    | refine sg_store_whole [] rfl rfl rfl rfl rfl ?_
    | refine sg_store_whole [_] rfl rfl rfl rfl rfl ?_
    | refine sg_store_whole [_, _] rfl rfl rfl rfl rfl ?_
    | refine sg_store_whole [_, _, _] rfl rfl rfl rfl rfl ?_
    | refine sg_store_whole [_, _, _, _] rfl rfl rfl rfl rfl ?_
    | refine sg_store_whole [_, _, _, _, _] rfl rfl rfl rfl rfl ?_
    | refine sg_store_whole [_, _, _, _, _, _] rfl rfl rfl rfl rfl ?_
    | refine sg_alloc rfl (fun al => ?_)
    | refine sg_block ?_
    | refine sg_skip ?_
    | refine sg_ret ?_
    | refine sg_exit ?_
    | refine ex_then_ret ?_
    | refine ex_then_exit ?_
    | refine ex_block_ret ?_
    | refine ex_block_normal ?_
    | refine ex_block_hit ?_
    | refine ex_block_miss rfl ?_
    | refine sg_store [] rfl rfl rfl (of_decide_eq_true rfl) ?_
    | refine sg_store [_] rfl rfl rfl (of_decide_eq_true rfl) ?_
    | refine sg_store [_, _] rfl rfl rfl (of_decide_eq_true rfl) ?_
    | refine sg_store [_, _, _] rfl rfl rfl (of_decide_eq_true rfl) ?_
    | refine sg_store [_, _, _, _] rfl rfl rfl (of_decide_eq_true rfl) ?_
    | refine sg_store [_, _, _, _, _] rfl rfl rfl (of_decide_eq_true rfl) ?_
    | refine sg_store [_, _, _, _, _, _] rfl rfl rfl (of_decide_eq_true rfl) ?_
    | refine sg_store [_, _, _, _, _, _, _] rfl rfl rfl (of_decide_eq_true rfl) ?_
    | (refine sg_guard_dec rfl rfl (fun hg => ?_) (fun hg => ?_) <;> first | (exfalso; omega) | (exact absurd rfl hg) | skip)
    | (refine sg_guard_ndec rfl rfl (fun hg => ?_) (fun hg => ?_) <;> first | (exfalso; omega) | (exact absurd rfl hg) | skip)
    | (refine sg_cond_dec rfl (fun hg => ?_) (fun hg => ?_) <;> first | (exfalso; omega) | (exact absurd rfl hg) | skip)
    | (refine sg_cond_ndec rfl (fun hg => ?_) (fun hg => ?_) <;> first | (exfalso; omega) | (exact absurd rfl hg) | skip)
    | refine sg_cond_not rfl (fun hg => ?_) (fun hg => ?_)
    | refine sg_cond rfl (fun hg => ?_) (fun hg => ?_))
  rename_i be
  revert bx al
  intro bm br
  refine sg_call (parts_tri e _) rfl rfl (fun _ _ => ?_)
  repeat' (first
    | refine sg_wo ?_
    | refine sg_ps (ps_move rfl) rfl ?_
    | refine sg_ps (ps_assign rfl) rfl ?_
    | refine sg_seq ?_
    | refine sg_region ?_
    | refine sg_nil ?_
    | refine sg_then ?_
    | refine sg_ps (ps_fieldAddr rfl) rfl ?_
    | refine sg_ps (ps_nilCheck rfl) rfl ?_
    | refine sg_load 0 rfl rfl rfl rfl ?_
    | refine sg_load 1 rfl rfl rfl rfl ?_
    | refine sg_load 2 rfl rfl rfl rfl ?_
    | refine sg_load 3 rfl rfl rfl rfl ?_
    | refine sg_load 4 rfl rfl rfl rfl ?_
    | refine sg_load 5 rfl rfl rfl rfl ?_
    | refine sg_load 6 rfl rfl rfl rfl ?_
    | refine sg_load 7 rfl rfl rfl rfl ?_
    | refine sg_ps (ps_add64 rfl rfl (by omega)) rfl ?_
    | refine sg_ps (ps_sub64 rfl rfl (by omega)) rfl ?_
    | refine sg_ps (ps_mul64 rfl rfl (by omega)) rfl ?_
    | refine sg_ps (ps_bin rfl rfl inferInstance) rfl ?_
    | refine sg_ps (ps_rem rfl rfl (by decide)) rfl ?_
    | refine sg_ps (ps_quo64 rfl rfl (by decide) (by omega)) rfl ?_
    | refine sg_ps (ps_not rfl) rfl ?_
    | refine sg_ps (ps_conv rfl) rfl ?_
    | refine sg_ps (ps_shl rfl rfl (by decide) rfl) rfl ?_
    | refine sg_ps (ps_shr rfl rfl (by decide) rfl) rfl ?_
    | refine sg_cond_t rfl ?_
    | refine sg_cond_f rfl ?_
    | refine sg_guard_yes rfl rfl ?_
    | refine sg_guard_nf rfl rfl rfl ?_
    | refine sg_guard_nt rfl rfl rfl ?_
    | refine sg_guard_nu rfl rfl rfl ?_
    | refine sg_ps (ps_pick_t rfl rfl) rfl ?_
    | refine sg_ps (ps_pick_f rfl rfl) rfl ?_
    | refine sg_ps (ps_len rfl) rfl ?_
    | refine sg_ps (ps_len_str rfl) rfl ?_
    | refine sg_ps (ps_extract rfl rfl) rfl ?_
    | refine sg_ps (ps_field rfl rfl) rfl ?_
    | refine sg_ps (ps_min2 rfl rfl) rfl ?_
    | refine sg_ps (ps_max2 rfl rfl) rfl ?_
    | refine sg_ps (ps_build rfl rfl) rfl ?_
    | refine sg_box rfl rfl (fun bx => ?_)
    | refine sg_ps (ps_indexAddr rfl rfl rfl (by omega)) rfl ?_
    | refine sg_ps (ps_indexAddr (j := 0) rfl rfl rfl (by omega)) rfl ?_
    | refine sg_ps (ps_indexAddr (j := 1) rfl rfl rfl (by omega)) rfl ?_
    | refine sg_ps (ps_indexAddr_arr rfl rfl rfl (by omega)) rfl ?_
    | refine sg_load_whole 0 rfl rfl rfl rfl ?_
    | refine sg_load_whole 1 rfl rfl rfl rfl ?_
    | refine sg_load_whole 2 rfl rfl rfl rfl ?_
    | refine sg_load_whole 3 rfl rfl rfl rfl ?_
    | refine sg_load_whole 4 rfl rfl rfl rfl ?_
    | refine sg_load_whole 5 rfl rfl rfl rfl ?_
    | refine sg_load_whole 6 rfl rfl rfl rfl ?_
    | refine sg_load_whole 7 rfl rfl rfl rfl ?_
    | refine sg_store_whole [] rfl rfl rfl rfl rfl ?_
    | refine sg_store_whole [_] rfl rfl rfl rfl rfl ?_
    | refine sg_store_whole [_, _] rfl rfl rfl rfl rfl ?_
    | refine sg_store_whole [_, _, _] rfl rfl rfl rfl rfl ?_
    | refine sg_store_whole [_, _, _, _] rfl rfl rfl rfl rfl ?_
    | refine sg_store_whole [_, _, _, _, _] rfl rfl rfl rfl rfl ?_
    | refine sg_store_whole [_, _, _, _, _, _] rfl rfl rfl rfl rfl ?_
    | refine sg_alloc rfl (fun al => ?_)
    | refine sg_block ?_
    | refine sg_skip ?_
    | refine sg_ret ?_
    | refine sg_exit ?_
    | refine ex_then_ret ?_
    | refine ex_then_exit ?_
    | refine ex_block_ret ?_
    | refine ex_block_normal ?_
    | refine ex_block_hit ?_
    | refine ex_block_miss rfl ?_
    | refine sg_store [] rfl rfl rfl (of_decide_eq_true rfl) ?_
    | refine sg_store [_] rfl rfl rfl (of_decide_eq_true rfl) ?_
    | refine sg_store [_, _] rfl rfl rfl (of_decide_eq_true rfl) ?_
    | refine sg_store [_, _, _] rfl rfl rfl (of_decide_eq_true rfl) ?_
    | refine sg_store [_, _, _, _] rfl rfl rfl (of_decide_eq_true rfl) ?_
    | refine sg_store [_, _, _, _, _] rfl rfl rfl (of_decide_eq_true rfl) ?_
    | refine sg_store [_, _, _, _, _, _] rfl rfl rfl (of_decide_eq_true rfl) ?_
    | refine sg_store [_, _, _, _, _, _, _] rfl rfl rfl (of_decide_eq_true rfl) ?_
    | (refine sg_guard_dec rfl rfl (fun hg => ?_) (fun hg => ?_) <;> first | (exfalso; omega) | (exact absurd rfl hg) | skip)
    | (refine sg_guard_ndec rfl rfl (fun hg => ?_) (fun hg => ?_) <;> first | (exfalso; omega) | (exact absurd rfl hg) | skip)
    | (refine sg_cond_dec rfl (fun hg => ?_) (fun hg => ?_) <;> first | (exfalso; omega) | (exact absurd rfl hg) | skip)
    | (refine sg_cond_ndec rfl (fun hg => ?_) (fun hg => ?_) <;> first | (exfalso; omega) | (exact absurd rfl hg) | skip)
    | refine sg_cond_not rfl (fun hg => ?_) (fun hg => ?_)
    | refine sg_cond rfl (fun hg => ?_) (fun hg => ?_))
  rename_i bo
  revert al
  intro bw
  refine sg_call (worker_nil m h _) rfl rfl (fun _ _ => ?_)
  repeat' (first
    | refine sg_wo ?_
    | refine sg_ps (ps_move rfl) rfl ?_
    | refine sg_ps (ps_assign rfl) rfl ?_
    | refine sg_seq ?_
    | refine sg_region ?_
    | refine sg_nil ?_
    | refine sg_then ?_
    | refine sg_ps (ps_fieldAddr rfl) rfl ?_
    | refine sg_ps (ps_nilCheck rfl) rfl ?_
    | refine sg_load 0 rfl rfl rfl rfl ?_
    | refine sg_load 1 rfl rfl rfl rfl ?_
    | refine sg_load 2 rfl rfl rfl rfl ?_
    | refine sg_load 3 rfl rfl rfl rfl ?_
    | refine sg_load 4 rfl rfl rfl rfl ?_
    | refine sg_load 5 rfl rfl rfl rfl ?_
    | refine sg_load 6 rfl rfl rfl rfl ?_
    | refine sg_load 7 rfl rfl rfl rfl ?_
    | refine sg_ps (ps_add64 rfl rfl (by omega)) rfl ?_
    | refine sg_ps (ps_sub64 rfl rfl (by omega)) rfl ?_
    | refine sg_ps (ps_mul64 rfl rfl (by omega)) rfl ?_
    | refine sg_ps (ps_bin rfl rfl inferInstance) rfl ?_
    | refine sg_ps (ps_rem rfl rfl (by decide)) rfl ?_
    | refine sg_ps (ps_quo64 rfl rfl (by decide) (by omega)) rfl ?_
    | refine sg_ps (ps_not rfl) rfl ?_
    | refine sg_ps (ps_conv rfl) rfl ?_
    | refine sg_ps (ps_shl rfl rfl (by decide) rfl) rfl ?_
    | refine sg_ps (ps_shr rfl rfl (by decide) rfl) rfl ?_
    | refine sg_cond_t rfl ?_
    | refine sg_cond_f rfl ?_
    | refine sg_guard_yes rfl rfl ?_
    | refine sg_guard_nf rfl rfl rfl ?_
    | refine sg_guard_nt rfl rfl rfl ?_
    | refine sg_guard_nu rfl rfl rfl ?_
    | refine sg_ps (ps_pick_t rfl rfl) rfl ?_
    | refine sg_ps (ps_pick_f rfl rfl) rfl ?_
    | refine sg_ps (ps_len rfl) rfl ?_
    | refine sg_ps (ps_len_str rfl) rfl ?_
    | refine sg_ps (ps_extract rfl rfl) rfl ?_
    | refine sg_ps (ps_field rfl rfl) rfl ?_
    | refine sg_ps (ps_min2 rfl rfl) rfl ?_
    | refine sg_ps (ps_max2 rfl rfl) rfl ?_
    | refine sg_ps (ps_build rfl rfl) rfl ?_
    | refine sg_box rfl rfl (fun bx => ?_)
    | refine sg_ps (ps_indexAddr rfl rfl rfl (by omega)) rfl ?_
    | refine sg_ps (ps_indexAddr (j := 0) rfl rfl rfl (by omega)) rfl ?_
    | refine sg_ps (ps_indexAddr (j := 1) rfl rfl rfl (by omega)) rfl ?_
    | refine sg_ps (ps_indexAddr_arr rfl rfl rfl (by omega)) rfl ?_
    | refine sg_load_whole 0 rfl rfl rfl rfl ?_
    | refine sg_load_whole 1 rfl rfl rfl rfl ?_
    | refine sg_load_whole 2 rfl rfl rfl rfl ?_
    | refine sg_load_whole 3 rfl rfl rfl rfl ?_
    | refine sg_load_whole 4 rfl rfl rfl rfl ?_
    | refine sg_load_whole 5 rfl rfl rfl rfl ?_
    | refine sg_load_whole 6 rfl rfl rfl rfl ?_
    | refine sg_load_whole 7 rfl rfl rfl rfl ?_
    | refine sg_store_whole [] rfl rfl rfl rfl rfl ?_
    | refine sg_store_whole [_] rfl rfl rfl rfl rfl ?_
    | refine sg_store_whole [_, _] rfl rfl rfl rfl rfl ?_
    | refine sg_store_whole [_, _, _] rfl rfl rfl rfl rfl ?_
    | refine sg_store_whole [_, _, _, _] rfl rfl rfl rfl rfl ?_
    | refine sg_store_whole [_, _, _, _, _] rfl rfl rfl rfl rfl ?_
    | refine sg_store_whole [_, _, _, _, _, _] rfl rfl rfl rfl rfl ?_
    | refine sg_alloc rfl (fun al => ?_)
    | refine sg_block ?_
    | refine sg_skip ?_
    | refine sg_ret ?_
    | refine sg_exit ?_
    | refine ex_then_ret ?_
    | refine ex_then_exit ?_
    | refine ex_block_ret ?_
    | refine ex_block_normal ?_
    | refine ex_block_hit ?_
    | refine ex_block_miss rfl ?_
    | refine sg_store [] rfl rfl rfl (of_decide_eq_true rfl) ?_
    | refine sg_store [_] rfl rfl rfl (of_decide_eq_true rfl) ?_
    | refine sg_store [_, _] rfl rfl rfl (of_decide_eq_true rfl) ?_
    | refine sg_store [_, _, _] rfl rfl rfl (of_decide_eq_true rfl) ?_
    | refine sg_store [_, _, _, _] rfl rfl rfl (of_decide_eq_true rfl) ?_
    | refine sg_store [_, _, _, _, _] rfl rfl rfl (of_decide_eq_true rfl) ?_
    | refine sg_store [_, _, _, _, _, _] rfl rfl rfl (of_decide_eq_true rfl) ?_
    | refine sg_store [_, _, _, _, _, _, _] rfl rfl rfl (of_decide_eq_true rfl) ?_
    | (refine sg_guard_dec rfl rfl (fun hg => ?_) (fun hg => ?_) <;> first | (exfalso; omega) | (exact absurd rfl hg) | skip)
    | (refine sg_guard_ndec rfl rfl (fun hg => ?_) (fun hg => ?_) <;> first | (exfalso; omega) | (exact absurd rfl hg) | skip)
    | (refine sg_cond_dec rfl (fun hg => ?_) (fun hg => ?_) <;> first | (exfalso; omega) | (exact absurd rfl hg) | skip)
    | (refine sg_cond_ndec rfl (fun hg => ?_) (fun hg => ?_) <;> first | (exfalso; omega) | (exact absurd rfl hg) | skip)
    | refine sg_cond_not rfl (fun hg => ?_) (fun hg => ?_)
    | refine sg_cond rfl (fun hg => ?_) (fun hg => ?_))
  · have e' : applyN e m = mkE e.key e.own e.own 0 := by unfold applyN; rw [if_pos ⟨by omega, by omega⟩, if_pos (by omega)]
    rw [e']
    refine sg_call (entry_tri e.key e.own e.own 0 _) rfl rfl (fun _ _ => ?_)
    repeat' (first
      | refine sg_wo ?_
      | refine sg_ps (ps_move rfl) rfl ?_
      | refine sg_ps (ps_assign rfl) rfl ?_
      | refine sg_seq ?_
      | refine sg_region ?_
      | refine sg_nil ?_
      | refine sg_then ?_
      | refine sg_ps (ps_fieldAddr rfl) rfl ?_
      | refine sg_ps (ps_nilCheck rfl) rfl ?_
      | refine sg_load 0 rfl rfl rfl rfl ?_
      | refine sg_load 1 rfl rfl rfl rfl ?_
      | refine sg_load 2 rfl rfl rfl rfl ?_
      | refine sg_load 3 rfl rfl rfl rfl ?_
      | refine sg_load 4 rfl rfl rfl rfl ?_
      | refine sg_load 5 rfl rfl rfl rfl ?_
      | refine sg_load 6 rfl rfl rfl rfl ?_
      | refine sg_load 7 rfl rfl rfl rfl ?_
      | refine sg_ps (ps_add64 rfl rfl (by omega)) rfl ?_
      | refine sg_ps (ps_sub64 rfl rfl (by omega)) rfl ?_
      | refine sg_ps (ps_mul64 rfl rfl (by omega)) rfl ?_
      | refine sg_ps (ps_bin rfl rfl inferInstance) rfl ?_
      | refine sg_ps (ps_rem rfl rfl (by decide)) rfl ?_
      | refine sg_ps (ps_quo64 rfl rfl (by decide) (by omega)) rfl ?_
      | refine sg_ps (ps_not rfl) rfl ?_
      | refine sg_ps (ps_conv rfl) rfl ?_
      | refine sg_ps (ps_shl rfl rfl (by decide) rfl) rfl ?_
      | refine sg_ps (ps_shr rfl rfl (by decide) rfl) rfl ?_
      | refine sg_cond_t rfl ?_
      | refine sg_cond_f rfl ?_
      | refine sg_guard_yes rfl rfl ?_
      | refine sg_guard_nf rfl rfl rfl ?_
      | refine sg_guard_nt rfl rfl rfl ?_
      | refine sg_guard_nu rfl rfl rfl ?_
      | refine sg_ps (ps_pick_t rfl rfl) rfl ?_
      | refine sg_ps (ps_pick_f rfl rfl) rfl ?_
      | refine sg_ps (ps_len rfl) rfl ?_
      | refine sg_ps (ps_len_str rfl) rfl ?_
      | refine sg_ps (ps_extract rfl rfl) rfl ?_
      | refine sg_ps (ps_field rfl rfl) rfl ?_
      | refine sg_ps (ps_min2 rfl rfl) rfl ?_
      | refine sg_ps (ps_max2 rfl rfl) rfl ?_
      | refine sg_ps (ps_build rfl rfl) rfl ?_
      | refine sg_box rfl rfl (fun bx => ?_)
      | refine sg_ps (ps_indexAddr rfl rfl rfl (by omega)) rfl ?_
      | refine sg_ps (ps_indexAddr (j := 0) rfl rfl rfl (by omega)) rfl ?_
      | refine sg_ps (ps_indexAddr (j := 1) rfl rfl rfl (by omega)) rfl ?_
      | refine sg_ps (ps_indexAddr_arr rfl rfl rfl (by omega)) rfl ?_
      | refine sg_load_whole 0 rfl rfl rfl rfl ?_
      | refine sg_load_whole 1 rfl rfl rfl rfl ?_
      | refine sg_load_whole 2 rfl rfl rfl rfl ?_
      | refine sg_load_whole 3 rfl rfl rfl rfl ?_
      | refine sg_load_whole 4 rfl rfl rfl rfl ?_
      | refine sg_load_whole 5 rfl rfl rfl rfl ?_
      | refine sg_load_whole 6 rfl rfl rfl rfl ?_
      | refine sg_load_whole 7 rfl rfl rfl rfl ?_
      | refine sg_store_whole [] rfl rfl rfl rfl rfl ?_
      | refine sg_store_whole [_] rfl rfl rfl rfl rfl ?_
      | refine sg_store_whole [_, _] rfl rfl rfl rfl rfl ?_
      | refine sg_store_whole [_, _, _] rfl rfl rfl rfl rfl ?_
      | refine sg_store_whole [_, _, _, _] rfl rfl rfl rfl rfl ?_
      | refine sg_store_whole [_, _, _, _, _] rfl rfl rfl rfl rfl ?_
      | refine sg_store_whole [_, _, _, _, _, _] rfl rfl rfl rfl rfl ?_
      | refine sg_alloc rfl (fun al => ?_)
      | refine sg_block ?_
      | refine sg_skip ?_
      | refine sg_ret ?_
      | refine sg_exit ?_
      | refine ex_then_ret ?_
      | refine ex_then_exit ?_
      | refine ex_block_ret ?_
      | refine ex_block_normal ?_
      | refine ex_block_hit ?_
      | refine ex_block_miss rfl ?_
      | refine sg_store [] rfl rfl rfl (of_decide_eq_true rfl) ?_
      | refine sg_store [_] rfl rfl rfl (of_decide_eq_true rfl) ?_
      | refine sg_store [_, _] rfl rfl rfl (of_decide_eq_true rfl) ?_
      | refine sg_store [_, _, _] rfl rfl rfl (of_decide_eq_true rfl) ?_
      | refine sg_store [_, _, _, _] rfl rfl rfl (of_decide_eq_true rfl) ?_
      | refine sg_store [_, _, _, _, _] rfl rfl rfl (of_decide_eq_true rfl) ?_
      | refine sg_store [_, _, _, _, _, _] rfl rfl rfl (of_decide_eq_true rfl) ?_
      | refine sg_store [_, _, _, _, _, _, _] rfl rfl rfl (of_decide_eq_true rfl) ?_
      | (refine sg_guard_dec rfl rfl (fun hg => ?_) (fun hg => ?_) <;> first | (exfalso; omega) | (exact absurd rfl hg) | skip)
      | (refine sg_guard_ndec rfl rfl (fun hg => ?_) (fun hg => ?_) <;> first | (exfalso; omega) | (exact absurd rfl hg) | skip)
      | (refine sg_cond_dec rfl (fun hg => ?_) (fun hg => ?_) <;> first | (exfalso; omega) | (exact absurd rfl hg) | skip)
      | (refine sg_cond_ndec rfl (fun hg => ?_) (fun hg => ?_) <;> first | (exfalso; omega) | (exact absurd rfl hg) | skip)
      | refine sg_cond_not rfl (fun hg => ?_) (fun hg => ?_)
      | refine sg_cond rfl (fun hg => ?_) (fun hg => ?_))
    exact ex_retc 2 rfl rfl rfl rfl () rfl trivial (fun w hO => hO.tail.tail.tail.tail.tail)
  · have e' : applyN e m = mkE e.key e.old e.own 0 := by unfold applyN; rw [if_pos ⟨by omega, by omega⟩, if_neg (by omega), if_pos (by omega)]
    rw [e']
    refine sg_call (entry_tri e.key e.old e.own 0 _) rfl rfl (fun _ _ => ?_)
    repeat' (first
      | refine sg_wo ?_
      | refine sg_ps (ps_move rfl) rfl ?_
      | refine sg_ps (ps_assign rfl) rfl ?_
      | refine sg_seq ?_
      | refine sg_region ?_
      | refine sg_nil ?_
      | refine sg_then ?_
      | refine sg_ps (ps_fieldAddr rfl) rfl ?_
      | refine sg_ps (ps_nilCheck rfl) rfl ?_
      | refine sg_load 0 rfl rfl rfl rfl ?_
      | refine sg_load 1 rfl rfl rfl rfl ?_
      | refine sg_load 2 rfl rfl rfl rfl ?_
      | refine sg_load 3 rfl rfl rfl rfl ?_
      | refine sg_load 4 rfl rfl rfl rfl ?_
      | refine sg_load 5 rfl rfl rfl rfl ?_
      | refine sg_load 6 rfl rfl rfl rfl ?_
      | refine sg_load 7 rfl rfl rfl rfl ?_
      | refine sg_ps (ps_add64 rfl rfl (by omega)) rfl ?_
      | refine sg_ps (ps_sub64 rfl rfl (by omega)) rfl ?_
      | refine sg_ps (ps_mul64 rfl rfl (by omega)) rfl ?_
      | refine sg_ps (ps_bin rfl rfl inferInstance) rfl ?_
      | refine sg_ps (ps_rem rfl rfl (by decide)) rfl ?_
      | refine sg_ps (ps_quo64 rfl rfl (by decide) (by omega)) rfl ?_
      | refine sg_ps (ps_not rfl) rfl ?_
      | refine sg_ps (ps_conv rfl) rfl ?_
      | refine sg_ps (ps_shl rfl rfl (by decide) rfl) rfl ?_
      | refine sg_ps (ps_shr rfl rfl (by decide) rfl) rfl ?_
      | refine sg_cond_t rfl ?_
      | refine sg_cond_f rfl ?_
      | refine sg_guard_yes rfl rfl ?_
      | refine sg_guard_nf rfl rfl rfl ?_
      | refine sg_guard_nt rfl rfl rfl ?_
      | refine sg_guard_nu rfl rfl rfl ?_
      | refine sg_ps (ps_pick_t rfl rfl) rfl ?_
      | refine sg_ps (ps_pick_f rfl rfl) rfl ?_
      | refine sg_ps (ps_len rfl) rfl ?_
      | refine sg_ps (ps_len_str rfl) rfl ?_
      | refine sg_ps (ps_extract rfl rfl) rfl ?_
      | refine sg_ps (ps_field rfl rfl) rfl ?_
      | refine sg_ps (ps_min2 rfl rfl) rfl ?_
      | refine sg_ps (ps_max2 rfl rfl) rfl ?_
      | refine sg_ps (ps_build rfl rfl) rfl ?_
      | refine sg_box rfl rfl (fun bx => ?_)
      | refine sg_ps (ps_indexAddr rfl rfl rfl (by omega)) rfl ?_
      | refine sg_ps (ps_indexAddr (j := 0) rfl rfl rfl (by omega)) rfl ?_
      | refine sg_ps (ps_indexAddr (j := 1) rfl rfl rfl (by omega)) rfl ?_
      | refine sg_ps (ps_indexAddr_arr rfl rfl rfl (by omega)) rfl ?_
      | refine sg_load_whole 0 rfl rfl rfl rfl ?_
      | refine sg_load_whole 1 rfl rfl rfl rfl ?_
      | refine sg_load_whole 2 rfl rfl rfl rfl ?_
      | refine sg_load_whole 3 rfl rfl rfl rfl ?_
      | refine sg_load_whole 4 rfl rfl rfl rfl ?_
      | refine sg_load_whole 5 rfl rfl rfl rfl ?_
      | refine sg_load_whole 6 rfl rfl rfl rfl ?_
      | refine sg_load_whole 7 rfl rfl rfl rfl ?_
      | refine sg_store_whole [] rfl rfl rfl rfl rfl ?_
      | refine sg_store_whole [_] rfl rfl rfl rfl rfl ?_
      | refine sg_store_whole [_, _] rfl rfl rfl rfl rfl ?_
      | refine sg_store_whole [_, _, _] rfl rfl rfl rfl rfl ?_
      | refine sg_store_whole [_, _, _, _] rfl rfl rfl rfl rfl ?_
      | refine sg_store_whole [_, _, _, _, _] rfl rfl rfl rfl rfl ?_
      | refine sg_store_whole [_, _, _, _, _, _] rfl rfl rfl rfl rfl ?_
      | refine sg_alloc rfl (fun al => ?_)
      | refine sg_block ?_
      | refine sg_skip ?_
      | refine sg_ret ?_
      | refine sg_exit ?_
      | refine ex_then_ret ?_
      | refine ex_then_exit ?_
      | refine ex_block_ret ?_
      | refine ex_block_normal ?_
      | refine ex_block_hit ?_
      | refine ex_block_miss rfl ?_
      | refine sg_store [] rfl rfl rfl (of_decide_eq_true rfl) ?_
      | refine sg_store [_] rfl rfl rfl (of_decide_eq_true rfl) ?_
      | refine sg_store [_, _] rfl rfl rfl (of_decide_eq_true rfl) ?_
      | refine sg_store [_, _, _] rfl rfl rfl (of_decide_eq_true rfl) ?_
      | refine sg_store [_, _, _, _] rfl rfl rfl (of_decide_eq_true rfl) ?_
      | refine sg_store [_, _, _, _, _] rfl rfl rfl (of_decide_eq_true rfl) ?_
      | refine sg_store [_, _, _, _, _, _] rfl rfl rfl (of_decide_eq_true rfl) ?_
      | refine sg_store [_, _, _, _, _, _, _] rfl rfl rfl (of_decide_eq_true rfl) ?_
      | (refine sg_guard_dec rfl rfl (fun hg => ?_) (fun hg => ?_) <;> first | (exfalso; omega) | (exact absurd rfl hg) | skip)
      | (refine sg_guard_ndec rfl rfl (fun hg => ?_) (fun hg => ?_) <;> first | (exfalso; omega) | (exact absurd rfl hg) | skip)
      | (refine sg_cond_dec rfl (fun hg => ?_) (fun hg => ?_) <;> first | (exfalso; omega) | (exact absurd rfl hg) | skip)
      | (refine sg_cond_ndec rfl (fun hg => ?_) (fun hg => ?_) <;> first | (exfalso; omega) | (exact absurd rfl hg) | skip)
      | refine sg_cond_not rfl (fun hg => ?_) (fun hg => ?_)
      | refine sg_cond rfl (fun hg => ?_) (fun hg => ?_))
    exact ex_retc 2 rfl rfl rfl rfl () rfl trivial (fun w hO => hO.tail.tail.tail.tail.tail)
  · have e' : applyN e m = mkE e.key e.old e.own e.txn := by unfold applyN; rw [if_pos ⟨by omega, by omega⟩, if_neg (by omega), if_neg (by omega)]
    rw [e']
    refine sg_call (entry_tri e.key e.old e.own e.txn _) rfl rfl (fun _ _ => ?_)
    repeat' (first
      | refine sg_wo ?_
      | refine sg_ps (ps_move rfl) rfl ?_
      | refine sg_ps (ps_assign rfl) rfl ?_
      | refine sg_seq ?_
      | refine sg_region ?_
      | refine sg_nil ?_
      | refine sg_then ?_
      | refine sg_ps (ps_fieldAddr rfl) rfl ?_
      | refine sg_ps (ps_nilCheck rfl) rfl ?_
      | refine sg_load 0 rfl rfl rfl rfl ?_
      | refine sg_load 1 rfl rfl rfl rfl ?_
      | refine sg_load 2 rfl rfl rfl rfl ?_
      | refine sg_load 3 rfl rfl rfl rfl ?_
      | refine sg_load 4 rfl rfl rfl rfl ?_
      | refine sg_load 5 rfl rfl rfl rfl ?_
      | refine sg_load 6 rfl rfl rfl rfl ?_
      | refine sg_load 7 rfl rfl rfl rfl ?_
      | refine sg_ps (ps_add64 rfl rfl (by omega)) rfl ?_
      | refine sg_ps (ps_sub64 rfl rfl (by omega)) rfl ?_
      | refine sg_ps (ps_mul64 rfl rfl (by omega)) rfl ?_
      | refine sg_ps (ps_bin rfl rfl inferInstance) rfl ?_
      | refine sg_ps (ps_rem rfl rfl (by decide)) rfl ?_
      | refine sg_ps (ps_quo64 rfl rfl (by decide) (by omega)) rfl ?_
      | refine sg_ps (ps_not rfl) rfl ?_
      | refine sg_ps (ps_conv rfl) rfl ?_
      | refine sg_ps (ps_shl rfl rfl (by decide) rfl) rfl ?_
      | refine sg_ps (ps_shr rfl rfl (by decide) rfl) rfl ?_
      | refine sg_cond_t rfl ?_
      | refine sg_cond_f rfl ?_
      | refine sg_guard_yes rfl rfl ?_
      | refine sg_guard_nf rfl rfl rfl ?_
      | refine sg_guard_nt rfl rfl rfl ?_
      | refine sg_guard_nu rfl rfl rfl ?_
      | refine sg_ps (ps_pick_t rfl rfl) rfl ?_
      | refine sg_ps (ps_pick_f rfl rfl) rfl ?_
      | refine sg_ps (ps_len rfl) rfl ?_
      | refine sg_ps (ps_len_str rfl) rfl ?_
      | refine sg_ps (ps_extract rfl rfl) rfl ?_
      | refine sg_ps (ps_field rfl rfl) rfl ?_
      | refine sg_ps (ps_min2 rfl rfl) rfl ?_
      | refine sg_ps (ps_max2 rfl rfl) rfl ?_
      | refine sg_ps (ps_build rfl rfl) rfl ?_
      | refine sg_box rfl rfl (fun bx => ?_)
      | refine sg_ps (ps_indexAddr rfl rfl rfl (by omega)) rfl ?_
      | refine sg_ps (ps_indexAddr (j := 0) rfl rfl rfl (by omega)) rfl ?_
      | refine sg_ps (ps_indexAddr (j := 1) rfl rfl rfl (by omega)) rfl ?_
      | refine sg_ps (ps_indexAddr_arr rfl rfl rfl (by omega)) rfl ?_
      | refine sg_load_whole 0 rfl rfl rfl rfl ?_
      | refine sg_load_whole 1 rfl rfl rfl rfl ?_
      | refine sg_load_whole 2 rfl rfl rfl rfl ?_
      | refine sg_load_whole 3 rfl rfl rfl rfl ?_
      | refine sg_load_whole 4 rfl rfl rfl rfl ?_
      | refine sg_load_whole 5 rfl rfl rfl rfl ?_
      | refine sg_load_whole 6 rfl rfl rfl rfl ?_
      | refine sg_load_whole 7 rfl rfl rfl rfl ?_
      | refine sg_store_whole [] rfl rfl rfl rfl rfl ?_
      | refine sg_store_whole [_] rfl rfl rfl rfl rfl ?_
      | refine sg_store_whole [_, _] rfl rfl rfl rfl rfl ?_
      | refine sg_store_whole [_, _, _] rfl rfl rfl rfl rfl ?_
      | refine sg_store_whole [_, _, _, _] rfl rfl rfl rfl rfl ?_
      | refine sg_store_whole [_, _, _, _, _] rfl rfl rfl rfl rfl ?_
      | refine sg_store_whole [_, _, _, _, _, _] rfl rfl rfl rfl rfl ?_
      | refine sg_alloc rfl (fun al => ?_)
      | refine sg_block ?_
      | refine sg_skip ?_
      | refine sg_ret ?_
      | refine sg_exit ?_
      | refine ex_then_ret ?_
      | refine ex_then_exit ?_
      | refine ex_block_ret ?_
      | refine ex_block_normal ?_
      | refine ex_block_hit ?_
      | refine ex_block_miss rfl ?_
      | refine sg_store [] rfl rfl rfl (of_decide_eq_true rfl) ?_
      | refine sg_store [_] rfl rfl rfl (of_decide_eq_true rfl) ?_
      | refine sg_store [_, _] rfl rfl rfl (of_decide_eq_true rfl) ?_
      | refine sg_store [_, _, _] rfl rfl rfl (of_decide_eq_true rfl) ?_
      | refine sg_store [_, _, _, _] rfl rfl rfl (of_decide_eq_true rfl) ?_
      | refine sg_store [_, _, _, _, _] rfl rfl rfl (of_decide_eq_true rfl) ?_
      | refine sg_store [_, _, _, _, _, _] rfl rfl rfl (of_decide_eq_true rfl) ?_
      | refine sg_store [_, _, _, _, _, _, _] rfl rfl rfl (of_decide_eq_true rfl) ?_
      | (refine sg_guard_dec rfl rfl (fun hg => ?_) (fun hg => ?_) <;> first | (exfalso; omega) | (exact absurd rfl hg) | skip)
      | (refine sg_guard_ndec rfl rfl (fun hg => ?_) (fun hg => ?_) <;> first | (exfalso; omega) | (exact absurd rfl hg) | skip)
      | (refine sg_cond_dec rfl (fun hg => ?_) (fun hg => ?_) <;> first | (exfalso; omega) | (exact absurd rfl hg) | skip)
      | (refine sg_cond_ndec rfl (fun hg => ?_) (fun hg => ?_) <;> first | (exfalso; omega) | (exact absurd rfl hg) | skip)
      | refine sg_cond_not rfl (fun hg => ?_) (fun hg => ?_)
      | refine sg_cond rfl (fun hg => ?_) (fun hg => ?_))
    exact ex_retc 2 rfl rfl rfl rfl () rfl trivial (fun w hO => hO.tail.tail.tail.tail.tail)
  · have e' : applyN e m = mkE e.key e.old e.own e.txn := by unfold applyN; rw [if_neg (by omega)]
    rw [e']
    refine sg_call (entry_tri e.key e.old e.own e.txn _) rfl rfl (fun _ _ => ?_)
    repeat' (first
      | refine sg_wo ?_
      | refine sg_ps (ps_move rfl) rfl ?_
      | refine sg_ps (ps_assign rfl) rfl ?_
      | refine sg_seq ?_
      | refine sg_region ?_
      | refine sg_nil ?_
      | refine sg_then ?_
      | refine sg_ps (ps_fieldAddr rfl) rfl ?_
      | refine sg_ps (ps_nilCheck rfl) rfl ?_
      | refine sg_load 0 rfl rfl rfl rfl ?_
      | refine sg_load 1 rfl rfl rfl rfl ?_
      | refine sg_load 2 rfl rfl rfl rfl ?_
      | refine sg_load 3 rfl rfl rfl rfl ?_
      | refine sg_load 4 rfl rfl rfl rfl ?_
      | refine sg_load 5 rfl rfl rfl rfl ?_
      | refine sg_load 6 rfl rfl rfl rfl ?_
      | refine sg_load 7 rfl rfl rfl rfl ?_
      | refine sg_ps (ps_add64 rfl rfl (by omega)) rfl ?_
      | refine sg_ps (ps_sub64 rfl rfl (by omega)) rfl ?_
      | refine sg_ps (ps_mul64 rfl rfl (by omega)) rfl ?_
      | refine sg_ps (ps_bin rfl rfl inferInstance) rfl ?_
      | refine sg_ps (ps_rem rfl rfl (by decide)) rfl ?_
      | refine sg_ps (ps_quo64 rfl rfl (by decide) (by omega)) rfl ?_
      | refine sg_ps (ps_not rfl) rfl ?_
      | refine sg_ps (ps_conv rfl) rfl ?_
      | refine sg_ps (ps_shl rfl rfl (by decide) rfl) rfl ?_
      | refine sg_ps (ps_shr rfl rfl (by decide) rfl) rfl ?_
      | refine sg_cond_t rfl ?_
      | refine sg_cond_f rfl ?_
      | refine sg_guard_yes rfl rfl ?_
      | refine sg_guard_nf rfl rfl rfl ?_
      | refine sg_guard_nt rfl rfl rfl ?_
      | refine sg_guard_nu rfl rfl rfl ?_
      | refine sg_ps (ps_pick_t rfl rfl) rfl ?_
      | refine sg_ps (ps_pick_f rfl rfl) rfl ?_
      | refine sg_ps (ps_len rfl) rfl ?_
      | refine sg_ps (ps_len_str rfl) rfl ?_
      | refine sg_ps (ps_extract rfl rfl) rfl ?_
      | refine sg_ps (ps_field rfl rfl) rfl ?_
      | refine sg_ps (ps_min2 rfl rfl) rfl ?_
      | refine sg_ps (ps_max2 rfl rfl) rfl ?_
      | refine sg_ps (ps_build rfl rfl) rfl ?_
      | refine sg_box rfl rfl (fun bx => ?_)
      | refine sg_ps (ps_indexAddr rfl rfl rfl (by omega)) rfl ?_
      | refine sg_ps (ps_indexAddr (j := 0) rfl rfl rfl (by omega)) rfl ?_
      | refine sg_ps (ps_indexAddr (j := 1) rfl rfl rfl (by omega)) rfl ?_
      | refine sg_ps (ps_indexAddr_arr rfl rfl rfl (by omega)) rfl ?_
      | refine sg_load_whole 0 rfl rfl rfl rfl ?_
      | refine sg_load_whole 1 rfl rfl rfl rfl ?_
      | refine sg_load_whole 2 rfl rfl rfl rfl ?_
      | refine sg_load_whole 3 rfl rfl rfl rfl ?_
      | refine sg_load_whole 4 rfl rfl rfl rfl ?_
      | refine sg_load_whole 5 rfl rfl rfl rfl ?_
      | refine sg_load_whole 6 rfl rfl rfl rfl ?_
      | refine sg_load_whole 7 rfl rfl rfl rfl ?_
      | refine sg_store_whole [] rfl rfl rfl rfl rfl ?_
      | refine sg_store_whole [_] rfl rfl rfl rfl rfl ?_
      | refine sg_store_whole [_, _] rfl rfl rfl rfl rfl ?_
      | refine sg_store_whole [_, _, _] rfl rfl rfl rfl rfl ?_
      | refine sg_store_whole [_, _, _, _] rfl rfl rfl rfl rfl ?_
      | refine sg_store_whole [_, _, _, _, _] rfl rfl rfl rfl rfl ?_
      | refine sg_store_whole [_, _, _, _, _, _] rfl rfl rfl rfl rfl ?_
      | refine sg_alloc rfl (fun al => ?_)
      | refine sg_block ?_
      | refine sg_skip ?_
      | refine sg_ret ?_
      | refine sg_exit ?_
      | refine ex_then_ret ?_
      | refine ex_then_exit ?_
      | refine ex_block_ret ?_
      | refine ex_block_normal ?_
      | refine ex_block_hit ?_
      | refine ex_block_miss rfl ?_
      | refine sg_store [] rfl rfl rfl (of_decide_eq_true rfl) ?_
      | refine sg_store [_] rfl rfl rfl (of_decide_eq_true rfl) ?_
      | refine sg_store [_, _] rfl rfl rfl (of_decide_eq_true rfl) ?_
      | refine sg_store [_, _, _] rfl rfl rfl (of_decide_eq_true rfl) ?_
      | refine sg_store [_, _, _, _] rfl rfl rfl (of_decide_eq_true rfl) ?_
      | refine sg_store [_, _, _, _, _] rfl rfl rfl (of_decide_eq_true rfl) ?_
      | refine sg_store [_, _, _, _, _, _] rfl rfl rfl (of_decide_eq_true rfl) ?_
      | refine sg_store [_, _, _, _, _, _, _] rfl rfl rfl (of_decide_eq_true rfl) ?_
      | (refine sg_guard_dec rfl rfl (fun hg => ?_) (fun hg => ?_) <;> first | (exfalso; omega) | (exact absurd rfl hg) | skip)
      | (refine sg_guard_ndec rfl rfl (fun hg => ?_) (fun hg => ?_) <;> first | (exfalso; omega) | (exact absurd rfl hg) | skip)
      | (refine sg_cond_dec rfl (fun hg => ?_) (fun hg => ?_) <;> first | (exfalso; omega) | (exact absurd rfl hg) | skip)
      | (refine sg_cond_ndec rfl (fun hg => ?_) (fun hg => ?_) <;> first | (exfalso; omega) | (exact absurd rfl hg) | skip)
      | refine sg_cond_not rfl (fun hg => ?_) (fun hg => ?_)
      | refine sg_cond rfl (fun hg => ?_) (fun hg => ?_))
    exact ex_retc 2 rfl rfl rfl rfl () rfl trivial (fun w hO => hO.tail.tail.tail.tail.tail)
  · have e' : applyN e m = mkE e.key e.old e.own e.txn := by unfold applyN; rw [if_neg (by omega)]
    rw [e']
    refine sg_call (entry_tri e.key e.old e.own e.txn _) rfl rfl (fun _ _ => ?_)
    repeat' (first
      | refine sg_wo ?_
      | refine sg_ps (ps_move rfl) rfl ?_
      | refine sg_ps (ps_assign rfl) rfl ?_
      | refine sg_seq ?_
      | refine sg_region ?_
      | refine sg_nil ?_
      | refine sg_then ?_
      | refine sg_ps (ps_fieldAddr rfl) rfl ?_
      | refine sg_ps (ps_nilCheck rfl) rfl ?_
      | refine sg_load 0 rfl rfl rfl rfl ?_
      | refine sg_load 1 rfl rfl rfl rfl ?_
      | refine sg_load 2 rfl rfl rfl rfl ?_
      | refine sg_load 3 rfl rfl rfl rfl ?_
      | refine sg_load 4 rfl rfl rfl rfl ?_
      | refine sg_load 5 rfl rfl rfl rfl ?_
      | refine sg_load 6 rfl rfl rfl rfl ?_
      | refine sg_load 7 rfl rfl rfl rfl ?_
      | refine sg_ps (ps_add64 rfl rfl (by omega)) rfl ?_
      | refine sg_ps (ps_sub64 rfl rfl (by omega)) rfl ?_
      | refine sg_ps (ps_mul64 rfl rfl (by omega)) rfl ?_
      | refine sg_ps (ps_bin rfl rfl inferInstance) rfl ?_
      | refine sg_ps (ps_rem rfl rfl (by decide)) rfl ?_
      | refine sg_ps (ps_quo64 rfl rfl (by decide) (by omega)) rfl ?_
      | refine sg_ps (ps_not rfl) rfl ?_
      | refine sg_ps (ps_conv rfl) rfl ?_
      | refine sg_ps (ps_shl rfl rfl (by decide) rfl) rfl ?_
      | refine sg_ps (ps_shr rfl rfl (by decide) rfl) rfl ?_
      | refine sg_cond_t rfl ?_
      | refine sg_cond_f rfl ?_
      | refine sg_guard_yes rfl rfl ?_
      | refine sg_guard_nf rfl rfl rfl ?_
      | refine sg_guard_nt rfl rfl rfl ?_
      | refine sg_guard_nu rfl rfl rfl ?_
      | refine sg_ps (ps_pick_t rfl rfl) rfl ?_
      | refine sg_ps (ps_pick_f rfl rfl) rfl ?_
      | refine sg_ps (ps_len rfl) rfl ?_
      | refine sg_ps (ps_len_str rfl) rfl ?_
      | refine sg_ps (ps_extract rfl rfl) rfl ?_
      | refine sg_ps (ps_field rfl rfl) rfl ?_
      | refine sg_ps (ps_min2 rfl rfl) rfl ?_
      | refine sg_ps (ps_max2 rfl rfl) rfl ?_
      | refine sg_ps (ps_build rfl rfl) rfl ?_
      | refine sg_box rfl rfl (fun bx => ?_)
      | refine sg_ps (ps_indexAddr rfl rfl rfl (by omega)) rfl ?_
      | refine sg_ps (ps_indexAddr (j := 0) rfl rfl rfl (by omega)) rfl ?_
      | refine sg_ps (ps_indexAddr (j := 1) rfl rfl rfl (by omega)) rfl ?_
      | refine sg_ps (ps_indexAddr_arr rfl rfl rfl (by omega)) rfl ?_
      | refine sg_load_whole 0 rfl rfl rfl rfl ?_
      | refine sg_load_whole 1 rfl rfl rfl rfl ?_
      | refine sg_load_whole 2 rfl rfl rfl rfl ?_
      | refine sg_load_whole 3 rfl rfl rfl rfl ?_
      | refine sg_load_whole 4 rfl rfl rfl rfl ?_
      | refine sg_load_whole 5 rfl rfl rfl rfl ?_
      | refine sg_load_whole 6 rfl rfl rfl rfl ?_
      | refine sg_load_whole 7 rfl rfl rfl rfl ?_
      | refine sg_store_whole [] rfl rfl rfl rfl rfl ?_
      | refine sg_store_whole [_] rfl rfl rfl rfl rfl ?_
      | refine sg_store_whole [_, _] rfl rfl rfl rfl rfl ?_
      | refine sg_store_whole [_, _, _] rfl rfl rfl rfl rfl ?_
      | refine sg_store_whole [_, _, _, _] rfl rfl rfl rfl rfl ?_
      | refine sg_store_whole [_, _, _, _, _] rfl rfl rfl rfl rfl ?_
      | refine sg_store_whole [_, _, _, _, _, _] rfl rfl rfl rfl rfl ?_
      | refine sg_alloc rfl (fun al => ?_)
      | refine sg_block ?_
      | refine sg_skip ?_
      | refine sg_ret ?_
      | refine sg_exit ?_
      | refine ex_then_ret ?_
      | refine ex_then_exit ?_
      | refine ex_block_ret ?_
      | refine ex_block_normal ?_
      | refine ex_block_hit ?_
      | refine ex_block_miss rfl ?_
      | refine sg_store [] rfl rfl rfl (of_decide_eq_true rfl) ?_
      | refine sg_store [_] rfl rfl rfl (of_decide_eq_true rfl) ?_
      | refine sg_store [_, _] rfl rfl rfl (of_decide_eq_true rfl) ?_
      | refine sg_store [_, _, _] rfl rfl rfl (of_decide_eq_true rfl) ?_
      | refine sg_store [_, _, _, _] rfl rfl rfl (of_decide_eq_true rfl) ?_
      | refine sg_store [_, _, _, _, _] rfl rfl rfl (of_decide_eq_true rfl) ?_
      | refine sg_store [_, _, _, _, _, _] rfl rfl rfl (of_decide_eq_true rfl) ?_
      | refine sg_store [_, _, _, _, _, _, _] rfl rfl rfl (of_decide_eq_true rfl) ?_
      | (refine sg_guard_dec rfl rfl (fun hg => ?_) (fun hg => ?_) <;> first | (exfalso; omega) | (exact absurd rfl hg) | skip)
      | (refine sg_guard_ndec rfl rfl (fun hg => ?_) (fun hg => ?_) <;> first | (exfalso; omega) | (exact absurd rfl hg) | skip)
      | (refine sg_cond_dec rfl (fun hg => ?_) (fun hg => ?_) <;> first | (exfalso; omega) | (exact absurd rfl hg) | skip)
      | (refine sg_cond_ndec rfl (fun hg => ?_) (fun hg => ?_) <;> first | (exfalso; omega) | (exact absurd rfl hg) | skip)
      | refine sg_cond_not rfl (fun hg => ?_) (fun hg => ?_)
      | refine sg_cond rfl (fun hg => ?_) (fun hg => ?_))
    exact ex_retc 2 rfl rfl rfl rfl () rfl trivial (fun w hO => hO.tail.tail.tail.tail.tail)
end Go.Proofs.Ytlafdffjkdiigaa
