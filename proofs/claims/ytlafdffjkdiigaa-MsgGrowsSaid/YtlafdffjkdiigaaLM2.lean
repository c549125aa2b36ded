/- MsgGrows: Grow and Commit, sums turned about. -/
import Derived.Test.YtlafdffjkdiigaaLM
import Derived.Test.YtlafdffjkdiigaaMGQ
import Derived.Test.YtlafdffjkdiigaaDR4
namespace Go.Proofs.Ytlafdffjkdiigaa
set_option linter.unusedVariables false
set_option linter.unusedSimpArgs false
set_option linter.unusedSectionVars false
set_option linter.unnecessarySimpa false
open Go Go.Proofs
set_option maxRecDepth 20000
set_option maxHeartbeats 4000000
attribute [local irreducible] SG WC WO W1 WD WK PS Rd Tri Exit.then Exit.inBlock bodyPost calmQ Mid sadd
variable {W : World} {n : Nat} {F : Fr} {L : List HP} {G : Act → World → Prop}
theorem msgGrows_tri (e0 : EN) (off : Int) (val : List UInt8) (x y : Nat) (he : e0.ok) (hv : val.length ≤ 140737488351232) (hoff : off ≤ 9223372036854775807) :
    Tri Try.prog W 4 [e0.v, i64 off, str val, u64 (x : Int), u64 (y : Int)] [old W] (X := Unit) (fun _ => .bool true) (fun _ => True) (fun _ => [old W]) := by
  refine tri_enter (n := _) (F := [(0, e0.v), (1, i64 off), (2, str val), (3, u64 (x : Int)), (4, u64 (y : Int))]) Try.func4 rfl Try.ntmps4 rfl (fun i u hi => by simp only [look] at hi; (repeat' split at hi) <;> simp_all [Nat.beq_eq]) ?_
  repeat' (first
    | refine sg_wo ?_
    | refine sg_ps (ps_move rfl) rfl ?_
    | refine sg_ps (ps_assign rfl) rfl ?_
    | refine sg_seq ?_
    | refine sg_region ?_
    | refine sg_nil ?_
    | refine sg_then ?_
    | refine sg_ps (ps_fieldAddr rfl) rfl ?_
    | refine sg_ps (ps_nilCheck rfl) rfl ?_
    | refine sg_load 0 rfl rfl rfl rfl ?_
    | refine sg_load 1 rfl rfl rfl rfl ?_
    | refine sg_load 2 rfl rfl rfl rfl ?_
    | refine sg_load 3 rfl rfl rfl rfl ?_
    | refine sg_load 4 rfl rfl rfl rfl ?_
    | refine sg_load 5 rfl rfl rfl rfl ?_
    | refine sg_load 6 rfl rfl rfl rfl ?_
    | refine sg_load 7 rfl rfl rfl rfl ?_
    | refine sg_ps (ps_add64 rfl rfl (by omega)) rfl ?_
    | refine sg_ps (ps_sub64 rfl rfl (by omega)) rfl ?_
    | refine sg_ps (ps_mul64 rfl rfl (by omega)) rfl ?_
    | refine sg_ps (ps_bin rfl rfl inferInstance) rfl ?_
    | refine sg_ps (ps_rem rfl rfl (by decide)) rfl ?_
    | refine sg_ps (ps_quo64 rfl rfl (by decide) (by omega)) rfl ?_
    | refine sg_ps (ps_not rfl) rfl ?_
    | refine sg_ps (ps_conv rfl) rfl ?_
    | refine sg_ps (ps_shl rfl rfl (by decide) rfl) rfl ?_
    | refine sg_ps (ps_shr rfl rfl (by decide) rfl) rfl ?_
    | refine sg_cond_t rfl ?_
    | refine sg_cond_f rfl ?_
    | refine sg_guard_yes rfl rfl ?_
    | refine sg_guard_nf rfl rfl rfl ?_
    | refine sg_guard_nt rfl rfl rfl ?_
    | refine sg_guard_nu rfl rfl rfl ?_
    | refine sg_ps (ps_pick_t rfl rfl) rfl ?_
    | refine sg_ps (ps_pick_f rfl rfl) rfl ?_
    | refine sg_ps (ps_len rfl) rfl ?_
    | refine sg_ps (ps_len_str rfl) rfl ?_
    | refine sg_ps (ps_extract rfl rfl) rfl ?_
    | refine sg_ps (ps_field rfl rfl) rfl ?_
    | refine sg_ps (ps_min2 rfl rfl) rfl ?_
    | refine sg_ps (ps_max2 rfl rfl) rfl ?_
    | refine sg_ps (ps_build rfl rfl) rfl ?_
    | refine sg_box rfl rfl (fun bx => ?_)
    | refine sg_ps (ps_indexAddr rfl rfl rfl (by omega)) rfl ?_
    | refine sg_ps (ps_indexAddr (j := 0) rfl rfl rfl (by omega)) rfl ?_
    | refine sg_ps (ps_indexAddr (j := 1) rfl rfl rfl (by omega)) rfl ?_
    | refine sg_ps (ps_indexAddr_arr rfl rfl rfl (by omega)) rfl ?_
    | refine sg_load_whole 0 rfl rfl rfl rfl ?_
    | refine sg_load_whole 1 rfl rfl rfl rfl ?_
    | refine sg_load_whole 2 rfl rfl rfl rfl ?_
    | refine sg_load_whole 3 rfl rfl rfl rfl ?_
    | refine sg_load_whole 4 rfl rfl rfl rfl ?_
    | refine sg_load_whole 5 rfl rfl rfl rfl ?_
    | refine sg_load_whole 6 rfl rfl rfl rfl ?_
    | refine sg_load_whole 7 rfl rfl rfl rfl ?_
    | refine sg_store_whole [] rfl rfl rfl rfl rfl ?_
    | refine sg_store_whole [_] rfl rfl rfl rfl rfl ?_
    | refine sg_store_whole [_, _] rfl rfl rfl rfl rfl ?_
    | refine sg_store_whole [_, _, _] rfl rfl rfl rfl rfl ?_
    | refine sg_store_whole [_, _, _, _] rfl rfl rfl rfl rfl ?_
    | refine sg_store_whole [_, _, _, _, _] rfl rfl rfl rfl rfl ?_
    | refine sg_store_whole [_, _, _, _, _, _] rfl rfl rfl rfl rfl ?_
    | refine sg_alloc rfl (fun al => ?_)
    | refine sg_block ?_
    | refine sg_skip ?_
    | refine sg_ret ?_
    | refine sg_exit ?_
    | refine ex_then_ret ?_
    | refine ex_then_exit ?_
    | refine ex_block_ret ?_
    | refine ex_block_normal ?_
    | refine ex_block_hit ?_
    | refine ex_block_miss rfl ?_
    | refine sg_store [] rfl rfl rfl (of_decide_eq_true rfl) ?_
    | refine sg_store [_] rfl rfl rfl (of_decide_eq_true rfl) ?_
    | refine sg_store [_, _] rfl rfl rfl (of_decide_eq_true rfl) ?_
    | refine sg_store [_, _, _] rfl rfl rfl (of_decide_eq_true rfl) ?_
    | refine sg_store [_, _, _, _] rfl rfl rfl (of_decide_eq_true rfl) ?_
    | refine sg_store [_, _, _, _, _] rfl rfl rfl (of_decide_eq_true rfl) ?_
    | refine sg_store [_, _, _, _, _, _] rfl rfl rfl (of_decide_eq_true rfl) ?_
    | refine sg_store [_, _, _, _, _, _, _] rfl rfl rfl (of_decide_eq_true rfl) ?_
    | (refine sg_guard_dec rfl rfl (fun hg => ?_) (fun hg => ?_) <;> first | (exfalso; omega) | (exact absurd rfl hg) | skip)
    | (refine sg_guard_ndec rfl rfl (fun hg => ?_) (fun hg => ?_) <;> first | (exfalso; omega) | (exact absurd rfl hg) | skip)
    | (refine sg_cond_dec rfl (fun hg => ?_) (fun hg => ?_) <;> first | (exfalso; omega) | (exact absurd rfl hg) | skip)
    | (refine sg_cond_ndec rfl (fun hg => ?_) (fun hg => ?_) <;> first | (exfalso; omega) | (exact absurd rfl hg) | skip)
    | refine sg_cond_not rfl (fun hg => ?_) (fun hg => ?_)
    | refine sg_cond rfl (fun hg => ?_) (fun hg => ?_))
  refine sg_call (awake_tri _) rfl rfl (fun _ _ => ?_)
  repeat' (first
    | refine sg_wo ?_
    | refine sg_ps (ps_move rfl) rfl ?_
    | refine sg_ps (ps_assign rfl) rfl ?_
    | refine sg_seq ?_
    | refine sg_region ?_
    | refine sg_nil ?_
    | refine sg_then ?_
    | refine sg_ps (ps_fieldAddr rfl) rfl ?_
    | refine sg_ps (ps_nilCheck rfl) rfl ?_
    | refine sg_load 0 rfl rfl rfl rfl ?_
    | refine sg_load 1 rfl rfl rfl rfl ?_
    | refine sg_load 2 rfl rfl rfl rfl ?_
    | refine sg_load 3 rfl rfl rfl rfl ?_
    | refine sg_load 4 rfl rfl rfl rfl ?_
    | refine sg_load 5 rfl rfl rfl rfl ?_
    | refine sg_load 6 rfl rfl rfl rfl ?_
    | refine sg_load 7 rfl rfl rfl rfl ?_
    | refine sg_ps (ps_add64 rfl rfl (by omega)) rfl ?_
    | refine sg_ps (ps_sub64 rfl rfl (by omega)) rfl ?_
    | refine sg_ps (ps_mul64 rfl rfl (by omega)) rfl ?_
    | refine sg_ps (ps_bin rfl rfl inferInstance) rfl ?_
    | refine sg_ps (ps_rem rfl rfl (by decide)) rfl ?_
    | refine sg_ps (ps_quo64 rfl rfl (by decide) (by omega)) rfl ?_
    | refine sg_ps (ps_not rfl) rfl ?_
    | refine sg_ps (ps_conv rfl) rfl ?_
    | refine sg_ps (ps_shl rfl rfl (by decide) rfl) rfl ?_
    | refine sg_ps (ps_shr rfl rfl (by decide) rfl) rfl ?_
    | refine sg_cond_t rfl ?_
    | refine sg_cond_f rfl ?_
    | refine sg_guard_yes rfl rfl ?_
    | refine sg_guard_nf rfl rfl rfl ?_
    | refine sg_guard_nt rfl rfl rfl ?_
    | refine sg_guard_nu rfl rfl rfl ?_
    | refine sg_ps (ps_pick_t rfl rfl) rfl ?_
    | refine sg_ps (ps_pick_f rfl rfl) rfl ?_
    | refine sg_ps (ps_len rfl) rfl ?_
    | refine sg_ps (ps_len_str rfl) rfl ?_
    | refine sg_ps (ps_extract rfl rfl) rfl ?_
    | refine sg_ps (ps_field rfl rfl) rfl ?_
    | refine sg_ps (ps_min2 rfl rfl) rfl ?_
    | refine sg_ps (ps_max2 rfl rfl) rfl ?_
    | refine sg_ps (ps_build rfl rfl) rfl ?_
    | refine sg_box rfl rfl (fun bx => ?_)
    | refine sg_ps (ps_indexAddr rfl rfl rfl (by omega)) rfl ?_
    | refine sg_ps (ps_indexAddr (j := 0) rfl rfl rfl (by omega)) rfl ?_
    | refine sg_ps (ps_indexAddr (j := 1) rfl rfl rfl (by omega)) rfl ?_
    | refine sg_ps (ps_indexAddr_arr rfl rfl rfl (by omega)) rfl ?_
    | refine sg_load_whole 0 rfl rfl rfl rfl ?_
    | refine sg_load_whole 1 rfl rfl rfl rfl ?_
    | refine sg_load_whole 2 rfl rfl rfl rfl ?_
    | refine sg_load_whole 3 rfl rfl rfl rfl ?_
    | refine sg_load_whole 4 rfl rfl rfl rfl ?_
    | refine sg_load_whole 5 rfl rfl rfl rfl ?_
    | refine sg_load_whole 6 rfl rfl rfl rfl ?_
    | refine sg_load_whole 7 rfl rfl rfl rfl ?_
    | refine sg_store_whole [] rfl rfl rfl rfl rfl ?_
    | refine sg_store_whole [_] rfl rfl rfl rfl rfl ?_
    | refine sg_store_whole [_, _] rfl rfl rfl rfl rfl ?_
    | refine sg_store_whole [_, _, _] rfl rfl rfl rfl rfl ?_
    | refine sg_store_whole [_, _, _, _] rfl rfl rfl rfl rfl ?_
    | refine sg_store_whole [_, _, _, _, _] rfl rfl rfl rfl rfl ?_
    | refine sg_store_whole [_, _, _, _, _, _] rfl rfl rfl rfl rfl ?_
    | refine sg_alloc rfl (fun al => ?_)
    | refine sg_block ?_
    | refine sg_skip ?_
    | refine sg_ret ?_
    | refine sg_exit ?_
    | refine ex_then_ret ?_
    | refine ex_then_exit ?_
    | refine ex_block_ret ?_
    | refine ex_block_normal ?_
    | refine ex_block_hit ?_
    | refine ex_block_miss rfl ?_
    | refine sg_store [] rfl rfl rfl (of_decide_eq_true rfl) ?_
    | refine sg_store [_] rfl rfl rfl (of_decide_eq_true rfl) ?_
    | refine sg_store [_, _] rfl rfl rfl (of_decide_eq_true rfl) ?_
    | refine sg_store [_, _, _] rfl rfl rfl (of_decide_eq_true rfl) ?_
    | refine sg_store [_, _, _, _] rfl rfl rfl (of_decide_eq_true rfl) ?_
    | refine sg_store [_, _, _, _, _] rfl rfl rfl (of_decide_eq_true rfl) ?_
    | refine sg_store [_, _, _, _, _, _] rfl rfl rfl (of_decide_eq_true rfl) ?_
    | refine sg_store [_, _, _, _, _, _, _] rfl rfl rfl (of_decide_eq_true rfl) ?_
    | (refine sg_guard_dec rfl rfl (fun hg => ?_) (fun hg => ?_) <;> first | (exfalso; omega) | (exact absurd rfl hg) | skip)
    | (refine sg_guard_ndec rfl rfl (fun hg => ?_) (fun hg => ?_) <;> first | (exfalso; omega) | (exact absurd rfl hg) | skip)
    | (refine sg_cond_dec rfl (fun hg => ?_) (fun hg => ?_) <;> first | (exfalso; omega) | (exact absurd rfl hg) | skip)
    | (refine sg_cond_ndec rfl (fun hg => ?_) (fun hg => ?_) <;> first | (exfalso; omega) | (exact absurd rfl hg) | skip)
    | refine sg_cond_not rfl (fun hg => ?_) (fun hg => ?_)
    | refine sg_cond rfl (fun hg => ?_) (fun hg => ?_))
  have okA : (MS.mk 0 6 e0.key 1 [] 0 0).ok := ⟨he.k, by simp, by show (0 : Int) ≤ 1 ∧ (1 : Int) ≤ _; omega, by show (0 : Int) ≤ _; omega⟩
  refine sg_call (apply_tri e0 ⟨0, 6, e0.key, 1, [], 0, 0⟩ he okA _) rfl rfl (fun _ _ => ?_)
  have hn := apply_neat e0 ⟨0, 6, e0.key, 1, [], 0, 0⟩
  have ho := apply_ok he okA
  generalize e0.apply ⟨0, 6, e0.key, 1, [], 0, 0⟩ = e at hn ho
  repeat' (first
    | refine sg_wo ?_
    | refine sg_ps (ps_move rfl) rfl ?_
    | refine sg_ps (ps_assign rfl) rfl ?_
    | refine sg_seq ?_
    | refine sg_region ?_
    | refine sg_nil ?_
    | refine sg_then ?_
    | refine sg_ps (ps_fieldAddr rfl) rfl ?_
    | refine sg_ps (ps_nilCheck rfl) rfl ?_
    | refine sg_load 0 rfl rfl rfl rfl ?_
    | refine sg_load 1 rfl rfl rfl rfl ?_
    | refine sg_load 2 rfl rfl rfl rfl ?_
    | refine sg_load 3 rfl rfl rfl rfl ?_
    | refine sg_load 4 rfl rfl rfl rfl ?_
    | refine sg_load 5 rfl rfl rfl rfl ?_
    | refine sg_load 6 rfl rfl rfl rfl ?_
    | refine sg_load 7 rfl rfl rfl rfl ?_
    | refine sg_ps (ps_add64 rfl rfl (by omega)) rfl ?_
    | refine sg_ps (ps_sub64 rfl rfl (by omega)) rfl ?_
    | refine sg_ps (ps_mul64 rfl rfl (by omega)) rfl ?_
    | refine sg_ps (ps_bin rfl rfl inferInstance) rfl ?_
    | refine sg_ps (ps_rem rfl rfl (by decide)) rfl ?_
    | refine sg_ps (ps_quo64 rfl rfl (by decide) (by omega)) rfl ?_
    | refine sg_ps (ps_not rfl) rfl ?_
    | refine sg_ps (ps_conv rfl) rfl ?_
    | refine sg_ps (ps_shl rfl rfl (by decide) rfl) rfl ?_
    | refine sg_ps (ps_shr rfl rfl (by decide) rfl) rfl ?_
    | refine sg_cond_t rfl ?_
    | refine sg_cond_f rfl ?_
    | refine sg_guard_yes rfl rfl ?_
    | refine sg_guard_nf rfl rfl rfl ?_
    | refine sg_guard_nt rfl rfl rfl ?_
    | refine sg_guard_nu rfl rfl rfl ?_
    | refine sg_ps (ps_pick_t rfl rfl) rfl ?_
    | refine sg_ps (ps_pick_f rfl rfl) rfl ?_
    | refine sg_ps (ps_len rfl) rfl ?_
    | refine sg_ps (ps_len_str rfl) rfl ?_
    | refine sg_ps (ps_extract rfl rfl) rfl ?_
    | refine sg_ps (ps_field rfl rfl) rfl ?_
    | refine sg_ps (ps_min2 rfl rfl) rfl ?_
    | refine sg_ps (ps_max2 rfl rfl) rfl ?_
    | refine sg_ps (ps_build rfl rfl) rfl ?_
    | refine sg_box rfl rfl (fun bx => ?_)
    | refine sg_ps (ps_indexAddr rfl rfl rfl (by omega)) rfl ?_
    | refine sg_ps (ps_indexAddr (j := 0) rfl rfl rfl (by omega)) rfl ?_
    | refine sg_ps (ps_indexAddr (j := 1) rfl rfl rfl (by omega)) rfl ?_
    | refine sg_ps (ps_indexAddr_arr rfl rfl rfl (by omega)) rfl ?_
    | refine sg_load_whole 0 rfl rfl rfl rfl ?_
    | refine sg_load_whole 1 rfl rfl rfl rfl ?_
    | refine sg_load_whole 2 rfl rfl rfl rfl ?_
    | refine sg_load_whole 3 rfl rfl rfl rfl ?_
    | refine sg_load_whole 4 rfl rfl rfl rfl ?_
    | refine sg_load_whole 5 rfl rfl rfl rfl ?_
    | refine sg_load_whole 6 rfl rfl rfl rfl ?_
    | refine sg_load_whole 7 rfl rfl rfl rfl ?_
    | refine sg_store_whole [] rfl rfl rfl rfl rfl ?_
    | refine sg_store_whole [_] rfl rfl rfl rfl rfl ?_
    | refine sg_store_whole [_, _] rfl rfl rfl rfl rfl ?_
    | refine sg_store_whole [_, _, _] rfl rfl rfl rfl rfl ?_
    | refine sg_store_whole [_, _, _, _] rfl rfl rfl rfl rfl ?_
    | refine sg_store_whole [_, _, _, _, _] rfl rfl rfl rfl rfl ?_
    | refine sg_store_whole [_, _, _, _, _, _] rfl rfl rfl rfl rfl ?_
    | refine sg_alloc rfl (fun al => ?_)
    | refine sg_block ?_
    | refine sg_skip ?_
    | refine sg_ret ?_
    | refine sg_exit ?_
    | refine ex_then_ret ?_
    | refine ex_then_exit ?_
    | refine ex_block_ret ?_
    | refine ex_block_normal ?_
    | refine ex_block_hit ?_
    | refine ex_block_miss rfl ?_
    | refine sg_store [] rfl rfl rfl (of_decide_eq_true rfl) ?_
    | refine sg_store [_] rfl rfl rfl (of_decide_eq_true rfl) ?_
    | refine sg_store [_, _] rfl rfl rfl (of_decide_eq_true rfl) ?_
    | refine sg_store [_, _, _] rfl rfl rfl (of_decide_eq_true rfl) ?_
    | refine sg_store [_, _, _, _] rfl rfl rfl (of_decide_eq_true rfl) ?_
    | refine sg_store [_, _, _, _, _] rfl rfl rfl (of_decide_eq_true rfl) ?_
    | refine sg_store [_, _, _, _, _, _] rfl rfl rfl (of_decide_eq_true rfl) ?_
    | refine sg_store [_, _, _, _, _, _, _] rfl rfl rfl (of_decide_eq_true rfl) ?_
    | (refine sg_guard_dec rfl rfl (fun hg => ?_) (fun hg => ?_) <;> first | (exfalso; omega) | (exact absurd rfl hg) | skip)
    | (refine sg_guard_ndec rfl rfl (fun hg => ?_) (fun hg => ?_) <;> first | (exfalso; omega) | (exact absurd rfl hg) | skip)
    | (refine sg_cond_dec rfl (fun hg => ?_) (fun hg => ?_) <;> first | (exfalso; omega) | (exact absurd rfl hg) | skip)
    | (refine sg_cond_ndec rfl (fun hg => ?_) (fun hg => ?_) <;> first | (exfalso; omega) | (exact absurd rfl hg) | skip)
    | refine sg_cond_not rfl (fun hg => ?_) (fun hg => ?_)
    | refine sg_cond rfl (fun hg => ?_) (fun hg => ?_))
  rename_i ag
  revert al
  intro ac
  have okG : (MS.mk 0 4 [] 0 val off 0).ok := ⟨by simp, by show val.length ≤ 140737488355328; omega, by show (0 : Int) ≤ 0 ∧ (0 : Int) ≤ _; omega, hoff⟩
  have okC : (MS.mk 0 5 e.key e.txn [] 0 0).ok := ⟨ho.k, by simp, ho.t, by show (0 : Int) ≤ _; omega⟩
  have hgc := grow_commit e hn ⟨0, 4, [], 0, val, off, 0⟩ ⟨0, 5, e.key, e.txn, [], 0, 0⟩ rfl rfl rfl
  have hon := once_grow e ⟨0, 4, [], 0, val, off, 0⟩ rfl
  have ok1 := apply_ok ho okG
  have ok2 := apply_ok ho okC
  have ok3 := apply_ok ok1 okC
  have ok4 := apply_ok ok2 okG
  have ok5 := apply_ok ok1 okG
  have t1 := fun R => apply_tri (W := W) e ⟨0, 4, [], 0, val, off, 0⟩ ho okG R
  have t2 := fun R => apply_tri (W := W) e ⟨0, 5, e.key, e.txn, [], 0, 0⟩ ho okC R
  have t3 := fun R => apply_tri (W := W) _ ⟨0, 5, e.key, e.txn, [], 0, 0⟩ ok1 okC R
  have t4 := fun R => apply_tri (W := W) _ ⟨0, 4, [], 0, val, off, 0⟩ ok2 okG R
  have t5 := fun R => apply_tri (W := W) _ ⟨0, 4, [], 0, val, off, 0⟩ ok1 okG R
  refine sg_own (L' := [blk ac (MS.mk 0 5 e.key e.txn [] 0 0).cells, blk ag (MS.mk 0 4 [] 0 val off 0).cells, blk bx e.cells, old W]) (fun w hO => hO) ?_
  refine sg_drawK [blk ac (MS.mk 0 5 e.key e.txn [] 0 0).cells, blk ag (MS.mk 0 4 [] 0 val off 0).cells, blk bx e.cells, old W] [0, 1, 3, 5, 6, 8, 2, 4, 7, 9, 10] (by kernel_rfl) (by kernel_rfl) (fun w hO => hO) ?_
  repeat' (first
    | refine sk_nil ?_
    | refine sk_pure rfl rfl (ps_move rfl) rfl ?_
    | refine sk_pure rfl rfl (ps_assign rfl) rfl ?_
    | refine sk_pure rfl rfl (ps_nilCheck rfl) rfl ?_
    | refine sk_pure rfl rfl (ps_fieldAddr rfl) rfl ?_
    | refine sk_pure rfl rfl (ps_add64 rfl rfl (by omega)) rfl ?_
    | refine sk_pure rfl rfl (ps_sub64 rfl rfl (by omega)) rfl ?_
    | refine sk_pure rfl rfl (ps_mul64 rfl rfl (by omega)) rfl ?_
    | refine sk_pure rfl rfl (ps_bin rfl rfl inferInstance) rfl ?_
    | refine sk_pure rfl rfl (ps_rem rfl rfl (by decide)) rfl ?_
    | refine sk_pure rfl rfl (ps_not rfl) rfl ?_
    | refine sk_pure rfl rfl (ps_conv rfl) rfl ?_
    | refine sk_pure rfl rfl (ps_shl rfl rfl (by decide) rfl) rfl ?_
    | refine sk_pure rfl rfl (ps_shr rfl rfl (by decide) rfl) rfl ?_
    | refine sk_pure rfl rfl (ps_len rfl) rfl ?_
    | refine sk_pure rfl rfl (ps_len_str rfl) rfl ?_
    | refine sk_pure rfl rfl (ps_extract rfl rfl) rfl ?_
    | refine sk_pure rfl rfl (ps_field rfl rfl) rfl ?_
    | refine sk_pure rfl rfl (ps_build rfl rfl) rfl ?_
    | refine sk_pure rfl rfl (ps_indexAddr rfl rfl rfl (by omega)) rfl ?_
    | refine sk_pure rfl rfl (ps_indexAddr (j := 0) rfl rfl rfl (by omega)) rfl ?_
    | refine sk_pure rfl rfl (ps_indexAddr (j := 1) rfl rfl rfl (by omega)) rfl ?_
    | refine sk_pure rfl rfl (ps_pick_t rfl rfl) rfl ?_
    | refine sk_pure rfl rfl (ps_pick_f rfl rfl) rfl ?_
    | refine sk_pure rfl rfl (ps_min2 rfl rfl) rfl ?_
    | refine sk_pure rfl rfl (ps_max2 rfl rfl) rfl ?_
    | refine sk_pure rfl rfl (ps_indexAddr_arr rfl rfl rfl (by omega)) rfl ?_
    | refine sk_no rfl rfl rfl rfl rfl ?_
    | refine sk_pure_g rfl rfl rfl rfl (ps_move rfl) rfl ?_
    | refine sk_pure_g rfl rfl rfl rfl (ps_assign rfl) rfl ?_
    | refine sk_pure_g rfl rfl rfl rfl (ps_nilCheck rfl) rfl ?_
    | refine sk_pure_g rfl rfl rfl rfl (ps_fieldAddr rfl) rfl ?_
    | refine sk_pure_g rfl rfl rfl rfl (ps_add64 rfl rfl (by omega)) rfl ?_
    | refine sk_pure_g rfl rfl rfl rfl (ps_sub64 rfl rfl (by omega)) rfl ?_
    | refine sk_pure_g rfl rfl rfl rfl (ps_mul64 rfl rfl (by omega)) rfl ?_
    | refine sk_pure_g rfl rfl rfl rfl (ps_bin rfl rfl inferInstance) rfl ?_
    | refine sk_pure_g rfl rfl rfl rfl (ps_rem rfl rfl (by decide)) rfl ?_
    | refine sk_pure_g rfl rfl rfl rfl (ps_not rfl) rfl ?_
    | refine sk_pure_g rfl rfl rfl rfl (ps_conv rfl) rfl ?_
    | refine sk_pure_g rfl rfl rfl rfl (ps_shl rfl rfl (by decide) rfl) rfl ?_
    | refine sk_pure_g rfl rfl rfl rfl (ps_shr rfl rfl (by decide) rfl) rfl ?_
    | refine sk_pure_g rfl rfl rfl rfl (ps_len rfl) rfl ?_
    | refine sk_pure_g rfl rfl rfl rfl (ps_len_str rfl) rfl ?_
    | refine sk_pure_g rfl rfl rfl rfl (ps_extract rfl rfl) rfl ?_
    | refine sk_pure_g rfl rfl rfl rfl (ps_field rfl rfl) rfl ?_
    | refine sk_pure_g rfl rfl rfl rfl (ps_build rfl rfl) rfl ?_
    | refine sk_pure_g rfl rfl rfl rfl (ps_indexAddr rfl rfl rfl (by omega)) rfl ?_
    | refine sk_pure_g rfl rfl rfl rfl (ps_indexAddr (j := 0) rfl rfl rfl (by omega)) rfl ?_
    | refine sk_pure_g rfl rfl rfl rfl (ps_indexAddr (j := 1) rfl rfl rfl (by omega)) rfl ?_
    | refine sk_pure_g rfl rfl rfl rfl (ps_pick_t rfl rfl) rfl ?_
    | refine sk_pure_g rfl rfl rfl rfl (ps_pick_f rfl rfl) rfl ?_
    | refine sk_pure_g rfl rfl rfl rfl (ps_min2 rfl rfl) rfl ?_
    | refine sk_pure_g rfl rfl rfl rfl (ps_max2 rfl rfl) rfl ?_
    | refine sk_pure_g rfl rfl rfl rfl (ps_indexAddr_arr rfl rfl rfl (by omega)) rfl ?_
    | refine sk_load 0 rfl rfl rfl rfl rfl ?_
    | refine sk_load 1 rfl rfl rfl rfl rfl ?_
    | refine sk_load 2 rfl rfl rfl rfl rfl ?_
    | refine sk_load 3 rfl rfl rfl rfl rfl ?_
    | refine sk_load 4 rfl rfl rfl rfl rfl ?_
    | refine sk_load 5 rfl rfl rfl rfl rfl ?_
    | refine sk_load_g 0 rfl rfl rfl rfl rfl rfl rfl ?_
    | refine sk_load_g 1 rfl rfl rfl rfl rfl rfl rfl ?_
    | refine sk_load_g 2 rfl rfl rfl rfl rfl rfl rfl ?_
    | refine sk_load_g 3 rfl rfl rfl rfl rfl rfl rfl ?_
    | refine sk_load_g 4 rfl rfl rfl rfl rfl rfl rfl ?_
    | refine sk_load_g 5 rfl rfl rfl rfl rfl rfl rfl ?_
    | refine sk_lw 0 rfl rfl rfl rfl rfl ?_
    | refine sk_lw 1 rfl rfl rfl rfl rfl ?_
    | refine sk_lw 2 rfl rfl rfl rfl rfl ?_
    | refine sk_lw 3 rfl rfl rfl rfl rfl ?_
    | refine sk_lw 4 rfl rfl rfl rfl rfl ?_
    | refine sk_lw 5 rfl rfl rfl rfl rfl ?_
    | refine sk_lwg 0 rfl rfl rfl rfl rfl rfl rfl ?_
    | refine sk_lwg 1 rfl rfl rfl rfl rfl rfl rfl ?_
    | refine sk_lwg 2 rfl rfl rfl rfl rfl rfl rfl ?_
    | refine sk_lwg 3 rfl rfl rfl rfl rfl rfl rfl ?_
    | refine sk_lwg 4 rfl rfl rfl rfl rfl rfl rfl ?_
    | refine sk_lwg 5 rfl rfl rfl rfl rfl rfl rfl ?_
    | refine sk_eff rfl rfl ?_
    | refine sg_store_whole [] rfl rfl rfl rfl rfl ?_
    | refine sg_store_whole [_] rfl rfl rfl rfl rfl ?_
    | refine sg_store_whole [_, _] rfl rfl rfl rfl rfl ?_
    | refine sg_store_whole [_, _, _] rfl rfl rfl rfl rfl ?_
    | refine sg_store_whole [_, _, _, _] rfl rfl rfl rfl rfl ?_
    | refine sg_store_whole [_, _, _, _, _] rfl rfl rfl rfl rfl ?_
    | refine sg_store_whole [_, _, _, _, _, _] rfl rfl rfl rfl rfl ?_
    | refine sg_guard_yes rfl rfl ?_
    | refine sg_guard_nf rfl rfl rfl ?_
    | refine sg_guard_nt rfl rfl rfl ?_
    | refine sg_guard_nu rfl rfl rfl ?_
    | refine sk_back (fun w hO => hO) ?_
    | refine sg_store [] rfl rfl rfl (of_decide_eq_true rfl) ?_
    | refine sg_store [_] rfl rfl rfl (of_decide_eq_true rfl) ?_
    | refine sg_store [_, _] rfl rfl rfl (of_decide_eq_true rfl) ?_
    | refine sg_store [_, _, _] rfl rfl rfl (of_decide_eq_true rfl) ?_
    | refine sg_store [_, _, _, _] rfl rfl rfl (of_decide_eq_true rfl) ?_
    | refine sg_store [_, _, _, _, _] rfl rfl rfl (of_decide_eq_true rfl) ?_
    | refine sg_store [_, _, _, _, _, _] rfl rfl rfl (of_decide_eq_true rfl) ?_
    | refine sg_store [_, _, _, _, _, _, _] rfl rfl rfl (of_decide_eq_true rfl) ?_)
  refine sg_call (t1 _) rfl rfl (fun _ _ => ?_)
  refine sk_back (fun w hO => hO) ?_
  repeat' (first
    | refine sk_nil ?_
    | refine sk_pure rfl rfl (ps_move rfl) rfl ?_
    | refine sk_pure rfl rfl (ps_assign rfl) rfl ?_
    | refine sk_pure rfl rfl (ps_nilCheck rfl) rfl ?_
    | refine sk_pure rfl rfl (ps_fieldAddr rfl) rfl ?_
    | refine sk_pure rfl rfl (ps_add64 rfl rfl (by omega)) rfl ?_
    | refine sk_pure rfl rfl (ps_sub64 rfl rfl (by omega)) rfl ?_
    | refine sk_pure rfl rfl (ps_mul64 rfl rfl (by omega)) rfl ?_
    | refine sk_pure rfl rfl (ps_bin rfl rfl inferInstance) rfl ?_
    | refine sk_pure rfl rfl (ps_rem rfl rfl (by decide)) rfl ?_
    | refine sk_pure rfl rfl (ps_not rfl) rfl ?_
    | refine sk_pure rfl rfl (ps_conv rfl) rfl ?_
    | refine sk_pure rfl rfl (ps_shl rfl rfl (by decide) rfl) rfl ?_
    | refine sk_pure rfl rfl (ps_shr rfl rfl (by decide) rfl) rfl ?_
    | refine sk_pure rfl rfl (ps_len rfl) rfl ?_
    | refine sk_pure rfl rfl (ps_len_str rfl) rfl ?_
    | refine sk_pure rfl rfl (ps_extract rfl rfl) rfl ?_
    | refine sk_pure rfl rfl (ps_field rfl rfl) rfl ?_
    | refine sk_pure rfl rfl (ps_build rfl rfl) rfl ?_
    | refine sk_pure rfl rfl (ps_indexAddr rfl rfl rfl (by omega)) rfl ?_
    | refine sk_pure rfl rfl (ps_indexAddr (j := 0) rfl rfl rfl (by omega)) rfl ?_
    | refine sk_pure rfl rfl (ps_indexAddr (j := 1) rfl rfl rfl (by omega)) rfl ?_
    | refine sk_pure rfl rfl (ps_pick_t rfl rfl) rfl ?_
    | refine sk_pure rfl rfl (ps_pick_f rfl rfl) rfl ?_
    | refine sk_pure rfl rfl (ps_min2 rfl rfl) rfl ?_
    | refine sk_pure rfl rfl (ps_max2 rfl rfl) rfl ?_
    | refine sk_pure rfl rfl (ps_indexAddr_arr rfl rfl rfl (by omega)) rfl ?_
    | refine sk_no rfl rfl rfl rfl rfl ?_
    | refine sk_pure_g rfl rfl rfl rfl (ps_move rfl) rfl ?_
    | refine sk_pure_g rfl rfl rfl rfl (ps_assign rfl) rfl ?_
    | refine sk_pure_g rfl rfl rfl rfl (ps_nilCheck rfl) rfl ?_
    | refine sk_pure_g rfl rfl rfl rfl (ps_fieldAddr rfl) rfl ?_
    | refine sk_pure_g rfl rfl rfl rfl (ps_add64 rfl rfl (by omega)) rfl ?_
    | refine sk_pure_g rfl rfl rfl rfl (ps_sub64 rfl rfl (by omega)) rfl ?_
    | refine sk_pure_g rfl rfl rfl rfl (ps_mul64 rfl rfl (by omega)) rfl ?_
    | refine sk_pure_g rfl rfl rfl rfl (ps_bin rfl rfl inferInstance) rfl ?_
    | refine sk_pure_g rfl rfl rfl rfl (ps_rem rfl rfl (by decide)) rfl ?_
    | refine sk_pure_g rfl rfl rfl rfl (ps_not rfl) rfl ?_
    | refine sk_pure_g rfl rfl rfl rfl (ps_conv rfl) rfl ?_
    | refine sk_pure_g rfl rfl rfl rfl (ps_shl rfl rfl (by decide) rfl) rfl ?_
    | refine sk_pure_g rfl rfl rfl rfl (ps_shr rfl rfl (by decide) rfl) rfl ?_
    | refine sk_pure_g rfl rfl rfl rfl (ps_len rfl) rfl ?_
    | refine sk_pure_g rfl rfl rfl rfl (ps_len_str rfl) rfl ?_
    | refine sk_pure_g rfl rfl rfl rfl (ps_extract rfl rfl) rfl ?_
    | refine sk_pure_g rfl rfl rfl rfl (ps_field rfl rfl) rfl ?_
    | refine sk_pure_g rfl rfl rfl rfl (ps_build rfl rfl) rfl ?_
    | refine sk_pure_g rfl rfl rfl rfl (ps_indexAddr rfl rfl rfl (by omega)) rfl ?_
    | refine sk_pure_g rfl rfl rfl rfl (ps_indexAddr (j := 0) rfl rfl rfl (by omega)) rfl ?_
    | refine sk_pure_g rfl rfl rfl rfl (ps_indexAddr (j := 1) rfl rfl rfl (by omega)) rfl ?_
    | refine sk_pure_g rfl rfl rfl rfl (ps_pick_t rfl rfl) rfl ?_
    | refine sk_pure_g rfl rfl rfl rfl (ps_pick_f rfl rfl) rfl ?_
    | refine sk_pure_g rfl rfl rfl rfl (ps_min2 rfl rfl) rfl ?_
    | refine sk_pure_g rfl rfl rfl rfl (ps_max2 rfl rfl) rfl ?_
    | refine sk_pure_g rfl rfl rfl rfl (ps_indexAddr_arr rfl rfl rfl (by omega)) rfl ?_
    | refine sk_load 0 rfl rfl rfl rfl rfl ?_
    | refine sk_load 1 rfl rfl rfl rfl rfl ?_
    | refine sk_load 2 rfl rfl rfl rfl rfl ?_
    | refine sk_load 3 rfl rfl rfl rfl rfl ?_
    | refine sk_load 4 rfl rfl rfl rfl rfl ?_
    | refine sk_load 5 rfl rfl rfl rfl rfl ?_
    | refine sk_load_g 0 rfl rfl rfl rfl rfl rfl rfl ?_
    | refine sk_load_g 1 rfl rfl rfl rfl rfl rfl rfl ?_
    | refine sk_load_g 2 rfl rfl rfl rfl rfl rfl rfl ?_
    | refine sk_load_g 3 rfl rfl rfl rfl rfl rfl rfl ?_
    | refine sk_load_g 4 rfl rfl rfl rfl rfl rfl rfl ?_
    | refine sk_load_g 5 rfl rfl rfl rfl rfl rfl rfl ?_
    | refine sk_lw 0 rfl rfl rfl rfl rfl ?_
    | refine sk_lw 1 rfl rfl rfl rfl rfl ?_
    | refine sk_lw 2 rfl rfl rfl rfl rfl ?_
    | refine sk_lw 3 rfl rfl rfl rfl rfl ?_
    | refine sk_lw 4 rfl rfl rfl rfl rfl ?_
    | refine sk_lw 5 rfl rfl rfl rfl rfl ?_
    | refine sk_lwg 0 rfl rfl rfl rfl rfl rfl rfl ?_
    | refine sk_lwg 1 rfl rfl rfl rfl rfl rfl rfl ?_
    | refine sk_lwg 2 rfl rfl rfl rfl rfl rfl rfl ?_
    | refine sk_lwg 3 rfl rfl rfl rfl rfl rfl rfl ?_
    | refine sk_lwg 4 rfl rfl rfl rfl rfl rfl rfl ?_
    | refine sk_lwg 5 rfl rfl rfl rfl rfl rfl rfl ?_
    | refine sk_eff rfl rfl ?_
    | refine sg_store_whole [] rfl rfl rfl rfl rfl ?_
    | refine sg_store_whole [_] rfl rfl rfl rfl rfl ?_
    | refine sg_store_whole [_, _] rfl rfl rfl rfl rfl ?_
    | refine sg_store_whole [_, _, _] rfl rfl rfl rfl rfl ?_
    | refine sg_store_whole [_, _, _, _] rfl rfl rfl rfl rfl ?_
    | refine sg_store_whole [_, _, _, _, _] rfl rfl rfl rfl rfl ?_
    | refine sg_store_whole [_, _, _, _, _, _] rfl rfl rfl rfl rfl ?_
    | refine sg_guard_yes rfl rfl ?_
    | refine sg_guard_nf rfl rfl rfl ?_
    | refine sg_guard_nt rfl rfl rfl ?_
    | refine sg_guard_nu rfl rfl rfl ?_
    | refine sk_back (fun w hO => hO) ?_
    | refine sg_store [] rfl rfl rfl (of_decide_eq_true rfl) ?_
    | refine sg_store [_] rfl rfl rfl (of_decide_eq_true rfl) ?_
    | refine sg_store [_, _] rfl rfl rfl (of_decide_eq_true rfl) ?_
    | refine sg_store [_, _, _] rfl rfl rfl (of_decide_eq_true rfl) ?_
    | refine sg_store [_, _, _, _] rfl rfl rfl (of_decide_eq_true rfl) ?_
    | refine sg_store [_, _, _, _, _] rfl rfl rfl (of_decide_eq_true rfl) ?_
    | refine sg_store [_, _, _, _, _, _] rfl rfl rfl (of_decide_eq_true rfl) ?_
    | refine sg_store [_, _, _, _, _, _, _] rfl rfl rfl (of_decide_eq_true rfl) ?_)
  refine sg_call (t3 _) rfl rfl (fun _ _ => ?_)
  refine sk_back (fun w hO => hO) ?_
  repeat' (first
    | refine sk_nil ?_
    | refine sk_pure rfl rfl (ps_move rfl) rfl ?_
    | refine sk_pure rfl rfl (ps_assign rfl) rfl ?_
    | refine sk_pure rfl rfl (ps_nilCheck rfl) rfl ?_
    | refine sk_pure rfl rfl (ps_fieldAddr rfl) rfl ?_
    | refine sk_pure rfl rfl (ps_add64 rfl rfl (by omega)) rfl ?_
    | refine sk_pure rfl rfl (ps_sub64 rfl rfl (by omega)) rfl ?_
    | refine sk_pure rfl rfl (ps_mul64 rfl rfl (by omega)) rfl ?_
    | refine sk_pure rfl rfl (ps_bin rfl rfl inferInstance) rfl ?_
    | refine sk_pure rfl rfl (ps_rem rfl rfl (by decide)) rfl ?_
    | refine sk_pure rfl rfl (ps_not rfl) rfl ?_
    | refine sk_pure rfl rfl (ps_conv rfl) rfl ?_
    | refine sk_pure rfl rfl (ps_shl rfl rfl (by decide) rfl) rfl ?_
    | refine sk_pure rfl rfl (ps_shr rfl rfl (by decide) rfl) rfl ?_
    | refine sk_pure rfl rfl (ps_len rfl) rfl ?_
    | refine sk_pure rfl rfl (ps_len_str rfl) rfl ?_
    | refine sk_pure rfl rfl (ps_extract rfl rfl) rfl ?_
    | refine sk_pure rfl rfl (ps_field rfl rfl) rfl ?_
    | refine sk_pure rfl rfl (ps_build rfl rfl) rfl ?_
    | refine sk_pure rfl rfl (ps_indexAddr rfl rfl rfl (by omega)) rfl ?_
    | refine sk_pure rfl rfl (ps_indexAddr (j := 0) rfl rfl rfl (by omega)) rfl ?_
    | refine sk_pure rfl rfl (ps_indexAddr (j := 1) rfl rfl rfl (by omega)) rfl ?_
    | refine sk_pure rfl rfl (ps_pick_t rfl rfl) rfl ?_
    | refine sk_pure rfl rfl (ps_pick_f rfl rfl) rfl ?_
    | refine sk_pure rfl rfl (ps_min2 rfl rfl) rfl ?_
    | refine sk_pure rfl rfl (ps_max2 rfl rfl) rfl ?_
    | refine sk_pure rfl rfl (ps_indexAddr_arr rfl rfl rfl (by omega)) rfl ?_
    | refine sk_no rfl rfl rfl rfl rfl ?_
    | refine sk_pure_g rfl rfl rfl rfl (ps_move rfl) rfl ?_
    | refine sk_pure_g rfl rfl rfl rfl (ps_assign rfl) rfl ?_
    | refine sk_pure_g rfl rfl rfl rfl (ps_nilCheck rfl) rfl ?_
    | refine sk_pure_g rfl rfl rfl rfl (ps_fieldAddr rfl) rfl ?_
    | refine sk_pure_g rfl rfl rfl rfl (ps_add64 rfl rfl (by omega)) rfl ?_
    | refine sk_pure_g rfl rfl rfl rfl (ps_sub64 rfl rfl (by omega)) rfl ?_
    | refine sk_pure_g rfl rfl rfl rfl (ps_mul64 rfl rfl (by omega)) rfl ?_
    | refine sk_pure_g rfl rfl rfl rfl (ps_bin rfl rfl inferInstance) rfl ?_
    | refine sk_pure_g rfl rfl rfl rfl (ps_rem rfl rfl (by decide)) rfl ?_
    | refine sk_pure_g rfl rfl rfl rfl (ps_not rfl) rfl ?_
    | refine sk_pure_g rfl rfl rfl rfl (ps_conv rfl) rfl ?_
    | refine sk_pure_g rfl rfl rfl rfl (ps_shl rfl rfl (by decide) rfl) rfl ?_
    | refine sk_pure_g rfl rfl rfl rfl (ps_shr rfl rfl (by decide) rfl) rfl ?_
    | refine sk_pure_g rfl rfl rfl rfl (ps_len rfl) rfl ?_
    | refine sk_pure_g rfl rfl rfl rfl (ps_len_str rfl) rfl ?_
    | refine sk_pure_g rfl rfl rfl rfl (ps_extract rfl rfl) rfl ?_
    | refine sk_pure_g rfl rfl rfl rfl (ps_field rfl rfl) rfl ?_
    | refine sk_pure_g rfl rfl rfl rfl (ps_build rfl rfl) rfl ?_
    | refine sk_pure_g rfl rfl rfl rfl (ps_indexAddr rfl rfl rfl (by omega)) rfl ?_
    | refine sk_pure_g rfl rfl rfl rfl (ps_indexAddr (j := 0) rfl rfl rfl (by omega)) rfl ?_
    | refine sk_pure_g rfl rfl rfl rfl (ps_indexAddr (j := 1) rfl rfl rfl (by omega)) rfl ?_
    | refine sk_pure_g rfl rfl rfl rfl (ps_pick_t rfl rfl) rfl ?_
    | refine sk_pure_g rfl rfl rfl rfl (ps_pick_f rfl rfl) rfl ?_
    | refine sk_pure_g rfl rfl rfl rfl (ps_min2 rfl rfl) rfl ?_
    | refine sk_pure_g rfl rfl rfl rfl (ps_max2 rfl rfl) rfl ?_
    | refine sk_pure_g rfl rfl rfl rfl (ps_indexAddr_arr rfl rfl rfl (by omega)) rfl ?_
    | refine sk_load 0 rfl rfl rfl rfl rfl ?_
    | refine sk_load 1 rfl rfl rfl rfl rfl ?_
    | refine sk_load 2 rfl rfl rfl rfl rfl ?_
    | refine sk_load 3 rfl rfl rfl rfl rfl ?_
    | refine sk_load 4 rfl rfl rfl rfl rfl ?_
    | refine sk_load 5 rfl rfl rfl rfl rfl ?_
    | refine sk_load_g 0 rfl rfl rfl rfl rfl rfl rfl ?_
    | refine sk_load_g 1 rfl rfl rfl rfl rfl rfl rfl ?_
    | refine sk_load_g 2 rfl rfl rfl rfl rfl rfl rfl ?_
    | refine sk_load_g 3 rfl rfl rfl rfl rfl rfl rfl ?_
    | refine sk_load_g 4 rfl rfl rfl rfl rfl rfl rfl ?_
    | refine sk_load_g 5 rfl rfl rfl rfl rfl rfl rfl ?_
    | refine sk_lw 0 rfl rfl rfl rfl rfl ?_
    | refine sk_lw 1 rfl rfl rfl rfl rfl ?_
    | refine sk_lw 2 rfl rfl rfl rfl rfl ?_
    | refine sk_lw 3 rfl rfl rfl rfl rfl ?_
    | refine sk_lw 4 rfl rfl rfl rfl rfl ?_
    | refine sk_lw 5 rfl rfl rfl rfl rfl ?_
    | refine sk_lwg 0 rfl rfl rfl rfl rfl rfl rfl ?_
    | refine sk_lwg 1 rfl rfl rfl rfl rfl rfl rfl ?_
    | refine sk_lwg 2 rfl rfl rfl rfl rfl rfl rfl ?_
    | refine sk_lwg 3 rfl rfl rfl rfl rfl rfl rfl ?_
    | refine sk_lwg 4 rfl rfl rfl rfl rfl rfl rfl ?_
    | refine sk_lwg 5 rfl rfl rfl rfl rfl rfl rfl ?_
    | refine sk_eff rfl rfl ?_
    | refine sg_store_whole [] rfl rfl rfl rfl rfl ?_
    | refine sg_store_whole [_] rfl rfl rfl rfl rfl ?_
    | refine sg_store_whole [_, _] rfl rfl rfl rfl rfl ?_
    | refine sg_store_whole [_, _, _] rfl rfl rfl rfl rfl ?_
    | refine sg_store_whole [_, _, _, _] rfl rfl rfl rfl rfl ?_
    | refine sg_store_whole [_, _, _, _, _] rfl rfl rfl rfl rfl ?_
    | refine sg_store_whole [_, _, _, _, _, _] rfl rfl rfl rfl rfl ?_
    | refine sg_guard_yes rfl rfl ?_
    | refine sg_guard_nf rfl rfl rfl ?_
    | refine sg_guard_nt rfl rfl rfl ?_
    | refine sg_guard_nu rfl rfl rfl ?_
    | refine sk_back (fun w hO => hO) ?_
    | refine sg_store [] rfl rfl rfl (of_decide_eq_true rfl) ?_
    | refine sg_store [_] rfl rfl rfl (of_decide_eq_true rfl) ?_
    | refine sg_store [_, _] rfl rfl rfl (of_decide_eq_true rfl) ?_
    | refine sg_store [_, _, _] rfl rfl rfl (of_decide_eq_true rfl) ?_
    | refine sg_store [_, _, _, _] rfl rfl rfl (of_decide_eq_true rfl) ?_
    | refine sg_store [_, _, _, _, _] rfl rfl rfl (of_decide_eq_true rfl) ?_
    | refine sg_store [_, _, _, _, _, _] rfl rfl rfl (of_decide_eq_true rfl) ?_
    | refine sg_store [_, _, _, _, _, _, _] rfl rfl rfl (of_decide_eq_true rfl) ?_)
  refine sg_call (t2 _) rfl rfl (fun _ _ => ?_)
  refine sk_back (fun w hO => hO) ?_
  repeat' (first
    | refine sk_nil ?_
    | refine sk_pure rfl rfl (ps_move rfl) rfl ?_
    | refine sk_pure rfl rfl (ps_assign rfl) rfl ?_
    | refine sk_pure rfl rfl (ps_nilCheck rfl) rfl ?_
    | refine sk_pure rfl rfl (ps_fieldAddr rfl) rfl ?_
    | refine sk_pure rfl rfl (ps_add64 rfl rfl (by omega)) rfl ?_
    | refine sk_pure rfl rfl (ps_sub64 rfl rfl (by omega)) rfl ?_
    | refine sk_pure rfl rfl (ps_mul64 rfl rfl (by omega)) rfl ?_
    | refine sk_pure rfl rfl (ps_bin rfl rfl inferInstance) rfl ?_
    | refine sk_pure rfl rfl (ps_rem rfl rfl (by decide)) rfl ?_
    | refine sk_pure rfl rfl (ps_not rfl) rfl ?_
    | refine sk_pure rfl rfl (ps_conv rfl) rfl ?_
    | refine sk_pure rfl rfl (ps_shl rfl rfl (by decide) rfl) rfl ?_
    | refine sk_pure rfl rfl (ps_shr rfl rfl (by decide) rfl) rfl ?_
    | refine sk_pure rfl rfl (ps_len rfl) rfl ?_
    | refine sk_pure rfl rfl (ps_len_str rfl) rfl ?_
    | refine sk_pure rfl rfl (ps_extract rfl rfl) rfl ?_
    | refine sk_pure rfl rfl (ps_field rfl rfl) rfl ?_
    | refine sk_pure rfl rfl (ps_build rfl rfl) rfl ?_
    | refine sk_pure rfl rfl (ps_indexAddr rfl rfl rfl (by omega)) rfl ?_
    | refine sk_pure rfl rfl (ps_indexAddr (j := 0) rfl rfl rfl (by omega)) rfl ?_
    | refine sk_pure rfl rfl (ps_indexAddr (j := 1) rfl rfl rfl (by omega)) rfl ?_
    | refine sk_pure rfl rfl (ps_pick_t rfl rfl) rfl ?_
    | refine sk_pure rfl rfl (ps_pick_f rfl rfl) rfl ?_
    | refine sk_pure rfl rfl (ps_min2 rfl rfl) rfl ?_
    | refine sk_pure rfl rfl (ps_max2 rfl rfl) rfl ?_
    | refine sk_pure rfl rfl (ps_indexAddr_arr rfl rfl rfl (by omega)) rfl ?_
    | refine sk_no rfl rfl rfl rfl rfl ?_
    | refine sk_pure_g rfl rfl rfl rfl (ps_move rfl) rfl ?_
    | refine sk_pure_g rfl rfl rfl rfl (ps_assign rfl) rfl ?_
    | refine sk_pure_g rfl rfl rfl rfl (ps_nilCheck rfl) rfl ?_
    | refine sk_pure_g rfl rfl rfl rfl (ps_fieldAddr rfl) rfl ?_
    | refine sk_pure_g rfl rfl rfl rfl (ps_add64 rfl rfl (by omega)) rfl ?_
    | refine sk_pure_g rfl rfl rfl rfl (ps_sub64 rfl rfl (by omega)) rfl ?_
    | refine sk_pure_g rfl rfl rfl rfl (ps_mul64 rfl rfl (by omega)) rfl ?_
    | refine sk_pure_g rfl rfl rfl rfl (ps_bin rfl rfl inferInstance) rfl ?_
    | refine sk_pure_g rfl rfl rfl rfl (ps_rem rfl rfl (by decide)) rfl ?_
    | refine sk_pure_g rfl rfl rfl rfl (ps_not rfl) rfl ?_
    | refine sk_pure_g rfl rfl rfl rfl (ps_conv rfl) rfl ?_
    | refine sk_pure_g rfl rfl rfl rfl (ps_shl rfl rfl (by decide) rfl) rfl ?_
    | refine sk_pure_g rfl rfl rfl rfl (ps_shr rfl rfl (by decide) rfl) rfl ?_
    | refine sk_pure_g rfl rfl rfl rfl (ps_len rfl) rfl ?_
    | refine sk_pure_g rfl rfl rfl rfl (ps_len_str rfl) rfl ?_
    | refine sk_pure_g rfl rfl rfl rfl (ps_extract rfl rfl) rfl ?_
    | refine sk_pure_g rfl rfl rfl rfl (ps_field rfl rfl) rfl ?_
    | refine sk_pure_g rfl rfl rfl rfl (ps_build rfl rfl) rfl ?_
    | refine sk_pure_g rfl rfl rfl rfl (ps_indexAddr rfl rfl rfl (by omega)) rfl ?_
    | refine sk_pure_g rfl rfl rfl rfl (ps_indexAddr (j := 0) rfl rfl rfl (by omega)) rfl ?_
    | refine sk_pure_g rfl rfl rfl rfl (ps_indexAddr (j := 1) rfl rfl rfl (by omega)) rfl ?_
    | refine sk_pure_g rfl rfl rfl rfl (ps_pick_t rfl rfl) rfl ?_
    | refine sk_pure_g rfl rfl rfl rfl (ps_pick_f rfl rfl) rfl ?_
    | refine sk_pure_g rfl rfl rfl rfl (ps_min2 rfl rfl) rfl ?_
    | refine sk_pure_g rfl rfl rfl rfl (ps_max2 rfl rfl) rfl ?_
    | refine sk_pure_g rfl rfl rfl rfl (ps_indexAddr_arr rfl rfl rfl (by omega)) rfl ?_
    | refine sk_load 0 rfl rfl rfl rfl rfl ?_
    | refine sk_load 1 rfl rfl rfl rfl rfl ?_
    | refine sk_load 2 rfl rfl rfl rfl rfl ?_
    | refine sk_load 3 rfl rfl rfl rfl rfl ?_
    | refine sk_load 4 rfl rfl rfl rfl rfl ?_
    | refine sk_load 5 rfl rfl rfl rfl rfl ?_
    | refine sk_load_g 0 rfl rfl rfl rfl rfl rfl rfl ?_
    | refine sk_load_g 1 rfl rfl rfl rfl rfl rfl rfl ?_
    | refine sk_load_g 2 rfl rfl rfl rfl rfl rfl rfl ?_
    | refine sk_load_g 3 rfl rfl rfl rfl rfl rfl rfl ?_
    | refine sk_load_g 4 rfl rfl rfl rfl rfl rfl rfl ?_
    | refine sk_load_g 5 rfl rfl rfl rfl rfl rfl rfl ?_
    | refine sk_lw 0 rfl rfl rfl rfl rfl ?_
    | refine sk_lw 1 rfl rfl rfl rfl rfl ?_
    | refine sk_lw 2 rfl rfl rfl rfl rfl ?_
    | refine sk_lw 3 rfl rfl rfl rfl rfl ?_
    | refine sk_lw 4 rfl rfl rfl rfl rfl ?_
    | refine sk_lw 5 rfl rfl rfl rfl rfl ?_
    | refine sk_lwg 0 rfl rfl rfl rfl rfl rfl rfl ?_
    | refine sk_lwg 1 rfl rfl rfl rfl rfl rfl rfl ?_
    | refine sk_lwg 2 rfl rfl rfl rfl rfl rfl rfl ?_
    | refine sk_lwg 3 rfl rfl rfl rfl rfl rfl rfl ?_
    | refine sk_lwg 4 rfl rfl rfl rfl rfl rfl rfl ?_
    | refine sk_lwg 5 rfl rfl rfl rfl rfl rfl rfl ?_
    | refine sk_eff rfl rfl ?_
    | refine sg_store_whole [] rfl rfl rfl rfl rfl ?_
    | refine sg_store_whole [_] rfl rfl rfl rfl rfl ?_
    | refine sg_store_whole [_, _] rfl rfl rfl rfl rfl ?_
    | refine sg_store_whole [_, _, _] rfl rfl rfl rfl rfl ?_
    | refine sg_store_whole [_, _, _, _] rfl rfl rfl rfl rfl ?_
    | refine sg_store_whole [_, _, _, _, _] rfl rfl rfl rfl rfl ?_
    | refine sg_store_whole [_, _, _, _, _, _] rfl rfl rfl rfl rfl ?_
    | refine sg_guard_yes rfl rfl ?_
    | refine sg_guard_nf rfl rfl rfl ?_
    | refine sg_guard_nt rfl rfl rfl ?_
    | refine sg_guard_nu rfl rfl rfl ?_
    | refine sk_back (fun w hO => hO) ?_
    | refine sg_store [] rfl rfl rfl (of_decide_eq_true rfl) ?_
    | refine sg_store [_] rfl rfl rfl (of_decide_eq_true rfl) ?_
    | refine sg_store [_, _] rfl rfl rfl (of_decide_eq_true rfl) ?_
    | refine sg_store [_, _, _] rfl rfl rfl (of_decide_eq_true rfl) ?_
    | refine sg_store [_, _, _, _] rfl rfl rfl (of_decide_eq_true rfl) ?_
    | refine sg_store [_, _, _, _, _] rfl rfl rfl (of_decide_eq_true rfl) ?_
    | refine sg_store [_, _, _, _, _, _] rfl rfl rfl (of_decide_eq_true rfl) ?_
    | refine sg_store [_, _, _, _, _, _, _] rfl rfl rfl (of_decide_eq_true rfl) ?_)
  refine sg_call (t4 _) rfl rfl (fun _ _ => ?_)
  refine sk_back (fun w hO => hO) ?_
  refine sk_pure rfl rfl (ps_neE ok3 ok4 rfl rfl) rfl ?_
  rw [hgc, show ∀ z : EN, (!decide (z = z)) = false from fun z => by simp]
  repeat' (first
    | refine sk_nil ?_
    | refine sk_pure rfl rfl (ps_move rfl) rfl ?_
    | refine sk_pure rfl rfl (ps_assign rfl) rfl ?_
    | refine sk_pure rfl rfl (ps_nilCheck rfl) rfl ?_
    | refine sk_pure rfl rfl (ps_fieldAddr rfl) rfl ?_
    | refine sk_pure rfl rfl (ps_add64 rfl rfl (by omega)) rfl ?_
    | refine sk_pure rfl rfl (ps_sub64 rfl rfl (by omega)) rfl ?_
    | refine sk_pure rfl rfl (ps_mul64 rfl rfl (by omega)) rfl ?_
    | refine sk_pure rfl rfl (ps_bin rfl rfl inferInstance) rfl ?_
    | refine sk_pure rfl rfl (ps_rem rfl rfl (by decide)) rfl ?_
    | refine sk_pure rfl rfl (ps_not rfl) rfl ?_
    | refine sk_pure rfl rfl (ps_conv rfl) rfl ?_
    | refine sk_pure rfl rfl (ps_shl rfl rfl (by decide) rfl) rfl ?_
    | refine sk_pure rfl rfl (ps_shr rfl rfl (by decide) rfl) rfl ?_
    | refine sk_pure rfl rfl (ps_len rfl) rfl ?_
    | refine sk_pure rfl rfl (ps_len_str rfl) rfl ?_
    | refine sk_pure rfl rfl (ps_extract rfl rfl) rfl ?_
    | refine sk_pure rfl rfl (ps_field rfl rfl) rfl ?_
    | refine sk_pure rfl rfl (ps_build rfl rfl) rfl ?_
    | refine sk_pure rfl rfl (ps_indexAddr rfl rfl rfl (by omega)) rfl ?_
    | refine sk_pure rfl rfl (ps_indexAddr (j := 0) rfl rfl rfl (by omega)) rfl ?_
    | refine sk_pure rfl rfl (ps_indexAddr (j := 1) rfl rfl rfl (by omega)) rfl ?_
    | refine sk_pure rfl rfl (ps_pick_t rfl rfl) rfl ?_
    | refine sk_pure rfl rfl (ps_pick_f rfl rfl) rfl ?_
    | refine sk_pure rfl rfl (ps_min2 rfl rfl) rfl ?_
    | refine sk_pure rfl rfl (ps_max2 rfl rfl) rfl ?_
    | refine sk_pure rfl rfl (ps_indexAddr_arr rfl rfl rfl (by omega)) rfl ?_
    | refine sk_no rfl rfl rfl rfl rfl ?_
    | refine sk_pure_g rfl rfl rfl rfl (ps_move rfl) rfl ?_
    | refine sk_pure_g rfl rfl rfl rfl (ps_assign rfl) rfl ?_
    | refine sk_pure_g rfl rfl rfl rfl (ps_nilCheck rfl) rfl ?_
    | refine sk_pure_g rfl rfl rfl rfl (ps_fieldAddr rfl) rfl ?_
    | refine sk_pure_g rfl rfl rfl rfl (ps_add64 rfl rfl (by omega)) rfl ?_
    | refine sk_pure_g rfl rfl rfl rfl (ps_sub64 rfl rfl (by omega)) rfl ?_
    | refine sk_pure_g rfl rfl rfl rfl (ps_mul64 rfl rfl (by omega)) rfl ?_
    | refine sk_pure_g rfl rfl rfl rfl (ps_bin rfl rfl inferInstance) rfl ?_
    | refine sk_pure_g rfl rfl rfl rfl (ps_rem rfl rfl (by decide)) rfl ?_
    | refine sk_pure_g rfl rfl rfl rfl (ps_not rfl) rfl ?_
    | refine sk_pure_g rfl rfl rfl rfl (ps_conv rfl) rfl ?_
    | refine sk_pure_g rfl rfl rfl rfl (ps_shl rfl rfl (by decide) rfl) rfl ?_
    | refine sk_pure_g rfl rfl rfl rfl (ps_shr rfl rfl (by decide) rfl) rfl ?_
    | refine sk_pure_g rfl rfl rfl rfl (ps_len rfl) rfl ?_
    | refine sk_pure_g rfl rfl rfl rfl (ps_len_str rfl) rfl ?_
    | refine sk_pure_g rfl rfl rfl rfl (ps_extract rfl rfl) rfl ?_
    | refine sk_pure_g rfl rfl rfl rfl (ps_field rfl rfl) rfl ?_
    | refine sk_pure_g rfl rfl rfl rfl (ps_build rfl rfl) rfl ?_
    | refine sk_pure_g rfl rfl rfl rfl (ps_indexAddr rfl rfl rfl (by omega)) rfl ?_
    | refine sk_pure_g rfl rfl rfl rfl (ps_indexAddr (j := 0) rfl rfl rfl (by omega)) rfl ?_
    | refine sk_pure_g rfl rfl rfl rfl (ps_indexAddr (j := 1) rfl rfl rfl (by omega)) rfl ?_
    | refine sk_pure_g rfl rfl rfl rfl (ps_pick_t rfl rfl) rfl ?_
    | refine sk_pure_g rfl rfl rfl rfl (ps_pick_f rfl rfl) rfl ?_
    | refine sk_pure_g rfl rfl rfl rfl (ps_min2 rfl rfl) rfl ?_
    | refine sk_pure_g rfl rfl rfl rfl (ps_max2 rfl rfl) rfl ?_
    | refine sk_pure_g rfl rfl rfl rfl (ps_indexAddr_arr rfl rfl rfl (by omega)) rfl ?_
    | refine sk_load 0 rfl rfl rfl rfl rfl ?_
    | refine sk_load 1 rfl rfl rfl rfl rfl ?_
    | refine sk_load 2 rfl rfl rfl rfl rfl ?_
    | refine sk_load 3 rfl rfl rfl rfl rfl ?_
    | refine sk_load 4 rfl rfl rfl rfl rfl ?_
    | refine sk_load 5 rfl rfl rfl rfl rfl ?_
    | refine sk_load_g 0 rfl rfl rfl rfl rfl rfl rfl ?_
    | refine sk_load_g 1 rfl rfl rfl rfl rfl rfl rfl ?_
    | refine sk_load_g 2 rfl rfl rfl rfl rfl rfl rfl ?_
    | refine sk_load_g 3 rfl rfl rfl rfl rfl rfl rfl ?_
    | refine sk_load_g 4 rfl rfl rfl rfl rfl rfl rfl ?_
    | refine sk_load_g 5 rfl rfl rfl rfl rfl rfl rfl ?_
    | refine sk_lw 0 rfl rfl rfl rfl rfl ?_
    | refine sk_lw 1 rfl rfl rfl rfl rfl ?_
    | refine sk_lw 2 rfl rfl rfl rfl rfl ?_
    | refine sk_lw 3 rfl rfl rfl rfl rfl ?_
    | refine sk_lw 4 rfl rfl rfl rfl rfl ?_
    | refine sk_lw 5 rfl rfl rfl rfl rfl ?_
    | refine sk_lwg 0 rfl rfl rfl rfl rfl rfl rfl ?_
    | refine sk_lwg 1 rfl rfl rfl rfl rfl rfl rfl ?_
    | refine sk_lwg 2 rfl rfl rfl rfl rfl rfl rfl ?_
    | refine sk_lwg 3 rfl rfl rfl rfl rfl rfl rfl ?_
    | refine sk_lwg 4 rfl rfl rfl rfl rfl rfl rfl ?_
    | refine sk_lwg 5 rfl rfl rfl rfl rfl rfl rfl ?_
    | refine sk_eff rfl rfl ?_
    | refine sg_store_whole [] rfl rfl rfl rfl rfl ?_
    | refine sg_store_whole [_] rfl rfl rfl rfl rfl ?_
    | refine sg_store_whole [_, _] rfl rfl rfl rfl rfl ?_
    | refine sg_store_whole [_, _, _] rfl rfl rfl rfl rfl ?_
    | refine sg_store_whole [_, _, _, _] rfl rfl rfl rfl rfl ?_
    | refine sg_store_whole [_, _, _, _, _] rfl rfl rfl rfl rfl ?_
    | refine sg_store_whole [_, _, _, _, _, _] rfl rfl rfl rfl rfl ?_
    | refine sg_guard_yes rfl rfl ?_
    | refine sg_guard_nf rfl rfl rfl ?_
    | refine sg_guard_nt rfl rfl rfl ?_
    | refine sg_guard_nu rfl rfl rfl ?_
    | refine sk_back (fun w hO => hO) ?_
    | refine sg_store [] rfl rfl rfl (of_decide_eq_true rfl) ?_
    | refine sg_store [_] rfl rfl rfl (of_decide_eq_true rfl) ?_
    | refine sg_store [_, _] rfl rfl rfl (of_decide_eq_true rfl) ?_
    | refine sg_store [_, _, _] rfl rfl rfl (of_decide_eq_true rfl) ?_
    | refine sg_store [_, _, _, _] rfl rfl rfl (of_decide_eq_true rfl) ?_
    | refine sg_store [_, _, _, _, _] rfl rfl rfl (of_decide_eq_true rfl) ?_
    | refine sg_store [_, _, _, _, _, _] rfl rfl rfl (of_decide_eq_true rfl) ?_
    | refine sg_store [_, _, _, _, _, _, _] rfl rfl rfl (of_decide_eq_true rfl) ?_)
  repeat' (first
    | refine sg_wo ?_
    | refine sg_ps (ps_move rfl) rfl ?_
    | refine sg_ps (ps_assign rfl) rfl ?_
    | refine sg_seq ?_
    | refine sg_region ?_
    | refine sg_nil ?_
    | refine sg_then ?_
    | refine sg_ps (ps_fieldAddr rfl) rfl ?_
    | refine sg_ps (ps_nilCheck rfl) rfl ?_
    | refine sg_load 0 rfl rfl rfl rfl ?_
    | refine sg_load 1 rfl rfl rfl rfl ?_
    | refine sg_load 2 rfl rfl rfl rfl ?_
    | refine sg_load 3 rfl rfl rfl rfl ?_
    | refine sg_load 4 rfl rfl rfl rfl ?_
    | refine sg_load 5 rfl rfl rfl rfl ?_
    | refine sg_load 6 rfl rfl rfl rfl ?_
    | refine sg_load 7 rfl rfl rfl rfl ?_
    | refine sg_ps (ps_add64 rfl rfl (by omega)) rfl ?_
    | refine sg_ps (ps_sub64 rfl rfl (by omega)) rfl ?_
    | refine sg_ps (ps_mul64 rfl rfl (by omega)) rfl ?_
    | refine sg_ps (ps_bin rfl rfl inferInstance) rfl ?_
    | refine sg_ps (ps_rem rfl rfl (by decide)) rfl ?_
    | refine sg_ps (ps_quo64 rfl rfl (by decide) (by omega)) rfl ?_
    | refine sg_ps (ps_not rfl) rfl ?_
    | refine sg_ps (ps_conv rfl) rfl ?_
    | refine sg_ps (ps_shl rfl rfl (by decide) rfl) rfl ?_
    | refine sg_ps (ps_shr rfl rfl (by decide) rfl) rfl ?_
    | refine sg_cond_t rfl ?_
    | refine sg_cond_f rfl ?_
    | refine sg_guard_yes rfl rfl ?_
    | refine sg_guard_nf rfl rfl rfl ?_
    | refine sg_guard_nt rfl rfl rfl ?_
    | refine sg_guard_nu rfl rfl rfl ?_
    | refine sg_ps (ps_pick_t rfl rfl) rfl ?_
    | refine sg_ps (ps_pick_f rfl rfl) rfl ?_
    | refine sg_ps (ps_len rfl) rfl ?_
    | refine sg_ps (ps_len_str rfl) rfl ?_
    | refine sg_ps (ps_extract rfl rfl) rfl ?_
    | refine sg_ps (ps_field rfl rfl) rfl ?_
    | refine sg_ps (ps_min2 rfl rfl) rfl ?_
    | refine sg_ps (ps_max2 rfl rfl) rfl ?_
    | refine sg_ps (ps_build rfl rfl) rfl ?_
    | refine sg_box rfl rfl (fun bx => ?_)
    | refine sg_ps (ps_indexAddr rfl rfl rfl (by omega)) rfl ?_
    | refine sg_ps (ps_indexAddr (j := 0) rfl rfl rfl (by omega)) rfl ?_
    | refine sg_ps (ps_indexAddr (j := 1) rfl rfl rfl (by omega)) rfl ?_
    | refine sg_ps (ps_indexAddr_arr rfl rfl rfl (by omega)) rfl ?_
    | refine sg_load_whole 0 rfl rfl rfl rfl ?_
    | refine sg_load_whole 1 rfl rfl rfl rfl ?_
    | refine sg_load_whole 2 rfl rfl rfl rfl ?_
    | refine sg_load_whole 3 rfl rfl rfl rfl ?_
    | refine sg_load_whole 4 rfl rfl rfl rfl ?_
    | refine sg_load_whole 5 rfl rfl rfl rfl ?_
    | refine sg_load_whole 6 rfl rfl rfl rfl ?_
    | refine sg_load_whole 7 rfl rfl rfl rfl ?_
    | refine sg_store_whole [] rfl rfl rfl rfl rfl ?_
    | refine sg_store_whole [_] rfl rfl rfl rfl rfl ?_
    | refine sg_store_whole [_, _] rfl rfl rfl rfl rfl ?_
    | refine sg_store_whole [_, _, _] rfl rfl rfl rfl rfl ?_
    | refine sg_store_whole [_, _, _, _] rfl rfl rfl rfl rfl ?_
    | refine sg_store_whole [_, _, _, _, _] rfl rfl rfl rfl rfl ?_
    | refine sg_store_whole [_, _, _, _, _, _] rfl rfl rfl rfl rfl ?_
    | refine sg_alloc rfl (fun al => ?_)
    | refine sg_block ?_
    | refine sg_skip ?_
    | refine sg_ret ?_
    | refine sg_exit ?_
    | refine ex_then_ret ?_
    | refine ex_then_exit ?_
    | refine ex_block_ret ?_
    | refine ex_block_normal ?_
    | refine ex_block_hit ?_
    | refine ex_block_miss rfl ?_
    | refine sg_store [] rfl rfl rfl (of_decide_eq_true rfl) ?_
    | refine sg_store [_] rfl rfl rfl (of_decide_eq_true rfl) ?_
    | refine sg_store [_, _] rfl rfl rfl (of_decide_eq_true rfl) ?_
    | refine sg_store [_, _, _] rfl rfl rfl (of_decide_eq_true rfl) ?_
    | refine sg_store [_, _, _, _] rfl rfl rfl (of_decide_eq_true rfl) ?_
    | refine sg_store [_, _, _, _, _] rfl rfl rfl (of_decide_eq_true rfl) ?_
    | refine sg_store [_, _, _, _, _, _] rfl rfl rfl (of_decide_eq_true rfl) ?_
    | refine sg_store [_, _, _, _, _, _, _] rfl rfl rfl (of_decide_eq_true rfl) ?_
    | (refine sg_guard_dec rfl rfl (fun hg => ?_) (fun hg => ?_) <;> first | (exfalso; omega) | (exact absurd rfl hg) | skip)
    | (refine sg_guard_ndec rfl rfl (fun hg => ?_) (fun hg => ?_) <;> first | (exfalso; omega) | (exact absurd rfl hg) | skip)
    | (refine sg_cond_dec rfl (fun hg => ?_) (fun hg => ?_) <;> first | (exfalso; omega) | (exact absurd rfl hg) | skip)
    | (refine sg_cond_ndec rfl (fun hg => ?_) (fun hg => ?_) <;> first | (exfalso; omega) | (exact absurd rfl hg) | skip)
    | refine sg_cond_not rfl (fun hg => ?_) (fun hg => ?_)
    | refine sg_cond rfl (fun hg => ?_) (fun hg => ?_))
  refine sg_call (t1 _) rfl rfl (fun _ _ => ?_)
  repeat' (first
    | refine sg_wo ?_
    | refine sg_ps (ps_move rfl) rfl ?_
    | refine sg_ps (ps_assign rfl) rfl ?_
    | refine sg_region ?_
    | refine sg_nil ?_
    | refine sg_then ?_
    | refine sg_ps (ps_fieldAddr rfl) rfl ?_
    | refine sg_ps (ps_nilCheck rfl) rfl ?_
    | refine sg_load 0 rfl rfl rfl rfl ?_
    | refine sg_load 1 rfl rfl rfl rfl ?_
    | refine sg_load 2 rfl rfl rfl rfl ?_
    | refine sg_load 3 rfl rfl rfl rfl ?_
    | refine sg_load 4 rfl rfl rfl rfl ?_
    | refine sg_load 5 rfl rfl rfl rfl ?_
    | refine sg_load 6 rfl rfl rfl rfl ?_
    | refine sg_load 7 rfl rfl rfl rfl ?_
    | refine sg_ps (ps_add64 rfl rfl (by omega)) rfl ?_
    | refine sg_ps (ps_sub64 rfl rfl (by omega)) rfl ?_
    | refine sg_ps (ps_mul64 rfl rfl (by omega)) rfl ?_
    | refine sg_ps (ps_bin rfl rfl inferInstance) rfl ?_
    | refine sg_ps (ps_rem rfl rfl (by decide)) rfl ?_
    | refine sg_ps (ps_quo64 rfl rfl (by decide) (by omega)) rfl ?_
    | refine sg_ps (ps_not rfl) rfl ?_
    | refine sg_ps (ps_conv rfl) rfl ?_
    | refine sg_ps (ps_shl rfl rfl (by decide) rfl) rfl ?_
    | refine sg_ps (ps_shr rfl rfl (by decide) rfl) rfl ?_
    | refine sg_cond_t rfl ?_
    | refine sg_cond_f rfl ?_
    | refine sg_guard_yes rfl rfl ?_
    | refine sg_guard_nf rfl rfl rfl ?_
    | refine sg_guard_nt rfl rfl rfl ?_
    | refine sg_guard_nu rfl rfl rfl ?_
    | refine sg_ps (ps_pick_t rfl rfl) rfl ?_
    | refine sg_ps (ps_pick_f rfl rfl) rfl ?_
    | refine sg_ps (ps_len rfl) rfl ?_
    | refine sg_ps (ps_len_str rfl) rfl ?_
    | refine sg_ps (ps_extract rfl rfl) rfl ?_
    | refine sg_ps (ps_field rfl rfl) rfl ?_
    | refine sg_ps (ps_min2 rfl rfl) rfl ?_
    | refine sg_ps (ps_max2 rfl rfl) rfl ?_
    | refine sg_ps (ps_build rfl rfl) rfl ?_
    | refine sg_box rfl rfl (fun bx => ?_)
    | refine sg_ps (ps_indexAddr rfl rfl rfl (by omega)) rfl ?_
    | refine sg_ps (ps_indexAddr (j := 0) rfl rfl rfl (by omega)) rfl ?_
    | refine sg_ps (ps_indexAddr (j := 1) rfl rfl rfl (by omega)) rfl ?_
    | refine sg_ps (ps_indexAddr_arr rfl rfl rfl (by omega)) rfl ?_
    | refine sg_load_whole 0 rfl rfl rfl rfl ?_
    | refine sg_load_whole 1 rfl rfl rfl rfl ?_
    | refine sg_load_whole 2 rfl rfl rfl rfl ?_
    | refine sg_load_whole 3 rfl rfl rfl rfl ?_
    | refine sg_load_whole 4 rfl rfl rfl rfl ?_
    | refine sg_load_whole 5 rfl rfl rfl rfl ?_
    | refine sg_load_whole 6 rfl rfl rfl rfl ?_
    | refine sg_load_whole 7 rfl rfl rfl rfl ?_
    | refine sg_store_whole [] rfl rfl rfl rfl rfl ?_
    | refine sg_store_whole [_] rfl rfl rfl rfl rfl ?_
    | refine sg_store_whole [_, _] rfl rfl rfl rfl rfl ?_
    | refine sg_store_whole [_, _, _] rfl rfl rfl rfl rfl ?_
    | refine sg_store_whole [_, _, _, _] rfl rfl rfl rfl rfl ?_
    | refine sg_store_whole [_, _, _, _, _] rfl rfl rfl rfl rfl ?_
    | refine sg_store_whole [_, _, _, _, _, _] rfl rfl rfl rfl rfl ?_
    | refine sg_alloc rfl (fun al => ?_)
    | refine sg_block ?_
    | refine sg_skip ?_
    | refine sg_ret ?_
    | refine sg_exit ?_
    | refine ex_then_ret ?_
    | refine ex_then_exit ?_
    | refine ex_block_ret ?_
    | refine ex_block_normal ?_
    | refine ex_block_hit ?_
    | refine ex_block_miss rfl ?_
    | refine sg_store [] rfl rfl rfl (of_decide_eq_true rfl) ?_
    | refine sg_store [_] rfl rfl rfl (of_decide_eq_true rfl) ?_
    | refine sg_store [_, _] rfl rfl rfl (of_decide_eq_true rfl) ?_
    | refine sg_store [_, _, _] rfl rfl rfl (of_decide_eq_true rfl) ?_
    | refine sg_store [_, _, _, _] rfl rfl rfl (of_decide_eq_true rfl) ?_
    | refine sg_store [_, _, _, _, _] rfl rfl rfl (of_decide_eq_true rfl) ?_
    | refine sg_store [_, _, _, _, _, _] rfl rfl rfl (of_decide_eq_true rfl) ?_
    | refine sg_store [_, _, _, _, _, _, _] rfl rfl rfl (of_decide_eq_true rfl) ?_
    | (refine sg_guard_dec rfl rfl (fun hg => ?_) (fun hg => ?_) <;> first | (exfalso; omega) | (exact absurd rfl hg) | skip)
    | (refine sg_guard_ndec rfl rfl (fun hg => ?_) (fun hg => ?_) <;> first | (exfalso; omega) | (exact absurd rfl hg) | skip)
    | (refine sg_cond_dec rfl (fun hg => ?_) (fun hg => ?_) <;> first | (exfalso; omega) | (exact absurd rfl hg) | skip)
    | (refine sg_cond_ndec rfl (fun hg => ?_) (fun hg => ?_) <;> first | (exfalso; omega) | (exact absurd rfl hg) | skip)
    | refine sg_cond_not rfl (fun hg => ?_) (fun hg => ?_)
    | refine sg_cond rfl (fun hg => ?_) (fun hg => ?_))
  revert al
  intro ao
  refine sg_seq_mid (γ := Unit) (fun _ => True) (fun _ => [(5, dp bx), (1, i64 off), (3, u64 (x : Int)), (4, u64 (y : Int)), (11, dp ag), (13, dp ao)])
    (fun _ => [blk ao (e.apply ⟨0, 4, [], 0, val, off, 0⟩).cells, blk ac (MS.mk 0 5 e.key e.txn [] 0 0).cells, blk ag (MS.mk 0 4 [] 0 val off 0).cells, blk bx e.cells, old W]) ?_ ?_
  · skip
    repeat' (first
      | refine sg_wo ?_
      | refine sg_ps (ps_move rfl) rfl ?_
      | refine sg_ps (ps_assign rfl) rfl ?_
      | refine sg_seq ?_
      | refine sg_region ?_
      | refine sg_nil ?_
      | refine sg_then ?_
      | refine sg_ps (ps_fieldAddr rfl) rfl ?_
      | refine sg_ps (ps_nilCheck rfl) rfl ?_
      | refine sg_load 0 rfl rfl rfl rfl ?_
      | refine sg_load 1 rfl rfl rfl rfl ?_
      | refine sg_load 2 rfl rfl rfl rfl ?_
      | refine sg_load 3 rfl rfl rfl rfl ?_
      | refine sg_load 4 rfl rfl rfl rfl ?_
      | refine sg_load 5 rfl rfl rfl rfl ?_
      | refine sg_load 6 rfl rfl rfl rfl ?_
      | refine sg_load 7 rfl rfl rfl rfl ?_
      | refine sg_ps (ps_add64 rfl rfl (by omega)) rfl ?_
      | refine sg_ps (ps_sub64 rfl rfl (by omega)) rfl ?_
      | refine sg_ps (ps_mul64 rfl rfl (by omega)) rfl ?_
      | refine sg_ps (ps_bin rfl rfl inferInstance) rfl ?_
      | refine sg_ps (ps_rem rfl rfl (by decide)) rfl ?_
      | refine sg_ps (ps_quo64 rfl rfl (by decide) (by omega)) rfl ?_
      | refine sg_ps (ps_not rfl) rfl ?_
      | refine sg_ps (ps_conv rfl) rfl ?_
      | refine sg_ps (ps_shl rfl rfl (by decide) rfl) rfl ?_
      | refine sg_ps (ps_shr rfl rfl (by decide) rfl) rfl ?_
      | refine sg_cond_t rfl ?_
      | refine sg_cond_f rfl ?_
      | refine sg_guard_yes rfl rfl ?_
      | refine sg_guard_nf rfl rfl rfl ?_
      | refine sg_guard_nt rfl rfl rfl ?_
      | refine sg_guard_nu rfl rfl rfl ?_
      | refine sg_ps (ps_pick_t rfl rfl) rfl ?_
      | refine sg_ps (ps_pick_f rfl rfl) rfl ?_
      | refine sg_ps (ps_len rfl) rfl ?_
      | refine sg_ps (ps_len_str rfl) rfl ?_
      | refine sg_ps (ps_extract rfl rfl) rfl ?_
      | refine sg_ps (ps_field rfl rfl) rfl ?_
      | refine sg_ps (ps_min2 rfl rfl) rfl ?_
      | refine sg_ps (ps_max2 rfl rfl) rfl ?_
      | refine sg_ps (ps_build rfl rfl) rfl ?_
      | refine sg_box rfl rfl (fun bx => ?_)
      | refine sg_ps (ps_indexAddr rfl rfl rfl (by omega)) rfl ?_
      | refine sg_ps (ps_indexAddr (j := 0) rfl rfl rfl (by omega)) rfl ?_
      | refine sg_ps (ps_indexAddr (j := 1) rfl rfl rfl (by omega)) rfl ?_
      | refine sg_ps (ps_indexAddr_arr rfl rfl rfl (by omega)) rfl ?_
      | refine sg_load_whole 0 rfl rfl rfl rfl ?_
      | refine sg_load_whole 1 rfl rfl rfl rfl ?_
      | refine sg_load_whole 2 rfl rfl rfl rfl ?_
      | refine sg_load_whole 3 rfl rfl rfl rfl ?_
      | refine sg_load_whole 4 rfl rfl rfl rfl ?_
      | refine sg_load_whole 5 rfl rfl rfl rfl ?_
      | refine sg_load_whole 6 rfl rfl rfl rfl ?_
      | refine sg_load_whole 7 rfl rfl rfl rfl ?_
      | refine sg_store_whole [] rfl rfl rfl rfl rfl ?_
      | refine sg_store_whole [_] rfl rfl rfl rfl rfl ?_
      | refine sg_store_whole [_, _] rfl rfl rfl rfl rfl ?_
      | refine sg_store_whole [_, _, _] rfl rfl rfl rfl rfl ?_
      | refine sg_store_whole [_, _, _, _] rfl rfl rfl rfl rfl ?_
      | refine sg_store_whole [_, _, _, _, _] rfl rfl rfl rfl rfl ?_
      | refine sg_store_whole [_, _, _, _, _, _] rfl rfl rfl rfl rfl ?_
      | refine sg_alloc rfl (fun al => ?_)
      | refine sg_block ?_
      | refine sg_skip ?_
      | refine sg_ret ?_
      | refine sg_exit ?_
      | refine ex_then_ret ?_
      | refine ex_then_exit ?_
      | refine ex_block_ret ?_
      | refine ex_block_normal ?_
      | refine ex_block_hit ?_
      | refine ex_block_miss rfl ?_
      | refine sg_store [] rfl rfl rfl (of_decide_eq_true rfl) ?_
      | refine sg_store [_] rfl rfl rfl (of_decide_eq_true rfl) ?_
      | refine sg_store [_, _] rfl rfl rfl (of_decide_eq_true rfl) ?_
      | refine sg_store [_, _, _] rfl rfl rfl (of_decide_eq_true rfl) ?_
      | refine sg_store [_, _, _, _] rfl rfl rfl (of_decide_eq_true rfl) ?_
      | refine sg_store [_, _, _, _, _] rfl rfl rfl (of_decide_eq_true rfl) ?_
      | refine sg_store [_, _, _, _, _, _] rfl rfl rfl (of_decide_eq_true rfl) ?_
      | refine sg_store [_, _, _, _, _, _, _] rfl rfl rfl (of_decide_eq_true rfl) ?_
      | (refine sg_guard_dec rfl rfl (fun hg => ?_) (fun hg => ?_) <;> first | (exfalso; omega) | (exact absurd rfl hg) | skip)
      | (refine sg_guard_ndec rfl rfl (fun hg => ?_) (fun hg => ?_) <;> first | (exfalso; omega) | (exact absurd rfl hg) | skip)
      | (refine sg_cond_dec rfl (fun hg => ?_) (fun hg => ?_) <;> first | (exfalso; omega) | (exact absurd rfl hg) | skip)
      | (refine sg_cond_ndec rfl (fun hg => ?_) (fun hg => ?_) <;> first | (exfalso; omega) | (exact absurd rfl hg) | skip)
      | refine sg_cond_not rfl (fun hg => ?_) (fun hg => ?_)
      | refine sg_cond rfl (fun hg => ?_) (fun hg => ?_))
    refine sg_own (L' := [blk ao (e.apply ⟨0, 4, [], 0, val, off, 0⟩).cells, blk ac (MS.mk 0 5 e.key e.txn [] 0 0).cells, blk ag (MS.mk 0 4 [] 0 val off 0).cells, blk bx e.cells, old W]) (fun w hO => hO) ?_
    refine sg_drawK [blk ao (e.apply ⟨0, 4, [], 0, val, off, 0⟩).cells, blk ac (MS.mk 0 5 e.key e.txn [] 0 0).cells, blk ag (MS.mk 0 4 [] 0 val off 0).cells, blk bx e.cells, old W] [0, 1, 2, 3, 4, 5, 6, 7, 8, 10, 9, 11, 12] (by kernel_rfl) (by kernel_rfl) (fun w hO => hO) ?_
    repeat' (first
      | refine sk_nil ?_
      | refine sk_pure rfl rfl (ps_move rfl) rfl ?_
      | refine sk_pure rfl rfl (ps_assign rfl) rfl ?_
      | refine sk_pure rfl rfl (ps_nilCheck rfl) rfl ?_
      | refine sk_pure rfl rfl (ps_fieldAddr rfl) rfl ?_
      | refine sk_pure rfl rfl (ps_add64 rfl rfl (by omega)) rfl ?_
      | refine sk_pure rfl rfl (ps_sub64 rfl rfl (by omega)) rfl ?_
      | refine sk_pure rfl rfl (ps_mul64 rfl rfl (by omega)) rfl ?_
      | refine sk_pure rfl rfl (ps_bin rfl rfl inferInstance) rfl ?_
      | refine sk_pure rfl rfl (ps_rem rfl rfl (by decide)) rfl ?_
      | refine sk_pure rfl rfl (ps_not rfl) rfl ?_
      | refine sk_pure rfl rfl (ps_conv rfl) rfl ?_
      | refine sk_pure rfl rfl (ps_shl rfl rfl (by decide) rfl) rfl ?_
      | refine sk_pure rfl rfl (ps_shr rfl rfl (by decide) rfl) rfl ?_
      | refine sk_pure rfl rfl (ps_len rfl) rfl ?_
      | refine sk_pure rfl rfl (ps_len_str rfl) rfl ?_
      | refine sk_pure rfl rfl (ps_extract rfl rfl) rfl ?_
      | refine sk_pure rfl rfl (ps_field rfl rfl) rfl ?_
      | refine sk_pure rfl rfl (ps_build rfl rfl) rfl ?_
      | refine sk_pure rfl rfl (ps_indexAddr rfl rfl rfl (by omega)) rfl ?_
      | refine sk_pure rfl rfl (ps_indexAddr (j := 0) rfl rfl rfl (by omega)) rfl ?_
      | refine sk_pure rfl rfl (ps_indexAddr (j := 1) rfl rfl rfl (by omega)) rfl ?_
      | refine sk_pure rfl rfl (ps_pick_t rfl rfl) rfl ?_
      | refine sk_pure rfl rfl (ps_pick_f rfl rfl) rfl ?_
      | refine sk_pure rfl rfl (ps_min2 rfl rfl) rfl ?_
      | refine sk_pure rfl rfl (ps_max2 rfl rfl) rfl ?_
      | refine sk_pure rfl rfl (ps_indexAddr_arr rfl rfl rfl (by omega)) rfl ?_
      | refine sk_no rfl rfl rfl rfl rfl ?_
      | refine sk_pure_g rfl rfl rfl rfl (ps_move rfl) rfl ?_
      | refine sk_pure_g rfl rfl rfl rfl (ps_assign rfl) rfl ?_
      | refine sk_pure_g rfl rfl rfl rfl (ps_nilCheck rfl) rfl ?_
      | refine sk_pure_g rfl rfl rfl rfl (ps_fieldAddr rfl) rfl ?_
      | refine sk_pure_g rfl rfl rfl rfl (ps_add64 rfl rfl (by omega)) rfl ?_
      | refine sk_pure_g rfl rfl rfl rfl (ps_sub64 rfl rfl (by omega)) rfl ?_
      | refine sk_pure_g rfl rfl rfl rfl (ps_mul64 rfl rfl (by omega)) rfl ?_
      | refine sk_pure_g rfl rfl rfl rfl (ps_bin rfl rfl inferInstance) rfl ?_
      | refine sk_pure_g rfl rfl rfl rfl (ps_rem rfl rfl (by decide)) rfl ?_
      | refine sk_pure_g rfl rfl rfl rfl (ps_not rfl) rfl ?_
      | refine sk_pure_g rfl rfl rfl rfl (ps_conv rfl) rfl ?_
      | refine sk_pure_g rfl rfl rfl rfl (ps_shl rfl rfl (by decide) rfl) rfl ?_
      | refine sk_pure_g rfl rfl rfl rfl (ps_shr rfl rfl (by decide) rfl) rfl ?_
      | refine sk_pure_g rfl rfl rfl rfl (ps_len rfl) rfl ?_
      | refine sk_pure_g rfl rfl rfl rfl (ps_len_str rfl) rfl ?_
      | refine sk_pure_g rfl rfl rfl rfl (ps_extract rfl rfl) rfl ?_
      | refine sk_pure_g rfl rfl rfl rfl (ps_field rfl rfl) rfl ?_
      | refine sk_pure_g rfl rfl rfl rfl (ps_build rfl rfl) rfl ?_
      | refine sk_pure_g rfl rfl rfl rfl (ps_indexAddr rfl rfl rfl (by omega)) rfl ?_
      | refine sk_pure_g rfl rfl rfl rfl (ps_indexAddr (j := 0) rfl rfl rfl (by omega)) rfl ?_
      | refine sk_pure_g rfl rfl rfl rfl (ps_indexAddr (j := 1) rfl rfl rfl (by omega)) rfl ?_
      | refine sk_pure_g rfl rfl rfl rfl (ps_pick_t rfl rfl) rfl ?_
      | refine sk_pure_g rfl rfl rfl rfl (ps_pick_f rfl rfl) rfl ?_
      | refine sk_pure_g rfl rfl rfl rfl (ps_min2 rfl rfl) rfl ?_
      | refine sk_pure_g rfl rfl rfl rfl (ps_max2 rfl rfl) rfl ?_
      | refine sk_pure_g rfl rfl rfl rfl (ps_indexAddr_arr rfl rfl rfl (by omega)) rfl ?_
      | refine sk_load 0 rfl rfl rfl rfl rfl ?_
      | refine sk_load 1 rfl rfl rfl rfl rfl ?_
      | refine sk_load 2 rfl rfl rfl rfl rfl ?_
      | refine sk_load 3 rfl rfl rfl rfl rfl ?_
      | refine sk_load 4 rfl rfl rfl rfl rfl ?_
      | refine sk_load 5 rfl rfl rfl rfl rfl ?_
      | refine sk_load_g 0 rfl rfl rfl rfl rfl rfl rfl ?_
      | refine sk_load_g 1 rfl rfl rfl rfl rfl rfl rfl ?_
      | refine sk_load_g 2 rfl rfl rfl rfl rfl rfl rfl ?_
      | refine sk_load_g 3 rfl rfl rfl rfl rfl rfl rfl ?_
      | refine sk_load_g 4 rfl rfl rfl rfl rfl rfl rfl ?_
      | refine sk_load_g 5 rfl rfl rfl rfl rfl rfl rfl ?_
      | refine sk_lw 0 rfl rfl rfl rfl rfl ?_
      | refine sk_lw 1 rfl rfl rfl rfl rfl ?_
      | refine sk_lw 2 rfl rfl rfl rfl rfl ?_
      | refine sk_lw 3 rfl rfl rfl rfl rfl ?_
      | refine sk_lw 4 rfl rfl rfl rfl rfl ?_
      | refine sk_lw 5 rfl rfl rfl rfl rfl ?_
      | refine sk_lwg 0 rfl rfl rfl rfl rfl rfl rfl ?_
      | refine sk_lwg 1 rfl rfl rfl rfl rfl rfl rfl ?_
      | refine sk_lwg 2 rfl rfl rfl rfl rfl rfl rfl ?_
      | refine sk_lwg 3 rfl rfl rfl rfl rfl rfl rfl ?_
      | refine sk_lwg 4 rfl rfl rfl rfl rfl rfl rfl ?_
      | refine sk_lwg 5 rfl rfl rfl rfl rfl rfl rfl ?_
      | refine sk_eff rfl rfl ?_
      | refine sg_store_whole [] rfl rfl rfl rfl rfl ?_
      | refine sg_store_whole [_] rfl rfl rfl rfl rfl ?_
      | refine sg_store_whole [_, _] rfl rfl rfl rfl rfl ?_
      | refine sg_store_whole [_, _, _] rfl rfl rfl rfl rfl ?_
      | refine sg_store_whole [_, _, _, _] rfl rfl rfl rfl rfl ?_
      | refine sg_store_whole [_, _, _, _, _] rfl rfl rfl rfl rfl ?_
      | refine sg_store_whole [_, _, _, _, _, _] rfl rfl rfl rfl rfl ?_
      | refine sg_guard_yes rfl rfl ?_
      | refine sg_guard_nf rfl rfl rfl ?_
      | refine sg_guard_nt rfl rfl rfl ?_
      | refine sg_guard_nu rfl rfl rfl ?_
      | refine sk_back (fun w hO => hO) ?_
      | refine sg_store [] rfl rfl rfl (of_decide_eq_true rfl) ?_
      | refine sg_store [_] rfl rfl rfl (of_decide_eq_true rfl) ?_
      | refine sg_store [_, _] rfl rfl rfl (of_decide_eq_true rfl) ?_
      | refine sg_store [_, _, _] rfl rfl rfl (of_decide_eq_true rfl) ?_
      | refine sg_store [_, _, _, _] rfl rfl rfl (of_decide_eq_true rfl) ?_
      | refine sg_store [_, _, _, _, _] rfl rfl rfl (of_decide_eq_true rfl) ?_
      | refine sg_store [_, _, _, _, _, _] rfl rfl rfl (of_decide_eq_true rfl) ?_
      | refine sg_store [_, _, _, _, _, _, _] rfl rfl rfl (of_decide_eq_true rfl) ?_)
    refine sg_know 49 rfl (fun h0 => ?_) (fun _ => ?_)
    · skip
      repeat' (first
        | refine sk_nil ?_
        | refine sk_pure rfl rfl (ps_move rfl) rfl ?_
        | refine sk_pure rfl rfl (ps_assign rfl) rfl ?_
        | refine sk_pure rfl rfl (ps_nilCheck rfl) rfl ?_
        | refine sk_pure rfl rfl (ps_fieldAddr rfl) rfl ?_
        | refine sk_pure rfl rfl (ps_add64 rfl rfl (by omega)) rfl ?_
        | refine sk_pure rfl rfl (ps_sub64 rfl rfl (by omega)) rfl ?_
        | refine sk_pure rfl rfl (ps_mul64 rfl rfl (by omega)) rfl ?_
        | refine sk_pure rfl rfl (ps_bin rfl rfl inferInstance) rfl ?_
        | refine sk_pure rfl rfl (ps_rem rfl rfl (by decide)) rfl ?_
        | refine sk_pure rfl rfl (ps_not rfl) rfl ?_
        | refine sk_pure rfl rfl (ps_conv rfl) rfl ?_
        | refine sk_pure rfl rfl (ps_shl rfl rfl (by decide) rfl) rfl ?_
        | refine sk_pure rfl rfl (ps_shr rfl rfl (by decide) rfl) rfl ?_
        | refine sk_pure rfl rfl (ps_len rfl) rfl ?_
        | refine sk_pure rfl rfl (ps_len_str rfl) rfl ?_
        | refine sk_pure rfl rfl (ps_extract rfl rfl) rfl ?_
        | refine sk_pure rfl rfl (ps_field rfl rfl) rfl ?_
        | refine sk_pure rfl rfl (ps_build rfl rfl) rfl ?_
        | refine sk_pure rfl rfl (ps_indexAddr rfl rfl rfl (by omega)) rfl ?_
        | refine sk_pure rfl rfl (ps_indexAddr (j := 0) rfl rfl rfl (by omega)) rfl ?_
        | refine sk_pure rfl rfl (ps_indexAddr (j := 1) rfl rfl rfl (by omega)) rfl ?_
        | refine sk_pure rfl rfl (ps_pick_t rfl rfl) rfl ?_
        | refine sk_pure rfl rfl (ps_pick_f rfl rfl) rfl ?_
        | refine sk_pure rfl rfl (ps_min2 rfl rfl) rfl ?_
        | refine sk_pure rfl rfl (ps_max2 rfl rfl) rfl ?_
        | refine sk_pure rfl rfl (ps_indexAddr_arr rfl rfl rfl (by omega)) rfl ?_
        | refine sk_no rfl rfl rfl rfl rfl ?_
        | refine sk_pure_g rfl rfl rfl rfl (ps_move rfl) rfl ?_
        | refine sk_pure_g rfl rfl rfl rfl (ps_assign rfl) rfl ?_
        | refine sk_pure_g rfl rfl rfl rfl (ps_nilCheck rfl) rfl ?_
        | refine sk_pure_g rfl rfl rfl rfl (ps_fieldAddr rfl) rfl ?_
        | refine sk_pure_g rfl rfl rfl rfl (ps_add64 rfl rfl (by omega)) rfl ?_
        | refine sk_pure_g rfl rfl rfl rfl (ps_sub64 rfl rfl (by omega)) rfl ?_
        | refine sk_pure_g rfl rfl rfl rfl (ps_mul64 rfl rfl (by omega)) rfl ?_
        | refine sk_pure_g rfl rfl rfl rfl (ps_bin rfl rfl inferInstance) rfl ?_
        | refine sk_pure_g rfl rfl rfl rfl (ps_rem rfl rfl (by decide)) rfl ?_
        | refine sk_pure_g rfl rfl rfl rfl (ps_not rfl) rfl ?_
        | refine sk_pure_g rfl rfl rfl rfl (ps_conv rfl) rfl ?_
        | refine sk_pure_g rfl rfl rfl rfl (ps_shl rfl rfl (by decide) rfl) rfl ?_
        | refine sk_pure_g rfl rfl rfl rfl (ps_shr rfl rfl (by decide) rfl) rfl ?_
        | refine sk_pure_g rfl rfl rfl rfl (ps_len rfl) rfl ?_
        | refine sk_pure_g rfl rfl rfl rfl (ps_len_str rfl) rfl ?_
        | refine sk_pure_g rfl rfl rfl rfl (ps_extract rfl rfl) rfl ?_
        | refine sk_pure_g rfl rfl rfl rfl (ps_field rfl rfl) rfl ?_
        | refine sk_pure_g rfl rfl rfl rfl (ps_build rfl rfl) rfl ?_
        | refine sk_pure_g rfl rfl rfl rfl (ps_indexAddr rfl rfl rfl (by omega)) rfl ?_
        | refine sk_pure_g rfl rfl rfl rfl (ps_indexAddr (j := 0) rfl rfl rfl (by omega)) rfl ?_
        | refine sk_pure_g rfl rfl rfl rfl (ps_indexAddr (j := 1) rfl rfl rfl (by omega)) rfl ?_
        | refine sk_pure_g rfl rfl rfl rfl (ps_pick_t rfl rfl) rfl ?_
        | refine sk_pure_g rfl rfl rfl rfl (ps_pick_f rfl rfl) rfl ?_
        | refine sk_pure_g rfl rfl rfl rfl (ps_min2 rfl rfl) rfl ?_
        | refine sk_pure_g rfl rfl rfl rfl (ps_max2 rfl rfl) rfl ?_
        | refine sk_pure_g rfl rfl rfl rfl (ps_indexAddr_arr rfl rfl rfl (by omega)) rfl ?_
        | refine sk_load 0 rfl rfl rfl rfl rfl ?_
        | refine sk_load 1 rfl rfl rfl rfl rfl ?_
        | refine sk_load 2 rfl rfl rfl rfl rfl ?_
        | refine sk_load 3 rfl rfl rfl rfl rfl ?_
        | refine sk_load 4 rfl rfl rfl rfl rfl ?_
        | refine sk_load 5 rfl rfl rfl rfl rfl ?_
        | refine sk_load_g 0 rfl rfl rfl rfl rfl rfl rfl ?_
        | refine sk_load_g 1 rfl rfl rfl rfl rfl rfl rfl ?_
        | refine sk_load_g 2 rfl rfl rfl rfl rfl rfl rfl ?_
        | refine sk_load_g 3 rfl rfl rfl rfl rfl rfl rfl ?_
        | refine sk_load_g 4 rfl rfl rfl rfl rfl rfl rfl ?_
        | refine sk_load_g 5 rfl rfl rfl rfl rfl rfl rfl ?_
        | refine sk_lw 0 rfl rfl rfl rfl rfl ?_
        | refine sk_lw 1 rfl rfl rfl rfl rfl ?_
        | refine sk_lw 2 rfl rfl rfl rfl rfl ?_
        | refine sk_lw 3 rfl rfl rfl rfl rfl ?_
        | refine sk_lw 4 rfl rfl rfl rfl rfl ?_
        | refine sk_lw 5 rfl rfl rfl rfl rfl ?_
        | refine sk_lwg 0 rfl rfl rfl rfl rfl rfl rfl ?_
        | refine sk_lwg 1 rfl rfl rfl rfl rfl rfl rfl ?_
        | refine sk_lwg 2 rfl rfl rfl rfl rfl rfl rfl ?_
        | refine sk_lwg 3 rfl rfl rfl rfl rfl rfl rfl ?_
        | refine sk_lwg 4 rfl rfl rfl rfl rfl rfl rfl ?_
        | refine sk_lwg 5 rfl rfl rfl rfl rfl rfl rfl ?_
        | refine sk_eff rfl rfl ?_
        | refine sg_store_whole [] rfl rfl rfl rfl rfl ?_
        | refine sg_store_whole [_] rfl rfl rfl rfl rfl ?_
        | refine sg_store_whole [_, _] rfl rfl rfl rfl rfl ?_
        | refine sg_store_whole [_, _, _] rfl rfl rfl rfl rfl ?_
        | refine sg_store_whole [_, _, _, _] rfl rfl rfl rfl rfl ?_
        | refine sg_store_whole [_, _, _, _, _] rfl rfl rfl rfl rfl ?_
        | refine sg_store_whole [_, _, _, _, _, _] rfl rfl rfl rfl rfl ?_
        | refine sg_guard_yes rfl rfl ?_
        | refine sg_guard_nf rfl rfl rfl ?_
        | refine sg_guard_nt rfl rfl rfl ?_
        | refine sg_guard_nu rfl rfl rfl ?_
        | refine sk_back (fun w hO => hO) ?_
        | refine sg_store [] rfl rfl rfl (of_decide_eq_true rfl) ?_
        | refine sg_store [_] rfl rfl rfl (of_decide_eq_true rfl) ?_
        | refine sg_store [_, _] rfl rfl rfl (of_decide_eq_true rfl) ?_
        | refine sg_store [_, _, _] rfl rfl rfl (of_decide_eq_true rfl) ?_
        | refine sg_store [_, _, _, _] rfl rfl rfl (of_decide_eq_true rfl) ?_
        | refine sg_store [_, _, _, _, _] rfl rfl rfl (of_decide_eq_true rfl) ?_
        | refine sg_store [_, _, _, _, _, _] rfl rfl rfl (of_decide_eq_true rfl) ?_
        | refine sg_store [_, _, _, _, _, _, _] rfl rfl rfl (of_decide_eq_true rfl) ?_)
      refine sg_know 53 rfl (fun h1 => ?_) (fun _ => ?_)
      · have h0 := of_decide_eq_true h0
        have h1 := of_decide_eq_true h1
        repeat' (first
          | refine sk_nil ?_
          | refine sk_pure rfl rfl (ps_move rfl) rfl ?_
          | refine sk_pure rfl rfl (ps_assign rfl) rfl ?_
          | refine sk_pure rfl rfl (ps_nilCheck rfl) rfl ?_
          | refine sk_pure rfl rfl (ps_fieldAddr rfl) rfl ?_
          | refine sk_pure rfl rfl (ps_add64 rfl rfl (by omega)) rfl ?_
          | refine sk_pure rfl rfl (ps_sub64 rfl rfl (by omega)) rfl ?_
          | refine sk_pure rfl rfl (ps_mul64 rfl rfl (by omega)) rfl ?_
          | refine sk_pure rfl rfl (ps_bin rfl rfl inferInstance) rfl ?_
          | refine sk_pure rfl rfl (ps_rem rfl rfl (by decide)) rfl ?_
          | refine sk_pure rfl rfl (ps_not rfl) rfl ?_
          | refine sk_pure rfl rfl (ps_conv rfl) rfl ?_
          | refine sk_pure rfl rfl (ps_shl rfl rfl (by decide) rfl) rfl ?_
          | refine sk_pure rfl rfl (ps_shr rfl rfl (by decide) rfl) rfl ?_
          | refine sk_pure rfl rfl (ps_len rfl) rfl ?_
          | refine sk_pure rfl rfl (ps_len_str rfl) rfl ?_
          | refine sk_pure rfl rfl (ps_extract rfl rfl) rfl ?_
          | refine sk_pure rfl rfl (ps_field rfl rfl) rfl ?_
          | refine sk_pure rfl rfl (ps_build rfl rfl) rfl ?_
          | refine sk_pure rfl rfl (ps_indexAddr rfl rfl rfl (by omega)) rfl ?_
          | refine sk_pure rfl rfl (ps_indexAddr (j := 0) rfl rfl rfl (by omega)) rfl ?_
          | refine sk_pure rfl rfl (ps_indexAddr (j := 1) rfl rfl rfl (by omega)) rfl ?_
          | refine sk_pure rfl rfl (ps_pick_t rfl rfl) rfl ?_
          | refine sk_pure rfl rfl (ps_pick_f rfl rfl) rfl ?_
          | refine sk_pure rfl rfl (ps_min2 rfl rfl) rfl ?_
          | refine sk_pure rfl rfl (ps_max2 rfl rfl) rfl ?_
          | refine sk_pure rfl rfl (ps_indexAddr_arr rfl rfl rfl (by omega)) rfl ?_
          | refine sk_no rfl rfl rfl rfl rfl ?_
          | refine sk_pure_g rfl rfl rfl rfl (ps_move rfl) rfl ?_
          | refine sk_pure_g rfl rfl rfl rfl (ps_assign rfl) rfl ?_
          | refine sk_pure_g rfl rfl rfl rfl (ps_nilCheck rfl) rfl ?_
          | refine sk_pure_g rfl rfl rfl rfl (ps_fieldAddr rfl) rfl ?_
          | refine sk_pure_g rfl rfl rfl rfl (ps_add64 rfl rfl (by omega)) rfl ?_
          | refine sk_pure_g rfl rfl rfl rfl (ps_sub64 rfl rfl (by omega)) rfl ?_
          | refine sk_pure_g rfl rfl rfl rfl (ps_mul64 rfl rfl (by omega)) rfl ?_
          | refine sk_pure_g rfl rfl rfl rfl (ps_bin rfl rfl inferInstance) rfl ?_
          | refine sk_pure_g rfl rfl rfl rfl (ps_rem rfl rfl (by decide)) rfl ?_
          | refine sk_pure_g rfl rfl rfl rfl (ps_not rfl) rfl ?_
          | refine sk_pure_g rfl rfl rfl rfl (ps_conv rfl) rfl ?_
          | refine sk_pure_g rfl rfl rfl rfl (ps_shl rfl rfl (by decide) rfl) rfl ?_
          | refine sk_pure_g rfl rfl rfl rfl (ps_shr rfl rfl (by decide) rfl) rfl ?_
          | refine sk_pure_g rfl rfl rfl rfl (ps_len rfl) rfl ?_
          | refine sk_pure_g rfl rfl rfl rfl (ps_len_str rfl) rfl ?_
          | refine sk_pure_g rfl rfl rfl rfl (ps_extract rfl rfl) rfl ?_
          | refine sk_pure_g rfl rfl rfl rfl (ps_field rfl rfl) rfl ?_
          | refine sk_pure_g rfl rfl rfl rfl (ps_build rfl rfl) rfl ?_
          | refine sk_pure_g rfl rfl rfl rfl (ps_indexAddr rfl rfl rfl (by omega)) rfl ?_
          | refine sk_pure_g rfl rfl rfl rfl (ps_indexAddr (j := 0) rfl rfl rfl (by omega)) rfl ?_
          | refine sk_pure_g rfl rfl rfl rfl (ps_indexAddr (j := 1) rfl rfl rfl (by omega)) rfl ?_
          | refine sk_pure_g rfl rfl rfl rfl (ps_pick_t rfl rfl) rfl ?_
          | refine sk_pure_g rfl rfl rfl rfl (ps_pick_f rfl rfl) rfl ?_
          | refine sk_pure_g rfl rfl rfl rfl (ps_min2 rfl rfl) rfl ?_
          | refine sk_pure_g rfl rfl rfl rfl (ps_max2 rfl rfl) rfl ?_
          | refine sk_pure_g rfl rfl rfl rfl (ps_indexAddr_arr rfl rfl rfl (by omega)) rfl ?_
          | refine sk_load 0 rfl rfl rfl rfl rfl ?_
          | refine sk_load 1 rfl rfl rfl rfl rfl ?_
          | refine sk_load 2 rfl rfl rfl rfl rfl ?_
          | refine sk_load 3 rfl rfl rfl rfl rfl ?_
          | refine sk_load 4 rfl rfl rfl rfl rfl ?_
          | refine sk_load 5 rfl rfl rfl rfl rfl ?_
          | refine sk_load_g 0 rfl rfl rfl rfl rfl rfl rfl ?_
          | refine sk_load_g 1 rfl rfl rfl rfl rfl rfl rfl ?_
          | refine sk_load_g 2 rfl rfl rfl rfl rfl rfl rfl ?_
          | refine sk_load_g 3 rfl rfl rfl rfl rfl rfl rfl ?_
          | refine sk_load_g 4 rfl rfl rfl rfl rfl rfl rfl ?_
          | refine sk_load_g 5 rfl rfl rfl rfl rfl rfl rfl ?_
          | refine sk_lw 0 rfl rfl rfl rfl rfl ?_
          | refine sk_lw 1 rfl rfl rfl rfl rfl ?_
          | refine sk_lw 2 rfl rfl rfl rfl rfl ?_
          | refine sk_lw 3 rfl rfl rfl rfl rfl ?_
          | refine sk_lw 4 rfl rfl rfl rfl rfl ?_
          | refine sk_lw 5 rfl rfl rfl rfl rfl ?_
          | refine sk_lwg 0 rfl rfl rfl rfl rfl rfl rfl ?_
          | refine sk_lwg 1 rfl rfl rfl rfl rfl rfl rfl ?_
          | refine sk_lwg 2 rfl rfl rfl rfl rfl rfl rfl ?_
          | refine sk_lwg 3 rfl rfl rfl rfl rfl rfl rfl ?_
          | refine sk_lwg 4 rfl rfl rfl rfl rfl rfl rfl ?_
          | refine sk_lwg 5 rfl rfl rfl rfl rfl rfl rfl ?_
          | refine sk_eff rfl rfl ?_
          | refine sg_store_whole [] rfl rfl rfl rfl rfl ?_
          | refine sg_store_whole [_] rfl rfl rfl rfl rfl ?_
          | refine sg_store_whole [_, _] rfl rfl rfl rfl rfl ?_
          | refine sg_store_whole [_, _, _] rfl rfl rfl rfl rfl ?_
          | refine sg_store_whole [_, _, _, _] rfl rfl rfl rfl rfl ?_
          | refine sg_store_whole [_, _, _, _, _] rfl rfl rfl rfl rfl ?_
          | refine sg_store_whole [_, _, _, _, _, _] rfl rfl rfl rfl rfl ?_
          | refine sg_guard_yes rfl rfl ?_
          | refine sg_guard_nf rfl rfl rfl ?_
          | refine sg_guard_nt rfl rfl rfl ?_
          | refine sg_guard_nu rfl rfl rfl ?_
          | refine sk_back (fun w hO => hO) ?_
          | refine sg_store [] rfl rfl rfl (of_decide_eq_true rfl) ?_
          | refine sg_store [_] rfl rfl rfl (of_decide_eq_true rfl) ?_
          | refine sg_store [_, _] rfl rfl rfl (of_decide_eq_true rfl) ?_
          | refine sg_store [_, _, _] rfl rfl rfl (of_decide_eq_true rfl) ?_
          | refine sg_store [_, _, _, _] rfl rfl rfl (of_decide_eq_true rfl) ?_
          | refine sg_store [_, _, _, _, _] rfl rfl rfl (of_decide_eq_true rfl) ?_
          | refine sg_store [_, _, _, _, _, _] rfl rfl rfl (of_decide_eq_true rfl) ?_
          | refine sg_store [_, _, _, _, _, _, _] rfl rfl rfl (of_decide_eq_true rfl) ?_)
        refine sg_call (t5 _) rfl rfl (fun _ _ => ?_)
        refine sk_back (fun w hO => hO) ?_
        refine sk_pure_g rfl rfl rfl rfl (ps_neE ok5 ok1 rfl rfl) rfl ?_
        rw [hon h0 h1, show ∀ z : EN, (!decide (z = z)) = false from fun z => by simp]
        repeat' (first
          | refine sk_nil ?_
          | refine sk_pure rfl rfl (ps_move rfl) rfl ?_
          | refine sk_pure rfl rfl (ps_assign rfl) rfl ?_
          | refine sk_pure rfl rfl (ps_nilCheck rfl) rfl ?_
          | refine sk_pure rfl rfl (ps_fieldAddr rfl) rfl ?_
          | refine sk_pure rfl rfl (ps_add64 rfl rfl (by omega)) rfl ?_
          | refine sk_pure rfl rfl (ps_sub64 rfl rfl (by omega)) rfl ?_
          | refine sk_pure rfl rfl (ps_mul64 rfl rfl (by omega)) rfl ?_
          | refine sk_pure rfl rfl (ps_bin rfl rfl inferInstance) rfl ?_
          | refine sk_pure rfl rfl (ps_rem rfl rfl (by decide)) rfl ?_
          | refine sk_pure rfl rfl (ps_not rfl) rfl ?_
          | refine sk_pure rfl rfl (ps_conv rfl) rfl ?_
          | refine sk_pure rfl rfl (ps_shl rfl rfl (by decide) rfl) rfl ?_
          | refine sk_pure rfl rfl (ps_shr rfl rfl (by decide) rfl) rfl ?_
          | refine sk_pure rfl rfl (ps_len rfl) rfl ?_
          | refine sk_pure rfl rfl (ps_len_str rfl) rfl ?_
          | refine sk_pure rfl rfl (ps_extract rfl rfl) rfl ?_
          | refine sk_pure rfl rfl (ps_field rfl rfl) rfl ?_
          | refine sk_pure rfl rfl (ps_build rfl rfl) rfl ?_
          | refine sk_pure rfl rfl (ps_indexAddr rfl rfl rfl (by omega)) rfl ?_
          | refine sk_pure rfl rfl (ps_indexAddr (j := 0) rfl rfl rfl (by omega)) rfl ?_
          | refine sk_pure rfl rfl (ps_indexAddr (j := 1) rfl rfl rfl (by omega)) rfl ?_
          | refine sk_pure rfl rfl (ps_pick_t rfl rfl) rfl ?_
          | refine sk_pure rfl rfl (ps_pick_f rfl rfl) rfl ?_
          | refine sk_pure rfl rfl (ps_min2 rfl rfl) rfl ?_
          | refine sk_pure rfl rfl (ps_max2 rfl rfl) rfl ?_
          | refine sk_pure rfl rfl (ps_indexAddr_arr rfl rfl rfl (by omega)) rfl ?_
          | refine sk_no rfl rfl rfl rfl rfl ?_
          | refine sk_pure_g rfl rfl rfl rfl (ps_move rfl) rfl ?_
          | refine sk_pure_g rfl rfl rfl rfl (ps_assign rfl) rfl ?_
          | refine sk_pure_g rfl rfl rfl rfl (ps_nilCheck rfl) rfl ?_
          | refine sk_pure_g rfl rfl rfl rfl (ps_fieldAddr rfl) rfl ?_
          | refine sk_pure_g rfl rfl rfl rfl (ps_add64 rfl rfl (by omega)) rfl ?_
          | refine sk_pure_g rfl rfl rfl rfl (ps_sub64 rfl rfl (by omega)) rfl ?_
          | refine sk_pure_g rfl rfl rfl rfl (ps_mul64 rfl rfl (by omega)) rfl ?_
          | refine sk_pure_g rfl rfl rfl rfl (ps_bin rfl rfl inferInstance) rfl ?_
          | refine sk_pure_g rfl rfl rfl rfl (ps_rem rfl rfl (by decide)) rfl ?_
          | refine sk_pure_g rfl rfl rfl rfl (ps_not rfl) rfl ?_
          | refine sk_pure_g rfl rfl rfl rfl (ps_conv rfl) rfl ?_
          | refine sk_pure_g rfl rfl rfl rfl (ps_shl rfl rfl (by decide) rfl) rfl ?_
          | refine sk_pure_g rfl rfl rfl rfl (ps_shr rfl rfl (by decide) rfl) rfl ?_
          | refine sk_pure_g rfl rfl rfl rfl (ps_len rfl) rfl ?_
          | refine sk_pure_g rfl rfl rfl rfl (ps_len_str rfl) rfl ?_
          | refine sk_pure_g rfl rfl rfl rfl (ps_extract rfl rfl) rfl ?_
          | refine sk_pure_g rfl rfl rfl rfl (ps_field rfl rfl) rfl ?_
          | refine sk_pure_g rfl rfl rfl rfl (ps_build rfl rfl) rfl ?_
          | refine sk_pure_g rfl rfl rfl rfl (ps_indexAddr rfl rfl rfl (by omega)) rfl ?_
          | refine sk_pure_g rfl rfl rfl rfl (ps_indexAddr (j := 0) rfl rfl rfl (by omega)) rfl ?_
          | refine sk_pure_g rfl rfl rfl rfl (ps_indexAddr (j := 1) rfl rfl rfl (by omega)) rfl ?_
          | refine sk_pure_g rfl rfl rfl rfl (ps_pick_t rfl rfl) rfl ?_
          | refine sk_pure_g rfl rfl rfl rfl (ps_pick_f rfl rfl) rfl ?_
          | refine sk_pure_g rfl rfl rfl rfl (ps_min2 rfl rfl) rfl ?_
          | refine sk_pure_g rfl rfl rfl rfl (ps_max2 rfl rfl) rfl ?_
          | refine sk_pure_g rfl rfl rfl rfl (ps_indexAddr_arr rfl rfl rfl (by omega)) rfl ?_
          | refine sk_load 0 rfl rfl rfl rfl rfl ?_
          | refine sk_load 1 rfl rfl rfl rfl rfl ?_
          | refine sk_load 2 rfl rfl rfl rfl rfl ?_
          | refine sk_load 3 rfl rfl rfl rfl rfl ?_
          | refine sk_load 4 rfl rfl rfl rfl rfl ?_
          | refine sk_load 5 rfl rfl rfl rfl rfl ?_
          | refine sk_load_g 0 rfl rfl rfl rfl rfl rfl rfl ?_
          | refine sk_load_g 1 rfl rfl rfl rfl rfl rfl rfl ?_
          | refine sk_load_g 2 rfl rfl rfl rfl rfl rfl rfl ?_
          | refine sk_load_g 3 rfl rfl rfl rfl rfl rfl rfl ?_
          | refine sk_load_g 4 rfl rfl rfl rfl rfl rfl rfl ?_
          | refine sk_load_g 5 rfl rfl rfl rfl rfl rfl rfl ?_
          | refine sk_lw 0 rfl rfl rfl rfl rfl ?_
          | refine sk_lw 1 rfl rfl rfl rfl rfl ?_
          | refine sk_lw 2 rfl rfl rfl rfl rfl ?_
          | refine sk_lw 3 rfl rfl rfl rfl rfl ?_
          | refine sk_lw 4 rfl rfl rfl rfl rfl ?_
          | refine sk_lw 5 rfl rfl rfl rfl rfl ?_
          | refine sk_lwg 0 rfl rfl rfl rfl rfl rfl rfl ?_
          | refine sk_lwg 1 rfl rfl rfl rfl rfl rfl rfl ?_
          | refine sk_lwg 2 rfl rfl rfl rfl rfl rfl rfl ?_
          | refine sk_lwg 3 rfl rfl rfl rfl rfl rfl rfl ?_
          | refine sk_lwg 4 rfl rfl rfl rfl rfl rfl rfl ?_
          | refine sk_lwg 5 rfl rfl rfl rfl rfl rfl rfl ?_
          | refine sk_eff rfl rfl ?_
          | refine sg_store_whole [] rfl rfl rfl rfl rfl ?_
          | refine sg_store_whole [_] rfl rfl rfl rfl rfl ?_
          | refine sg_store_whole [_, _] rfl rfl rfl rfl rfl ?_
          | refine sg_store_whole [_, _, _] rfl rfl rfl rfl rfl ?_
          | refine sg_store_whole [_, _, _, _] rfl rfl rfl rfl rfl ?_
          | refine sg_store_whole [_, _, _, _, _] rfl rfl rfl rfl rfl ?_
          | refine sg_store_whole [_, _, _, _, _, _] rfl rfl rfl rfl rfl ?_
          | refine sg_guard_yes rfl rfl ?_
          | refine sg_guard_nf rfl rfl rfl ?_
          | refine sg_guard_nt rfl rfl rfl ?_
          | refine sg_guard_nu rfl rfl rfl ?_
          | refine sk_back (fun w hO => hO) ?_
          | refine sg_store [] rfl rfl rfl (of_decide_eq_true rfl) ?_
          | refine sg_store [_] rfl rfl rfl (of_decide_eq_true rfl) ?_
          | refine sg_store [_, _] rfl rfl rfl (of_decide_eq_true rfl) ?_
          | refine sg_store [_, _, _] rfl rfl rfl (of_decide_eq_true rfl) ?_
          | refine sg_store [_, _, _, _] rfl rfl rfl (of_decide_eq_true rfl) ?_
          | refine sg_store [_, _, _, _, _] rfl rfl rfl (of_decide_eq_true rfl) ?_
          | refine sg_store [_, _, _, _, _, _] rfl rfl rfl (of_decide_eq_true rfl) ?_
          | refine sg_store [_, _, _, _, _, _, _] rfl rfl rfl (of_decide_eq_true rfl) ?_)
        repeat' (first
          | refine sg_wo ?_
          | refine sg_ps (ps_move rfl) rfl ?_
          | refine sg_ps (ps_assign rfl) rfl ?_
          | refine sg_seq ?_
          | refine sg_region ?_
          | refine sg_nil ?_
          | refine sg_then ?_
          | refine sg_ps (ps_fieldAddr rfl) rfl ?_
          | refine sg_ps (ps_nilCheck rfl) rfl ?_
          | refine sg_load 0 rfl rfl rfl rfl ?_
          | refine sg_load 1 rfl rfl rfl rfl ?_
          | refine sg_load 2 rfl rfl rfl rfl ?_
          | refine sg_load 3 rfl rfl rfl rfl ?_
          | refine sg_load 4 rfl rfl rfl rfl ?_
          | refine sg_load 5 rfl rfl rfl rfl ?_
          | refine sg_load 6 rfl rfl rfl rfl ?_
          | refine sg_load 7 rfl rfl rfl rfl ?_
          | refine sg_ps (ps_add64 rfl rfl (by omega)) rfl ?_
          | refine sg_ps (ps_sub64 rfl rfl (by omega)) rfl ?_
          | refine sg_ps (ps_mul64 rfl rfl (by omega)) rfl ?_
          | refine sg_ps (ps_bin rfl rfl inferInstance) rfl ?_
          | refine sg_ps (ps_rem rfl rfl (by decide)) rfl ?_
          | refine sg_ps (ps_quo64 rfl rfl (by decide) (by omega)) rfl ?_
          | refine sg_ps (ps_not rfl) rfl ?_
          | refine sg_ps (ps_conv rfl) rfl ?_
          | refine sg_ps (ps_shl rfl rfl (by decide) rfl) rfl ?_
          | refine sg_ps (ps_shr rfl rfl (by decide) rfl) rfl ?_
          | refine sg_cond_t rfl ?_
          | refine sg_cond_f rfl ?_
          | refine sg_guard_yes rfl rfl ?_
          | refine sg_guard_nf rfl rfl rfl ?_
          | refine sg_guard_nt rfl rfl rfl ?_
          | refine sg_guard_nu rfl rfl rfl ?_
          | refine sg_ps (ps_pick_t rfl rfl) rfl ?_
          | refine sg_ps (ps_pick_f rfl rfl) rfl ?_
          | refine sg_ps (ps_len rfl) rfl ?_
          | refine sg_ps (ps_len_str rfl) rfl ?_
          | refine sg_ps (ps_extract rfl rfl) rfl ?_
          | refine sg_ps (ps_field rfl rfl) rfl ?_
          | refine sg_ps (ps_min2 rfl rfl) rfl ?_
          | refine sg_ps (ps_max2 rfl rfl) rfl ?_
          | refine sg_ps (ps_build rfl rfl) rfl ?_
          | refine sg_box rfl rfl (fun bx => ?_)
          | refine sg_ps (ps_indexAddr rfl rfl rfl (by omega)) rfl ?_
          | refine sg_ps (ps_indexAddr (j := 0) rfl rfl rfl (by omega)) rfl ?_
          | refine sg_ps (ps_indexAddr (j := 1) rfl rfl rfl (by omega)) rfl ?_
          | refine sg_ps (ps_indexAddr_arr rfl rfl rfl (by omega)) rfl ?_
          | refine sg_load_whole 0 rfl rfl rfl rfl ?_
          | refine sg_load_whole 1 rfl rfl rfl rfl ?_
          | refine sg_load_whole 2 rfl rfl rfl rfl ?_
          | refine sg_load_whole 3 rfl rfl rfl rfl ?_
          | refine sg_load_whole 4 rfl rfl rfl rfl ?_
          | refine sg_load_whole 5 rfl rfl rfl rfl ?_
          | refine sg_load_whole 6 rfl rfl rfl rfl ?_
          | refine sg_load_whole 7 rfl rfl rfl rfl ?_
          | refine sg_store_whole [] rfl rfl rfl rfl rfl ?_
          | refine sg_store_whole [_] rfl rfl rfl rfl rfl ?_
          | refine sg_store_whole [_, _] rfl rfl rfl rfl rfl ?_
          | refine sg_store_whole [_, _, _] rfl rfl rfl rfl rfl ?_
          | refine sg_store_whole [_, _, _, _] rfl rfl rfl rfl rfl ?_
          | refine sg_store_whole [_, _, _, _, _] rfl rfl rfl rfl rfl ?_
          | refine sg_store_whole [_, _, _, _, _, _] rfl rfl rfl rfl rfl ?_
          | refine sg_alloc rfl (fun al => ?_)
          | refine sg_block ?_
          | refine sg_skip ?_
          | refine sg_ret ?_
          | refine sg_exit ?_
          | refine ex_then_ret ?_
          | refine ex_then_exit ?_
          | refine ex_block_ret ?_
          | refine ex_block_normal ?_
          | refine ex_block_hit ?_
          | refine ex_block_miss rfl ?_
          | refine sg_store [] rfl rfl rfl (of_decide_eq_true rfl) ?_
          | refine sg_store [_] rfl rfl rfl (of_decide_eq_true rfl) ?_
          | refine sg_store [_, _] rfl rfl rfl (of_decide_eq_true rfl) ?_
          | refine sg_store [_, _, _] rfl rfl rfl (of_decide_eq_true rfl) ?_
          | refine sg_store [_, _, _, _] rfl rfl rfl (of_decide_eq_true rfl) ?_
          | refine sg_store [_, _, _, _, _] rfl rfl rfl (of_decide_eq_true rfl) ?_
          | refine sg_store [_, _, _, _, _, _] rfl rfl rfl (of_decide_eq_true rfl) ?_
          | refine sg_store [_, _, _, _, _, _, _] rfl rfl rfl (of_decide_eq_true rfl) ?_
          | (refine sg_guard_dec rfl rfl (fun hg => ?_) (fun hg => ?_) <;> first | (exfalso; omega) | (exact absurd rfl hg) | skip)
          | (refine sg_guard_ndec rfl rfl (fun hg => ?_) (fun hg => ?_) <;> first | (exfalso; omega) | (exact absurd rfl hg) | skip)
          | (refine sg_cond_dec rfl (fun hg => ?_) (fun hg => ?_) <;> first | (exfalso; omega) | (exact absurd rfl hg) | skip)
          | (refine sg_cond_ndec rfl (fun hg => ?_) (fun hg => ?_) <;> first | (exfalso; omega) | (exact absurd rfl hg) | skip)
          | refine sg_cond_not rfl (fun hg => ?_) (fun hg => ?_)
          | refine sg_cond rfl (fun hg => ?_) (fun hg => ?_))
        exact ex_mid () trivial (.cons rfl (.cons rfl (.cons rfl (.cons rfl (.cons rfl (.cons rfl .nil)))))) (fun w hO => hO)
      · skip
        repeat' (first
          | refine sk_nil ?_
          | refine sk_pure rfl rfl (ps_move rfl) rfl ?_
          | refine sk_pure rfl rfl (ps_assign rfl) rfl ?_
          | refine sk_pure rfl rfl (ps_nilCheck rfl) rfl ?_
          | refine sk_pure rfl rfl (ps_fieldAddr rfl) rfl ?_
          | refine sk_pure rfl rfl (ps_add64 rfl rfl (by omega)) rfl ?_
          | refine sk_pure rfl rfl (ps_sub64 rfl rfl (by omega)) rfl ?_
          | refine sk_pure rfl rfl (ps_mul64 rfl rfl (by omega)) rfl ?_
          | refine sk_pure rfl rfl (ps_bin rfl rfl inferInstance) rfl ?_
          | refine sk_pure rfl rfl (ps_rem rfl rfl (by decide)) rfl ?_
          | refine sk_pure rfl rfl (ps_not rfl) rfl ?_
          | refine sk_pure rfl rfl (ps_conv rfl) rfl ?_
          | refine sk_pure rfl rfl (ps_shl rfl rfl (by decide) rfl) rfl ?_
          | refine sk_pure rfl rfl (ps_shr rfl rfl (by decide) rfl) rfl ?_
          | refine sk_pure rfl rfl (ps_len rfl) rfl ?_
          | refine sk_pure rfl rfl (ps_len_str rfl) rfl ?_
          | refine sk_pure rfl rfl (ps_extract rfl rfl) rfl ?_
          | refine sk_pure rfl rfl (ps_field rfl rfl) rfl ?_
          | refine sk_pure rfl rfl (ps_build rfl rfl) rfl ?_
          | refine sk_pure rfl rfl (ps_indexAddr rfl rfl rfl (by omega)) rfl ?_
          | refine sk_pure rfl rfl (ps_indexAddr (j := 0) rfl rfl rfl (by omega)) rfl ?_
          | refine sk_pure rfl rfl (ps_indexAddr (j := 1) rfl rfl rfl (by omega)) rfl ?_
          | refine sk_pure rfl rfl (ps_pick_t rfl rfl) rfl ?_
          | refine sk_pure rfl rfl (ps_pick_f rfl rfl) rfl ?_
          | refine sk_pure rfl rfl (ps_min2 rfl rfl) rfl ?_
          | refine sk_pure rfl rfl (ps_max2 rfl rfl) rfl ?_
          | refine sk_pure rfl rfl (ps_indexAddr_arr rfl rfl rfl (by omega)) rfl ?_
          | refine sk_no rfl rfl rfl rfl rfl ?_
          | refine sk_pure_g rfl rfl rfl rfl (ps_move rfl) rfl ?_
          | refine sk_pure_g rfl rfl rfl rfl (ps_assign rfl) rfl ?_
          | refine sk_pure_g rfl rfl rfl rfl (ps_nilCheck rfl) rfl ?_
          | refine sk_pure_g rfl rfl rfl rfl (ps_fieldAddr rfl) rfl ?_
          | refine sk_pure_g rfl rfl rfl rfl (ps_add64 rfl rfl (by omega)) rfl ?_
          | refine sk_pure_g rfl rfl rfl rfl (ps_sub64 rfl rfl (by omega)) rfl ?_
          | refine sk_pure_g rfl rfl rfl rfl (ps_mul64 rfl rfl (by omega)) rfl ?_
          | refine sk_pure_g rfl rfl rfl rfl (ps_bin rfl rfl inferInstance) rfl ?_
          | refine sk_pure_g rfl rfl rfl rfl (ps_rem rfl rfl (by decide)) rfl ?_
          | refine sk_pure_g rfl rfl rfl rfl (ps_not rfl) rfl ?_
          | refine sk_pure_g rfl rfl rfl rfl (ps_conv rfl) rfl ?_
          | refine sk_pure_g rfl rfl rfl rfl (ps_shl rfl rfl (by decide) rfl) rfl ?_
          | refine sk_pure_g rfl rfl rfl rfl (ps_shr rfl rfl (by decide) rfl) rfl ?_
          | refine sk_pure_g rfl rfl rfl rfl (ps_len rfl) rfl ?_
          | refine sk_pure_g rfl rfl rfl rfl (ps_len_str rfl) rfl ?_
          | refine sk_pure_g rfl rfl rfl rfl (ps_extract rfl rfl) rfl ?_
          | refine sk_pure_g rfl rfl rfl rfl (ps_field rfl rfl) rfl ?_
          | refine sk_pure_g rfl rfl rfl rfl (ps_build rfl rfl) rfl ?_
          | refine sk_pure_g rfl rfl rfl rfl (ps_indexAddr rfl rfl rfl (by omega)) rfl ?_
          | refine sk_pure_g rfl rfl rfl rfl (ps_indexAddr (j := 0) rfl rfl rfl (by omega)) rfl ?_
          | refine sk_pure_g rfl rfl rfl rfl (ps_indexAddr (j := 1) rfl rfl rfl (by omega)) rfl ?_
          | refine sk_pure_g rfl rfl rfl rfl (ps_pick_t rfl rfl) rfl ?_
          | refine sk_pure_g rfl rfl rfl rfl (ps_pick_f rfl rfl) rfl ?_
          | refine sk_pure_g rfl rfl rfl rfl (ps_min2 rfl rfl) rfl ?_
          | refine sk_pure_g rfl rfl rfl rfl (ps_max2 rfl rfl) rfl ?_
          | refine sk_pure_g rfl rfl rfl rfl (ps_indexAddr_arr rfl rfl rfl (by omega)) rfl ?_
          | refine sk_load 0 rfl rfl rfl rfl rfl ?_
          | refine sk_load 1 rfl rfl rfl rfl rfl ?_
          | refine sk_load 2 rfl rfl rfl rfl rfl ?_
          | refine sk_load 3 rfl rfl rfl rfl rfl ?_
          | refine sk_load 4 rfl rfl rfl rfl rfl ?_
          | refine sk_load 5 rfl rfl rfl rfl rfl ?_
          | refine sk_load_g 0 rfl rfl rfl rfl rfl rfl rfl ?_
          | refine sk_load_g 1 rfl rfl rfl rfl rfl rfl rfl ?_
          | refine sk_load_g 2 rfl rfl rfl rfl rfl rfl rfl ?_
          | refine sk_load_g 3 rfl rfl rfl rfl rfl rfl rfl ?_
          | refine sk_load_g 4 rfl rfl rfl rfl rfl rfl rfl ?_
          | refine sk_load_g 5 rfl rfl rfl rfl rfl rfl rfl ?_
          | refine sk_lw 0 rfl rfl rfl rfl rfl ?_
          | refine sk_lw 1 rfl rfl rfl rfl rfl ?_
          | refine sk_lw 2 rfl rfl rfl rfl rfl ?_
          | refine sk_lw 3 rfl rfl rfl rfl rfl ?_
          | refine sk_lw 4 rfl rfl rfl rfl rfl ?_
          | refine sk_lw 5 rfl rfl rfl rfl rfl ?_
          | refine sk_lwg 0 rfl rfl rfl rfl rfl rfl rfl ?_
          | refine sk_lwg 1 rfl rfl rfl rfl rfl rfl rfl ?_
          | refine sk_lwg 2 rfl rfl rfl rfl rfl rfl rfl ?_
          | refine sk_lwg 3 rfl rfl rfl rfl rfl rfl rfl ?_
          | refine sk_lwg 4 rfl rfl rfl rfl rfl rfl rfl ?_
          | refine sk_lwg 5 rfl rfl rfl rfl rfl rfl rfl ?_
          | refine sk_eff rfl rfl ?_
          | refine sg_store_whole [] rfl rfl rfl rfl rfl ?_
          | refine sg_store_whole [_] rfl rfl rfl rfl rfl ?_
          | refine sg_store_whole [_, _] rfl rfl rfl rfl rfl ?_
          | refine sg_store_whole [_, _, _] rfl rfl rfl rfl rfl ?_
          | refine sg_store_whole [_, _, _, _] rfl rfl rfl rfl rfl ?_
          | refine sg_store_whole [_, _, _, _, _] rfl rfl rfl rfl rfl ?_
          | refine sg_store_whole [_, _, _, _, _, _] rfl rfl rfl rfl rfl ?_
          | refine sg_guard_yes rfl rfl ?_
          | refine sg_guard_nf rfl rfl rfl ?_
          | refine sg_guard_nt rfl rfl rfl ?_
          | refine sg_guard_nu rfl rfl rfl ?_
          | refine sk_back (fun w hO => hO) ?_
          | refine sg_store [] rfl rfl rfl (of_decide_eq_true rfl) ?_
          | refine sg_store [_] rfl rfl rfl (of_decide_eq_true rfl) ?_
          | refine sg_store [_, _] rfl rfl rfl (of_decide_eq_true rfl) ?_
          | refine sg_store [_, _, _] rfl rfl rfl (of_decide_eq_true rfl) ?_
          | refine sg_store [_, _, _, _] rfl rfl rfl (of_decide_eq_true rfl) ?_
          | refine sg_store [_, _, _, _, _] rfl rfl rfl (of_decide_eq_true rfl) ?_
          | refine sg_store [_, _, _, _, _, _] rfl rfl rfl (of_decide_eq_true rfl) ?_
          | refine sg_store [_, _, _, _, _, _, _] rfl rfl rfl (of_decide_eq_true rfl) ?_)
        repeat' (first
          | refine sg_wo ?_
          | refine sg_ps (ps_move rfl) rfl ?_
          | refine sg_ps (ps_assign rfl) rfl ?_
          | refine sg_seq ?_
          | refine sg_region ?_
          | refine sg_nil ?_
          | refine sg_then ?_
          | refine sg_ps (ps_fieldAddr rfl) rfl ?_
          | refine sg_ps (ps_nilCheck rfl) rfl ?_
          | refine sg_load 0 rfl rfl rfl rfl ?_
          | refine sg_load 1 rfl rfl rfl rfl ?_
          | refine sg_load 2 rfl rfl rfl rfl ?_
          | refine sg_load 3 rfl rfl rfl rfl ?_
          | refine sg_load 4 rfl rfl rfl rfl ?_
          | refine sg_load 5 rfl rfl rfl rfl ?_
          | refine sg_load 6 rfl rfl rfl rfl ?_
          | refine sg_load 7 rfl rfl rfl rfl ?_
          | refine sg_ps (ps_add64 rfl rfl (by omega)) rfl ?_
          | refine sg_ps (ps_sub64 rfl rfl (by omega)) rfl ?_
          | refine sg_ps (ps_mul64 rfl rfl (by omega)) rfl ?_
          | refine sg_ps (ps_bin rfl rfl inferInstance) rfl ?_
          | refine sg_ps (ps_rem rfl rfl (by decide)) rfl ?_
          | refine sg_ps (ps_quo64 rfl rfl (by decide) (by omega)) rfl ?_
          | refine sg_ps (ps_not rfl) rfl ?_
          | refine sg_ps (ps_conv rfl) rfl ?_
          | refine sg_ps (ps_shl rfl rfl (by decide) rfl) rfl ?_
          | refine sg_ps (ps_shr rfl rfl (by decide) rfl) rfl ?_
          | refine sg_cond_t rfl ?_
          | refine sg_cond_f rfl ?_
          | refine sg_guard_yes rfl rfl ?_
          | refine sg_guard_nf rfl rfl rfl ?_
          | refine sg_guard_nt rfl rfl rfl ?_
          | refine sg_guard_nu rfl rfl rfl ?_
          | refine sg_ps (ps_pick_t rfl rfl) rfl ?_
          | refine sg_ps (ps_pick_f rfl rfl) rfl ?_
          | refine sg_ps (ps_len rfl) rfl ?_
          | refine sg_ps (ps_len_str rfl) rfl ?_
          | refine sg_ps (ps_extract rfl rfl) rfl ?_
          | refine sg_ps (ps_field rfl rfl) rfl ?_
          | refine sg_ps (ps_min2 rfl rfl) rfl ?_
          | refine sg_ps (ps_max2 rfl rfl) rfl ?_
          | refine sg_ps (ps_build rfl rfl) rfl ?_
          | refine sg_box rfl rfl (fun bx => ?_)
          | refine sg_ps (ps_indexAddr rfl rfl rfl (by omega)) rfl ?_
          | refine sg_ps (ps_indexAddr (j := 0) rfl rfl rfl (by omega)) rfl ?_
          | refine sg_ps (ps_indexAddr (j := 1) rfl rfl rfl (by omega)) rfl ?_
          | refine sg_ps (ps_indexAddr_arr rfl rfl rfl (by omega)) rfl ?_
          | refine sg_load_whole 0 rfl rfl rfl rfl ?_
          | refine sg_load_whole 1 rfl rfl rfl rfl ?_
          | refine sg_load_whole 2 rfl rfl rfl rfl ?_
          | refine sg_load_whole 3 rfl rfl rfl rfl ?_
          | refine sg_load_whole 4 rfl rfl rfl rfl ?_
          | refine sg_load_whole 5 rfl rfl rfl rfl ?_
          | refine sg_load_whole 6 rfl rfl rfl rfl ?_
          | refine sg_load_whole 7 rfl rfl rfl rfl ?_
          | refine sg_store_whole [] rfl rfl rfl rfl rfl ?_
          | refine sg_store_whole [_] rfl rfl rfl rfl rfl ?_
          | refine sg_store_whole [_, _] rfl rfl rfl rfl rfl ?_
          | refine sg_store_whole [_, _, _] rfl rfl rfl rfl rfl ?_
          | refine sg_store_whole [_, _, _, _] rfl rfl rfl rfl rfl ?_
          | refine sg_store_whole [_, _, _, _, _] rfl rfl rfl rfl rfl ?_
          | refine sg_store_whole [_, _, _, _, _, _] rfl rfl rfl rfl rfl ?_
          | refine sg_alloc rfl (fun al => ?_)
          | refine sg_block ?_
          | refine sg_skip ?_
          | refine sg_ret ?_
          | refine sg_exit ?_
          | refine ex_then_ret ?_
          | refine ex_then_exit ?_
          | refine ex_block_ret ?_
          | refine ex_block_normal ?_
          | refine ex_block_hit ?_
          | refine ex_block_miss rfl ?_
          | refine sg_store [] rfl rfl rfl (of_decide_eq_true rfl) ?_
          | refine sg_store [_] rfl rfl rfl (of_decide_eq_true rfl) ?_
          | refine sg_store [_, _] rfl rfl rfl (of_decide_eq_true rfl) ?_
          | refine sg_store [_, _, _] rfl rfl rfl (of_decide_eq_true rfl) ?_
          | refine sg_store [_, _, _, _] rfl rfl rfl (of_decide_eq_true rfl) ?_
          | refine sg_store [_, _, _, _, _] rfl rfl rfl (of_decide_eq_true rfl) ?_
          | refine sg_store [_, _, _, _, _, _] rfl rfl rfl (of_decide_eq_true rfl) ?_
          | refine sg_store [_, _, _, _, _, _, _] rfl rfl rfl (of_decide_eq_true rfl) ?_
          | (refine sg_guard_dec rfl rfl (fun hg => ?_) (fun hg => ?_) <;> first | (exfalso; omega) | (exact absurd rfl hg) | skip)
          | (refine sg_guard_ndec rfl rfl (fun hg => ?_) (fun hg => ?_) <;> first | (exfalso; omega) | (exact absurd rfl hg) | skip)
          | (refine sg_cond_dec rfl (fun hg => ?_) (fun hg => ?_) <;> first | (exfalso; omega) | (exact absurd rfl hg) | skip)
          | (refine sg_cond_ndec rfl (fun hg => ?_) (fun hg => ?_) <;> first | (exfalso; omega) | (exact absurd rfl hg) | skip)
          | refine sg_cond_not rfl (fun hg => ?_) (fun hg => ?_)
          | refine sg_cond rfl (fun hg => ?_) (fun hg => ?_))
        exact ex_mid () trivial (.cons rfl (.cons rfl (.cons rfl (.cons rfl (.cons rfl (.cons rfl .nil)))))) (fun w hO => hO)
    · skip
      repeat' (first
        | refine sk_nil ?_
        | refine sk_pure rfl rfl (ps_move rfl) rfl ?_
        | refine sk_pure rfl rfl (ps_assign rfl) rfl ?_
        | refine sk_pure rfl rfl (ps_nilCheck rfl) rfl ?_
        | refine sk_pure rfl rfl (ps_fieldAddr rfl) rfl ?_
        | refine sk_pure rfl rfl (ps_add64 rfl rfl (by omega)) rfl ?_
        | refine sk_pure rfl rfl (ps_sub64 rfl rfl (by omega)) rfl ?_
        | refine sk_pure rfl rfl (ps_mul64 rfl rfl (by omega)) rfl ?_
        | refine sk_pure rfl rfl (ps_bin rfl rfl inferInstance) rfl ?_
        | refine sk_pure rfl rfl (ps_rem rfl rfl (by decide)) rfl ?_
        | refine sk_pure rfl rfl (ps_not rfl) rfl ?_
        | refine sk_pure rfl rfl (ps_conv rfl) rfl ?_
        | refine sk_pure rfl rfl (ps_shl rfl rfl (by decide) rfl) rfl ?_
        | refine sk_pure rfl rfl (ps_shr rfl rfl (by decide) rfl) rfl ?_
        | refine sk_pure rfl rfl (ps_len rfl) rfl ?_
        | refine sk_pure rfl rfl (ps_len_str rfl) rfl ?_
        | refine sk_pure rfl rfl (ps_extract rfl rfl) rfl ?_
        | refine sk_pure rfl rfl (ps_field rfl rfl) rfl ?_
        | refine sk_pure rfl rfl (ps_build rfl rfl) rfl ?_
        | refine sk_pure rfl rfl (ps_indexAddr rfl rfl rfl (by omega)) rfl ?_
        | refine sk_pure rfl rfl (ps_indexAddr (j := 0) rfl rfl rfl (by omega)) rfl ?_
        | refine sk_pure rfl rfl (ps_indexAddr (j := 1) rfl rfl rfl (by omega)) rfl ?_
        | refine sk_pure rfl rfl (ps_pick_t rfl rfl) rfl ?_
        | refine sk_pure rfl rfl (ps_pick_f rfl rfl) rfl ?_
        | refine sk_pure rfl rfl (ps_min2 rfl rfl) rfl ?_
        | refine sk_pure rfl rfl (ps_max2 rfl rfl) rfl ?_
        | refine sk_pure rfl rfl (ps_indexAddr_arr rfl rfl rfl (by omega)) rfl ?_
        | refine sk_no rfl rfl rfl rfl rfl ?_
        | refine sk_pure_g rfl rfl rfl rfl (ps_move rfl) rfl ?_
        | refine sk_pure_g rfl rfl rfl rfl (ps_assign rfl) rfl ?_
        | refine sk_pure_g rfl rfl rfl rfl (ps_nilCheck rfl) rfl ?_
        | refine sk_pure_g rfl rfl rfl rfl (ps_fieldAddr rfl) rfl ?_
        | refine sk_pure_g rfl rfl rfl rfl (ps_add64 rfl rfl (by omega)) rfl ?_
        | refine sk_pure_g rfl rfl rfl rfl (ps_sub64 rfl rfl (by omega)) rfl ?_
        | refine sk_pure_g rfl rfl rfl rfl (ps_mul64 rfl rfl (by omega)) rfl ?_
        | refine sk_pure_g rfl rfl rfl rfl (ps_bin rfl rfl inferInstance) rfl ?_
        | refine sk_pure_g rfl rfl rfl rfl (ps_rem rfl rfl (by decide)) rfl ?_
        | refine sk_pure_g rfl rfl rfl rfl (ps_not rfl) rfl ?_
        | refine sk_pure_g rfl rfl rfl rfl (ps_conv rfl) rfl ?_
        | refine sk_pure_g rfl rfl rfl rfl (ps_shl rfl rfl (by decide) rfl) rfl ?_
        | refine sk_pure_g rfl rfl rfl rfl (ps_shr rfl rfl (by decide) rfl) rfl ?_
        | refine sk_pure_g rfl rfl rfl rfl (ps_len rfl) rfl ?_
        | refine sk_pure_g rfl rfl rfl rfl (ps_len_str rfl) rfl ?_
        | refine sk_pure_g rfl rfl rfl rfl (ps_extract rfl rfl) rfl ?_
        | refine sk_pure_g rfl rfl rfl rfl (ps_field rfl rfl) rfl ?_
        | refine sk_pure_g rfl rfl rfl rfl (ps_build rfl rfl) rfl ?_
        | refine sk_pure_g rfl rfl rfl rfl (ps_indexAddr rfl rfl rfl (by omega)) rfl ?_
        | refine sk_pure_g rfl rfl rfl rfl (ps_indexAddr (j := 0) rfl rfl rfl (by omega)) rfl ?_
        | refine sk_pure_g rfl rfl rfl rfl (ps_indexAddr (j := 1) rfl rfl rfl (by omega)) rfl ?_
        | refine sk_pure_g rfl rfl rfl rfl (ps_pick_t rfl rfl) rfl ?_
        | refine sk_pure_g rfl rfl rfl rfl (ps_pick_f rfl rfl) rfl ?_
        | refine sk_pure_g rfl rfl rfl rfl (ps_min2 rfl rfl) rfl ?_
        | refine sk_pure_g rfl rfl rfl rfl (ps_max2 rfl rfl) rfl ?_
        | refine sk_pure_g rfl rfl rfl rfl (ps_indexAddr_arr rfl rfl rfl (by omega)) rfl ?_
        | refine sk_load 0 rfl rfl rfl rfl rfl ?_
        | refine sk_load 1 rfl rfl rfl rfl rfl ?_
        | refine sk_load 2 rfl rfl rfl rfl rfl ?_
        | refine sk_load 3 rfl rfl rfl rfl rfl ?_
        | refine sk_load 4 rfl rfl rfl rfl rfl ?_
        | refine sk_load 5 rfl rfl rfl rfl rfl ?_
        | refine sk_load_g 0 rfl rfl rfl rfl rfl rfl rfl ?_
        | refine sk_load_g 1 rfl rfl rfl rfl rfl rfl rfl ?_
        | refine sk_load_g 2 rfl rfl rfl rfl rfl rfl rfl ?_
        | refine sk_load_g 3 rfl rfl rfl rfl rfl rfl rfl ?_
        | refine sk_load_g 4 rfl rfl rfl rfl rfl rfl rfl ?_
        | refine sk_load_g 5 rfl rfl rfl rfl rfl rfl rfl ?_
        | refine sk_lw 0 rfl rfl rfl rfl rfl ?_
        | refine sk_lw 1 rfl rfl rfl rfl rfl ?_
        | refine sk_lw 2 rfl rfl rfl rfl rfl ?_
        | refine sk_lw 3 rfl rfl rfl rfl rfl ?_
        | refine sk_lw 4 rfl rfl rfl rfl rfl ?_
        | refine sk_lw 5 rfl rfl rfl rfl rfl ?_
        | refine sk_lwg 0 rfl rfl rfl rfl rfl rfl rfl ?_
        | refine sk_lwg 1 rfl rfl rfl rfl rfl rfl rfl ?_
        | refine sk_lwg 2 rfl rfl rfl rfl rfl rfl rfl ?_
        | refine sk_lwg 3 rfl rfl rfl rfl rfl rfl rfl ?_
        | refine sk_lwg 4 rfl rfl rfl rfl rfl rfl rfl ?_
        | refine sk_lwg 5 rfl rfl rfl rfl rfl rfl rfl ?_
        | refine sk_eff rfl rfl ?_
        | refine sg_store_whole [] rfl rfl rfl rfl rfl ?_
        | refine sg_store_whole [_] rfl rfl rfl rfl rfl ?_
        | refine sg_store_whole [_, _] rfl rfl rfl rfl rfl ?_
        | refine sg_store_whole [_, _, _] rfl rfl rfl rfl rfl ?_
        | refine sg_store_whole [_, _, _, _] rfl rfl rfl rfl rfl ?_
        | refine sg_store_whole [_, _, _, _, _] rfl rfl rfl rfl rfl ?_
        | refine sg_store_whole [_, _, _, _, _, _] rfl rfl rfl rfl rfl ?_
        | refine sg_guard_yes rfl rfl ?_
        | refine sg_guard_nf rfl rfl rfl ?_
        | refine sg_guard_nt rfl rfl rfl ?_
        | refine sg_guard_nu rfl rfl rfl ?_
        | refine sk_back (fun w hO => hO) ?_
        | refine sg_store [] rfl rfl rfl (of_decide_eq_true rfl) ?_
        | refine sg_store [_] rfl rfl rfl (of_decide_eq_true rfl) ?_
        | refine sg_store [_, _] rfl rfl rfl (of_decide_eq_true rfl) ?_
        | refine sg_store [_, _, _] rfl rfl rfl (of_decide_eq_true rfl) ?_
        | refine sg_store [_, _, _, _] rfl rfl rfl (of_decide_eq_true rfl) ?_
        | refine sg_store [_, _, _, _, _] rfl rfl rfl (of_decide_eq_true rfl) ?_
        | refine sg_store [_, _, _, _, _, _] rfl rfl rfl (of_decide_eq_true rfl) ?_
        | refine sg_store [_, _, _, _, _, _, _] rfl rfl rfl (of_decide_eq_true rfl) ?_)
      repeat' (first
        | refine sg_wo ?_
        | refine sg_ps (ps_move rfl) rfl ?_
        | refine sg_ps (ps_assign rfl) rfl ?_
        | refine sg_seq ?_
        | refine sg_region ?_
        | refine sg_nil ?_
        | refine sg_then ?_
        | refine sg_ps (ps_fieldAddr rfl) rfl ?_
        | refine sg_ps (ps_nilCheck rfl) rfl ?_
        | refine sg_load 0 rfl rfl rfl rfl ?_
        | refine sg_load 1 rfl rfl rfl rfl ?_
        | refine sg_load 2 rfl rfl rfl rfl ?_
        | refine sg_load 3 rfl rfl rfl rfl ?_
        | refine sg_load 4 rfl rfl rfl rfl ?_
        | refine sg_load 5 rfl rfl rfl rfl ?_
        | refine sg_load 6 rfl rfl rfl rfl ?_
        | refine sg_load 7 rfl rfl rfl rfl ?_
        | refine sg_ps (ps_add64 rfl rfl (by omega)) rfl ?_
        | refine sg_ps (ps_sub64 rfl rfl (by omega)) rfl ?_
        | refine sg_ps (ps_mul64 rfl rfl (by omega)) rfl ?_
        | refine sg_ps (ps_bin rfl rfl inferInstance) rfl ?_
        | refine sg_ps (ps_rem rfl rfl (by decide)) rfl ?_
        | refine sg_ps (ps_quo64 rfl rfl (by decide) (by omega)) rfl ?_
        | refine sg_ps (ps_not rfl) rfl ?_
        | refine sg_ps (ps_conv rfl) rfl ?_
        | refine sg_ps (ps_shl rfl rfl (by decide) rfl) rfl ?_
        | refine sg_ps (ps_shr rfl rfl (by decide) rfl) rfl ?_
        | refine sg_cond_t rfl ?_
        | refine sg_cond_f rfl ?_
        | refine sg_guard_yes rfl rfl ?_
        | refine sg_guard_nf rfl rfl rfl ?_
        | refine sg_guard_nt rfl rfl rfl ?_
        | refine sg_guard_nu rfl rfl rfl ?_
        | refine sg_ps (ps_pick_t rfl rfl) rfl ?_
        | refine sg_ps (ps_pick_f rfl rfl) rfl ?_
        | refine sg_ps (ps_len rfl) rfl ?_
        | refine sg_ps (ps_len_str rfl) rfl ?_
        | refine sg_ps (ps_extract rfl rfl) rfl ?_
        | refine sg_ps (ps_field rfl rfl) rfl ?_
        | refine sg_ps (ps_min2 rfl rfl) rfl ?_
        | refine sg_ps (ps_max2 rfl rfl) rfl ?_
        | refine sg_ps (ps_build rfl rfl) rfl ?_
        | refine sg_box rfl rfl (fun bx => ?_)
        | refine sg_ps (ps_indexAddr rfl rfl rfl (by omega)) rfl ?_
        | refine sg_ps (ps_indexAddr (j := 0) rfl rfl rfl (by omega)) rfl ?_
        | refine sg_ps (ps_indexAddr (j := 1) rfl rfl rfl (by omega)) rfl ?_
        | refine sg_ps (ps_indexAddr_arr rfl rfl rfl (by omega)) rfl ?_
        | refine sg_load_whole 0 rfl rfl rfl rfl ?_
        | refine sg_load_whole 1 rfl rfl rfl rfl ?_
        | refine sg_load_whole 2 rfl rfl rfl rfl ?_
        | refine sg_load_whole 3 rfl rfl rfl rfl ?_
        | refine sg_load_whole 4 rfl rfl rfl rfl ?_
        | refine sg_load_whole 5 rfl rfl rfl rfl ?_
        | refine sg_load_whole 6 rfl rfl rfl rfl ?_
        | refine sg_load_whole 7 rfl rfl rfl rfl ?_
        | refine sg_store_whole [] rfl rfl rfl rfl rfl ?_
        | refine sg_store_whole [_] rfl rfl rfl rfl rfl ?_
        | refine sg_store_whole [_, _] rfl rfl rfl rfl rfl ?_
        | refine sg_store_whole [_, _, _] rfl rfl rfl rfl rfl ?_
        | refine sg_store_whole [_, _, _, _] rfl rfl rfl rfl rfl ?_
        | refine sg_store_whole [_, _, _, _, _] rfl rfl rfl rfl rfl ?_
        | refine sg_store_whole [_, _, _, _, _, _] rfl rfl rfl rfl rfl ?_
        | refine sg_alloc rfl (fun al => ?_)
        | refine sg_block ?_
        | refine sg_skip ?_
        | refine sg_ret ?_
        | refine sg_exit ?_
        | refine ex_then_ret ?_
        | refine ex_then_exit ?_
        | refine ex_block_ret ?_
        | refine ex_block_normal ?_
        | refine ex_block_hit ?_
        | refine ex_block_miss rfl ?_
        | refine sg_store [] rfl rfl rfl (of_decide_eq_true rfl) ?_
        | refine sg_store [_] rfl rfl rfl (of_decide_eq_true rfl) ?_
        | refine sg_store [_, _] rfl rfl rfl (of_decide_eq_true rfl) ?_
        | refine sg_store [_, _, _] rfl rfl rfl (of_decide_eq_true rfl) ?_
        | refine sg_store [_, _, _, _] rfl rfl rfl (of_decide_eq_true rfl) ?_
        | refine sg_store [_, _, _, _, _] rfl rfl rfl (of_decide_eq_true rfl) ?_
        | refine sg_store [_, _, _, _, _, _] rfl rfl rfl (of_decide_eq_true rfl) ?_
        | refine sg_store [_, _, _, _, _, _, _] rfl rfl rfl (of_decide_eq_true rfl) ?_
        | (refine sg_guard_dec rfl rfl (fun hg => ?_) (fun hg => ?_) <;> first | (exfalso; omega) | (exact absurd rfl hg) | skip)
        | (refine sg_guard_ndec rfl rfl (fun hg => ?_) (fun hg => ?_) <;> first | (exfalso; omega) | (exact absurd rfl hg) | skip)
        | (refine sg_cond_dec rfl (fun hg => ?_) (fun hg => ?_) <;> first | (exfalso; omega) | (exact absurd rfl hg) | skip)
        | (refine sg_cond_ndec rfl (fun hg => ?_) (fun hg => ?_) <;> first | (exfalso; omega) | (exact absurd rfl hg) | skip)
        | refine sg_cond_not rfl (fun hg => ?_) (fun hg => ?_)
        | refine sg_cond rfl (fun hg => ?_) (fun hg => ?_))
      exact ex_mid () trivial (.cons rfl (.cons rfl (.cons rfl (.cons rfl (.cons rfl (.cons rfl .nil)))))) (fun w hO => hO)
  · intro _ _
    have hW : IntKind.u64.wrap ((x : Int) + (y : Int)) = (((x + y) % 2 ^ 64 : Nat) : Int) := by rw [← Int.natCast_add, wrap_u _ rfl]; rfl
    have okm : ∀ z : Nat, (MS.mk 0 3 e.key 0 [] off z).ok := fun z => ⟨ho.k, by simp, by show (0 : Int) ≤ 0 ∧ (0 : Int) ≤ _; omega, hoff⟩
    have hA := adds e hn ⟨0, 3, e.key, 0, [], off, x⟩ ⟨0, 3, e.key, 0, [], off, y⟩ ⟨0, 3, e.key, 0, [], off, (x + y) % 2 ^ 64⟩ rfl rfl rfl rfl rfl rfl rfl rfl rfl
    have hB := adds e hn ⟨0, 3, e.key, 0, [], off, y⟩ ⟨0, 3, e.key, 0, [], off, x⟩ ⟨0, 3, e.key, 0, [], off, (x + y) % 2 ^ 64⟩ rfl rfl rfl rfl rfl rfl rfl rfl (by show (x + y) % 2 ^ 64 = (y + x) % 2 ^ 64; rw [Nat.add_comm])
    have a1 := fun R => apply_tri (W := W) e ⟨0, 3, e.key, 0, [], off, x⟩ ho (okm x) R
    have a2 := fun R => apply_tri (W := W) _ ⟨0, 3, e.key, 0, [], off, y⟩ (apply_ok ho (okm x)) (okm y) R
    have b1 := fun R => apply_tri (W := W) e ⟨0, 3, e.key, 0, [], off, y⟩ ho (okm y) R
    have b2 := fun R => apply_tri (W := W) _ ⟨0, 3, e.key, 0, [], off, x⟩ (apply_ok ho (okm y)) (okm x) R
    have c1 := fun R => apply_tri (W := W) e ⟨0, 3, e.key, 0, [], off, (x + y) % 2 ^ 64⟩ ho (okm _) R
    have okZ := apply_ok ho (okm ((x + y) % 2 ^ 64))
    rw [hA] at a2
    rw [hB] at b2
    repeat' (first
      | refine sg_wo ?_
      | refine sg_ps (ps_move rfl) rfl ?_
      | refine sg_ps (ps_assign rfl) rfl ?_
      | refine sg_seq ?_
      | refine sg_region ?_
      | refine sg_nil ?_
      | refine sg_then ?_
      | refine sg_ps (ps_fieldAddr rfl) rfl ?_
      | refine sg_ps (ps_nilCheck rfl) rfl ?_
      | refine sg_load 0 rfl rfl rfl rfl ?_
      | refine sg_load 1 rfl rfl rfl rfl ?_
      | refine sg_load 2 rfl rfl rfl rfl ?_
      | refine sg_load 3 rfl rfl rfl rfl ?_
      | refine sg_load 4 rfl rfl rfl rfl ?_
      | refine sg_load 5 rfl rfl rfl rfl ?_
      | refine sg_load 6 rfl rfl rfl rfl ?_
      | refine sg_load 7 rfl rfl rfl rfl ?_
      | refine sg_ps (ps_add64 rfl rfl (by omega)) rfl ?_
      | refine sg_ps (ps_sub64 rfl rfl (by omega)) rfl ?_
      | refine sg_ps (ps_mul64 rfl rfl (by omega)) rfl ?_
      | refine sg_ps (ps_bin rfl rfl inferInstance) rfl ?_
      | refine sg_ps (ps_rem rfl rfl (by decide)) rfl ?_
      | refine sg_ps (ps_quo64 rfl rfl (by decide) (by omega)) rfl ?_
      | refine sg_ps (ps_not rfl) rfl ?_
      | refine sg_ps (ps_conv rfl) rfl ?_
      | refine sg_ps (ps_shl rfl rfl (by decide) rfl) rfl ?_
      | refine sg_ps (ps_shr rfl rfl (by decide) rfl) rfl ?_
      | refine sg_cond_t rfl ?_
      | refine sg_cond_f rfl ?_
      | refine sg_guard_yes rfl rfl ?_
      | refine sg_guard_nf rfl rfl rfl ?_
      | refine sg_guard_nt rfl rfl rfl ?_
      | refine sg_guard_nu rfl rfl rfl ?_
      | refine sg_ps (ps_pick_t rfl rfl) rfl ?_
      | refine sg_ps (ps_pick_f rfl rfl) rfl ?_
      | refine sg_ps (ps_len rfl) rfl ?_
      | refine sg_ps (ps_len_str rfl) rfl ?_
      | refine sg_ps (ps_extract rfl rfl) rfl ?_
      | refine sg_ps (ps_field rfl rfl) rfl ?_
      | refine sg_ps (ps_min2 rfl rfl) rfl ?_
      | refine sg_ps (ps_max2 rfl rfl) rfl ?_
      | refine sg_ps (ps_build rfl rfl) rfl ?_
      | refine sg_box rfl rfl (fun bx => ?_)
      | refine sg_ps (ps_indexAddr rfl rfl rfl (by omega)) rfl ?_
      | refine sg_ps (ps_indexAddr (j := 0) rfl rfl rfl (by omega)) rfl ?_
      | refine sg_ps (ps_indexAddr (j := 1) rfl rfl rfl (by omega)) rfl ?_
      | refine sg_ps (ps_indexAddr_arr rfl rfl rfl (by omega)) rfl ?_
      | refine sg_load_whole 0 rfl rfl rfl rfl ?_
      | refine sg_load_whole 1 rfl rfl rfl rfl ?_
      | refine sg_load_whole 2 rfl rfl rfl rfl ?_
      | refine sg_load_whole 3 rfl rfl rfl rfl ?_
      | refine sg_load_whole 4 rfl rfl rfl rfl ?_
      | refine sg_load_whole 5 rfl rfl rfl rfl ?_
      | refine sg_load_whole 6 rfl rfl rfl rfl ?_
      | refine sg_load_whole 7 rfl rfl rfl rfl ?_
      | refine sg_store_whole [] rfl rfl rfl rfl rfl ?_
      | refine sg_store_whole [_] rfl rfl rfl rfl rfl ?_
      | refine sg_store_whole [_, _] rfl rfl rfl rfl rfl ?_
      | refine sg_store_whole [_, _, _] rfl rfl rfl rfl rfl ?_
      | refine sg_store_whole [_, _, _, _] rfl rfl rfl rfl rfl ?_
      | refine sg_store_whole [_, _, _, _, _] rfl rfl rfl rfl rfl ?_
      | refine sg_store_whole [_, _, _, _, _, _] rfl rfl rfl rfl rfl ?_
      | refine sg_alloc rfl (fun al => ?_)
      | refine sg_block ?_
      | refine sg_skip ?_
      | refine sg_ret ?_
      | refine sg_exit ?_
      | refine ex_then_ret ?_
      | refine ex_then_exit ?_
      | refine ex_block_ret ?_
      | refine ex_block_normal ?_
      | refine ex_block_hit ?_
      | refine ex_block_miss rfl ?_
      | refine sg_store [] rfl rfl rfl (of_decide_eq_true rfl) ?_
      | refine sg_store [_] rfl rfl rfl (of_decide_eq_true rfl) ?_
      | refine sg_store [_, _] rfl rfl rfl (of_decide_eq_true rfl) ?_
      | refine sg_store [_, _, _] rfl rfl rfl (of_decide_eq_true rfl) ?_
      | refine sg_store [_, _, _, _] rfl rfl rfl (of_decide_eq_true rfl) ?_
      | refine sg_store [_, _, _, _, _] rfl rfl rfl (of_decide_eq_true rfl) ?_
      | refine sg_store [_, _, _, _, _, _] rfl rfl rfl (of_decide_eq_true rfl) ?_
      | refine sg_store [_, _, _, _, _, _, _] rfl rfl rfl (of_decide_eq_true rfl) ?_
      | (refine sg_guard_dec rfl rfl (fun hg => ?_) (fun hg => ?_) <;> first | (exfalso; omega) | (exact absurd rfl hg) | skip)
      | (refine sg_guard_ndec rfl rfl (fun hg => ?_) (fun hg => ?_) <;> first | (exfalso; omega) | (exact absurd rfl hg) | skip)
      | (refine sg_cond_dec rfl (fun hg => ?_) (fun hg => ?_) <;> first | (exfalso; omega) | (exact absurd rfl hg) | skip)
      | (refine sg_cond_ndec rfl (fun hg => ?_) (fun hg => ?_) <;> first | (exfalso; omega) | (exact absurd rfl hg) | skip)
      | refine sg_cond_not rfl (fun hg => ?_) (fun hg => ?_)
      | refine sg_cond rfl (fun hg => ?_) (fun hg => ?_))
    rename_i bm bn
    revert al
    intro bb
    rw [hW]
    refine sg_own (L' := [blk bb (MS.mk 0 3 e.key 0 [] off ((x + y) % 2 ^ 64)).cells, blk bn (MS.mk 0 3 e.key 0 [] off y).cells, blk bm (MS.mk 0 3 e.key 0 [] off x).cells, blk bx e.cells, old W]) (fun w hO => hO.pick [0, 1, 2, 6, 7] (by decide)) ?_
    refine sg_then_mid (γ := Nat) (fun _ => True) (fun ba => [(5, dp bx), (14, dp bm), (15, dp bn), (16, dp bb), (17, dp ba)])
      (fun ba => [blk ba (e.apply ⟨0, 3, e.key, 0, [], off, (x + y) % 2 ^ 64⟩).cells, blk bb (MS.mk 0 3 e.key 0 [] off ((x + y) % 2 ^ 64)).cells, blk bn (MS.mk 0 3 e.key 0 [] off y).cells, blk bm (MS.mk 0 3 e.key 0 [] off x).cells, blk bx e.cells, old W]) ?_ ?_
    · refine sg_drawT [blk bb (MS.mk 0 3 e.key 0 [] off ((x + y) % 2 ^ 64)).cells, blk bn (MS.mk 0 3 e.key 0 [] off y).cells, blk bm (MS.mk 0 3 e.key 0 [] off x).cells, blk bx e.cells, old W] (.fork [0, 1, 3] 5 (.done [2, 4, 6]) 2 (.fork [] 5 (.done [4, 6]) 4 (.done [5, 6]))) (by kernel_rfl) (by kernel_rfl) (fun w hO => hO) ?_
      refine st_pre ?_
      repeat' (first
        | refine sk_nil ?_
        | refine sk_pure rfl rfl (ps_move rfl) rfl ?_
        | refine sk_pure rfl rfl (ps_assign rfl) rfl ?_
        | refine sk_pure rfl rfl (ps_nilCheck rfl) rfl ?_
        | refine sk_pure rfl rfl (ps_fieldAddr rfl) rfl ?_
        | refine sk_pure rfl rfl (ps_add64 rfl rfl (by omega)) rfl ?_
        | refine sk_pure rfl rfl (ps_sub64 rfl rfl (by omega)) rfl ?_
        | refine sk_pure rfl rfl (ps_mul64 rfl rfl (by omega)) rfl ?_
        | refine sk_pure rfl rfl (ps_bin rfl rfl inferInstance) rfl ?_
        | refine sk_pure rfl rfl (ps_rem rfl rfl (by decide)) rfl ?_
        | refine sk_pure rfl rfl (ps_not rfl) rfl ?_
        | refine sk_pure rfl rfl (ps_conv rfl) rfl ?_
        | refine sk_pure rfl rfl (ps_shl rfl rfl (by decide) rfl) rfl ?_
        | refine sk_pure rfl rfl (ps_shr rfl rfl (by decide) rfl) rfl ?_
        | refine sk_pure rfl rfl (ps_len rfl) rfl ?_
        | refine sk_pure rfl rfl (ps_len_str rfl) rfl ?_
        | refine sk_pure rfl rfl (ps_extract rfl rfl) rfl ?_
        | refine sk_pure rfl rfl (ps_field rfl rfl) rfl ?_
        | refine sk_pure rfl rfl (ps_build rfl rfl) rfl ?_
        | refine sk_pure rfl rfl (ps_indexAddr rfl rfl rfl (by omega)) rfl ?_
        | refine sk_pure rfl rfl (ps_indexAddr (j := 0) rfl rfl rfl (by omega)) rfl ?_
        | refine sk_pure rfl rfl (ps_indexAddr (j := 1) rfl rfl rfl (by omega)) rfl ?_
        | refine sk_pure rfl rfl (ps_pick_t rfl rfl) rfl ?_
        | refine sk_pure rfl rfl (ps_pick_f rfl rfl) rfl ?_
        | refine sk_pure rfl rfl (ps_min2 rfl rfl) rfl ?_
        | refine sk_pure rfl rfl (ps_max2 rfl rfl) rfl ?_
        | refine sk_pure rfl rfl (ps_indexAddr_arr rfl rfl rfl (by omega)) rfl ?_
        | refine sk_no rfl rfl rfl rfl rfl ?_
        | refine sk_pure_g rfl rfl rfl rfl (ps_move rfl) rfl ?_
        | refine sk_pure_g rfl rfl rfl rfl (ps_assign rfl) rfl ?_
        | refine sk_pure_g rfl rfl rfl rfl (ps_nilCheck rfl) rfl ?_
        | refine sk_pure_g rfl rfl rfl rfl (ps_fieldAddr rfl) rfl ?_
        | refine sk_pure_g rfl rfl rfl rfl (ps_add64 rfl rfl (by omega)) rfl ?_
        | refine sk_pure_g rfl rfl rfl rfl (ps_sub64 rfl rfl (by omega)) rfl ?_
        | refine sk_pure_g rfl rfl rfl rfl (ps_mul64 rfl rfl (by omega)) rfl ?_
        | refine sk_pure_g rfl rfl rfl rfl (ps_bin rfl rfl inferInstance) rfl ?_
        | refine sk_pure_g rfl rfl rfl rfl (ps_rem rfl rfl (by decide)) rfl ?_
        | refine sk_pure_g rfl rfl rfl rfl (ps_not rfl) rfl ?_
        | refine sk_pure_g rfl rfl rfl rfl (ps_conv rfl) rfl ?_
        | refine sk_pure_g rfl rfl rfl rfl (ps_shl rfl rfl (by decide) rfl) rfl ?_
        | refine sk_pure_g rfl rfl rfl rfl (ps_shr rfl rfl (by decide) rfl) rfl ?_
        | refine sk_pure_g rfl rfl rfl rfl (ps_len rfl) rfl ?_
        | refine sk_pure_g rfl rfl rfl rfl (ps_len_str rfl) rfl ?_
        | refine sk_pure_g rfl rfl rfl rfl (ps_extract rfl rfl) rfl ?_
        | refine sk_pure_g rfl rfl rfl rfl (ps_field rfl rfl) rfl ?_
        | refine sk_pure_g rfl rfl rfl rfl (ps_build rfl rfl) rfl ?_
        | refine sk_pure_g rfl rfl rfl rfl (ps_indexAddr rfl rfl rfl (by omega)) rfl ?_
        | refine sk_pure_g rfl rfl rfl rfl (ps_indexAddr (j := 0) rfl rfl rfl (by omega)) rfl ?_
        | refine sk_pure_g rfl rfl rfl rfl (ps_indexAddr (j := 1) rfl rfl rfl (by omega)) rfl ?_
        | refine sk_pure_g rfl rfl rfl rfl (ps_pick_t rfl rfl) rfl ?_
        | refine sk_pure_g rfl rfl rfl rfl (ps_pick_f rfl rfl) rfl ?_
        | refine sk_pure_g rfl rfl rfl rfl (ps_min2 rfl rfl) rfl ?_
        | refine sk_pure_g rfl rfl rfl rfl (ps_max2 rfl rfl) rfl ?_
        | refine sk_pure_g rfl rfl rfl rfl (ps_indexAddr_arr rfl rfl rfl (by omega)) rfl ?_
        | refine sk_load 0 rfl rfl rfl rfl rfl ?_
        | refine sk_load 1 rfl rfl rfl rfl rfl ?_
        | refine sk_load 2 rfl rfl rfl rfl rfl ?_
        | refine sk_load 3 rfl rfl rfl rfl rfl ?_
        | refine sk_load 4 rfl rfl rfl rfl rfl ?_
        | refine sk_load 5 rfl rfl rfl rfl rfl ?_
        | refine sk_load_g 0 rfl rfl rfl rfl rfl rfl rfl ?_
        | refine sk_load_g 1 rfl rfl rfl rfl rfl rfl rfl ?_
        | refine sk_load_g 2 rfl rfl rfl rfl rfl rfl rfl ?_
        | refine sk_load_g 3 rfl rfl rfl rfl rfl rfl rfl ?_
        | refine sk_load_g 4 rfl rfl rfl rfl rfl rfl rfl ?_
        | refine sk_load_g 5 rfl rfl rfl rfl rfl rfl rfl ?_
        | refine sk_lw 0 rfl rfl rfl rfl rfl ?_
        | refine sk_lw 1 rfl rfl rfl rfl rfl ?_
        | refine sk_lw 2 rfl rfl rfl rfl rfl ?_
        | refine sk_lw 3 rfl rfl rfl rfl rfl ?_
        | refine sk_lw 4 rfl rfl rfl rfl rfl ?_
        | refine sk_lw 5 rfl rfl rfl rfl rfl ?_
        | refine sk_lwg 0 rfl rfl rfl rfl rfl rfl rfl ?_
        | refine sk_lwg 1 rfl rfl rfl rfl rfl rfl rfl ?_
        | refine sk_lwg 2 rfl rfl rfl rfl rfl rfl rfl ?_
        | refine sk_lwg 3 rfl rfl rfl rfl rfl rfl rfl ?_
        | refine sk_lwg 4 rfl rfl rfl rfl rfl rfl rfl ?_
        | refine sk_lwg 5 rfl rfl rfl rfl rfl rfl rfl ?_
        | refine sk_eff rfl rfl ?_
        | refine sg_store_whole [] rfl rfl rfl rfl rfl ?_
        | refine sg_store_whole [_] rfl rfl rfl rfl rfl ?_
        | refine sg_store_whole [_, _] rfl rfl rfl rfl rfl ?_
        | refine sg_store_whole [_, _, _] rfl rfl rfl rfl rfl ?_
        | refine sg_store_whole [_, _, _, _] rfl rfl rfl rfl rfl ?_
        | refine sg_store_whole [_, _, _, _, _] rfl rfl rfl rfl rfl ?_
        | refine sg_store_whole [_, _, _, _, _, _] rfl rfl rfl rfl rfl ?_
        | refine sg_guard_yes rfl rfl ?_
        | refine sg_guard_nf rfl rfl rfl ?_
        | refine sg_guard_nt rfl rfl rfl ?_
        | refine sg_guard_nu rfl rfl rfl ?_
        | refine sk_back (fun w hO => hO) ?_
        | refine sg_store [] rfl rfl rfl (of_decide_eq_true rfl) ?_
        | refine sg_store [_] rfl rfl rfl (of_decide_eq_true rfl) ?_
        | refine sg_store [_, _] rfl rfl rfl (of_decide_eq_true rfl) ?_
        | refine sg_store [_, _, _] rfl rfl rfl (of_decide_eq_true rfl) ?_
        | refine sg_store [_, _, _, _] rfl rfl rfl (of_decide_eq_true rfl) ?_
        | refine sg_store [_, _, _, _, _] rfl rfl rfl (of_decide_eq_true rfl) ?_
        | refine sg_store [_, _, _, _, _, _] rfl rfl rfl (of_decide_eq_true rfl) ?_
        | refine sg_store [_, _, _, _, _, _, _] rfl rfl rfl (of_decide_eq_true rfl) ?_)
      refine st_fork rfl rfl ?_ ?_
      · refine sg_alloc rfl (fun ba => ?_)
        refine st_back [blk bb (MS.mk 0 3 e.key 0 [] off ((x + y) % 2 ^ 64)).cells, blk bn (MS.mk 0 3 e.key 0 [] off y).cells, blk bm (MS.mk 0 3 e.key 0 [] off x).cells, blk bx e.cells, old W] (fun w h => h) (fun w hO => hO.tail) ?_
        refine st_done ?_
        repeat' (first
          | refine sk_nil ?_
          | refine sk_pure rfl rfl (ps_move rfl) rfl ?_
          | refine sk_pure rfl rfl (ps_assign rfl) rfl ?_
          | refine sk_pure rfl rfl (ps_nilCheck rfl) rfl ?_
          | refine sk_pure rfl rfl (ps_fieldAddr rfl) rfl ?_
          | refine sk_pure rfl rfl (ps_add64 rfl rfl (by omega)) rfl ?_
          | refine sk_pure rfl rfl (ps_sub64 rfl rfl (by omega)) rfl ?_
          | refine sk_pure rfl rfl (ps_mul64 rfl rfl (by omega)) rfl ?_
          | refine sk_pure rfl rfl (ps_bin rfl rfl inferInstance) rfl ?_
          | refine sk_pure rfl rfl (ps_rem rfl rfl (by decide)) rfl ?_
          | refine sk_pure rfl rfl (ps_not rfl) rfl ?_
          | refine sk_pure rfl rfl (ps_conv rfl) rfl ?_
          | refine sk_pure rfl rfl (ps_shl rfl rfl (by decide) rfl) rfl ?_
          | refine sk_pure rfl rfl (ps_shr rfl rfl (by decide) rfl) rfl ?_
          | refine sk_pure rfl rfl (ps_len rfl) rfl ?_
          | refine sk_pure rfl rfl (ps_len_str rfl) rfl ?_
          | refine sk_pure rfl rfl (ps_extract rfl rfl) rfl ?_
          | refine sk_pure rfl rfl (ps_field rfl rfl) rfl ?_
          | refine sk_pure rfl rfl (ps_build rfl rfl) rfl ?_
          | refine sk_pure rfl rfl (ps_indexAddr rfl rfl rfl (by omega)) rfl ?_
          | refine sk_pure rfl rfl (ps_indexAddr (j := 0) rfl rfl rfl (by omega)) rfl ?_
          | refine sk_pure rfl rfl (ps_indexAddr (j := 1) rfl rfl rfl (by omega)) rfl ?_
          | refine sk_pure rfl rfl (ps_pick_t rfl rfl) rfl ?_
          | refine sk_pure rfl rfl (ps_pick_f rfl rfl) rfl ?_
          | refine sk_pure rfl rfl (ps_min2 rfl rfl) rfl ?_
          | refine sk_pure rfl rfl (ps_max2 rfl rfl) rfl ?_
          | refine sk_pure rfl rfl (ps_indexAddr_arr rfl rfl rfl (by omega)) rfl ?_
          | refine sk_no rfl rfl rfl rfl rfl ?_
          | refine sk_pure_g rfl rfl rfl rfl (ps_move rfl) rfl ?_
          | refine sk_pure_g rfl rfl rfl rfl (ps_assign rfl) rfl ?_
          | refine sk_pure_g rfl rfl rfl rfl (ps_nilCheck rfl) rfl ?_
          | refine sk_pure_g rfl rfl rfl rfl (ps_fieldAddr rfl) rfl ?_
          | refine sk_pure_g rfl rfl rfl rfl (ps_add64 rfl rfl (by omega)) rfl ?_
          | refine sk_pure_g rfl rfl rfl rfl (ps_sub64 rfl rfl (by omega)) rfl ?_
          | refine sk_pure_g rfl rfl rfl rfl (ps_mul64 rfl rfl (by omega)) rfl ?_
          | refine sk_pure_g rfl rfl rfl rfl (ps_bin rfl rfl inferInstance) rfl ?_
          | refine sk_pure_g rfl rfl rfl rfl (ps_rem rfl rfl (by decide)) rfl ?_
          | refine sk_pure_g rfl rfl rfl rfl (ps_not rfl) rfl ?_
          | refine sk_pure_g rfl rfl rfl rfl (ps_conv rfl) rfl ?_
          | refine sk_pure_g rfl rfl rfl rfl (ps_shl rfl rfl (by decide) rfl) rfl ?_
          | refine sk_pure_g rfl rfl rfl rfl (ps_shr rfl rfl (by decide) rfl) rfl ?_
          | refine sk_pure_g rfl rfl rfl rfl (ps_len rfl) rfl ?_
          | refine sk_pure_g rfl rfl rfl rfl (ps_len_str rfl) rfl ?_
          | refine sk_pure_g rfl rfl rfl rfl (ps_extract rfl rfl) rfl ?_
          | refine sk_pure_g rfl rfl rfl rfl (ps_field rfl rfl) rfl ?_
          | refine sk_pure_g rfl rfl rfl rfl (ps_build rfl rfl) rfl ?_
          | refine sk_pure_g rfl rfl rfl rfl (ps_indexAddr rfl rfl rfl (by omega)) rfl ?_
          | refine sk_pure_g rfl rfl rfl rfl (ps_indexAddr (j := 0) rfl rfl rfl (by omega)) rfl ?_
          | refine sk_pure_g rfl rfl rfl rfl (ps_indexAddr (j := 1) rfl rfl rfl (by omega)) rfl ?_
          | refine sk_pure_g rfl rfl rfl rfl (ps_pick_t rfl rfl) rfl ?_
          | refine sk_pure_g rfl rfl rfl rfl (ps_pick_f rfl rfl) rfl ?_
          | refine sk_pure_g rfl rfl rfl rfl (ps_min2 rfl rfl) rfl ?_
          | refine sk_pure_g rfl rfl rfl rfl (ps_max2 rfl rfl) rfl ?_
          | refine sk_pure_g rfl rfl rfl rfl (ps_indexAddr_arr rfl rfl rfl (by omega)) rfl ?_
          | refine sk_load 0 rfl rfl rfl rfl rfl ?_
          | refine sk_load 1 rfl rfl rfl rfl rfl ?_
          | refine sk_load 2 rfl rfl rfl rfl rfl ?_
          | refine sk_load 3 rfl rfl rfl rfl rfl ?_
          | refine sk_load 4 rfl rfl rfl rfl rfl ?_
          | refine sk_load 5 rfl rfl rfl rfl rfl ?_
          | refine sk_load_g 0 rfl rfl rfl rfl rfl rfl rfl ?_
          | refine sk_load_g 1 rfl rfl rfl rfl rfl rfl rfl ?_
          | refine sk_load_g 2 rfl rfl rfl rfl rfl rfl rfl ?_
          | refine sk_load_g 3 rfl rfl rfl rfl rfl rfl rfl ?_
          | refine sk_load_g 4 rfl rfl rfl rfl rfl rfl rfl ?_
          | refine sk_load_g 5 rfl rfl rfl rfl rfl rfl rfl ?_
          | refine sk_lw 0 rfl rfl rfl rfl rfl ?_
          | refine sk_lw 1 rfl rfl rfl rfl rfl ?_
          | refine sk_lw 2 rfl rfl rfl rfl rfl ?_
          | refine sk_lw 3 rfl rfl rfl rfl rfl ?_
          | refine sk_lw 4 rfl rfl rfl rfl rfl ?_
          | refine sk_lw 5 rfl rfl rfl rfl rfl ?_
          | refine sk_lwg 0 rfl rfl rfl rfl rfl rfl rfl ?_
          | refine sk_lwg 1 rfl rfl rfl rfl rfl rfl rfl ?_
          | refine sk_lwg 2 rfl rfl rfl rfl rfl rfl rfl ?_
          | refine sk_lwg 3 rfl rfl rfl rfl rfl rfl rfl ?_
          | refine sk_lwg 4 rfl rfl rfl rfl rfl rfl rfl ?_
          | refine sk_lwg 5 rfl rfl rfl rfl rfl rfl rfl ?_
          | refine sk_eff rfl rfl ?_
          | refine sg_store_whole [] rfl rfl rfl rfl rfl ?_
          | refine sg_store_whole [_] rfl rfl rfl rfl rfl ?_
          | refine sg_store_whole [_, _] rfl rfl rfl rfl rfl ?_
          | refine sg_store_whole [_, _, _] rfl rfl rfl rfl rfl ?_
          | refine sg_store_whole [_, _, _, _] rfl rfl rfl rfl rfl ?_
          | refine sg_store_whole [_, _, _, _, _] rfl rfl rfl rfl rfl ?_
          | refine sg_store_whole [_, _, _, _, _, _] rfl rfl rfl rfl rfl ?_
          | refine sg_guard_yes rfl rfl ?_
          | refine sg_guard_nf rfl rfl rfl ?_
          | refine sg_guard_nt rfl rfl rfl ?_
          | refine sg_guard_nu rfl rfl rfl ?_
          | refine sk_back (fun w hO => hO) ?_
          | refine sg_store [] rfl rfl rfl (of_decide_eq_true rfl) ?_
          | refine sg_store [_] rfl rfl rfl (of_decide_eq_true rfl) ?_
          | refine sg_store [_, _] rfl rfl rfl (of_decide_eq_true rfl) ?_
          | refine sg_store [_, _, _] rfl rfl rfl (of_decide_eq_true rfl) ?_
          | refine sg_store [_, _, _, _] rfl rfl rfl (of_decide_eq_true rfl) ?_
          | refine sg_store [_, _, _, _, _] rfl rfl rfl (of_decide_eq_true rfl) ?_
          | refine sg_store [_, _, _, _, _, _] rfl rfl rfl (of_decide_eq_true rfl) ?_
          | refine sg_store [_, _, _, _, _, _, _] rfl rfl rfl (of_decide_eq_true rfl) ?_)
        refine sg_call (a1 _) rfl rfl (fun _ _ => ?_)
        refine sk_back (fun w hO => hO.tail) ?_
        repeat' (first
          | refine sk_nil ?_
          | refine sk_pure rfl rfl (ps_move rfl) rfl ?_
          | refine sk_pure rfl rfl (ps_assign rfl) rfl ?_
          | refine sk_pure rfl rfl (ps_nilCheck rfl) rfl ?_
          | refine sk_pure rfl rfl (ps_fieldAddr rfl) rfl ?_
          | refine sk_pure rfl rfl (ps_add64 rfl rfl (by omega)) rfl ?_
          | refine sk_pure rfl rfl (ps_sub64 rfl rfl (by omega)) rfl ?_
          | refine sk_pure rfl rfl (ps_mul64 rfl rfl (by omega)) rfl ?_
          | refine sk_pure rfl rfl (ps_bin rfl rfl inferInstance) rfl ?_
          | refine sk_pure rfl rfl (ps_rem rfl rfl (by decide)) rfl ?_
          | refine sk_pure rfl rfl (ps_not rfl) rfl ?_
          | refine sk_pure rfl rfl (ps_conv rfl) rfl ?_
          | refine sk_pure rfl rfl (ps_shl rfl rfl (by decide) rfl) rfl ?_
          | refine sk_pure rfl rfl (ps_shr rfl rfl (by decide) rfl) rfl ?_
          | refine sk_pure rfl rfl (ps_len rfl) rfl ?_
          | refine sk_pure rfl rfl (ps_len_str rfl) rfl ?_
          | refine sk_pure rfl rfl (ps_extract rfl rfl) rfl ?_
          | refine sk_pure rfl rfl (ps_field rfl rfl) rfl ?_
          | refine sk_pure rfl rfl (ps_build rfl rfl) rfl ?_
          | refine sk_pure rfl rfl (ps_indexAddr rfl rfl rfl (by omega)) rfl ?_
          | refine sk_pure rfl rfl (ps_indexAddr (j := 0) rfl rfl rfl (by omega)) rfl ?_
          | refine sk_pure rfl rfl (ps_indexAddr (j := 1) rfl rfl rfl (by omega)) rfl ?_
          | refine sk_pure rfl rfl (ps_pick_t rfl rfl) rfl ?_
          | refine sk_pure rfl rfl (ps_pick_f rfl rfl) rfl ?_
          | refine sk_pure rfl rfl (ps_min2 rfl rfl) rfl ?_
          | refine sk_pure rfl rfl (ps_max2 rfl rfl) rfl ?_
          | refine sk_pure rfl rfl (ps_indexAddr_arr rfl rfl rfl (by omega)) rfl ?_
          | refine sk_no rfl rfl rfl rfl rfl ?_
          | refine sk_pure_g rfl rfl rfl rfl (ps_move rfl) rfl ?_
          | refine sk_pure_g rfl rfl rfl rfl (ps_assign rfl) rfl ?_
          | refine sk_pure_g rfl rfl rfl rfl (ps_nilCheck rfl) rfl ?_
          | refine sk_pure_g rfl rfl rfl rfl (ps_fieldAddr rfl) rfl ?_
          | refine sk_pure_g rfl rfl rfl rfl (ps_add64 rfl rfl (by omega)) rfl ?_
          | refine sk_pure_g rfl rfl rfl rfl (ps_sub64 rfl rfl (by omega)) rfl ?_
          | refine sk_pure_g rfl rfl rfl rfl (ps_mul64 rfl rfl (by omega)) rfl ?_
          | refine sk_pure_g rfl rfl rfl rfl (ps_bin rfl rfl inferInstance) rfl ?_
          | refine sk_pure_g rfl rfl rfl rfl (ps_rem rfl rfl (by decide)) rfl ?_
          | refine sk_pure_g rfl rfl rfl rfl (ps_not rfl) rfl ?_
          | refine sk_pure_g rfl rfl rfl rfl (ps_conv rfl) rfl ?_
          | refine sk_pure_g rfl rfl rfl rfl (ps_shl rfl rfl (by decide) rfl) rfl ?_
          | refine sk_pure_g rfl rfl rfl rfl (ps_shr rfl rfl (by decide) rfl) rfl ?_
          | refine sk_pure_g rfl rfl rfl rfl (ps_len rfl) rfl ?_
          | refine sk_pure_g rfl rfl rfl rfl (ps_len_str rfl) rfl ?_
          | refine sk_pure_g rfl rfl rfl rfl (ps_extract rfl rfl) rfl ?_
          | refine sk_pure_g rfl rfl rfl rfl (ps_field rfl rfl) rfl ?_
          | refine sk_pure_g rfl rfl rfl rfl (ps_build rfl rfl) rfl ?_
          | refine sk_pure_g rfl rfl rfl rfl (ps_indexAddr rfl rfl rfl (by omega)) rfl ?_
          | refine sk_pure_g rfl rfl rfl rfl (ps_indexAddr (j := 0) rfl rfl rfl (by omega)) rfl ?_
          | refine sk_pure_g rfl rfl rfl rfl (ps_indexAddr (j := 1) rfl rfl rfl (by omega)) rfl ?_
          | refine sk_pure_g rfl rfl rfl rfl (ps_pick_t rfl rfl) rfl ?_
          | refine sk_pure_g rfl rfl rfl rfl (ps_pick_f rfl rfl) rfl ?_
          | refine sk_pure_g rfl rfl rfl rfl (ps_min2 rfl rfl) rfl ?_
          | refine sk_pure_g rfl rfl rfl rfl (ps_max2 rfl rfl) rfl ?_
          | refine sk_pure_g rfl rfl rfl rfl (ps_indexAddr_arr rfl rfl rfl (by omega)) rfl ?_
          | refine sk_load 0 rfl rfl rfl rfl rfl ?_
          | refine sk_load 1 rfl rfl rfl rfl rfl ?_
          | refine sk_load 2 rfl rfl rfl rfl rfl ?_
          | refine sk_load 3 rfl rfl rfl rfl rfl ?_
          | refine sk_load 4 rfl rfl rfl rfl rfl ?_
          | refine sk_load 5 rfl rfl rfl rfl rfl ?_
          | refine sk_load_g 0 rfl rfl rfl rfl rfl rfl rfl ?_
          | refine sk_load_g 1 rfl rfl rfl rfl rfl rfl rfl ?_
          | refine sk_load_g 2 rfl rfl rfl rfl rfl rfl rfl ?_
          | refine sk_load_g 3 rfl rfl rfl rfl rfl rfl rfl ?_
          | refine sk_load_g 4 rfl rfl rfl rfl rfl rfl rfl ?_
          | refine sk_load_g 5 rfl rfl rfl rfl rfl rfl rfl ?_
          | refine sk_lw 0 rfl rfl rfl rfl rfl ?_
          | refine sk_lw 1 rfl rfl rfl rfl rfl ?_
          | refine sk_lw 2 rfl rfl rfl rfl rfl ?_
          | refine sk_lw 3 rfl rfl rfl rfl rfl ?_
          | refine sk_lw 4 rfl rfl rfl rfl rfl ?_
          | refine sk_lw 5 rfl rfl rfl rfl rfl ?_
          | refine sk_lwg 0 rfl rfl rfl rfl rfl rfl rfl ?_
          | refine sk_lwg 1 rfl rfl rfl rfl rfl rfl rfl ?_
          | refine sk_lwg 2 rfl rfl rfl rfl rfl rfl rfl ?_
          | refine sk_lwg 3 rfl rfl rfl rfl rfl rfl rfl ?_
          | refine sk_lwg 4 rfl rfl rfl rfl rfl rfl rfl ?_
          | refine sk_lwg 5 rfl rfl rfl rfl rfl rfl rfl ?_
          | refine sk_eff rfl rfl ?_
          | refine sg_store_whole [] rfl rfl rfl rfl rfl ?_
          | refine sg_store_whole [_] rfl rfl rfl rfl rfl ?_
          | refine sg_store_whole [_, _] rfl rfl rfl rfl rfl ?_
          | refine sg_store_whole [_, _, _] rfl rfl rfl rfl rfl ?_
          | refine sg_store_whole [_, _, _, _] rfl rfl rfl rfl rfl ?_
          | refine sg_store_whole [_, _, _, _, _] rfl rfl rfl rfl rfl ?_
          | refine sg_store_whole [_, _, _, _, _, _] rfl rfl rfl rfl rfl ?_
          | refine sg_guard_yes rfl rfl ?_
          | refine sg_guard_nf rfl rfl rfl ?_
          | refine sg_guard_nt rfl rfl rfl ?_
          | refine sg_guard_nu rfl rfl rfl ?_
          | refine sk_back (fun w hO => hO) ?_
          | refine sg_store [] rfl rfl rfl (of_decide_eq_true rfl) ?_
          | refine sg_store [_] rfl rfl rfl (of_decide_eq_true rfl) ?_
          | refine sg_store [_, _] rfl rfl rfl (of_decide_eq_true rfl) ?_
          | refine sg_store [_, _, _] rfl rfl rfl (of_decide_eq_true rfl) ?_
          | refine sg_store [_, _, _, _] rfl rfl rfl (of_decide_eq_true rfl) ?_
          | refine sg_store [_, _, _, _, _] rfl rfl rfl (of_decide_eq_true rfl) ?_
          | refine sg_store [_, _, _, _, _, _] rfl rfl rfl (of_decide_eq_true rfl) ?_
          | refine sg_store [_, _, _, _, _, _, _] rfl rfl rfl (of_decide_eq_true rfl) ?_)
        refine sg_call (a2 _) rfl rfl (fun _ _ => ?_)
        refine sk_back (fun w hO => hO.tail) ?_
        repeat' (first
          | refine sk_nil ?_
          | refine sk_pure rfl rfl (ps_move rfl) rfl ?_
          | refine sk_pure rfl rfl (ps_assign rfl) rfl ?_
          | refine sk_pure rfl rfl (ps_nilCheck rfl) rfl ?_
          | refine sk_pure rfl rfl (ps_fieldAddr rfl) rfl ?_
          | refine sk_pure rfl rfl (ps_add64 rfl rfl (by omega)) rfl ?_
          | refine sk_pure rfl rfl (ps_sub64 rfl rfl (by omega)) rfl ?_
          | refine sk_pure rfl rfl (ps_mul64 rfl rfl (by omega)) rfl ?_
          | refine sk_pure rfl rfl (ps_bin rfl rfl inferInstance) rfl ?_
          | refine sk_pure rfl rfl (ps_rem rfl rfl (by decide)) rfl ?_
          | refine sk_pure rfl rfl (ps_not rfl) rfl ?_
          | refine sk_pure rfl rfl (ps_conv rfl) rfl ?_
          | refine sk_pure rfl rfl (ps_shl rfl rfl (by decide) rfl) rfl ?_
          | refine sk_pure rfl rfl (ps_shr rfl rfl (by decide) rfl) rfl ?_
          | refine sk_pure rfl rfl (ps_len rfl) rfl ?_
          | refine sk_pure rfl rfl (ps_len_str rfl) rfl ?_
          | refine sk_pure rfl rfl (ps_extract rfl rfl) rfl ?_
          | refine sk_pure rfl rfl (ps_field rfl rfl) rfl ?_
          | refine sk_pure rfl rfl (ps_build rfl rfl) rfl ?_
          | refine sk_pure rfl rfl (ps_indexAddr rfl rfl rfl (by omega)) rfl ?_
          | refine sk_pure rfl rfl (ps_indexAddr (j := 0) rfl rfl rfl (by omega)) rfl ?_
          | refine sk_pure rfl rfl (ps_indexAddr (j := 1) rfl rfl rfl (by omega)) rfl ?_
          | refine sk_pure rfl rfl (ps_pick_t rfl rfl) rfl ?_
          | refine sk_pure rfl rfl (ps_pick_f rfl rfl) rfl ?_
          | refine sk_pure rfl rfl (ps_min2 rfl rfl) rfl ?_
          | refine sk_pure rfl rfl (ps_max2 rfl rfl) rfl ?_
          | refine sk_pure rfl rfl (ps_indexAddr_arr rfl rfl rfl (by omega)) rfl ?_
          | refine sk_no rfl rfl rfl rfl rfl ?_
          | refine sk_pure_g rfl rfl rfl rfl (ps_move rfl) rfl ?_
          | refine sk_pure_g rfl rfl rfl rfl (ps_assign rfl) rfl ?_
          | refine sk_pure_g rfl rfl rfl rfl (ps_nilCheck rfl) rfl ?_
          | refine sk_pure_g rfl rfl rfl rfl (ps_fieldAddr rfl) rfl ?_
          | refine sk_pure_g rfl rfl rfl rfl (ps_add64 rfl rfl (by omega)) rfl ?_
          | refine sk_pure_g rfl rfl rfl rfl (ps_sub64 rfl rfl (by omega)) rfl ?_
          | refine sk_pure_g rfl rfl rfl rfl (ps_mul64 rfl rfl (by omega)) rfl ?_
          | refine sk_pure_g rfl rfl rfl rfl (ps_bin rfl rfl inferInstance) rfl ?_
          | refine sk_pure_g rfl rfl rfl rfl (ps_rem rfl rfl (by decide)) rfl ?_
          | refine sk_pure_g rfl rfl rfl rfl (ps_not rfl) rfl ?_
          | refine sk_pure_g rfl rfl rfl rfl (ps_conv rfl) rfl ?_
          | refine sk_pure_g rfl rfl rfl rfl (ps_shl rfl rfl (by decide) rfl) rfl ?_
          | refine sk_pure_g rfl rfl rfl rfl (ps_shr rfl rfl (by decide) rfl) rfl ?_
          | refine sk_pure_g rfl rfl rfl rfl (ps_len rfl) rfl ?_
          | refine sk_pure_g rfl rfl rfl rfl (ps_len_str rfl) rfl ?_
          | refine sk_pure_g rfl rfl rfl rfl (ps_extract rfl rfl) rfl ?_
          | refine sk_pure_g rfl rfl rfl rfl (ps_field rfl rfl) rfl ?_
          | refine sk_pure_g rfl rfl rfl rfl (ps_build rfl rfl) rfl ?_
          | refine sk_pure_g rfl rfl rfl rfl (ps_indexAddr rfl rfl rfl (by omega)) rfl ?_
          | refine sk_pure_g rfl rfl rfl rfl (ps_indexAddr (j := 0) rfl rfl rfl (by omega)) rfl ?_
          | refine sk_pure_g rfl rfl rfl rfl (ps_indexAddr (j := 1) rfl rfl rfl (by omega)) rfl ?_
          | refine sk_pure_g rfl rfl rfl rfl (ps_pick_t rfl rfl) rfl ?_
          | refine sk_pure_g rfl rfl rfl rfl (ps_pick_f rfl rfl) rfl ?_
          | refine sk_pure_g rfl rfl rfl rfl (ps_min2 rfl rfl) rfl ?_
          | refine sk_pure_g rfl rfl rfl rfl (ps_max2 rfl rfl) rfl ?_
          | refine sk_pure_g rfl rfl rfl rfl (ps_indexAddr_arr rfl rfl rfl (by omega)) rfl ?_
          | refine sk_load 0 rfl rfl rfl rfl rfl ?_
          | refine sk_load 1 rfl rfl rfl rfl rfl ?_
          | refine sk_load 2 rfl rfl rfl rfl rfl ?_
          | refine sk_load 3 rfl rfl rfl rfl rfl ?_
          | refine sk_load 4 rfl rfl rfl rfl rfl ?_
          | refine sk_load 5 rfl rfl rfl rfl rfl ?_
          | refine sk_load_g 0 rfl rfl rfl rfl rfl rfl rfl ?_
          | refine sk_load_g 1 rfl rfl rfl rfl rfl rfl rfl ?_
          | refine sk_load_g 2 rfl rfl rfl rfl rfl rfl rfl ?_
          | refine sk_load_g 3 rfl rfl rfl rfl rfl rfl rfl ?_
          | refine sk_load_g 4 rfl rfl rfl rfl rfl rfl rfl ?_
          | refine sk_load_g 5 rfl rfl rfl rfl rfl rfl rfl ?_
          | refine sk_lw 0 rfl rfl rfl rfl rfl ?_
          | refine sk_lw 1 rfl rfl rfl rfl rfl ?_
          | refine sk_lw 2 rfl rfl rfl rfl rfl ?_
          | refine sk_lw 3 rfl rfl rfl rfl rfl ?_
          | refine sk_lw 4 rfl rfl rfl rfl rfl ?_
          | refine sk_lw 5 rfl rfl rfl rfl rfl ?_
          | refine sk_lwg 0 rfl rfl rfl rfl rfl rfl rfl ?_
          | refine sk_lwg 1 rfl rfl rfl rfl rfl rfl rfl ?_
          | refine sk_lwg 2 rfl rfl rfl rfl rfl rfl rfl ?_
          | refine sk_lwg 3 rfl rfl rfl rfl rfl rfl rfl ?_
          | refine sk_lwg 4 rfl rfl rfl rfl rfl rfl rfl ?_
          | refine sk_lwg 5 rfl rfl rfl rfl rfl rfl rfl ?_
          | refine sk_eff rfl rfl ?_
          | refine sg_store_whole [] rfl rfl rfl rfl rfl ?_
          | refine sg_store_whole [_] rfl rfl rfl rfl rfl ?_
          | refine sg_store_whole [_, _] rfl rfl rfl rfl rfl ?_
          | refine sg_store_whole [_, _, _] rfl rfl rfl rfl rfl ?_
          | refine sg_store_whole [_, _, _, _] rfl rfl rfl rfl rfl ?_
          | refine sg_store_whole [_, _, _, _, _] rfl rfl rfl rfl rfl ?_
          | refine sg_store_whole [_, _, _, _, _, _] rfl rfl rfl rfl rfl ?_
          | refine sg_guard_yes rfl rfl ?_
          | refine sg_guard_nf rfl rfl rfl ?_
          | refine sg_guard_nt rfl rfl rfl ?_
          | refine sg_guard_nu rfl rfl rfl ?_
          | refine sk_back (fun w hO => hO) ?_
          | refine sg_store [] rfl rfl rfl (of_decide_eq_true rfl) ?_
          | refine sg_store [_] rfl rfl rfl (of_decide_eq_true rfl) ?_
          | refine sg_store [_, _] rfl rfl rfl (of_decide_eq_true rfl) ?_
          | refine sg_store [_, _, _] rfl rfl rfl (of_decide_eq_true rfl) ?_
          | refine sg_store [_, _, _, _] rfl rfl rfl (of_decide_eq_true rfl) ?_
          | refine sg_store [_, _, _, _, _] rfl rfl rfl (of_decide_eq_true rfl) ?_
          | refine sg_store [_, _, _, _, _, _] rfl rfl rfl (of_decide_eq_true rfl) ?_
          | refine sg_store [_, _, _, _, _, _, _] rfl rfl rfl (of_decide_eq_true rfl) ?_)
        refine sk_end (by kernel_rfl) ?_
        repeat' (first
          | refine sk_nil ?_
          | refine sk_pure rfl rfl (ps_move rfl) rfl ?_
          | refine sk_pure rfl rfl (ps_assign rfl) rfl ?_
          | refine sk_pure rfl rfl (ps_nilCheck rfl) rfl ?_
          | refine sk_pure rfl rfl (ps_fieldAddr rfl) rfl ?_
          | refine sk_pure rfl rfl (ps_add64 rfl rfl (by omega)) rfl ?_
          | refine sk_pure rfl rfl (ps_sub64 rfl rfl (by omega)) rfl ?_
          | refine sk_pure rfl rfl (ps_mul64 rfl rfl (by omega)) rfl ?_
          | refine sk_pure rfl rfl (ps_bin rfl rfl inferInstance) rfl ?_
          | refine sk_pure rfl rfl (ps_rem rfl rfl (by decide)) rfl ?_
          | refine sk_pure rfl rfl (ps_not rfl) rfl ?_
          | refine sk_pure rfl rfl (ps_conv rfl) rfl ?_
          | refine sk_pure rfl rfl (ps_shl rfl rfl (by decide) rfl) rfl ?_
          | refine sk_pure rfl rfl (ps_shr rfl rfl (by decide) rfl) rfl ?_
          | refine sk_pure rfl rfl (ps_len rfl) rfl ?_
          | refine sk_pure rfl rfl (ps_len_str rfl) rfl ?_
          | refine sk_pure rfl rfl (ps_extract rfl rfl) rfl ?_
          | refine sk_pure rfl rfl (ps_field rfl rfl) rfl ?_
          | refine sk_pure rfl rfl (ps_build rfl rfl) rfl ?_
          | refine sk_pure rfl rfl (ps_indexAddr rfl rfl rfl (by omega)) rfl ?_
          | refine sk_pure rfl rfl (ps_indexAddr (j := 0) rfl rfl rfl (by omega)) rfl ?_
          | refine sk_pure rfl rfl (ps_indexAddr (j := 1) rfl rfl rfl (by omega)) rfl ?_
          | refine sk_pure rfl rfl (ps_pick_t rfl rfl) rfl ?_
          | refine sk_pure rfl rfl (ps_pick_f rfl rfl) rfl ?_
          | refine sk_pure rfl rfl (ps_min2 rfl rfl) rfl ?_
          | refine sk_pure rfl rfl (ps_max2 rfl rfl) rfl ?_
          | refine sk_pure rfl rfl (ps_indexAddr_arr rfl rfl rfl (by omega)) rfl ?_
          | refine sk_no rfl rfl rfl rfl rfl ?_
          | refine sk_pure_g rfl rfl rfl rfl (ps_move rfl) rfl ?_
          | refine sk_pure_g rfl rfl rfl rfl (ps_assign rfl) rfl ?_
          | refine sk_pure_g rfl rfl rfl rfl (ps_nilCheck rfl) rfl ?_
          | refine sk_pure_g rfl rfl rfl rfl (ps_fieldAddr rfl) rfl ?_
          | refine sk_pure_g rfl rfl rfl rfl (ps_add64 rfl rfl (by omega)) rfl ?_
          | refine sk_pure_g rfl rfl rfl rfl (ps_sub64 rfl rfl (by omega)) rfl ?_
          | refine sk_pure_g rfl rfl rfl rfl (ps_mul64 rfl rfl (by omega)) rfl ?_
          | refine sk_pure_g rfl rfl rfl rfl (ps_bin rfl rfl inferInstance) rfl ?_
          | refine sk_pure_g rfl rfl rfl rfl (ps_rem rfl rfl (by decide)) rfl ?_
          | refine sk_pure_g rfl rfl rfl rfl (ps_not rfl) rfl ?_
          | refine sk_pure_g rfl rfl rfl rfl (ps_conv rfl) rfl ?_
          | refine sk_pure_g rfl rfl rfl rfl (ps_shl rfl rfl (by decide) rfl) rfl ?_
          | refine sk_pure_g rfl rfl rfl rfl (ps_shr rfl rfl (by decide) rfl) rfl ?_
          | refine sk_pure_g rfl rfl rfl rfl (ps_len rfl) rfl ?_
          | refine sk_pure_g rfl rfl rfl rfl (ps_len_str rfl) rfl ?_
          | refine sk_pure_g rfl rfl rfl rfl (ps_extract rfl rfl) rfl ?_
          | refine sk_pure_g rfl rfl rfl rfl (ps_field rfl rfl) rfl ?_
          | refine sk_pure_g rfl rfl rfl rfl (ps_build rfl rfl) rfl ?_
          | refine sk_pure_g rfl rfl rfl rfl (ps_indexAddr rfl rfl rfl (by omega)) rfl ?_
          | refine sk_pure_g rfl rfl rfl rfl (ps_indexAddr (j := 0) rfl rfl rfl (by omega)) rfl ?_
          | refine sk_pure_g rfl rfl rfl rfl (ps_indexAddr (j := 1) rfl rfl rfl (by omega)) rfl ?_
          | refine sk_pure_g rfl rfl rfl rfl (ps_pick_t rfl rfl) rfl ?_
          | refine sk_pure_g rfl rfl rfl rfl (ps_pick_f rfl rfl) rfl ?_
          | refine sk_pure_g rfl rfl rfl rfl (ps_min2 rfl rfl) rfl ?_
          | refine sk_pure_g rfl rfl rfl rfl (ps_max2 rfl rfl) rfl ?_
          | refine sk_pure_g rfl rfl rfl rfl (ps_indexAddr_arr rfl rfl rfl (by omega)) rfl ?_
          | refine sk_load 0 rfl rfl rfl rfl rfl ?_
          | refine sk_load 1 rfl rfl rfl rfl rfl ?_
          | refine sk_load 2 rfl rfl rfl rfl rfl ?_
          | refine sk_load 3 rfl rfl rfl rfl rfl ?_
          | refine sk_load 4 rfl rfl rfl rfl rfl ?_
          | refine sk_load 5 rfl rfl rfl rfl rfl ?_
          | refine sk_load_g 0 rfl rfl rfl rfl rfl rfl rfl ?_
          | refine sk_load_g 1 rfl rfl rfl rfl rfl rfl rfl ?_
          | refine sk_load_g 2 rfl rfl rfl rfl rfl rfl rfl ?_
          | refine sk_load_g 3 rfl rfl rfl rfl rfl rfl rfl ?_
          | refine sk_load_g 4 rfl rfl rfl rfl rfl rfl rfl ?_
          | refine sk_load_g 5 rfl rfl rfl rfl rfl rfl rfl ?_
          | refine sk_lw 0 rfl rfl rfl rfl rfl ?_
          | refine sk_lw 1 rfl rfl rfl rfl rfl ?_
          | refine sk_lw 2 rfl rfl rfl rfl rfl ?_
          | refine sk_lw 3 rfl rfl rfl rfl rfl ?_
          | refine sk_lw 4 rfl rfl rfl rfl rfl ?_
          | refine sk_lw 5 rfl rfl rfl rfl rfl ?_
          | refine sk_lwg 0 rfl rfl rfl rfl rfl rfl rfl ?_
          | refine sk_lwg 1 rfl rfl rfl rfl rfl rfl rfl ?_
          | refine sk_lwg 2 rfl rfl rfl rfl rfl rfl rfl ?_
          | refine sk_lwg 3 rfl rfl rfl rfl rfl rfl rfl ?_
          | refine sk_lwg 4 rfl rfl rfl rfl rfl rfl rfl ?_
          | refine sk_lwg 5 rfl rfl rfl rfl rfl rfl rfl ?_
          | refine sk_eff rfl rfl ?_
          | refine sg_store_whole [] rfl rfl rfl rfl rfl ?_
          | refine sg_store_whole [_] rfl rfl rfl rfl rfl ?_
          | refine sg_store_whole [_, _] rfl rfl rfl rfl rfl ?_
          | refine sg_store_whole [_, _, _] rfl rfl rfl rfl rfl ?_
          | refine sg_store_whole [_, _, _, _] rfl rfl rfl rfl rfl ?_
          | refine sg_store_whole [_, _, _, _, _] rfl rfl rfl rfl rfl ?_
          | refine sg_store_whole [_, _, _, _, _, _] rfl rfl rfl rfl rfl ?_
          | refine sg_guard_yes rfl rfl ?_
          | refine sg_guard_nf rfl rfl rfl ?_
          | refine sg_guard_nt rfl rfl rfl ?_
          | refine sg_guard_nu rfl rfl rfl ?_
          | refine sk_back (fun w hO => hO) ?_
          | refine sg_store [] rfl rfl rfl (of_decide_eq_true rfl) ?_
          | refine sg_store [_] rfl rfl rfl (of_decide_eq_true rfl) ?_
          | refine sg_store [_, _] rfl rfl rfl (of_decide_eq_true rfl) ?_
          | refine sg_store [_, _, _] rfl rfl rfl (of_decide_eq_true rfl) ?_
          | refine sg_store [_, _, _, _] rfl rfl rfl (of_decide_eq_true rfl) ?_
          | refine sg_store [_, _, _, _, _] rfl rfl rfl (of_decide_eq_true rfl) ?_
          | refine sg_store [_, _, _, _, _, _] rfl rfl rfl (of_decide_eq_true rfl) ?_
          | refine sg_store [_, _, _, _, _, _, _] rfl rfl rfl (of_decide_eq_true rfl) ?_)
        exact ex_mid ba trivial (.cons rfl (.cons rfl (.cons rfl (.cons rfl (.cons rfl .nil))))) (fun w hO => hO)
      · refine sg_call (a1 _) rfl rfl (fun _ _ => ?_)
        refine st_back [blk bb (MS.mk 0 3 e.key 0 [] off ((x + y) % 2 ^ 64)).cells, blk bn (MS.mk 0 3 e.key 0 [] off y).cells, blk bm (MS.mk 0 3 e.key 0 [] off x).cells, blk bx e.cells, old W] (fun w h => h) (fun w hO => hO) ?_
        refine st_pre ?_
        refine sk_nil ?_
        refine st_fork rfl rfl ?_ ?_
        · refine sg_alloc rfl (fun ba => ?_)
          refine st_back [blk bb (MS.mk 0 3 e.key 0 [] off ((x + y) % 2 ^ 64)).cells, blk bn (MS.mk 0 3 e.key 0 [] off y).cells, blk bm (MS.mk 0 3 e.key 0 [] off x).cells, blk bx e.cells, old W] (fun w h => h) (fun w hO => hO.tail) ?_
          refine st_done ?_
          repeat' (first
            | refine sk_nil ?_
            | refine sk_pure rfl rfl (ps_move rfl) rfl ?_
            | refine sk_pure rfl rfl (ps_assign rfl) rfl ?_
            | refine sk_pure rfl rfl (ps_nilCheck rfl) rfl ?_
            | refine sk_pure rfl rfl (ps_fieldAddr rfl) rfl ?_
            | refine sk_pure rfl rfl (ps_add64 rfl rfl (by omega)) rfl ?_
            | refine sk_pure rfl rfl (ps_sub64 rfl rfl (by omega)) rfl ?_
            | refine sk_pure rfl rfl (ps_mul64 rfl rfl (by omega)) rfl ?_
            | refine sk_pure rfl rfl (ps_bin rfl rfl inferInstance) rfl ?_
            | refine sk_pure rfl rfl (ps_rem rfl rfl (by decide)) rfl ?_
            | refine sk_pure rfl rfl (ps_not rfl) rfl ?_
            | refine sk_pure rfl rfl (ps_conv rfl) rfl ?_
            | refine sk_pure rfl rfl (ps_shl rfl rfl (by decide) rfl) rfl ?_
            | refine sk_pure rfl rfl (ps_shr rfl rfl (by decide) rfl) rfl ?_
            | refine sk_pure rfl rfl (ps_len rfl) rfl ?_
            | refine sk_pure rfl rfl (ps_len_str rfl) rfl ?_
            | refine sk_pure rfl rfl (ps_extract rfl rfl) rfl ?_
            | refine sk_pure rfl rfl (ps_field rfl rfl) rfl ?_
            | refine sk_pure rfl rfl (ps_build rfl rfl) rfl ?_
            | refine sk_pure rfl rfl (ps_indexAddr rfl rfl rfl (by omega)) rfl ?_
            | refine sk_pure rfl rfl (ps_indexAddr (j := 0) rfl rfl rfl (by omega)) rfl ?_
            | refine sk_pure rfl rfl (ps_indexAddr (j := 1) rfl rfl rfl (by omega)) rfl ?_
            | refine sk_pure rfl rfl (ps_pick_t rfl rfl) rfl ?_
            | refine sk_pure rfl rfl (ps_pick_f rfl rfl) rfl ?_
            | refine sk_pure rfl rfl (ps_min2 rfl rfl) rfl ?_
            | refine sk_pure rfl rfl (ps_max2 rfl rfl) rfl ?_
            | refine sk_pure rfl rfl (ps_indexAddr_arr rfl rfl rfl (by omega)) rfl ?_
            | refine sk_no rfl rfl rfl rfl rfl ?_
            | refine sk_pure_g rfl rfl rfl rfl (ps_move rfl) rfl ?_
            | refine sk_pure_g rfl rfl rfl rfl (ps_assign rfl) rfl ?_
            | refine sk_pure_g rfl rfl rfl rfl (ps_nilCheck rfl) rfl ?_
            | refine sk_pure_g rfl rfl rfl rfl (ps_fieldAddr rfl) rfl ?_
            | refine sk_pure_g rfl rfl rfl rfl (ps_add64 rfl rfl (by omega)) rfl ?_
            | refine sk_pure_g rfl rfl rfl rfl (ps_sub64 rfl rfl (by omega)) rfl ?_
            | refine sk_pure_g rfl rfl rfl rfl (ps_mul64 rfl rfl (by omega)) rfl ?_
            | refine sk_pure_g rfl rfl rfl rfl (ps_bin rfl rfl inferInstance) rfl ?_
            | refine sk_pure_g rfl rfl rfl rfl (ps_rem rfl rfl (by decide)) rfl ?_
            | refine sk_pure_g rfl rfl rfl rfl (ps_not rfl) rfl ?_
            | refine sk_pure_g rfl rfl rfl rfl (ps_conv rfl) rfl ?_
            | refine sk_pure_g rfl rfl rfl rfl (ps_shl rfl rfl (by decide) rfl) rfl ?_
            | refine sk_pure_g rfl rfl rfl rfl (ps_shr rfl rfl (by decide) rfl) rfl ?_
            | refine sk_pure_g rfl rfl rfl rfl (ps_len rfl) rfl ?_
            | refine sk_pure_g rfl rfl rfl rfl (ps_len_str rfl) rfl ?_
            | refine sk_pure_g rfl rfl rfl rfl (ps_extract rfl rfl) rfl ?_
            | refine sk_pure_g rfl rfl rfl rfl (ps_field rfl rfl) rfl ?_
            | refine sk_pure_g rfl rfl rfl rfl (ps_build rfl rfl) rfl ?_
            | refine sk_pure_g rfl rfl rfl rfl (ps_indexAddr rfl rfl rfl (by omega)) rfl ?_
            | refine sk_pure_g rfl rfl rfl rfl (ps_indexAddr (j := 0) rfl rfl rfl (by omega)) rfl ?_
            | refine sk_pure_g rfl rfl rfl rfl (ps_indexAddr (j := 1) rfl rfl rfl (by omega)) rfl ?_
            | refine sk_pure_g rfl rfl rfl rfl (ps_pick_t rfl rfl) rfl ?_
            | refine sk_pure_g rfl rfl rfl rfl (ps_pick_f rfl rfl) rfl ?_
            | refine sk_pure_g rfl rfl rfl rfl (ps_min2 rfl rfl) rfl ?_
            | refine sk_pure_g rfl rfl rfl rfl (ps_max2 rfl rfl) rfl ?_
            | refine sk_pure_g rfl rfl rfl rfl (ps_indexAddr_arr rfl rfl rfl (by omega)) rfl ?_
            | refine sk_load 0 rfl rfl rfl rfl rfl ?_
            | refine sk_load 1 rfl rfl rfl rfl rfl ?_
            | refine sk_load 2 rfl rfl rfl rfl rfl ?_
            | refine sk_load 3 rfl rfl rfl rfl rfl ?_
            | refine sk_load 4 rfl rfl rfl rfl rfl ?_
            | refine sk_load 5 rfl rfl rfl rfl rfl ?_
            | refine sk_load_g 0 rfl rfl rfl rfl rfl rfl rfl ?_
            | refine sk_load_g 1 rfl rfl rfl rfl rfl rfl rfl ?_
            | refine sk_load_g 2 rfl rfl rfl rfl rfl rfl rfl ?_
            | refine sk_load_g 3 rfl rfl rfl rfl rfl rfl rfl ?_
            | refine sk_load_g 4 rfl rfl rfl rfl rfl rfl rfl ?_
            | refine sk_load_g 5 rfl rfl rfl rfl rfl rfl rfl ?_
            | refine sk_lw 0 rfl rfl rfl rfl rfl ?_
            | refine sk_lw 1 rfl rfl rfl rfl rfl ?_
            | refine sk_lw 2 rfl rfl rfl rfl rfl ?_
            | refine sk_lw 3 rfl rfl rfl rfl rfl ?_
            | refine sk_lw 4 rfl rfl rfl rfl rfl ?_
            | refine sk_lw 5 rfl rfl rfl rfl rfl ?_
            | refine sk_lwg 0 rfl rfl rfl rfl rfl rfl rfl ?_
            | refine sk_lwg 1 rfl rfl rfl rfl rfl rfl rfl ?_
            | refine sk_lwg 2 rfl rfl rfl rfl rfl rfl rfl ?_
            | refine sk_lwg 3 rfl rfl rfl rfl rfl rfl rfl ?_
            | refine sk_lwg 4 rfl rfl rfl rfl rfl rfl rfl ?_
            | refine sk_lwg 5 rfl rfl rfl rfl rfl rfl rfl ?_
            | refine sk_eff rfl rfl ?_
            | refine sg_store_whole [] rfl rfl rfl rfl rfl ?_
            | refine sg_store_whole [_] rfl rfl rfl rfl rfl ?_
            | refine sg_store_whole [_, _] rfl rfl rfl rfl rfl ?_
            | refine sg_store_whole [_, _, _] rfl rfl rfl rfl rfl ?_
            | refine sg_store_whole [_, _, _, _] rfl rfl rfl rfl rfl ?_
            | refine sg_store_whole [_, _, _, _, _] rfl rfl rfl rfl rfl ?_
            | refine sg_store_whole [_, _, _, _, _, _] rfl rfl rfl rfl rfl ?_
            | refine sg_guard_yes rfl rfl ?_
            | refine sg_guard_nf rfl rfl rfl ?_
            | refine sg_guard_nt rfl rfl rfl ?_
            | refine sg_guard_nu rfl rfl rfl ?_
            | refine sk_back (fun w hO => hO) ?_
            | refine sg_store [] rfl rfl rfl (of_decide_eq_true rfl) ?_
            | refine sg_store [_] rfl rfl rfl (of_decide_eq_true rfl) ?_
            | refine sg_store [_, _] rfl rfl rfl (of_decide_eq_true rfl) ?_
            | refine sg_store [_, _, _] rfl rfl rfl (of_decide_eq_true rfl) ?_
            | refine sg_store [_, _, _, _] rfl rfl rfl (of_decide_eq_true rfl) ?_
            | refine sg_store [_, _, _, _, _] rfl rfl rfl (of_decide_eq_true rfl) ?_
            | refine sg_store [_, _, _, _, _, _] rfl rfl rfl (of_decide_eq_true rfl) ?_
            | refine sg_store [_, _, _, _, _, _, _] rfl rfl rfl (of_decide_eq_true rfl) ?_)
          refine sg_call (a2 _) rfl rfl (fun _ _ => ?_)
          refine sk_back (fun w hO => hO.tail) ?_
          repeat' (first
            | refine sk_nil ?_
            | refine sk_pure rfl rfl (ps_move rfl) rfl ?_
            | refine sk_pure rfl rfl (ps_assign rfl) rfl ?_
            | refine sk_pure rfl rfl (ps_nilCheck rfl) rfl ?_
            | refine sk_pure rfl rfl (ps_fieldAddr rfl) rfl ?_
            | refine sk_pure rfl rfl (ps_add64 rfl rfl (by omega)) rfl ?_
            | refine sk_pure rfl rfl (ps_sub64 rfl rfl (by omega)) rfl ?_
            | refine sk_pure rfl rfl (ps_mul64 rfl rfl (by omega)) rfl ?_
            | refine sk_pure rfl rfl (ps_bin rfl rfl inferInstance) rfl ?_
            | refine sk_pure rfl rfl (ps_rem rfl rfl (by decide)) rfl ?_
            | refine sk_pure rfl rfl (ps_not rfl) rfl ?_
            | refine sk_pure rfl rfl (ps_conv rfl) rfl ?_
            | refine sk_pure rfl rfl (ps_shl rfl rfl (by decide) rfl) rfl ?_
            | refine sk_pure rfl rfl (ps_shr rfl rfl (by decide) rfl) rfl ?_
            | refine sk_pure rfl rfl (ps_len rfl) rfl ?_
            | refine sk_pure rfl rfl (ps_len_str rfl) rfl ?_
            | refine sk_pure rfl rfl (ps_extract rfl rfl) rfl ?_
            | refine sk_pure rfl rfl (ps_field rfl rfl) rfl ?_
            | refine sk_pure rfl rfl (ps_build rfl rfl) rfl ?_
            | refine sk_pure rfl rfl (ps_indexAddr rfl rfl rfl (by omega)) rfl ?_
            | refine sk_pure rfl rfl (ps_indexAddr (j := 0) rfl rfl rfl (by omega)) rfl ?_
            | refine sk_pure rfl rfl (ps_indexAddr (j := 1) rfl rfl rfl (by omega)) rfl ?_
            | refine sk_pure rfl rfl (ps_pick_t rfl rfl) rfl ?_
            | refine sk_pure rfl rfl (ps_pick_f rfl rfl) rfl ?_
            | refine sk_pure rfl rfl (ps_min2 rfl rfl) rfl ?_
            | refine sk_pure rfl rfl (ps_max2 rfl rfl) rfl ?_
            | refine sk_pure rfl rfl (ps_indexAddr_arr rfl rfl rfl (by omega)) rfl ?_
            | refine sk_no rfl rfl rfl rfl rfl ?_
            | refine sk_pure_g rfl rfl rfl rfl (ps_move rfl) rfl ?_
            | refine sk_pure_g rfl rfl rfl rfl (ps_assign rfl) rfl ?_
            | refine sk_pure_g rfl rfl rfl rfl (ps_nilCheck rfl) rfl ?_
            | refine sk_pure_g rfl rfl rfl rfl (ps_fieldAddr rfl) rfl ?_
            | refine sk_pure_g rfl rfl rfl rfl (ps_add64 rfl rfl (by omega)) rfl ?_
            | refine sk_pure_g rfl rfl rfl rfl (ps_sub64 rfl rfl (by omega)) rfl ?_
            | refine sk_pure_g rfl rfl rfl rfl (ps_mul64 rfl rfl (by omega)) rfl ?_
            | refine sk_pure_g rfl rfl rfl rfl (ps_bin rfl rfl inferInstance) rfl ?_
            | refine sk_pure_g rfl rfl rfl rfl (ps_rem rfl rfl (by decide)) rfl ?_
            | refine sk_pure_g rfl rfl rfl rfl (ps_not rfl) rfl ?_
            | refine sk_pure_g rfl rfl rfl rfl (ps_conv rfl) rfl ?_
            | refine sk_pure_g rfl rfl rfl rfl (ps_shl rfl rfl (by decide) rfl) rfl ?_
            | refine sk_pure_g rfl rfl rfl rfl (ps_shr rfl rfl (by decide) rfl) rfl ?_
            | refine sk_pure_g rfl rfl rfl rfl (ps_len rfl) rfl ?_
            | refine sk_pure_g rfl rfl rfl rfl (ps_len_str rfl) rfl ?_
            | refine sk_pure_g rfl rfl rfl rfl (ps_extract rfl rfl) rfl ?_
            | refine sk_pure_g rfl rfl rfl rfl (ps_field rfl rfl) rfl ?_
            | refine sk_pure_g rfl rfl rfl rfl (ps_build rfl rfl) rfl ?_
            | refine sk_pure_g rfl rfl rfl rfl (ps_indexAddr rfl rfl rfl (by omega)) rfl ?_
            | refine sk_pure_g rfl rfl rfl rfl (ps_indexAddr (j := 0) rfl rfl rfl (by omega)) rfl ?_
            | refine sk_pure_g rfl rfl rfl rfl (ps_indexAddr (j := 1) rfl rfl rfl (by omega)) rfl ?_
            | refine sk_pure_g rfl rfl rfl rfl (ps_pick_t rfl rfl) rfl ?_
            | refine sk_pure_g rfl rfl rfl rfl (ps_pick_f rfl rfl) rfl ?_
            | refine sk_pure_g rfl rfl rfl rfl (ps_min2 rfl rfl) rfl ?_
            | refine sk_pure_g rfl rfl rfl rfl (ps_max2 rfl rfl) rfl ?_
            | refine sk_pure_g rfl rfl rfl rfl (ps_indexAddr_arr rfl rfl rfl (by omega)) rfl ?_
            | refine sk_load 0 rfl rfl rfl rfl rfl ?_
            | refine sk_load 1 rfl rfl rfl rfl rfl ?_
            | refine sk_load 2 rfl rfl rfl rfl rfl ?_
            | refine sk_load 3 rfl rfl rfl rfl rfl ?_
            | refine sk_load 4 rfl rfl rfl rfl rfl ?_
            | refine sk_load 5 rfl rfl rfl rfl rfl ?_
            | refine sk_load_g 0 rfl rfl rfl rfl rfl rfl rfl ?_
            | refine sk_load_g 1 rfl rfl rfl rfl rfl rfl rfl ?_
            | refine sk_load_g 2 rfl rfl rfl rfl rfl rfl rfl ?_
            | refine sk_load_g 3 rfl rfl rfl rfl rfl rfl rfl ?_
            | refine sk_load_g 4 rfl rfl rfl rfl rfl rfl rfl ?_
            | refine sk_load_g 5 rfl rfl rfl rfl rfl rfl rfl ?_
            | refine sk_lw 0 rfl rfl rfl rfl rfl ?_
            | refine sk_lw 1 rfl rfl rfl rfl rfl ?_
            | refine sk_lw 2 rfl rfl rfl rfl rfl ?_
            | refine sk_lw 3 rfl rfl rfl rfl rfl ?_
            | refine sk_lw 4 rfl rfl rfl rfl rfl ?_
            | refine sk_lw 5 rfl rfl rfl rfl rfl ?_
            | refine sk_lwg 0 rfl rfl rfl rfl rfl rfl rfl ?_
            | refine sk_lwg 1 rfl rfl rfl rfl rfl rfl rfl ?_
            | refine sk_lwg 2 rfl rfl rfl rfl rfl rfl rfl ?_
            | refine sk_lwg 3 rfl rfl rfl rfl rfl rfl rfl ?_
            | refine sk_lwg 4 rfl rfl rfl rfl rfl rfl rfl ?_
            | refine sk_lwg 5 rfl rfl rfl rfl rfl rfl rfl ?_
            | refine sk_eff rfl rfl ?_
            | refine sg_store_whole [] rfl rfl rfl rfl rfl ?_
            | refine sg_store_whole [_] rfl rfl rfl rfl rfl ?_
            | refine sg_store_whole [_, _] rfl rfl rfl rfl rfl ?_
            | refine sg_store_whole [_, _, _] rfl rfl rfl rfl rfl ?_
            | refine sg_store_whole [_, _, _, _] rfl rfl rfl rfl rfl ?_
            | refine sg_store_whole [_, _, _, _, _] rfl rfl rfl rfl rfl ?_
            | refine sg_store_whole [_, _, _, _, _, _] rfl rfl rfl rfl rfl ?_
            | refine sg_guard_yes rfl rfl ?_
            | refine sg_guard_nf rfl rfl rfl ?_
            | refine sg_guard_nt rfl rfl rfl ?_
            | refine sg_guard_nu rfl rfl rfl ?_
            | refine sk_back (fun w hO => hO) ?_
            | refine sg_store [] rfl rfl rfl (of_decide_eq_true rfl) ?_
            | refine sg_store [_] rfl rfl rfl (of_decide_eq_true rfl) ?_
            | refine sg_store [_, _] rfl rfl rfl (of_decide_eq_true rfl) ?_
            | refine sg_store [_, _, _] rfl rfl rfl (of_decide_eq_true rfl) ?_
            | refine sg_store [_, _, _, _] rfl rfl rfl (of_decide_eq_true rfl) ?_
            | refine sg_store [_, _, _, _, _] rfl rfl rfl (of_decide_eq_true rfl) ?_
            | refine sg_store [_, _, _, _, _, _] rfl rfl rfl (of_decide_eq_true rfl) ?_
            | refine sg_store [_, _, _, _, _, _, _] rfl rfl rfl (of_decide_eq_true rfl) ?_)
          refine sk_end (by kernel_rfl) ?_
          repeat' (first
            | refine sk_nil ?_
            | refine sk_pure rfl rfl (ps_move rfl) rfl ?_
            | refine sk_pure rfl rfl (ps_assign rfl) rfl ?_
            | refine sk_pure rfl rfl (ps_nilCheck rfl) rfl ?_
            | refine sk_pure rfl rfl (ps_fieldAddr rfl) rfl ?_
            | refine sk_pure rfl rfl (ps_add64 rfl rfl (by omega)) rfl ?_
            | refine sk_pure rfl rfl (ps_sub64 rfl rfl (by omega)) rfl ?_
            | refine sk_pure rfl rfl (ps_mul64 rfl rfl (by omega)) rfl ?_
            | refine sk_pure rfl rfl (ps_bin rfl rfl inferInstance) rfl ?_
            | refine sk_pure rfl rfl (ps_rem rfl rfl (by decide)) rfl ?_
            | refine sk_pure rfl rfl (ps_not rfl) rfl ?_
            | refine sk_pure rfl rfl (ps_conv rfl) rfl ?_
            | refine sk_pure rfl rfl (ps_shl rfl rfl (by decide) rfl) rfl ?_
            | refine sk_pure rfl rfl (ps_shr rfl rfl (by decide) rfl) rfl ?_
            | refine sk_pure rfl rfl (ps_len rfl) rfl ?_
            | refine sk_pure rfl rfl (ps_len_str rfl) rfl ?_
            | refine sk_pure rfl rfl (ps_extract rfl rfl) rfl ?_
            | refine sk_pure rfl rfl (ps_field rfl rfl) rfl ?_
            | refine sk_pure rfl rfl (ps_build rfl rfl) rfl ?_
            | refine sk_pure rfl rfl (ps_indexAddr rfl rfl rfl (by omega)) rfl ?_
            | refine sk_pure rfl rfl (ps_indexAddr (j := 0) rfl rfl rfl (by omega)) rfl ?_
            | refine sk_pure rfl rfl (ps_indexAddr (j := 1) rfl rfl rfl (by omega)) rfl ?_
            | refine sk_pure rfl rfl (ps_pick_t rfl rfl) rfl ?_
            | refine sk_pure rfl rfl (ps_pick_f rfl rfl) rfl ?_
            | refine sk_pure rfl rfl (ps_min2 rfl rfl) rfl ?_
            | refine sk_pure rfl rfl (ps_max2 rfl rfl) rfl ?_
            | refine sk_pure rfl rfl (ps_indexAddr_arr rfl rfl rfl (by omega)) rfl ?_
            | refine sk_no rfl rfl rfl rfl rfl ?_
            | refine sk_pure_g rfl rfl rfl rfl (ps_move rfl) rfl ?_
            | refine sk_pure_g rfl rfl rfl rfl (ps_assign rfl) rfl ?_
            | refine sk_pure_g rfl rfl rfl rfl (ps_nilCheck rfl) rfl ?_
            | refine sk_pure_g rfl rfl rfl rfl (ps_fieldAddr rfl) rfl ?_
            | refine sk_pure_g rfl rfl rfl rfl (ps_add64 rfl rfl (by omega)) rfl ?_
            | refine sk_pure_g rfl rfl rfl rfl (ps_sub64 rfl rfl (by omega)) rfl ?_
            | refine sk_pure_g rfl rfl rfl rfl (ps_mul64 rfl rfl (by omega)) rfl ?_
            | refine sk_pure_g rfl rfl rfl rfl (ps_bin rfl rfl inferInstance) rfl ?_
            | refine sk_pure_g rfl rfl rfl rfl (ps_rem rfl rfl (by decide)) rfl ?_
            | refine sk_pure_g rfl rfl rfl rfl (ps_not rfl) rfl ?_
            | refine sk_pure_g rfl rfl rfl rfl (ps_conv rfl) rfl ?_
            | refine sk_pure_g rfl rfl rfl rfl (ps_shl rfl rfl (by decide) rfl) rfl ?_
            | refine sk_pure_g rfl rfl rfl rfl (ps_shr rfl rfl (by decide) rfl) rfl ?_
            | refine sk_pure_g rfl rfl rfl rfl (ps_len rfl) rfl ?_
            | refine sk_pure_g rfl rfl rfl rfl (ps_len_str rfl) rfl ?_
            | refine sk_pure_g rfl rfl rfl rfl (ps_extract rfl rfl) rfl ?_
            | refine sk_pure_g rfl rfl rfl rfl (ps_field rfl rfl) rfl ?_
            | refine sk_pure_g rfl rfl rfl rfl (ps_build rfl rfl) rfl ?_
            | refine sk_pure_g rfl rfl rfl rfl (ps_indexAddr rfl rfl rfl (by omega)) rfl ?_
            | refine sk_pure_g rfl rfl rfl rfl (ps_indexAddr (j := 0) rfl rfl rfl (by omega)) rfl ?_
            | refine sk_pure_g rfl rfl rfl rfl (ps_indexAddr (j := 1) rfl rfl rfl (by omega)) rfl ?_
            | refine sk_pure_g rfl rfl rfl rfl (ps_pick_t rfl rfl) rfl ?_
            | refine sk_pure_g rfl rfl rfl rfl (ps_pick_f rfl rfl) rfl ?_
            | refine sk_pure_g rfl rfl rfl rfl (ps_min2 rfl rfl) rfl ?_
            | refine sk_pure_g rfl rfl rfl rfl (ps_max2 rfl rfl) rfl ?_
            | refine sk_pure_g rfl rfl rfl rfl (ps_indexAddr_arr rfl rfl rfl (by omega)) rfl ?_
            | refine sk_load 0 rfl rfl rfl rfl rfl ?_
            | refine sk_load 1 rfl rfl rfl rfl rfl ?_
            | refine sk_load 2 rfl rfl rfl rfl rfl ?_
            | refine sk_load 3 rfl rfl rfl rfl rfl ?_
            | refine sk_load 4 rfl rfl rfl rfl rfl ?_
            | refine sk_load 5 rfl rfl rfl rfl rfl ?_
            | refine sk_load_g 0 rfl rfl rfl rfl rfl rfl rfl ?_
            | refine sk_load_g 1 rfl rfl rfl rfl rfl rfl rfl ?_
            | refine sk_load_g 2 rfl rfl rfl rfl rfl rfl rfl ?_
            | refine sk_load_g 3 rfl rfl rfl rfl rfl rfl rfl ?_
            | refine sk_load_g 4 rfl rfl rfl rfl rfl rfl rfl ?_
            | refine sk_load_g 5 rfl rfl rfl rfl rfl rfl rfl ?_
            | refine sk_lw 0 rfl rfl rfl rfl rfl ?_
            | refine sk_lw 1 rfl rfl rfl rfl rfl ?_
            | refine sk_lw 2 rfl rfl rfl rfl rfl ?_
            | refine sk_lw 3 rfl rfl rfl rfl rfl ?_
            | refine sk_lw 4 rfl rfl rfl rfl rfl ?_
            | refine sk_lw 5 rfl rfl rfl rfl rfl ?_
            | refine sk_lwg 0 rfl rfl rfl rfl rfl rfl rfl ?_
            | refine sk_lwg 1 rfl rfl rfl rfl rfl rfl rfl ?_
            | refine sk_lwg 2 rfl rfl rfl rfl rfl rfl rfl ?_
            | refine sk_lwg 3 rfl rfl rfl rfl rfl rfl rfl ?_
            | refine sk_lwg 4 rfl rfl rfl rfl rfl rfl rfl ?_
            | refine sk_lwg 5 rfl rfl rfl rfl rfl rfl rfl ?_
            | refine sk_eff rfl rfl ?_
            | refine sg_store_whole [] rfl rfl rfl rfl rfl ?_
            | refine sg_store_whole [_] rfl rfl rfl rfl rfl ?_
            | refine sg_store_whole [_, _] rfl rfl rfl rfl rfl ?_
            | refine sg_store_whole [_, _, _] rfl rfl rfl rfl rfl ?_
            | refine sg_store_whole [_, _, _, _] rfl rfl rfl rfl rfl ?_
            | refine sg_store_whole [_, _, _, _, _] rfl rfl rfl rfl rfl ?_
            | refine sg_store_whole [_, _, _, _, _, _] rfl rfl rfl rfl rfl ?_
            | refine sg_guard_yes rfl rfl ?_
            | refine sg_guard_nf rfl rfl rfl ?_
            | refine sg_guard_nt rfl rfl rfl ?_
            | refine sg_guard_nu rfl rfl rfl ?_
            | refine sk_back (fun w hO => hO) ?_
            | refine sg_store [] rfl rfl rfl (of_decide_eq_true rfl) ?_
            | refine sg_store [_] rfl rfl rfl (of_decide_eq_true rfl) ?_
            | refine sg_store [_, _] rfl rfl rfl (of_decide_eq_true rfl) ?_
            | refine sg_store [_, _, _] rfl rfl rfl (of_decide_eq_true rfl) ?_
            | refine sg_store [_, _, _, _] rfl rfl rfl (of_decide_eq_true rfl) ?_
            | refine sg_store [_, _, _, _, _] rfl rfl rfl (of_decide_eq_true rfl) ?_
            | refine sg_store [_, _, _, _, _, _] rfl rfl rfl (of_decide_eq_true rfl) ?_
            | refine sg_store [_, _, _, _, _, _, _] rfl rfl rfl (of_decide_eq_true rfl) ?_)
          exact ex_mid ba trivial (.cons rfl (.cons rfl (.cons rfl (.cons rfl (.cons rfl .nil))))) (fun w hO => hO)
        · refine sg_call (a2 _) rfl rfl (fun _ _ => ?_)
          refine st_back [blk bb (MS.mk 0 3 e.key 0 [] off ((x + y) % 2 ^ 64)).cells, blk bn (MS.mk 0 3 e.key 0 [] off y).cells, blk bm (MS.mk 0 3 e.key 0 [] off x).cells, blk bx e.cells, old W] (fun w h => h) (fun w hO => hO) ?_
          refine st_done ?_
          repeat' (first
            | refine sk_nil ?_
            | refine sk_pure rfl rfl (ps_move rfl) rfl ?_
            | refine sk_pure rfl rfl (ps_assign rfl) rfl ?_
            | refine sk_pure rfl rfl (ps_nilCheck rfl) rfl ?_
            | refine sk_pure rfl rfl (ps_fieldAddr rfl) rfl ?_
            | refine sk_pure rfl rfl (ps_add64 rfl rfl (by omega)) rfl ?_
            | refine sk_pure rfl rfl (ps_sub64 rfl rfl (by omega)) rfl ?_
            | refine sk_pure rfl rfl (ps_mul64 rfl rfl (by omega)) rfl ?_
            | refine sk_pure rfl rfl (ps_bin rfl rfl inferInstance) rfl ?_
            | refine sk_pure rfl rfl (ps_rem rfl rfl (by decide)) rfl ?_
            | refine sk_pure rfl rfl (ps_not rfl) rfl ?_
            | refine sk_pure rfl rfl (ps_conv rfl) rfl ?_
            | refine sk_pure rfl rfl (ps_shl rfl rfl (by decide) rfl) rfl ?_
            | refine sk_pure rfl rfl (ps_shr rfl rfl (by decide) rfl) rfl ?_
            | refine sk_pure rfl rfl (ps_len rfl) rfl ?_
            | refine sk_pure rfl rfl (ps_len_str rfl) rfl ?_
            | refine sk_pure rfl rfl (ps_extract rfl rfl) rfl ?_
            | refine sk_pure rfl rfl (ps_field rfl rfl) rfl ?_
            | refine sk_pure rfl rfl (ps_build rfl rfl) rfl ?_
            | refine sk_pure rfl rfl (ps_indexAddr rfl rfl rfl (by omega)) rfl ?_
            | refine sk_pure rfl rfl (ps_indexAddr (j := 0) rfl rfl rfl (by omega)) rfl ?_
            | refine sk_pure rfl rfl (ps_indexAddr (j := 1) rfl rfl rfl (by omega)) rfl ?_
            | refine sk_pure rfl rfl (ps_pick_t rfl rfl) rfl ?_
            | refine sk_pure rfl rfl (ps_pick_f rfl rfl) rfl ?_
            | refine sk_pure rfl rfl (ps_min2 rfl rfl) rfl ?_
            | refine sk_pure rfl rfl (ps_max2 rfl rfl) rfl ?_
            | refine sk_pure rfl rfl (ps_indexAddr_arr rfl rfl rfl (by omega)) rfl ?_
            | refine sk_no rfl rfl rfl rfl rfl ?_
            | refine sk_pure_g rfl rfl rfl rfl (ps_move rfl) rfl ?_
            | refine sk_pure_g rfl rfl rfl rfl (ps_assign rfl) rfl ?_
            | refine sk_pure_g rfl rfl rfl rfl (ps_nilCheck rfl) rfl ?_
            | refine sk_pure_g rfl rfl rfl rfl (ps_fieldAddr rfl) rfl ?_
            | refine sk_pure_g rfl rfl rfl rfl (ps_add64 rfl rfl (by omega)) rfl ?_
            | refine sk_pure_g rfl rfl rfl rfl (ps_sub64 rfl rfl (by omega)) rfl ?_
            | refine sk_pure_g rfl rfl rfl rfl (ps_mul64 rfl rfl (by omega)) rfl ?_
            | refine sk_pure_g rfl rfl rfl rfl (ps_bin rfl rfl inferInstance) rfl ?_
            | refine sk_pure_g rfl rfl rfl rfl (ps_rem rfl rfl (by decide)) rfl ?_
            | refine sk_pure_g rfl rfl rfl rfl (ps_not rfl) rfl ?_
            | refine sk_pure_g rfl rfl rfl rfl (ps_conv rfl) rfl ?_
            | refine sk_pure_g rfl rfl rfl rfl (ps_shl rfl rfl (by decide) rfl) rfl ?_
            | refine sk_pure_g rfl rfl rfl rfl (ps_shr rfl rfl (by decide) rfl) rfl ?_
            | refine sk_pure_g rfl rfl rfl rfl (ps_len rfl) rfl ?_
            | refine sk_pure_g rfl rfl rfl rfl (ps_len_str rfl) rfl ?_
            | refine sk_pure_g rfl rfl rfl rfl (ps_extract rfl rfl) rfl ?_
            | refine sk_pure_g rfl rfl rfl rfl (ps_field rfl rfl) rfl ?_
            | refine sk_pure_g rfl rfl rfl rfl (ps_build rfl rfl) rfl ?_
            | refine sk_pure_g rfl rfl rfl rfl (ps_indexAddr rfl rfl rfl (by omega)) rfl ?_
            | refine sk_pure_g rfl rfl rfl rfl (ps_indexAddr (j := 0) rfl rfl rfl (by omega)) rfl ?_
            | refine sk_pure_g rfl rfl rfl rfl (ps_indexAddr (j := 1) rfl rfl rfl (by omega)) rfl ?_
            | refine sk_pure_g rfl rfl rfl rfl (ps_pick_t rfl rfl) rfl ?_
            | refine sk_pure_g rfl rfl rfl rfl (ps_pick_f rfl rfl) rfl ?_
            | refine sk_pure_g rfl rfl rfl rfl (ps_min2 rfl rfl) rfl ?_
            | refine sk_pure_g rfl rfl rfl rfl (ps_max2 rfl rfl) rfl ?_
            | refine sk_pure_g rfl rfl rfl rfl (ps_indexAddr_arr rfl rfl rfl (by omega)) rfl ?_
            | refine sk_load 0 rfl rfl rfl rfl rfl ?_
            | refine sk_load 1 rfl rfl rfl rfl rfl ?_
            | refine sk_load 2 rfl rfl rfl rfl rfl ?_
            | refine sk_load 3 rfl rfl rfl rfl rfl ?_
            | refine sk_load 4 rfl rfl rfl rfl rfl ?_
            | refine sk_load 5 rfl rfl rfl rfl rfl ?_
            | refine sk_load_g 0 rfl rfl rfl rfl rfl rfl rfl ?_
            | refine sk_load_g 1 rfl rfl rfl rfl rfl rfl rfl ?_
            | refine sk_load_g 2 rfl rfl rfl rfl rfl rfl rfl ?_
            | refine sk_load_g 3 rfl rfl rfl rfl rfl rfl rfl ?_
            | refine sk_load_g 4 rfl rfl rfl rfl rfl rfl rfl ?_
            | refine sk_load_g 5 rfl rfl rfl rfl rfl rfl rfl ?_
            | refine sk_lw 0 rfl rfl rfl rfl rfl ?_
            | refine sk_lw 1 rfl rfl rfl rfl rfl ?_
            | refine sk_lw 2 rfl rfl rfl rfl rfl ?_
            | refine sk_lw 3 rfl rfl rfl rfl rfl ?_
            | refine sk_lw 4 rfl rfl rfl rfl rfl ?_
            | refine sk_lw 5 rfl rfl rfl rfl rfl ?_
            | refine sk_lwg 0 rfl rfl rfl rfl rfl rfl rfl ?_
            | refine sk_lwg 1 rfl rfl rfl rfl rfl rfl rfl ?_
            | refine sk_lwg 2 rfl rfl rfl rfl rfl rfl rfl ?_
            | refine sk_lwg 3 rfl rfl rfl rfl rfl rfl rfl ?_
            | refine sk_lwg 4 rfl rfl rfl rfl rfl rfl rfl ?_
            | refine sk_lwg 5 rfl rfl rfl rfl rfl rfl rfl ?_
            | refine sk_eff rfl rfl ?_
            | refine sg_store_whole [] rfl rfl rfl rfl rfl ?_
            | refine sg_store_whole [_] rfl rfl rfl rfl rfl ?_
            | refine sg_store_whole [_, _] rfl rfl rfl rfl rfl ?_
            | refine sg_store_whole [_, _, _] rfl rfl rfl rfl rfl ?_
            | refine sg_store_whole [_, _, _, _] rfl rfl rfl rfl rfl ?_
            | refine sg_store_whole [_, _, _, _, _] rfl rfl rfl rfl rfl ?_
            | refine sg_store_whole [_, _, _, _, _, _] rfl rfl rfl rfl rfl ?_
            | refine sg_guard_yes rfl rfl ?_
            | refine sg_guard_nf rfl rfl rfl ?_
            | refine sg_guard_nt rfl rfl rfl ?_
            | refine sg_guard_nu rfl rfl rfl ?_
            | refine sk_back (fun w hO => hO) ?_
            | refine sg_store [] rfl rfl rfl (of_decide_eq_true rfl) ?_
            | refine sg_store [_] rfl rfl rfl (of_decide_eq_true rfl) ?_
            | refine sg_store [_, _] rfl rfl rfl (of_decide_eq_true rfl) ?_
            | refine sg_store [_, _, _] rfl rfl rfl (of_decide_eq_true rfl) ?_
            | refine sg_store [_, _, _, _] rfl rfl rfl (of_decide_eq_true rfl) ?_
            | refine sg_store [_, _, _, _, _] rfl rfl rfl (of_decide_eq_true rfl) ?_
            | refine sg_store [_, _, _, _, _, _] rfl rfl rfl (of_decide_eq_true rfl) ?_
            | refine sg_store [_, _, _, _, _, _, _] rfl rfl rfl (of_decide_eq_true rfl) ?_)
          refine sg_alloc rfl (fun ba => ?_)
          refine sk_back (fun w hO => hO.tail) ?_
          repeat' (first
            | refine sk_nil ?_
            | refine sk_pure rfl rfl (ps_move rfl) rfl ?_
            | refine sk_pure rfl rfl (ps_assign rfl) rfl ?_
            | refine sk_pure rfl rfl (ps_nilCheck rfl) rfl ?_
            | refine sk_pure rfl rfl (ps_fieldAddr rfl) rfl ?_
            | refine sk_pure rfl rfl (ps_add64 rfl rfl (by omega)) rfl ?_
            | refine sk_pure rfl rfl (ps_sub64 rfl rfl (by omega)) rfl ?_
            | refine sk_pure rfl rfl (ps_mul64 rfl rfl (by omega)) rfl ?_
            | refine sk_pure rfl rfl (ps_bin rfl rfl inferInstance) rfl ?_
            | refine sk_pure rfl rfl (ps_rem rfl rfl (by decide)) rfl ?_
            | refine sk_pure rfl rfl (ps_not rfl) rfl ?_
            | refine sk_pure rfl rfl (ps_conv rfl) rfl ?_
            | refine sk_pure rfl rfl (ps_shl rfl rfl (by decide) rfl) rfl ?_
            | refine sk_pure rfl rfl (ps_shr rfl rfl (by decide) rfl) rfl ?_
            | refine sk_pure rfl rfl (ps_len rfl) rfl ?_
            | refine sk_pure rfl rfl (ps_len_str rfl) rfl ?_
            | refine sk_pure rfl rfl (ps_extract rfl rfl) rfl ?_
            | refine sk_pure rfl rfl (ps_field rfl rfl) rfl ?_
            | refine sk_pure rfl rfl (ps_build rfl rfl) rfl ?_
            | refine sk_pure rfl rfl (ps_indexAddr rfl rfl rfl (by omega)) rfl ?_
            | refine sk_pure rfl rfl (ps_indexAddr (j := 0) rfl rfl rfl (by omega)) rfl ?_
            | refine sk_pure rfl rfl (ps_indexAddr (j := 1) rfl rfl rfl (by omega)) rfl ?_
            | refine sk_pure rfl rfl (ps_pick_t rfl rfl) rfl ?_
            | refine sk_pure rfl rfl (ps_pick_f rfl rfl) rfl ?_
            | refine sk_pure rfl rfl (ps_min2 rfl rfl) rfl ?_
            | refine sk_pure rfl rfl (ps_max2 rfl rfl) rfl ?_
            | refine sk_pure rfl rfl (ps_indexAddr_arr rfl rfl rfl (by omega)) rfl ?_
            | refine sk_no rfl rfl rfl rfl rfl ?_
            | refine sk_pure_g rfl rfl rfl rfl (ps_move rfl) rfl ?_
            | refine sk_pure_g rfl rfl rfl rfl (ps_assign rfl) rfl ?_
            | refine sk_pure_g rfl rfl rfl rfl (ps_nilCheck rfl) rfl ?_
            | refine sk_pure_g rfl rfl rfl rfl (ps_fieldAddr rfl) rfl ?_
            | refine sk_pure_g rfl rfl rfl rfl (ps_add64 rfl rfl (by omega)) rfl ?_
            | refine sk_pure_g rfl rfl rfl rfl (ps_sub64 rfl rfl (by omega)) rfl ?_
            | refine sk_pure_g rfl rfl rfl rfl (ps_mul64 rfl rfl (by omega)) rfl ?_
            | refine sk_pure_g rfl rfl rfl rfl (ps_bin rfl rfl inferInstance) rfl ?_
            | refine sk_pure_g rfl rfl rfl rfl (ps_rem rfl rfl (by decide)) rfl ?_
            | refine sk_pure_g rfl rfl rfl rfl (ps_not rfl) rfl ?_
            | refine sk_pure_g rfl rfl rfl rfl (ps_conv rfl) rfl ?_
            | refine sk_pure_g rfl rfl rfl rfl (ps_shl rfl rfl (by decide) rfl) rfl ?_
            | refine sk_pure_g rfl rfl rfl rfl (ps_shr rfl rfl (by decide) rfl) rfl ?_
            | refine sk_pure_g rfl rfl rfl rfl (ps_len rfl) rfl ?_
            | refine sk_pure_g rfl rfl rfl rfl (ps_len_str rfl) rfl ?_
            | refine sk_pure_g rfl rfl rfl rfl (ps_extract rfl rfl) rfl ?_
            | refine sk_pure_g rfl rfl rfl rfl (ps_field rfl rfl) rfl ?_
            | refine sk_pure_g rfl rfl rfl rfl (ps_build rfl rfl) rfl ?_
            | refine sk_pure_g rfl rfl rfl rfl (ps_indexAddr rfl rfl rfl (by omega)) rfl ?_
            | refine sk_pure_g rfl rfl rfl rfl (ps_indexAddr (j := 0) rfl rfl rfl (by omega)) rfl ?_
            | refine sk_pure_g rfl rfl rfl rfl (ps_indexAddr (j := 1) rfl rfl rfl (by omega)) rfl ?_
            | refine sk_pure_g rfl rfl rfl rfl (ps_pick_t rfl rfl) rfl ?_
            | refine sk_pure_g rfl rfl rfl rfl (ps_pick_f rfl rfl) rfl ?_
            | refine sk_pure_g rfl rfl rfl rfl (ps_min2 rfl rfl) rfl ?_
            | refine sk_pure_g rfl rfl rfl rfl (ps_max2 rfl rfl) rfl ?_
            | refine sk_pure_g rfl rfl rfl rfl (ps_indexAddr_arr rfl rfl rfl (by omega)) rfl ?_
            | refine sk_load 0 rfl rfl rfl rfl rfl ?_
            | refine sk_load 1 rfl rfl rfl rfl rfl ?_
            | refine sk_load 2 rfl rfl rfl rfl rfl ?_
            | refine sk_load 3 rfl rfl rfl rfl rfl ?_
            | refine sk_load 4 rfl rfl rfl rfl rfl ?_
            | refine sk_load 5 rfl rfl rfl rfl rfl ?_
            | refine sk_load_g 0 rfl rfl rfl rfl rfl rfl rfl ?_
            | refine sk_load_g 1 rfl rfl rfl rfl rfl rfl rfl ?_
            | refine sk_load_g 2 rfl rfl rfl rfl rfl rfl rfl ?_
            | refine sk_load_g 3 rfl rfl rfl rfl rfl rfl rfl ?_
            | refine sk_load_g 4 rfl rfl rfl rfl rfl rfl rfl ?_
            | refine sk_load_g 5 rfl rfl rfl rfl rfl rfl rfl ?_
            | refine sk_lw 0 rfl rfl rfl rfl rfl ?_
            | refine sk_lw 1 rfl rfl rfl rfl rfl ?_
            | refine sk_lw 2 rfl rfl rfl rfl rfl ?_
            | refine sk_lw 3 rfl rfl rfl rfl rfl ?_
            | refine sk_lw 4 rfl rfl rfl rfl rfl ?_
            | refine sk_lw 5 rfl rfl rfl rfl rfl ?_
            | refine sk_lwg 0 rfl rfl rfl rfl rfl rfl rfl ?_
            | refine sk_lwg 1 rfl rfl rfl rfl rfl rfl rfl ?_
            | refine sk_lwg 2 rfl rfl rfl rfl rfl rfl rfl ?_
            | refine sk_lwg 3 rfl rfl rfl rfl rfl rfl rfl ?_
            | refine sk_lwg 4 rfl rfl rfl rfl rfl rfl rfl ?_
            | refine sk_lwg 5 rfl rfl rfl rfl rfl rfl rfl ?_
            | refine sk_eff rfl rfl ?_
            | refine sg_store_whole [] rfl rfl rfl rfl rfl ?_
            | refine sg_store_whole [_] rfl rfl rfl rfl rfl ?_
            | refine sg_store_whole [_, _] rfl rfl rfl rfl rfl ?_
            | refine sg_store_whole [_, _, _] rfl rfl rfl rfl rfl ?_
            | refine sg_store_whole [_, _, _, _] rfl rfl rfl rfl rfl ?_
            | refine sg_store_whole [_, _, _, _, _] rfl rfl rfl rfl rfl ?_
            | refine sg_store_whole [_, _, _, _, _, _] rfl rfl rfl rfl rfl ?_
            | refine sg_guard_yes rfl rfl ?_
            | refine sg_guard_nf rfl rfl rfl ?_
            | refine sg_guard_nt rfl rfl rfl ?_
            | refine sg_guard_nu rfl rfl rfl ?_
            | refine sk_back (fun w hO => hO) ?_
            | refine sg_store [] rfl rfl rfl (of_decide_eq_true rfl) ?_
            | refine sg_store [_] rfl rfl rfl (of_decide_eq_true rfl) ?_
            | refine sg_store [_, _] rfl rfl rfl (of_decide_eq_true rfl) ?_
            | refine sg_store [_, _, _] rfl rfl rfl (of_decide_eq_true rfl) ?_
            | refine sg_store [_, _, _, _] rfl rfl rfl (of_decide_eq_true rfl) ?_
            | refine sg_store [_, _, _, _, _] rfl rfl rfl (of_decide_eq_true rfl) ?_
            | refine sg_store [_, _, _, _, _, _] rfl rfl rfl (of_decide_eq_true rfl) ?_
            | refine sg_store [_, _, _, _, _, _, _] rfl rfl rfl (of_decide_eq_true rfl) ?_)
          refine sk_end (by kernel_rfl) ?_
          repeat' (first
            | refine sk_nil ?_
            | refine sk_pure rfl rfl (ps_move rfl) rfl ?_
            | refine sk_pure rfl rfl (ps_assign rfl) rfl ?_
            | refine sk_pure rfl rfl (ps_nilCheck rfl) rfl ?_
            | refine sk_pure rfl rfl (ps_fieldAddr rfl) rfl ?_
            | refine sk_pure rfl rfl (ps_add64 rfl rfl (by omega)) rfl ?_
            | refine sk_pure rfl rfl (ps_sub64 rfl rfl (by omega)) rfl ?_
            | refine sk_pure rfl rfl (ps_mul64 rfl rfl (by omega)) rfl ?_
            | refine sk_pure rfl rfl (ps_bin rfl rfl inferInstance) rfl ?_
            | refine sk_pure rfl rfl (ps_rem rfl rfl (by decide)) rfl ?_
            | refine sk_pure rfl rfl (ps_not rfl) rfl ?_
            | refine sk_pure rfl rfl (ps_conv rfl) rfl ?_
            | refine sk_pure rfl rfl (ps_shl rfl rfl (by decide) rfl) rfl ?_
            | refine sk_pure rfl rfl (ps_shr rfl rfl (by decide) rfl) rfl ?_
            | refine sk_pure rfl rfl (ps_len rfl) rfl ?_
            | refine sk_pure rfl rfl (ps_len_str rfl) rfl ?_
            | refine sk_pure rfl rfl (ps_extract rfl rfl) rfl ?_
            | refine sk_pure rfl rfl (ps_field rfl rfl) rfl ?_
            | refine sk_pure rfl rfl (ps_build rfl rfl) rfl ?_
            | refine sk_pure rfl rfl (ps_indexAddr rfl rfl rfl (by omega)) rfl ?_
            | refine sk_pure rfl rfl (ps_indexAddr (j := 0) rfl rfl rfl (by omega)) rfl ?_
            | refine sk_pure rfl rfl (ps_indexAddr (j := 1) rfl rfl rfl (by omega)) rfl ?_
            | refine sk_pure rfl rfl (ps_pick_t rfl rfl) rfl ?_
            | refine sk_pure rfl rfl (ps_pick_f rfl rfl) rfl ?_
            | refine sk_pure rfl rfl (ps_min2 rfl rfl) rfl ?_
            | refine sk_pure rfl rfl (ps_max2 rfl rfl) rfl ?_
            | refine sk_pure rfl rfl (ps_indexAddr_arr rfl rfl rfl (by omega)) rfl ?_
            | refine sk_no rfl rfl rfl rfl rfl ?_
            | refine sk_pure_g rfl rfl rfl rfl (ps_move rfl) rfl ?_
            | refine sk_pure_g rfl rfl rfl rfl (ps_assign rfl) rfl ?_
            | refine sk_pure_g rfl rfl rfl rfl (ps_nilCheck rfl) rfl ?_
            | refine sk_pure_g rfl rfl rfl rfl (ps_fieldAddr rfl) rfl ?_
            | refine sk_pure_g rfl rfl rfl rfl (ps_add64 rfl rfl (by omega)) rfl ?_
            | refine sk_pure_g rfl rfl rfl rfl (ps_sub64 rfl rfl (by omega)) rfl ?_
            | refine sk_pure_g rfl rfl rfl rfl (ps_mul64 rfl rfl (by omega)) rfl ?_
            | refine sk_pure_g rfl rfl rfl rfl (ps_bin rfl rfl inferInstance) rfl ?_
            | refine sk_pure_g rfl rfl rfl rfl (ps_rem rfl rfl (by decide)) rfl ?_
            | refine sk_pure_g rfl rfl rfl rfl (ps_not rfl) rfl ?_
            | refine sk_pure_g rfl rfl rfl rfl (ps_conv rfl) rfl ?_
            | refine sk_pure_g rfl rfl rfl rfl (ps_shl rfl rfl (by decide) rfl) rfl ?_
            | refine sk_pure_g rfl rfl rfl rfl (ps_shr rfl rfl (by decide) rfl) rfl ?_
            | refine sk_pure_g rfl rfl rfl rfl (ps_len rfl) rfl ?_
            | refine sk_pure_g rfl rfl rfl rfl (ps_len_str rfl) rfl ?_
            | refine sk_pure_g rfl rfl rfl rfl (ps_extract rfl rfl) rfl ?_
            | refine sk_pure_g rfl rfl rfl rfl (ps_field rfl rfl) rfl ?_
            | refine sk_pure_g rfl rfl rfl rfl (ps_build rfl rfl) rfl ?_
            | refine sk_pure_g rfl rfl rfl rfl (ps_indexAddr rfl rfl rfl (by omega)) rfl ?_
            | refine sk_pure_g rfl rfl rfl rfl (ps_indexAddr (j := 0) rfl rfl rfl (by omega)) rfl ?_
            | refine sk_pure_g rfl rfl rfl rfl (ps_indexAddr (j := 1) rfl rfl rfl (by omega)) rfl ?_
            | refine sk_pure_g rfl rfl rfl rfl (ps_pick_t rfl rfl) rfl ?_
            | refine sk_pure_g rfl rfl rfl rfl (ps_pick_f rfl rfl) rfl ?_
            | refine sk_pure_g rfl rfl rfl rfl (ps_min2 rfl rfl) rfl ?_
            | refine sk_pure_g rfl rfl rfl rfl (ps_max2 rfl rfl) rfl ?_
            | refine sk_pure_g rfl rfl rfl rfl (ps_indexAddr_arr rfl rfl rfl (by omega)) rfl ?_
            | refine sk_load 0 rfl rfl rfl rfl rfl ?_
            | refine sk_load 1 rfl rfl rfl rfl rfl ?_
            | refine sk_load 2 rfl rfl rfl rfl rfl ?_
            | refine sk_load 3 rfl rfl rfl rfl rfl ?_
            | refine sk_load 4 rfl rfl rfl rfl rfl ?_
            | refine sk_load 5 rfl rfl rfl rfl rfl ?_
            | refine sk_load_g 0 rfl rfl rfl rfl rfl rfl rfl ?_
            | refine sk_load_g 1 rfl rfl rfl rfl rfl rfl rfl ?_
            | refine sk_load_g 2 rfl rfl rfl rfl rfl rfl rfl ?_
            | refine sk_load_g 3 rfl rfl rfl rfl rfl rfl rfl ?_
            | refine sk_load_g 4 rfl rfl rfl rfl rfl rfl rfl ?_
            | refine sk_load_g 5 rfl rfl rfl rfl rfl rfl rfl ?_
            | refine sk_lw 0 rfl rfl rfl rfl rfl ?_
            | refine sk_lw 1 rfl rfl rfl rfl rfl ?_
            | refine sk_lw 2 rfl rfl rfl rfl rfl ?_
            | refine sk_lw 3 rfl rfl rfl rfl rfl ?_
            | refine sk_lw 4 rfl rfl rfl rfl rfl ?_
            | refine sk_lw 5 rfl rfl rfl rfl rfl ?_
            | refine sk_lwg 0 rfl rfl rfl rfl rfl rfl rfl ?_
            | refine sk_lwg 1 rfl rfl rfl rfl rfl rfl rfl ?_
            | refine sk_lwg 2 rfl rfl rfl rfl rfl rfl rfl ?_
            | refine sk_lwg 3 rfl rfl rfl rfl rfl rfl rfl ?_
            | refine sk_lwg 4 rfl rfl rfl rfl rfl rfl rfl ?_
            | refine sk_lwg 5 rfl rfl rfl rfl rfl rfl rfl ?_
            | refine sk_eff rfl rfl ?_
            | refine sg_store_whole [] rfl rfl rfl rfl rfl ?_
            | refine sg_store_whole [_] rfl rfl rfl rfl rfl ?_
            | refine sg_store_whole [_, _] rfl rfl rfl rfl rfl ?_
            | refine sg_store_whole [_, _, _] rfl rfl rfl rfl rfl ?_
            | refine sg_store_whole [_, _, _, _] rfl rfl rfl rfl rfl ?_
            | refine sg_store_whole [_, _, _, _, _] rfl rfl rfl rfl rfl ?_
            | refine sg_store_whole [_, _, _, _, _, _] rfl rfl rfl rfl rfl ?_
            | refine sg_guard_yes rfl rfl ?_
            | refine sg_guard_nf rfl rfl rfl ?_
            | refine sg_guard_nt rfl rfl rfl ?_
            | refine sg_guard_nu rfl rfl rfl ?_
            | refine sk_back (fun w hO => hO) ?_
            | refine sg_store [] rfl rfl rfl (of_decide_eq_true rfl) ?_
            | refine sg_store [_] rfl rfl rfl (of_decide_eq_true rfl) ?_
            | refine sg_store [_, _] rfl rfl rfl (of_decide_eq_true rfl) ?_
            | refine sg_store [_, _, _] rfl rfl rfl (of_decide_eq_true rfl) ?_
            | refine sg_store [_, _, _, _] rfl rfl rfl (of_decide_eq_true rfl) ?_
            | refine sg_store [_, _, _, _, _] rfl rfl rfl (of_decide_eq_true rfl) ?_
            | refine sg_store [_, _, _, _, _, _] rfl rfl rfl (of_decide_eq_true rfl) ?_
            | refine sg_store [_, _, _, _, _, _, _] rfl rfl rfl (of_decide_eq_true rfl) ?_)
          exact ex_mid ba trivial (.cons rfl (.cons rfl (.cons rfl (.cons rfl (.cons rfl .nil))))) (fun w hO => hO)
    intro ba _
    repeat' (first
      | refine sg_wo ?_
      | refine sg_ps (ps_move rfl) rfl ?_
      | refine sg_ps (ps_assign rfl) rfl ?_
      | refine sg_seq ?_
      | refine sg_region ?_
      | refine sg_nil ?_
      | refine sg_then ?_
      | refine sg_ps (ps_fieldAddr rfl) rfl ?_
      | refine sg_ps (ps_nilCheck rfl) rfl ?_
      | refine sg_load 0 rfl rfl rfl rfl ?_
      | refine sg_load 1 rfl rfl rfl rfl ?_
      | refine sg_load 2 rfl rfl rfl rfl ?_
      | refine sg_load 3 rfl rfl rfl rfl ?_
      | refine sg_load 4 rfl rfl rfl rfl ?_
      | refine sg_load 5 rfl rfl rfl rfl ?_
      | refine sg_load 6 rfl rfl rfl rfl ?_
      | refine sg_load 7 rfl rfl rfl rfl ?_
      | refine sg_ps (ps_add64 rfl rfl (by omega)) rfl ?_
      | refine sg_ps (ps_sub64 rfl rfl (by omega)) rfl ?_
      | refine sg_ps (ps_mul64 rfl rfl (by omega)) rfl ?_
      | refine sg_ps (ps_bin rfl rfl inferInstance) rfl ?_
      | refine sg_ps (ps_rem rfl rfl (by decide)) rfl ?_
      | refine sg_ps (ps_quo64 rfl rfl (by decide) (by omega)) rfl ?_
      | refine sg_ps (ps_not rfl) rfl ?_
      | refine sg_ps (ps_conv rfl) rfl ?_
      | refine sg_ps (ps_shl rfl rfl (by decide) rfl) rfl ?_
      | refine sg_ps (ps_shr rfl rfl (by decide) rfl) rfl ?_
      | refine sg_cond_t rfl ?_
      | refine sg_cond_f rfl ?_
      | refine sg_guard_yes rfl rfl ?_
      | refine sg_guard_nf rfl rfl rfl ?_
      | refine sg_guard_nt rfl rfl rfl ?_
      | refine sg_guard_nu rfl rfl rfl ?_
      | refine sg_ps (ps_pick_t rfl rfl) rfl ?_
      | refine sg_ps (ps_pick_f rfl rfl) rfl ?_
      | refine sg_ps (ps_len rfl) rfl ?_
      | refine sg_ps (ps_len_str rfl) rfl ?_
      | refine sg_ps (ps_extract rfl rfl) rfl ?_
      | refine sg_ps (ps_field rfl rfl) rfl ?_
      | refine sg_ps (ps_min2 rfl rfl) rfl ?_
      | refine sg_ps (ps_max2 rfl rfl) rfl ?_
      | refine sg_ps (ps_build rfl rfl) rfl ?_
      | refine sg_box rfl rfl (fun bx => ?_)
      | refine sg_ps (ps_indexAddr rfl rfl rfl (by omega)) rfl ?_
      | refine sg_ps (ps_indexAddr (j := 0) rfl rfl rfl (by omega)) rfl ?_
      | refine sg_ps (ps_indexAddr (j := 1) rfl rfl rfl (by omega)) rfl ?_
      | refine sg_ps (ps_indexAddr_arr rfl rfl rfl (by omega)) rfl ?_
      | refine sg_load_whole 0 rfl rfl rfl rfl ?_
      | refine sg_load_whole 1 rfl rfl rfl rfl ?_
      | refine sg_load_whole 2 rfl rfl rfl rfl ?_
      | refine sg_load_whole 3 rfl rfl rfl rfl ?_
      | refine sg_load_whole 4 rfl rfl rfl rfl ?_
      | refine sg_load_whole 5 rfl rfl rfl rfl ?_
      | refine sg_load_whole 6 rfl rfl rfl rfl ?_
      | refine sg_load_whole 7 rfl rfl rfl rfl ?_
      | refine sg_store_whole [] rfl rfl rfl rfl rfl ?_
      | refine sg_store_whole [_] rfl rfl rfl rfl rfl ?_
      | refine sg_store_whole [_, _] rfl rfl rfl rfl rfl ?_
      | refine sg_store_whole [_, _, _] rfl rfl rfl rfl rfl ?_
      | refine sg_store_whole [_, _, _, _] rfl rfl rfl rfl rfl ?_
      | refine sg_store_whole [_, _, _, _, _] rfl rfl rfl rfl rfl ?_
      | refine sg_store_whole [_, _, _, _, _, _] rfl rfl rfl rfl rfl ?_
      | refine sg_alloc rfl (fun al => ?_)
      | refine sg_block ?_
      | refine sg_skip ?_
      | refine sg_ret ?_
      | refine sg_exit ?_
      | refine ex_then_ret ?_
      | refine ex_then_exit ?_
      | refine ex_block_ret ?_
      | refine ex_block_normal ?_
      | refine ex_block_hit ?_
      | refine ex_block_miss rfl ?_
      | refine sg_store [] rfl rfl rfl (of_decide_eq_true rfl) ?_
      | refine sg_store [_] rfl rfl rfl (of_decide_eq_true rfl) ?_
      | refine sg_store [_, _] rfl rfl rfl (of_decide_eq_true rfl) ?_
      | refine sg_store [_, _, _] rfl rfl rfl (of_decide_eq_true rfl) ?_
      | refine sg_store [_, _, _, _] rfl rfl rfl (of_decide_eq_true rfl) ?_
      | refine sg_store [_, _, _, _, _] rfl rfl rfl (of_decide_eq_true rfl) ?_
      | refine sg_store [_, _, _, _, _, _] rfl rfl rfl (of_decide_eq_true rfl) ?_
      | refine sg_store [_, _, _, _, _, _, _] rfl rfl rfl (of_decide_eq_true rfl) ?_
      | (refine sg_guard_dec rfl rfl (fun hg => ?_) (fun hg => ?_) <;> first | (exfalso; omega) | (exact absurd rfl hg) | skip)
      | (refine sg_guard_ndec rfl rfl (fun hg => ?_) (fun hg => ?_) <;> first | (exfalso; omega) | (exact absurd rfl hg) | skip)
      | (refine sg_cond_dec rfl (fun hg => ?_) (fun hg => ?_) <;> first | (exfalso; omega) | (exact absurd rfl hg) | skip)
      | (refine sg_cond_ndec rfl (fun hg => ?_) (fun hg => ?_) <;> first | (exfalso; omega) | (exact absurd rfl hg) | skip)
      | refine sg_cond_not rfl (fun hg => ?_) (fun hg => ?_)
      | refine sg_cond rfl (fun hg => ?_) (fun hg => ?_))
    generalize e.apply ⟨0, 3, e.key, 0, [], off, (x + y) % 2 ^ 64⟩ = Z at *
    refine sg_drawK [blk ba Z.cells, blk bb (MS.mk 0 3 e.key 0 [] off ((x + y) % 2 ^ 64)).cells, blk bn (MS.mk 0 3 e.key 0 [] off y).cells, blk bm (MS.mk 0 3 e.key 0 [] off x).cells, blk bx e.cells, old W] [1, 2, 0, 4, 3, 5, 6, 7, 9, 10, 8, 11, 12, 13, 14] (by kernel_rfl) (by kernel_rfl) (fun w hO => hO) ?_
    repeat' (first
      | refine sk_nil ?_
      | refine sk_pure rfl rfl (ps_move rfl) rfl ?_
      | refine sk_pure rfl rfl (ps_assign rfl) rfl ?_
      | refine sk_pure rfl rfl (ps_nilCheck rfl) rfl ?_
      | refine sk_pure rfl rfl (ps_fieldAddr rfl) rfl ?_
      | refine sk_pure rfl rfl (ps_add64 rfl rfl (by omega)) rfl ?_
      | refine sk_pure rfl rfl (ps_sub64 rfl rfl (by omega)) rfl ?_
      | refine sk_pure rfl rfl (ps_mul64 rfl rfl (by omega)) rfl ?_
      | refine sk_pure rfl rfl (ps_bin rfl rfl inferInstance) rfl ?_
      | refine sk_pure rfl rfl (ps_rem rfl rfl (by decide)) rfl ?_
      | refine sk_pure rfl rfl (ps_not rfl) rfl ?_
      | refine sk_pure rfl rfl (ps_conv rfl) rfl ?_
      | refine sk_pure rfl rfl (ps_shl rfl rfl (by decide) rfl) rfl ?_
      | refine sk_pure rfl rfl (ps_shr rfl rfl (by decide) rfl) rfl ?_
      | refine sk_pure rfl rfl (ps_len rfl) rfl ?_
      | refine sk_pure rfl rfl (ps_len_str rfl) rfl ?_
      | refine sk_pure rfl rfl (ps_extract rfl rfl) rfl ?_
      | refine sk_pure rfl rfl (ps_field rfl rfl) rfl ?_
      | refine sk_pure rfl rfl (ps_build rfl rfl) rfl ?_
      | refine sk_pure rfl rfl (ps_indexAddr rfl rfl rfl (by omega)) rfl ?_
      | refine sk_pure rfl rfl (ps_indexAddr (j := 0) rfl rfl rfl (by omega)) rfl ?_
      | refine sk_pure rfl rfl (ps_indexAddr (j := 1) rfl rfl rfl (by omega)) rfl ?_
      | refine sk_pure rfl rfl (ps_pick_t rfl rfl) rfl ?_
      | refine sk_pure rfl rfl (ps_pick_f rfl rfl) rfl ?_
      | refine sk_pure rfl rfl (ps_min2 rfl rfl) rfl ?_
      | refine sk_pure rfl rfl (ps_max2 rfl rfl) rfl ?_
      | refine sk_pure rfl rfl (ps_indexAddr_arr rfl rfl rfl (by omega)) rfl ?_
      | refine sk_no rfl rfl rfl rfl rfl ?_
      | refine sk_pure_g rfl rfl rfl rfl (ps_move rfl) rfl ?_
      | refine sk_pure_g rfl rfl rfl rfl (ps_assign rfl) rfl ?_
      | refine sk_pure_g rfl rfl rfl rfl (ps_nilCheck rfl) rfl ?_
      | refine sk_pure_g rfl rfl rfl rfl (ps_fieldAddr rfl) rfl ?_
      | refine sk_pure_g rfl rfl rfl rfl (ps_add64 rfl rfl (by omega)) rfl ?_
      | refine sk_pure_g rfl rfl rfl rfl (ps_sub64 rfl rfl (by omega)) rfl ?_
      | refine sk_pure_g rfl rfl rfl rfl (ps_mul64 rfl rfl (by omega)) rfl ?_
      | refine sk_pure_g rfl rfl rfl rfl (ps_bin rfl rfl inferInstance) rfl ?_
      | refine sk_pure_g rfl rfl rfl rfl (ps_rem rfl rfl (by decide)) rfl ?_
      | refine sk_pure_g rfl rfl rfl rfl (ps_not rfl) rfl ?_
      | refine sk_pure_g rfl rfl rfl rfl (ps_conv rfl) rfl ?_
      | refine sk_pure_g rfl rfl rfl rfl (ps_shl rfl rfl (by decide) rfl) rfl ?_
      | refine sk_pure_g rfl rfl rfl rfl (ps_shr rfl rfl (by decide) rfl) rfl ?_
      | refine sk_pure_g rfl rfl rfl rfl (ps_len rfl) rfl ?_
      | refine sk_pure_g rfl rfl rfl rfl (ps_len_str rfl) rfl ?_
      | refine sk_pure_g rfl rfl rfl rfl (ps_extract rfl rfl) rfl ?_
      | refine sk_pure_g rfl rfl rfl rfl (ps_field rfl rfl) rfl ?_
      | refine sk_pure_g rfl rfl rfl rfl (ps_build rfl rfl) rfl ?_
      | refine sk_pure_g rfl rfl rfl rfl (ps_indexAddr rfl rfl rfl (by omega)) rfl ?_
      | refine sk_pure_g rfl rfl rfl rfl (ps_indexAddr (j := 0) rfl rfl rfl (by omega)) rfl ?_
      | refine sk_pure_g rfl rfl rfl rfl (ps_indexAddr (j := 1) rfl rfl rfl (by omega)) rfl ?_
      | refine sk_pure_g rfl rfl rfl rfl (ps_pick_t rfl rfl) rfl ?_
      | refine sk_pure_g rfl rfl rfl rfl (ps_pick_f rfl rfl) rfl ?_
      | refine sk_pure_g rfl rfl rfl rfl (ps_min2 rfl rfl) rfl ?_
      | refine sk_pure_g rfl rfl rfl rfl (ps_max2 rfl rfl) rfl ?_
      | refine sk_pure_g rfl rfl rfl rfl (ps_indexAddr_arr rfl rfl rfl (by omega)) rfl ?_
      | refine sk_load 0 rfl rfl rfl rfl rfl ?_
      | refine sk_load 1 rfl rfl rfl rfl rfl ?_
      | refine sk_load 2 rfl rfl rfl rfl rfl ?_
      | refine sk_load 3 rfl rfl rfl rfl rfl ?_
      | refine sk_load 4 rfl rfl rfl rfl rfl ?_
      | refine sk_load 5 rfl rfl rfl rfl rfl ?_
      | refine sk_load_g 0 rfl rfl rfl rfl rfl rfl rfl ?_
      | refine sk_load_g 1 rfl rfl rfl rfl rfl rfl rfl ?_
      | refine sk_load_g 2 rfl rfl rfl rfl rfl rfl rfl ?_
      | refine sk_load_g 3 rfl rfl rfl rfl rfl rfl rfl ?_
      | refine sk_load_g 4 rfl rfl rfl rfl rfl rfl rfl ?_
      | refine sk_load_g 5 rfl rfl rfl rfl rfl rfl rfl ?_
      | refine sk_lw 0 rfl rfl rfl rfl rfl ?_
      | refine sk_lw 1 rfl rfl rfl rfl rfl ?_
      | refine sk_lw 2 rfl rfl rfl rfl rfl ?_
      | refine sk_lw 3 rfl rfl rfl rfl rfl ?_
      | refine sk_lw 4 rfl rfl rfl rfl rfl ?_
      | refine sk_lw 5 rfl rfl rfl rfl rfl ?_
      | refine sk_lwg 0 rfl rfl rfl rfl rfl rfl rfl ?_
      | refine sk_lwg 1 rfl rfl rfl rfl rfl rfl rfl ?_
      | refine sk_lwg 2 rfl rfl rfl rfl rfl rfl rfl ?_
      | refine sk_lwg 3 rfl rfl rfl rfl rfl rfl rfl ?_
      | refine sk_lwg 4 rfl rfl rfl rfl rfl rfl rfl ?_
      | refine sk_lwg 5 rfl rfl rfl rfl rfl rfl rfl ?_
      | refine sk_eff rfl rfl ?_
      | refine sg_store_whole [] rfl rfl rfl rfl rfl ?_
      | refine sg_store_whole [_] rfl rfl rfl rfl rfl ?_
      | refine sg_store_whole [_, _] rfl rfl rfl rfl rfl ?_
      | refine sg_store_whole [_, _, _] rfl rfl rfl rfl rfl ?_
      | refine sg_store_whole [_, _, _, _] rfl rfl rfl rfl rfl ?_
      | refine sg_store_whole [_, _, _, _, _] rfl rfl rfl rfl rfl ?_
      | refine sg_store_whole [_, _, _, _, _, _] rfl rfl rfl rfl rfl ?_
      | refine sg_guard_yes rfl rfl ?_
      | refine sg_guard_nf rfl rfl rfl ?_
      | refine sg_guard_nt rfl rfl rfl ?_
      | refine sg_guard_nu rfl rfl rfl ?_
      | refine sk_back (fun w hO => hO) ?_
      | refine sg_store [] rfl rfl rfl (of_decide_eq_true rfl) ?_
      | refine sg_store [_] rfl rfl rfl (of_decide_eq_true rfl) ?_
      | refine sg_store [_, _] rfl rfl rfl (of_decide_eq_true rfl) ?_
      | refine sg_store [_, _, _] rfl rfl rfl (of_decide_eq_true rfl) ?_
      | refine sg_store [_, _, _, _] rfl rfl rfl (of_decide_eq_true rfl) ?_
      | refine sg_store [_, _, _, _, _] rfl rfl rfl (of_decide_eq_true rfl) ?_
      | refine sg_store [_, _, _, _, _, _] rfl rfl rfl (of_decide_eq_true rfl) ?_
      | refine sg_store [_, _, _, _, _, _, _] rfl rfl rfl (of_decide_eq_true rfl) ?_)
    refine sg_call (b1 _) rfl rfl (fun _ _ => ?_)
    refine sk_back (fun w hO => hO) ?_
    repeat' (first
      | refine sk_nil ?_
      | refine sk_pure rfl rfl (ps_move rfl) rfl ?_
      | refine sk_pure rfl rfl (ps_assign rfl) rfl ?_
      | refine sk_pure rfl rfl (ps_nilCheck rfl) rfl ?_
      | refine sk_pure rfl rfl (ps_fieldAddr rfl) rfl ?_
      | refine sk_pure rfl rfl (ps_add64 rfl rfl (by omega)) rfl ?_
      | refine sk_pure rfl rfl (ps_sub64 rfl rfl (by omega)) rfl ?_
      | refine sk_pure rfl rfl (ps_mul64 rfl rfl (by omega)) rfl ?_
      | refine sk_pure rfl rfl (ps_bin rfl rfl inferInstance) rfl ?_
      | refine sk_pure rfl rfl (ps_rem rfl rfl (by decide)) rfl ?_
      | refine sk_pure rfl rfl (ps_not rfl) rfl ?_
      | refine sk_pure rfl rfl (ps_conv rfl) rfl ?_
      | refine sk_pure rfl rfl (ps_shl rfl rfl (by decide) rfl) rfl ?_
      | refine sk_pure rfl rfl (ps_shr rfl rfl (by decide) rfl) rfl ?_
      | refine sk_pure rfl rfl (ps_len rfl) rfl ?_
      | refine sk_pure rfl rfl (ps_len_str rfl) rfl ?_
      | refine sk_pure rfl rfl (ps_extract rfl rfl) rfl ?_
      | refine sk_pure rfl rfl (ps_field rfl rfl) rfl ?_
      | refine sk_pure rfl rfl (ps_build rfl rfl) rfl ?_
      | refine sk_pure rfl rfl (ps_indexAddr rfl rfl rfl (by omega)) rfl ?_
      | refine sk_pure rfl rfl (ps_indexAddr (j := 0) rfl rfl rfl (by omega)) rfl ?_
      | refine sk_pure rfl rfl (ps_indexAddr (j := 1) rfl rfl rfl (by omega)) rfl ?_
      | refine sk_pure rfl rfl (ps_pick_t rfl rfl) rfl ?_
      | refine sk_pure rfl rfl (ps_pick_f rfl rfl) rfl ?_
      | refine sk_pure rfl rfl (ps_min2 rfl rfl) rfl ?_
      | refine sk_pure rfl rfl (ps_max2 rfl rfl) rfl ?_
      | refine sk_pure rfl rfl (ps_indexAddr_arr rfl rfl rfl (by omega)) rfl ?_
      | refine sk_no rfl rfl rfl rfl rfl ?_
      | refine sk_pure_g rfl rfl rfl rfl (ps_move rfl) rfl ?_
      | refine sk_pure_g rfl rfl rfl rfl (ps_assign rfl) rfl ?_
      | refine sk_pure_g rfl rfl rfl rfl (ps_nilCheck rfl) rfl ?_
      | refine sk_pure_g rfl rfl rfl rfl (ps_fieldAddr rfl) rfl ?_
      | refine sk_pure_g rfl rfl rfl rfl (ps_add64 rfl rfl (by omega)) rfl ?_
      | refine sk_pure_g rfl rfl rfl rfl (ps_sub64 rfl rfl (by omega)) rfl ?_
      | refine sk_pure_g rfl rfl rfl rfl (ps_mul64 rfl rfl (by omega)) rfl ?_
      | refine sk_pure_g rfl rfl rfl rfl (ps_bin rfl rfl inferInstance) rfl ?_
      | refine sk_pure_g rfl rfl rfl rfl (ps_rem rfl rfl (by decide)) rfl ?_
      | refine sk_pure_g rfl rfl rfl rfl (ps_not rfl) rfl ?_
      | refine sk_pure_g rfl rfl rfl rfl (ps_conv rfl) rfl ?_
      | refine sk_pure_g rfl rfl rfl rfl (ps_shl rfl rfl (by decide) rfl) rfl ?_
      | refine sk_pure_g rfl rfl rfl rfl (ps_shr rfl rfl (by decide) rfl) rfl ?_
      | refine sk_pure_g rfl rfl rfl rfl (ps_len rfl) rfl ?_
      | refine sk_pure_g rfl rfl rfl rfl (ps_len_str rfl) rfl ?_
      | refine sk_pure_g rfl rfl rfl rfl (ps_extract rfl rfl) rfl ?_
      | refine sk_pure_g rfl rfl rfl rfl (ps_field rfl rfl) rfl ?_
      | refine sk_pure_g rfl rfl rfl rfl (ps_build rfl rfl) rfl ?_
      | refine sk_pure_g rfl rfl rfl rfl (ps_indexAddr rfl rfl rfl (by omega)) rfl ?_
      | refine sk_pure_g rfl rfl rfl rfl (ps_indexAddr (j := 0) rfl rfl rfl (by omega)) rfl ?_
      | refine sk_pure_g rfl rfl rfl rfl (ps_indexAddr (j := 1) rfl rfl rfl (by omega)) rfl ?_
      | refine sk_pure_g rfl rfl rfl rfl (ps_pick_t rfl rfl) rfl ?_
      | refine sk_pure_g rfl rfl rfl rfl (ps_pick_f rfl rfl) rfl ?_
      | refine sk_pure_g rfl rfl rfl rfl (ps_min2 rfl rfl) rfl ?_
      | refine sk_pure_g rfl rfl rfl rfl (ps_max2 rfl rfl) rfl ?_
      | refine sk_pure_g rfl rfl rfl rfl (ps_indexAddr_arr rfl rfl rfl (by omega)) rfl ?_
      | refine sk_load 0 rfl rfl rfl rfl rfl ?_
      | refine sk_load 1 rfl rfl rfl rfl rfl ?_
      | refine sk_load 2 rfl rfl rfl rfl rfl ?_
      | refine sk_load 3 rfl rfl rfl rfl rfl ?_
      | refine sk_load 4 rfl rfl rfl rfl rfl ?_
      | refine sk_load 5 rfl rfl rfl rfl rfl ?_
      | refine sk_load_g 0 rfl rfl rfl rfl rfl rfl rfl ?_
      | refine sk_load_g 1 rfl rfl rfl rfl rfl rfl rfl ?_
      | refine sk_load_g 2 rfl rfl rfl rfl rfl rfl rfl ?_
      | refine sk_load_g 3 rfl rfl rfl rfl rfl rfl rfl ?_
      | refine sk_load_g 4 rfl rfl rfl rfl rfl rfl rfl ?_
      | refine sk_load_g 5 rfl rfl rfl rfl rfl rfl rfl ?_
      | refine sk_lw 0 rfl rfl rfl rfl rfl ?_
      | refine sk_lw 1 rfl rfl rfl rfl rfl ?_
      | refine sk_lw 2 rfl rfl rfl rfl rfl ?_
      | refine sk_lw 3 rfl rfl rfl rfl rfl ?_
      | refine sk_lw 4 rfl rfl rfl rfl rfl ?_
      | refine sk_lw 5 rfl rfl rfl rfl rfl ?_
      | refine sk_lwg 0 rfl rfl rfl rfl rfl rfl rfl ?_
      | refine sk_lwg 1 rfl rfl rfl rfl rfl rfl rfl ?_
      | refine sk_lwg 2 rfl rfl rfl rfl rfl rfl rfl ?_
      | refine sk_lwg 3 rfl rfl rfl rfl rfl rfl rfl ?_
      | refine sk_lwg 4 rfl rfl rfl rfl rfl rfl rfl ?_
      | refine sk_lwg 5 rfl rfl rfl rfl rfl rfl rfl ?_
      | refine sk_eff rfl rfl ?_
      | refine sg_store_whole [] rfl rfl rfl rfl rfl ?_
      | refine sg_store_whole [_] rfl rfl rfl rfl rfl ?_
      | refine sg_store_whole [_, _] rfl rfl rfl rfl rfl ?_
      | refine sg_store_whole [_, _, _] rfl rfl rfl rfl rfl ?_
      | refine sg_store_whole [_, _, _, _] rfl rfl rfl rfl rfl ?_
      | refine sg_store_whole [_, _, _, _, _] rfl rfl rfl rfl rfl ?_
      | refine sg_store_whole [_, _, _, _, _, _] rfl rfl rfl rfl rfl ?_
      | refine sg_guard_yes rfl rfl ?_
      | refine sg_guard_nf rfl rfl rfl ?_
      | refine sg_guard_nt rfl rfl rfl ?_
      | refine sg_guard_nu rfl rfl rfl ?_
      | refine sk_back (fun w hO => hO) ?_
      | refine sg_store [] rfl rfl rfl (of_decide_eq_true rfl) ?_
      | refine sg_store [_] rfl rfl rfl (of_decide_eq_true rfl) ?_
      | refine sg_store [_, _] rfl rfl rfl (of_decide_eq_true rfl) ?_
      | refine sg_store [_, _, _] rfl rfl rfl (of_decide_eq_true rfl) ?_
      | refine sg_store [_, _, _, _] rfl rfl rfl (of_decide_eq_true rfl) ?_
      | refine sg_store [_, _, _, _, _] rfl rfl rfl (of_decide_eq_true rfl) ?_
      | refine sg_store [_, _, _, _, _, _] rfl rfl rfl (of_decide_eq_true rfl) ?_
      | refine sg_store [_, _, _, _, _, _, _] rfl rfl rfl (of_decide_eq_true rfl) ?_)
    refine sg_call (b2 _) rfl rfl (fun _ _ => ?_)
    refine sk_back (fun w hO => hO) ?_
    refine sk_pure rfl rfl (ps_eqE okZ okZ rfl rfl) rfl ?_
    rw [show ∀ z : EN, decide (z = z) = true from fun z => by simp]
    repeat' (first
      | refine sk_nil ?_
      | refine sk_pure rfl rfl (ps_move rfl) rfl ?_
      | refine sk_pure rfl rfl (ps_assign rfl) rfl ?_
      | refine sk_pure rfl rfl (ps_nilCheck rfl) rfl ?_
      | refine sk_pure rfl rfl (ps_fieldAddr rfl) rfl ?_
      | refine sk_pure rfl rfl (ps_add64 rfl rfl (by omega)) rfl ?_
      | refine sk_pure rfl rfl (ps_sub64 rfl rfl (by omega)) rfl ?_
      | refine sk_pure rfl rfl (ps_mul64 rfl rfl (by omega)) rfl ?_
      | refine sk_pure rfl rfl (ps_bin rfl rfl inferInstance) rfl ?_
      | refine sk_pure rfl rfl (ps_rem rfl rfl (by decide)) rfl ?_
      | refine sk_pure rfl rfl (ps_not rfl) rfl ?_
      | refine sk_pure rfl rfl (ps_conv rfl) rfl ?_
      | refine sk_pure rfl rfl (ps_shl rfl rfl (by decide) rfl) rfl ?_
      | refine sk_pure rfl rfl (ps_shr rfl rfl (by decide) rfl) rfl ?_
      | refine sk_pure rfl rfl (ps_len rfl) rfl ?_
      | refine sk_pure rfl rfl (ps_len_str rfl) rfl ?_
      | refine sk_pure rfl rfl (ps_extract rfl rfl) rfl ?_
      | refine sk_pure rfl rfl (ps_field rfl rfl) rfl ?_
      | refine sk_pure rfl rfl (ps_build rfl rfl) rfl ?_
      | refine sk_pure rfl rfl (ps_indexAddr rfl rfl rfl (by omega)) rfl ?_
      | refine sk_pure rfl rfl (ps_indexAddr (j := 0) rfl rfl rfl (by omega)) rfl ?_
      | refine sk_pure rfl rfl (ps_indexAddr (j := 1) rfl rfl rfl (by omega)) rfl ?_
      | refine sk_pure rfl rfl (ps_pick_t rfl rfl) rfl ?_
      | refine sk_pure rfl rfl (ps_pick_f rfl rfl) rfl ?_
      | refine sk_pure rfl rfl (ps_min2 rfl rfl) rfl ?_
      | refine sk_pure rfl rfl (ps_max2 rfl rfl) rfl ?_
      | refine sk_pure rfl rfl (ps_indexAddr_arr rfl rfl rfl (by omega)) rfl ?_
      | refine sk_no rfl rfl rfl rfl rfl ?_
      | refine sk_pure_g rfl rfl rfl rfl (ps_move rfl) rfl ?_
      | refine sk_pure_g rfl rfl rfl rfl (ps_assign rfl) rfl ?_
      | refine sk_pure_g rfl rfl rfl rfl (ps_nilCheck rfl) rfl ?_
      | refine sk_pure_g rfl rfl rfl rfl (ps_fieldAddr rfl) rfl ?_
      | refine sk_pure_g rfl rfl rfl rfl (ps_add64 rfl rfl (by omega)) rfl ?_
      | refine sk_pure_g rfl rfl rfl rfl (ps_sub64 rfl rfl (by omega)) rfl ?_
      | refine sk_pure_g rfl rfl rfl rfl (ps_mul64 rfl rfl (by omega)) rfl ?_
      | refine sk_pure_g rfl rfl rfl rfl (ps_bin rfl rfl inferInstance) rfl ?_
      | refine sk_pure_g rfl rfl rfl rfl (ps_rem rfl rfl (by decide)) rfl ?_
      | refine sk_pure_g rfl rfl rfl rfl (ps_not rfl) rfl ?_
      | refine sk_pure_g rfl rfl rfl rfl (ps_conv rfl) rfl ?_
      | refine sk_pure_g rfl rfl rfl rfl (ps_shl rfl rfl (by decide) rfl) rfl ?_
      | refine sk_pure_g rfl rfl rfl rfl (ps_shr rfl rfl (by decide) rfl) rfl ?_
      | refine sk_pure_g rfl rfl rfl rfl (ps_len rfl) rfl ?_
      | refine sk_pure_g rfl rfl rfl rfl (ps_len_str rfl) rfl ?_
      | refine sk_pure_g rfl rfl rfl rfl (ps_extract rfl rfl) rfl ?_
      | refine sk_pure_g rfl rfl rfl rfl (ps_field rfl rfl) rfl ?_
      | refine sk_pure_g rfl rfl rfl rfl (ps_build rfl rfl) rfl ?_
      | refine sk_pure_g rfl rfl rfl rfl (ps_indexAddr rfl rfl rfl (by omega)) rfl ?_
      | refine sk_pure_g rfl rfl rfl rfl (ps_indexAddr (j := 0) rfl rfl rfl (by omega)) rfl ?_
      | refine sk_pure_g rfl rfl rfl rfl (ps_indexAddr (j := 1) rfl rfl rfl (by omega)) rfl ?_
      | refine sk_pure_g rfl rfl rfl rfl (ps_pick_t rfl rfl) rfl ?_
      | refine sk_pure_g rfl rfl rfl rfl (ps_pick_f rfl rfl) rfl ?_
      | refine sk_pure_g rfl rfl rfl rfl (ps_min2 rfl rfl) rfl ?_
      | refine sk_pure_g rfl rfl rfl rfl (ps_max2 rfl rfl) rfl ?_
      | refine sk_pure_g rfl rfl rfl rfl (ps_indexAddr_arr rfl rfl rfl (by omega)) rfl ?_
      | refine sk_load 0 rfl rfl rfl rfl rfl ?_
      | refine sk_load 1 rfl rfl rfl rfl rfl ?_
      | refine sk_load 2 rfl rfl rfl rfl rfl ?_
      | refine sk_load 3 rfl rfl rfl rfl rfl ?_
      | refine sk_load 4 rfl rfl rfl rfl rfl ?_
      | refine sk_load 5 rfl rfl rfl rfl rfl ?_
      | refine sk_load_g 0 rfl rfl rfl rfl rfl rfl rfl ?_
      | refine sk_load_g 1 rfl rfl rfl rfl rfl rfl rfl ?_
      | refine sk_load_g 2 rfl rfl rfl rfl rfl rfl rfl ?_
      | refine sk_load_g 3 rfl rfl rfl rfl rfl rfl rfl ?_
      | refine sk_load_g 4 rfl rfl rfl rfl rfl rfl rfl ?_
      | refine sk_load_g 5 rfl rfl rfl rfl rfl rfl rfl ?_
      | refine sk_lw 0 rfl rfl rfl rfl rfl ?_
      | refine sk_lw 1 rfl rfl rfl rfl rfl ?_
      | refine sk_lw 2 rfl rfl rfl rfl rfl ?_
      | refine sk_lw 3 rfl rfl rfl rfl rfl ?_
      | refine sk_lw 4 rfl rfl rfl rfl rfl ?_
      | refine sk_lw 5 rfl rfl rfl rfl rfl ?_
      | refine sk_lwg 0 rfl rfl rfl rfl rfl rfl rfl ?_
      | refine sk_lwg 1 rfl rfl rfl rfl rfl rfl rfl ?_
      | refine sk_lwg 2 rfl rfl rfl rfl rfl rfl rfl ?_
      | refine sk_lwg 3 rfl rfl rfl rfl rfl rfl rfl ?_
      | refine sk_lwg 4 rfl rfl rfl rfl rfl rfl rfl ?_
      | refine sk_lwg 5 rfl rfl rfl rfl rfl rfl rfl ?_
      | refine sk_eff rfl rfl ?_
      | refine sg_store_whole [] rfl rfl rfl rfl rfl ?_
      | refine sg_store_whole [_] rfl rfl rfl rfl rfl ?_
      | refine sg_store_whole [_, _] rfl rfl rfl rfl rfl ?_
      | refine sg_store_whole [_, _, _] rfl rfl rfl rfl rfl ?_
      | refine sg_store_whole [_, _, _, _] rfl rfl rfl rfl rfl ?_
      | refine sg_store_whole [_, _, _, _, _] rfl rfl rfl rfl rfl ?_
      | refine sg_store_whole [_, _, _, _, _, _] rfl rfl rfl rfl rfl ?_
      | refine sg_guard_yes rfl rfl ?_
      | refine sg_guard_nf rfl rfl rfl ?_
      | refine sg_guard_nt rfl rfl rfl ?_
      | refine sg_guard_nu rfl rfl rfl ?_
      | refine sk_back (fun w hO => hO) ?_
      | refine sg_store [] rfl rfl rfl (of_decide_eq_true rfl) ?_
      | refine sg_store [_] rfl rfl rfl (of_decide_eq_true rfl) ?_
      | refine sg_store [_, _] rfl rfl rfl (of_decide_eq_true rfl) ?_
      | refine sg_store [_, _, _] rfl rfl rfl (of_decide_eq_true rfl) ?_
      | refine sg_store [_, _, _, _] rfl rfl rfl (of_decide_eq_true rfl) ?_
      | refine sg_store [_, _, _, _, _] rfl rfl rfl (of_decide_eq_true rfl) ?_
      | refine sg_store [_, _, _, _, _, _] rfl rfl rfl (of_decide_eq_true rfl) ?_
      | refine sg_store [_, _, _, _, _, _, _] rfl rfl rfl (of_decide_eq_true rfl) ?_)
    refine sg_call (c1 _) rfl rfl (fun _ _ => ?_)
    refine sk_back (fun w hO => hO) ?_
    refine sk_pure_g rfl rfl rfl rfl (ps_eqE okZ okZ rfl rfl) rfl ?_
    rw [show ∀ z : EN, decide (z = z) = true from fun z => by simp]
    repeat' (first
      | refine sk_nil ?_
      | refine sk_pure rfl rfl (ps_move rfl) rfl ?_
      | refine sk_pure rfl rfl (ps_assign rfl) rfl ?_
      | refine sk_pure rfl rfl (ps_nilCheck rfl) rfl ?_
      | refine sk_pure rfl rfl (ps_fieldAddr rfl) rfl ?_
      | refine sk_pure rfl rfl (ps_add64 rfl rfl (by omega)) rfl ?_
      | refine sk_pure rfl rfl (ps_sub64 rfl rfl (by omega)) rfl ?_
      | refine sk_pure rfl rfl (ps_mul64 rfl rfl (by omega)) rfl ?_
      | refine sk_pure rfl rfl (ps_bin rfl rfl inferInstance) rfl ?_
      | refine sk_pure rfl rfl (ps_rem rfl rfl (by decide)) rfl ?_
      | refine sk_pure rfl rfl (ps_not rfl) rfl ?_
      | refine sk_pure rfl rfl (ps_conv rfl) rfl ?_
      | refine sk_pure rfl rfl (ps_shl rfl rfl (by decide) rfl) rfl ?_
      | refine sk_pure rfl rfl (ps_shr rfl rfl (by decide) rfl) rfl ?_
      | refine sk_pure rfl rfl (ps_len rfl) rfl ?_
      | refine sk_pure rfl rfl (ps_len_str rfl) rfl ?_
      | refine sk_pure rfl rfl (ps_extract rfl rfl) rfl ?_
      | refine sk_pure rfl rfl (ps_field rfl rfl) rfl ?_
      | refine sk_pure rfl rfl (ps_build rfl rfl) rfl ?_
      | refine sk_pure rfl rfl (ps_indexAddr rfl rfl rfl (by omega)) rfl ?_
      | refine sk_pure rfl rfl (ps_indexAddr (j := 0) rfl rfl rfl (by omega)) rfl ?_
      | refine sk_pure rfl rfl (ps_indexAddr (j := 1) rfl rfl rfl (by omega)) rfl ?_
      | refine sk_pure rfl rfl (ps_pick_t rfl rfl) rfl ?_
      | refine sk_pure rfl rfl (ps_pick_f rfl rfl) rfl ?_
      | refine sk_pure rfl rfl (ps_min2 rfl rfl) rfl ?_
      | refine sk_pure rfl rfl (ps_max2 rfl rfl) rfl ?_
      | refine sk_pure rfl rfl (ps_indexAddr_arr rfl rfl rfl (by omega)) rfl ?_
      | refine sk_no rfl rfl rfl rfl rfl ?_
      | refine sk_pure_g rfl rfl rfl rfl (ps_move rfl) rfl ?_
      | refine sk_pure_g rfl rfl rfl rfl (ps_assign rfl) rfl ?_
      | refine sk_pure_g rfl rfl rfl rfl (ps_nilCheck rfl) rfl ?_
      | refine sk_pure_g rfl rfl rfl rfl (ps_fieldAddr rfl) rfl ?_
      | refine sk_pure_g rfl rfl rfl rfl (ps_add64 rfl rfl (by omega)) rfl ?_
      | refine sk_pure_g rfl rfl rfl rfl (ps_sub64 rfl rfl (by omega)) rfl ?_
      | refine sk_pure_g rfl rfl rfl rfl (ps_mul64 rfl rfl (by omega)) rfl ?_
      | refine sk_pure_g rfl rfl rfl rfl (ps_bin rfl rfl inferInstance) rfl ?_
      | refine sk_pure_g rfl rfl rfl rfl (ps_rem rfl rfl (by decide)) rfl ?_
      | refine sk_pure_g rfl rfl rfl rfl (ps_not rfl) rfl ?_
      | refine sk_pure_g rfl rfl rfl rfl (ps_conv rfl) rfl ?_
      | refine sk_pure_g rfl rfl rfl rfl (ps_shl rfl rfl (by decide) rfl) rfl ?_
      | refine sk_pure_g rfl rfl rfl rfl (ps_shr rfl rfl (by decide) rfl) rfl ?_
      | refine sk_pure_g rfl rfl rfl rfl (ps_len rfl) rfl ?_
      | refine sk_pure_g rfl rfl rfl rfl (ps_len_str rfl) rfl ?_
      | refine sk_pure_g rfl rfl rfl rfl (ps_extract rfl rfl) rfl ?_
      | refine sk_pure_g rfl rfl rfl rfl (ps_field rfl rfl) rfl ?_
      | refine sk_pure_g rfl rfl rfl rfl (ps_build rfl rfl) rfl ?_
      | refine sk_pure_g rfl rfl rfl rfl (ps_indexAddr rfl rfl rfl (by omega)) rfl ?_
      | refine sk_pure_g rfl rfl rfl rfl (ps_indexAddr (j := 0) rfl rfl rfl (by omega)) rfl ?_
      | refine sk_pure_g rfl rfl rfl rfl (ps_indexAddr (j := 1) rfl rfl rfl (by omega)) rfl ?_
      | refine sk_pure_g rfl rfl rfl rfl (ps_pick_t rfl rfl) rfl ?_
      | refine sk_pure_g rfl rfl rfl rfl (ps_pick_f rfl rfl) rfl ?_
      | refine sk_pure_g rfl rfl rfl rfl (ps_min2 rfl rfl) rfl ?_
      | refine sk_pure_g rfl rfl rfl rfl (ps_max2 rfl rfl) rfl ?_
      | refine sk_pure_g rfl rfl rfl rfl (ps_indexAddr_arr rfl rfl rfl (by omega)) rfl ?_
      | refine sk_load 0 rfl rfl rfl rfl rfl ?_
      | refine sk_load 1 rfl rfl rfl rfl rfl ?_
      | refine sk_load 2 rfl rfl rfl rfl rfl ?_
      | refine sk_load 3 rfl rfl rfl rfl rfl ?_
      | refine sk_load 4 rfl rfl rfl rfl rfl ?_
      | refine sk_load 5 rfl rfl rfl rfl rfl ?_
      | refine sk_load_g 0 rfl rfl rfl rfl rfl rfl rfl ?_
      | refine sk_load_g 1 rfl rfl rfl rfl rfl rfl rfl ?_
      | refine sk_load_g 2 rfl rfl rfl rfl rfl rfl rfl ?_
      | refine sk_load_g 3 rfl rfl rfl rfl rfl rfl rfl ?_
      | refine sk_load_g 4 rfl rfl rfl rfl rfl rfl rfl ?_
      | refine sk_load_g 5 rfl rfl rfl rfl rfl rfl rfl ?_
      | refine sk_lw 0 rfl rfl rfl rfl rfl ?_
      | refine sk_lw 1 rfl rfl rfl rfl rfl ?_
      | refine sk_lw 2 rfl rfl rfl rfl rfl ?_
      | refine sk_lw 3 rfl rfl rfl rfl rfl ?_
      | refine sk_lw 4 rfl rfl rfl rfl rfl ?_
      | refine sk_lw 5 rfl rfl rfl rfl rfl ?_
      | refine sk_lwg 0 rfl rfl rfl rfl rfl rfl rfl ?_
      | refine sk_lwg 1 rfl rfl rfl rfl rfl rfl rfl ?_
      | refine sk_lwg 2 rfl rfl rfl rfl rfl rfl rfl ?_
      | refine sk_lwg 3 rfl rfl rfl rfl rfl rfl rfl ?_
      | refine sk_lwg 4 rfl rfl rfl rfl rfl rfl rfl ?_
      | refine sk_lwg 5 rfl rfl rfl rfl rfl rfl rfl ?_
      | refine sk_eff rfl rfl ?_
      | refine sg_store_whole [] rfl rfl rfl rfl rfl ?_
      | refine sg_store_whole [_] rfl rfl rfl rfl rfl ?_
      | refine sg_store_whole [_, _] rfl rfl rfl rfl rfl ?_
      | refine sg_store_whole [_, _, _] rfl rfl rfl rfl rfl ?_
      | refine sg_store_whole [_, _, _, _] rfl rfl rfl rfl rfl ?_
      | refine sg_store_whole [_, _, _, _, _] rfl rfl rfl rfl rfl ?_
      | refine sg_store_whole [_, _, _, _, _, _] rfl rfl rfl rfl rfl ?_
      | refine sg_guard_yes rfl rfl ?_
      | refine sg_guard_nf rfl rfl rfl ?_
      | refine sg_guard_nt rfl rfl rfl ?_
      | refine sg_guard_nu rfl rfl rfl ?_
      | refine sk_back (fun w hO => hO) ?_
      | refine sg_store [] rfl rfl rfl (of_decide_eq_true rfl) ?_
      | refine sg_store [_] rfl rfl rfl (of_decide_eq_true rfl) ?_
      | refine sg_store [_, _] rfl rfl rfl (of_decide_eq_true rfl) ?_
      | refine sg_store [_, _, _] rfl rfl rfl (of_decide_eq_true rfl) ?_
      | refine sg_store [_, _, _, _] rfl rfl rfl (of_decide_eq_true rfl) ?_
      | refine sg_store [_, _, _, _, _] rfl rfl rfl (of_decide_eq_true rfl) ?_
      | refine sg_store [_, _, _, _, _, _] rfl rfl rfl (of_decide_eq_true rfl) ?_
      | refine sg_store [_, _, _, _, _, _, _] rfl rfl rfl (of_decide_eq_true rfl) ?_)
    repeat' (first
      | refine sg_wo ?_
      | refine sg_ps (ps_move rfl) rfl ?_
      | refine sg_ps (ps_assign rfl) rfl ?_
      | refine sg_seq ?_
      | refine sg_region ?_
      | refine sg_nil ?_
      | refine sg_then ?_
      | refine sg_ps (ps_fieldAddr rfl) rfl ?_
      | refine sg_ps (ps_nilCheck rfl) rfl ?_
      | refine sg_load 0 rfl rfl rfl rfl ?_
      | refine sg_load 1 rfl rfl rfl rfl ?_
      | refine sg_load 2 rfl rfl rfl rfl ?_
      | refine sg_load 3 rfl rfl rfl rfl ?_
      | refine sg_load 4 rfl rfl rfl rfl ?_
      | refine sg_load 5 rfl rfl rfl rfl ?_
      | refine sg_load 6 rfl rfl rfl rfl ?_
      | refine sg_load 7 rfl rfl rfl rfl ?_
      | refine sg_ps (ps_add64 rfl rfl (by omega)) rfl ?_
      | refine sg_ps (ps_sub64 rfl rfl (by omega)) rfl ?_
      | refine sg_ps (ps_mul64 rfl rfl (by omega)) rfl ?_
      | refine sg_ps (ps_bin rfl rfl inferInstance) rfl ?_
      | refine sg_ps (ps_rem rfl rfl (by decide)) rfl ?_
      | refine sg_ps (ps_quo64 rfl rfl (by decide) (by omega)) rfl ?_
      | refine sg_ps (ps_not rfl) rfl ?_
      | refine sg_ps (ps_conv rfl) rfl ?_
      | refine sg_ps (ps_shl rfl rfl (by decide) rfl) rfl ?_
      | refine sg_ps (ps_shr rfl rfl (by decide) rfl) rfl ?_
      | refine sg_cond_t rfl ?_
      | refine sg_cond_f rfl ?_
      | refine sg_guard_yes rfl rfl ?_
      | refine sg_guard_nf rfl rfl rfl ?_
      | refine sg_guard_nt rfl rfl rfl ?_
      | refine sg_guard_nu rfl rfl rfl ?_
      | refine sg_ps (ps_pick_t rfl rfl) rfl ?_
      | refine sg_ps (ps_pick_f rfl rfl) rfl ?_
      | refine sg_ps (ps_len rfl) rfl ?_
      | refine sg_ps (ps_len_str rfl) rfl ?_
      | refine sg_ps (ps_extract rfl rfl) rfl ?_
      | refine sg_ps (ps_field rfl rfl) rfl ?_
      | refine sg_ps (ps_min2 rfl rfl) rfl ?_
      | refine sg_ps (ps_max2 rfl rfl) rfl ?_
      | refine sg_ps (ps_build rfl rfl) rfl ?_
      | refine sg_box rfl rfl (fun bx => ?_)
      | refine sg_ps (ps_indexAddr rfl rfl rfl (by omega)) rfl ?_
      | refine sg_ps (ps_indexAddr (j := 0) rfl rfl rfl (by omega)) rfl ?_
      | refine sg_ps (ps_indexAddr (j := 1) rfl rfl rfl (by omega)) rfl ?_
      | refine sg_ps (ps_indexAddr_arr rfl rfl rfl (by omega)) rfl ?_
      | refine sg_load_whole 0 rfl rfl rfl rfl ?_
      | refine sg_load_whole 1 rfl rfl rfl rfl ?_
      | refine sg_load_whole 2 rfl rfl rfl rfl ?_
      | refine sg_load_whole 3 rfl rfl rfl rfl ?_
      | refine sg_load_whole 4 rfl rfl rfl rfl ?_
      | refine sg_load_whole 5 rfl rfl rfl rfl ?_
      | refine sg_load_whole 6 rfl rfl rfl rfl ?_
      | refine sg_load_whole 7 rfl rfl rfl rfl ?_
      | refine sg_store_whole [] rfl rfl rfl rfl rfl ?_
      | refine sg_store_whole [_] rfl rfl rfl rfl rfl ?_
      | refine sg_store_whole [_, _] rfl rfl rfl rfl rfl ?_
      | refine sg_store_whole [_, _, _] rfl rfl rfl rfl rfl ?_
      | refine sg_store_whole [_, _, _, _] rfl rfl rfl rfl rfl ?_
      | refine sg_store_whole [_, _, _, _, _] rfl rfl rfl rfl rfl ?_
      | refine sg_store_whole [_, _, _, _, _, _] rfl rfl rfl rfl rfl ?_
      | refine sg_alloc rfl (fun al => ?_)
      | refine sg_block ?_
      | refine sg_skip ?_
      | refine sg_ret ?_
      | refine sg_exit ?_
      | refine ex_then_ret ?_
      | refine ex_then_exit ?_
      | refine ex_block_ret ?_
      | refine ex_block_normal ?_
      | refine ex_block_hit ?_
      | refine ex_block_miss rfl ?_
      | refine sg_store [] rfl rfl rfl (of_decide_eq_true rfl) ?_
      | refine sg_store [_] rfl rfl rfl (of_decide_eq_true rfl) ?_
      | refine sg_store [_, _] rfl rfl rfl (of_decide_eq_true rfl) ?_
      | refine sg_store [_, _, _] rfl rfl rfl (of_decide_eq_true rfl) ?_
      | refine sg_store [_, _, _, _] rfl rfl rfl (of_decide_eq_true rfl) ?_
      | refine sg_store [_, _, _, _, _] rfl rfl rfl (of_decide_eq_true rfl) ?_
      | refine sg_store [_, _, _, _, _, _] rfl rfl rfl (of_decide_eq_true rfl) ?_
      | refine sg_store [_, _, _, _, _, _, _] rfl rfl rfl (of_decide_eq_true rfl) ?_
      | (refine sg_guard_dec rfl rfl (fun hg => ?_) (fun hg => ?_) <;> first | (exfalso; omega) | (exact absurd rfl hg) | skip)
      | (refine sg_guard_ndec rfl rfl (fun hg => ?_) (fun hg => ?_) <;> first | (exfalso; omega) | (exact absurd rfl hg) | skip)
      | (refine sg_cond_dec rfl (fun hg => ?_) (fun hg => ?_) <;> first | (exfalso; omega) | (exact absurd rfl hg) | skip)
      | (refine sg_cond_ndec rfl (fun hg => ?_) (fun hg => ?_) <;> first | (exfalso; omega) | (exact absurd rfl hg) | skip)
      | refine sg_cond_not rfl (fun hg => ?_) (fun hg => ?_)
      | refine sg_cond rfl (fun hg => ?_) (fun hg => ?_))
    exact ex_ret1 rfl rfl () rfl trivial (fun w hO => hO.pick [5] (by decide))
theorem msgGrows_opened (W : World) (vs : List Value) (h : Opens Try.prog W Try.f4.params.toList vs) :
    Tri Try.prog W 4 vs [old W] (X := Unit) (fun _ => .bool true) (fun _ => True) (fun _ => [old W]) := by
  obtain ⟨a1, c1, vs, rfl, e1, h⟩ := Opens.cons (RT.struct (tot := 6) Try.underlying26 (by kernel_rfl) (RF.cons 1 (RT.str Try.underlying9) rfl (by kernel_rfl) (RF.cons 1 (RT.bool Try.underlying4) rfl (by kernel_rfl) (RF.cons 1 (RT.str Try.underlying9) rfl (by kernel_rfl) (RF.cons 1 (RT.int .u64 Try.underlying22) rfl (by kernel_rfl) (RF.cons 1 (RT.bool Try.underlying4) rfl (by kernel_rfl) (RF.cons 1 (RT.str Try.underlying9) rfl (by kernel_rfl) (RF.nil rfl)))))))) h
  obtain ⟨a2, c2, vs, rfl, e2, h⟩ := Opens.cons (RT.int .i64 Try.underlying3) h
  obtain ⟨a3, c3, vs, rfl, e3, h⟩ := Opens.cons (RT.str Try.underlying9) h
  obtain ⟨a4, c4, vs, rfl, e4, h⟩ := Opens.cons (RT.int .u64 Try.underlying22) h
  obtain ⟨a5, c5, vs, rfl, e5, h⟩ := Opens.cons (RT.int .u64 Try.underlying22) h
  obtain rfl := Opens.nil h
  obtain ⟨e, rfl, he⟩ := entry_of e1
  obtain ⟨rfl, h2⟩ := e2
  obtain ⟨rfl, h3⟩ := e3
  obtain ⟨rfl, h4⟩ := e4
  obtain ⟨rfl, h5⟩ := e5
  have h4 := wf_u64 h4
  have h5 := wf_u64 h5
  obtain ⟨x, rfl⟩ : ∃ x : Nat, a4 = (x : Int) := ⟨a4.toNat, by omega⟩
  obtain ⟨y, rfl⟩ : ∃ y : Nat, a5 = (y : Int) := ⟨a5.toNat, by omega⟩
  exact msgGrows_tri e a2 a3 x y he h3 (wf_i64 h2).2
set_option maxRecDepth 100000 in
theorem msgGrows_lifted (os : Os) (started : os.Started) (H : Type) (enc : TypeId × Value → H) :
    ReturnsInHanded {} Try.checked os 4 .any (Rows.msgGrowsSpec.pre6 enc Try.prog Try.f4 Rows.msgGrowsRow.domain false) (Rows.msgGrowsSpec.post enc Try.prog Try.f4 false true false false) :=
  lift (tb := 4) started law_own law_laidOut (by kernel_rfl) Try.func4
    (ChangeSpec.witness6 (enc := enc) (C := Try.checked) false ⟨#[], #[.agg #[.string ByteArray.empty, .bool false, .string ByteArray.empty, .int .u64 0, .bool false, .string ByteArray.empty], .int .i64 0, .string ByteArray.empty, .int .u64 0, .int .u64 0], []⟩ 8 (by kernel_rfl) (by kernel_rfl) (by kernel_rfl) (by kernel_rfl))
    rfl rfl Try.underlying4 (by kernel_rfl) (fun ds h => by
      match ds, h with
      | [d1, d2, d3, d4, d5], _ => rfl) msgGrows_opened
theorem msgGrows_over : Rows.msgGrowsRow.holds Try.pinned (OpenSpec.ofChange Rows.msgGrowsSpec) :=
  OpenClaim.holds_of_wide 4 Try.f4 rfl rfl rfl rfl rfl rfl rfl ⟨rfl, rfl, rfl, rfl, rfl⟩ rfl rfl rfl rfl rfl (by kernel_rfl) Try.func4 (by kernel_rfl)
    (of_decide_eq_true (by kernel_rfl)) (by unfold Func.isWrapper; first | (rw [if_pos (by decide +kernel)]; kernel_rfl) | (rw [if_neg (by decide +kernel)]; exact ⟨rfl, rfl⟩))
    (fun os started H enc _ => msgGrows_lifted os started H enc)
theorem msgGrows_proved : Rows.MsgGrowsSaid := msgGrows_over
#print axioms msgGrows_proved
end Go.Proofs.Ytlafdffjkdiigaa
