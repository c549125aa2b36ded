/- The document's answer for pack: putting. -/
import Derived.Test.YtdehkdmnddflhaaPK4
namespace Go.Proofs.Ytdehkdmnddflhaa
set_option linter.unusedVariables false
set_option linter.unusedSimpArgs false
set_option linter.unusedSectionVars false
set_option linter.unnecessarySimpa false
open Go Go.Proofs
set_option maxRecDepth 20000
set_option maxHeartbeats 4000000
attribute [local irreducible] SG WC WO W1 WD WK PS Rd Tri Exit.then Exit.inBlock bodyPost calmQ Mid sadd
variable {W : World} {n : Nat} {F : Fr} {L : List HP} {G : Act → World → Prop}

theorem rPutNum_tri (o : Nat) (bs : List UInt8) (x m : Nat) (hm : m ≤ 8) (R : List HP) (hb : bs.length + m ≤ 140737488355328) :
    Tri Try.prog W 55 [dp o, .int .u64 (x : Int), i64 m] (OutRep o bs :: R) (X := Unit) (fun _ => .tuple #[]) (fun _ => True) (fun _ => OutRep o (bs ++ be m x) :: R) := by
  refine tri_enter3 Try.func55 rfl Try.ntmps55 rfl ?_
  repeat' (first
    | refine sg_wo ?_
    | refine sg_ps (ps_move rfl) rfl ?_
    | refine sg_ps (ps_assign rfl) rfl ?_
    | refine sg_seq ?_
    | refine sg_region ?_
    | refine sg_nil ?_
    | refine sg_then ?_
    | refine sg_ps (ps_fieldAddr rfl) rfl ?_
    | refine sg_ps (ps_nilCheck rfl) rfl ?_
    | refine sg_load 0 rfl rfl rfl rfl ?_
    | refine sg_load 1 rfl rfl rfl rfl ?_
    | refine sg_load 2 rfl rfl rfl rfl ?_
    | refine sg_load 3 rfl rfl rfl rfl ?_
    | refine sg_load 4 rfl rfl rfl rfl ?_
    | refine sg_load 5 rfl rfl rfl rfl ?_
    | refine sg_load 6 rfl rfl rfl rfl ?_
    | refine sg_load 7 rfl rfl rfl rfl ?_
    | refine sg_ps (ps_add64 rfl rfl (by omega)) rfl ?_
    | refine sg_ps (ps_sub64 rfl rfl (by omega)) rfl ?_
    | refine sg_ps (ps_mul64 rfl rfl (by omega)) rfl ?_
    | refine sg_ps (ps_bin rfl rfl inferInstance) rfl ?_
    | refine sg_ps (ps_rem rfl rfl (by decide)) rfl ?_
    | refine sg_ps (ps_quo64 rfl rfl (by decide) (by omega)) rfl ?_
    | refine sg_ps (ps_not rfl) rfl ?_
    | refine sg_ps (ps_conv rfl) rfl ?_
    | refine sg_ps (ps_shl rfl rfl (by decide) rfl) rfl ?_
    | refine sg_ps (ps_shr rfl rfl (by decide) rfl) rfl ?_
    | refine sg_cond_t rfl ?_
    | refine sg_cond_f rfl ?_
    | refine sg_guard_yes rfl rfl ?_
    | refine sg_guard_nf rfl rfl rfl ?_
    | refine sg_guard_nt rfl rfl rfl ?_
    | refine sg_guard_nu rfl rfl rfl ?_
    | refine sg_ps (ps_pick_t rfl rfl) rfl ?_
    | refine sg_ps (ps_pick_f rfl rfl) rfl ?_
    | refine sg_ps (ps_len rfl) rfl ?_
    | refine sg_ps (ps_len_str rfl) rfl ?_
    | refine sg_ps (ps_extract rfl rfl) rfl ?_
    | refine sg_ps (ps_field rfl rfl) rfl ?_
    | refine sg_ps (ps_min2 rfl rfl) rfl ?_
    | refine sg_ps (ps_max2 rfl rfl) rfl ?_
    | refine sg_ps (ps_build rfl rfl) rfl ?_
    | refine sg_box rfl rfl (fun bx => ?_)
    | refine sg_ps (ps_indexAddr rfl rfl rfl (by omega)) rfl ?_
    | refine sg_ps (ps_indexAddr (j := 0) rfl rfl rfl (by omega)) rfl ?_
    | refine sg_ps (ps_indexAddr (j := 1) rfl rfl rfl (by omega)) rfl ?_
    | refine sg_ps (ps_indexAddr_arr rfl rfl rfl (by omega)) rfl ?_
    | refine sg_block ?_
    | refine sg_skip ?_
    | refine sg_ret ?_
    | refine sg_exit ?_
    | refine ex_then_ret ?_
    | refine ex_then_exit ?_
    | refine ex_block_ret ?_
    | refine ex_block_normal ?_
    | refine ex_block_hit ?_
    | refine ex_block_miss rfl ?_
    | refine sg_store [] rfl rfl rfl (of_decide_eq_true rfl) ?_
    | refine sg_store [_] rfl rfl rfl (of_decide_eq_true rfl) ?_
    | refine sg_store [_, _] rfl rfl rfl (of_decide_eq_true rfl) ?_
    | refine sg_store [_, _, _] rfl rfl rfl (of_decide_eq_true rfl) ?_
    | refine sg_store [_, _, _, _] rfl rfl rfl (of_decide_eq_true rfl) ?_
    | refine sg_store [_, _, _, _, _] rfl rfl rfl (of_decide_eq_true rfl) ?_
    | refine sg_store [_, _, _, _, _, _] rfl rfl rfl (of_decide_eq_true rfl) ?_
    | refine sg_store [_, _, _, _, _, _, _] rfl rfl rfl (of_decide_eq_true rfl) ?_
    | (refine sg_guard_dec rfl rfl (fun hg => ?_) (fun hg => ?_) <;> first | (exfalso; omega) | (exact absurd rfl hg) | skip)
    | (refine sg_guard_ndec rfl rfl (fun hg => ?_) (fun hg => ?_) <;> first | (exfalso; omega) | (exact absurd rfl hg) | skip)
    | (refine sg_cond_dec rfl (fun hg => ?_) (fun hg => ?_) <;> first | (exfalso; omega) | (exact absurd rfl hg) | skip)
    | (refine sg_cond_ndec rfl (fun hg => ?_) (fun hg => ?_) <;> first | (exfalso; omega) | (exact absurd rfl hg) | skip)
    | refine sg_cond_not rfl (fun hg => ?_) (fun hg => ?_)
    | refine sg_cond rfl (fun hg => ?_) (fun hg => ?_))
  refine sg_loop (γ := Nat) (fun k => k ≤ m) (fun k => [(0, dp o), (1, .int .u64 (x : Int)), (6, i64 ((k : Int) - 1))]) (fun k => OutRep o (bs ++ be (m - k) (x / 256 ^ k)) :: R) (fun k => k) m (Nat.le_refl _)
    (.cons rfl (.cons rfl (.cons rfl .nil))) (fun w hO => by simpa [be] using hO) ?_
  intro k hk
  repeat' (first
    | refine sg_wo ?_
    | refine sg_ps (ps_move rfl) rfl ?_
    | refine sg_ps (ps_assign rfl) rfl ?_
    | refine sg_seq ?_
    | refine sg_region ?_
    | refine sg_nil ?_
    | refine sg_then ?_
    | refine sg_ps (ps_fieldAddr rfl) rfl ?_
    | refine sg_ps (ps_nilCheck rfl) rfl ?_
    | refine sg_load 0 rfl rfl rfl rfl ?_
    | refine sg_load 1 rfl rfl rfl rfl ?_
    | refine sg_load 2 rfl rfl rfl rfl ?_
    | refine sg_load 3 rfl rfl rfl rfl ?_
    | refine sg_load 4 rfl rfl rfl rfl ?_
    | refine sg_load 5 rfl rfl rfl rfl ?_
    | refine sg_load 6 rfl rfl rfl rfl ?_
    | refine sg_load 7 rfl rfl rfl rfl ?_
    | refine sg_ps (ps_add64 rfl rfl (by omega)) rfl ?_
    | refine sg_ps (ps_sub64 rfl rfl (by omega)) rfl ?_
    | refine sg_ps (ps_mul64 rfl rfl (by omega)) rfl ?_
    | refine sg_ps (ps_bin rfl rfl inferInstance) rfl ?_
    | refine sg_ps (ps_rem rfl rfl (by decide)) rfl ?_
    | refine sg_ps (ps_quo64 rfl rfl (by decide) (by omega)) rfl ?_
    | refine sg_ps (ps_not rfl) rfl ?_
    | refine sg_ps (ps_conv rfl) rfl ?_
    | refine sg_ps (ps_shl rfl rfl (by decide) rfl) rfl ?_
    | refine sg_ps (ps_shr rfl rfl (by decide) rfl) rfl ?_
    | refine sg_cond_t rfl ?_
    | refine sg_cond_f rfl ?_
    | refine sg_guard_yes rfl rfl ?_
    | refine sg_guard_nf rfl rfl rfl ?_
    | refine sg_guard_nt rfl rfl rfl ?_
    | refine sg_guard_nu rfl rfl rfl ?_
    | refine sg_ps (ps_pick_t rfl rfl) rfl ?_
    | refine sg_ps (ps_pick_f rfl rfl) rfl ?_
    | refine sg_ps (ps_len rfl) rfl ?_
    | refine sg_ps (ps_len_str rfl) rfl ?_
    | refine sg_ps (ps_extract rfl rfl) rfl ?_
    | refine sg_ps (ps_field rfl rfl) rfl ?_
    | refine sg_ps (ps_min2 rfl rfl) rfl ?_
    | refine sg_ps (ps_max2 rfl rfl) rfl ?_
    | refine sg_ps (ps_build rfl rfl) rfl ?_
    | refine sg_box rfl rfl (fun bx => ?_)
    | refine sg_ps (ps_indexAddr rfl rfl rfl (by omega)) rfl ?_
    | refine sg_ps (ps_indexAddr (j := 0) rfl rfl rfl (by omega)) rfl ?_
    | refine sg_ps (ps_indexAddr (j := 1) rfl rfl rfl (by omega)) rfl ?_
    | refine sg_ps (ps_indexAddr_arr rfl rfl rfl (by omega)) rfl ?_
    | refine sg_block ?_
    | refine sg_skip ?_
    | refine sg_ret ?_
    | refine sg_exit ?_
    | refine ex_then_ret ?_
    | refine ex_then_exit ?_
    | refine ex_block_ret ?_
    | refine ex_block_normal ?_
    | refine ex_block_hit ?_
    | refine ex_block_miss rfl ?_
    | refine sg_store [] rfl rfl rfl (of_decide_eq_true rfl) ?_
    | refine sg_store [_] rfl rfl rfl (of_decide_eq_true rfl) ?_
    | refine sg_store [_, _] rfl rfl rfl (of_decide_eq_true rfl) ?_
    | refine sg_store [_, _, _] rfl rfl rfl (of_decide_eq_true rfl) ?_
    | refine sg_store [_, _, _, _] rfl rfl rfl (of_decide_eq_true rfl) ?_
    | refine sg_store [_, _, _, _, _] rfl rfl rfl (of_decide_eq_true rfl) ?_
    | refine sg_store [_, _, _, _, _, _] rfl rfl rfl (of_decide_eq_true rfl) ?_
    | refine sg_store [_, _, _, _, _, _, _] rfl rfl rfl (of_decide_eq_true rfl) ?_
    | (refine sg_guard_dec rfl rfl (fun hg => ?_) (fun hg => ?_) <;> first | (exfalso; omega) | (exact absurd rfl hg) | skip)
    | (refine sg_guard_ndec rfl rfl (fun hg => ?_) (fun hg => ?_) <;> first | (exfalso; omega) | (exact absurd rfl hg) | skip)
    | (refine sg_cond_dec rfl (fun hg => ?_) (fun hg => ?_) <;> first | (exfalso; omega) | (exact absurd rfl hg) | skip)
    | (refine sg_cond_ndec rfl (fun hg => ?_) (fun hg => ?_) <;> first | (exfalso; omega) | (exact absurd rfl hg) | skip)
    | refine sg_cond_not rfl (fun hg => ?_) (fun hg => ?_)
    | refine sg_cond rfl (fun hg => ?_) (fun hg => ?_))
  · obtain ⟨j, rfl⟩ : ∃ j, k = j + 1 := ⟨k - 1, by omega⟩
    rw [show ((j + 1 : Nat) : Int) - 1 = (j : Int) by omega]
    refine OutRep.open fun a c => ?_
    refine sg_draw [0, 1, 2, 3, 5, 6, 7, 8, 9, 4, 10, 11, 12, 13, 14] (by kernel_rfl) (by kernel_rfl) ?_
    repeat' (first
      | refine sd_nil ?_
      | refine sd_pure rfl rfl (ps_move rfl) rfl ?_
      | refine sd_pure rfl rfl (ps_assign rfl) rfl ?_
      | refine sd_pure rfl rfl (ps_nilCheck rfl) rfl ?_
      | refine sd_pure rfl rfl (ps_fieldAddr rfl) rfl ?_
      | refine sd_pure rfl rfl (ps_add64 rfl rfl (by omega)) rfl ?_
      | refine sd_pure rfl rfl (ps_sub64 rfl rfl (by omega)) rfl ?_
      | refine sd_pure rfl rfl (ps_mul64 rfl rfl (by omega)) rfl ?_
      | refine sd_pure rfl rfl (ps_bin rfl rfl inferInstance) rfl ?_
      | refine sd_pure rfl rfl (ps_rem rfl rfl (by decide)) rfl ?_
      | refine sd_pure rfl rfl (ps_not rfl) rfl ?_
      | refine sd_pure rfl rfl (ps_conv rfl) rfl ?_
      | refine sd_pure rfl rfl (ps_shl rfl rfl (by decide) rfl) rfl ?_
      | refine sd_pure rfl rfl (ps_shr rfl rfl (by decide) rfl) rfl ?_
      | refine sd_pure rfl rfl (ps_len rfl) rfl ?_
      | refine sd_pure rfl rfl (ps_len_str rfl) rfl ?_
      | refine sd_pure rfl rfl (ps_extract rfl rfl) rfl ?_
      | refine sd_pure rfl rfl (ps_field rfl rfl) rfl ?_
      | refine sd_pure rfl rfl (ps_build rfl rfl) rfl ?_
      | refine sd_pure rfl rfl (ps_indexAddr rfl rfl rfl (by omega)) rfl ?_
      | refine sd_pure rfl rfl (ps_indexAddr (j := 0) rfl rfl rfl (by omega)) rfl ?_
      | refine sd_pure rfl rfl (ps_indexAddr (j := 1) rfl rfl rfl (by omega)) rfl ?_
      | refine sd_pure rfl rfl (ps_pick_t rfl rfl) rfl ?_
      | refine sd_pure rfl rfl (ps_pick_f rfl rfl) rfl ?_
      | refine sd_pure rfl rfl (ps_min2 rfl rfl) rfl ?_
      | refine sd_pure rfl rfl (ps_max2 rfl rfl) rfl ?_
      | refine sd_pure rfl rfl (ps_indexAddr_arr rfl rfl rfl (by omega)) rfl ?_
      | refine sd_no rfl rfl rfl rfl rfl ?_
      | refine sd_pure_g rfl rfl rfl rfl (ps_move rfl) rfl ?_
      | refine sd_pure_g rfl rfl rfl rfl (ps_assign rfl) rfl ?_
      | refine sd_pure_g rfl rfl rfl rfl (ps_nilCheck rfl) rfl ?_
      | refine sd_pure_g rfl rfl rfl rfl (ps_fieldAddr rfl) rfl ?_
      | refine sd_pure_g rfl rfl rfl rfl (ps_add64 rfl rfl (by omega)) rfl ?_
      | refine sd_pure_g rfl rfl rfl rfl (ps_sub64 rfl rfl (by omega)) rfl ?_
      | refine sd_pure_g rfl rfl rfl rfl (ps_mul64 rfl rfl (by omega)) rfl ?_
      | refine sd_pure_g rfl rfl rfl rfl (ps_bin rfl rfl inferInstance) rfl ?_
      | refine sd_pure_g rfl rfl rfl rfl (ps_rem rfl rfl (by decide)) rfl ?_
      | refine sd_pure_g rfl rfl rfl rfl (ps_not rfl) rfl ?_
      | refine sd_pure_g rfl rfl rfl rfl (ps_conv rfl) rfl ?_
      | refine sd_pure_g rfl rfl rfl rfl (ps_shl rfl rfl (by decide) rfl) rfl ?_
      | refine sd_pure_g rfl rfl rfl rfl (ps_shr rfl rfl (by decide) rfl) rfl ?_
      | refine sd_pure_g rfl rfl rfl rfl (ps_len rfl) rfl ?_
      | refine sd_pure_g rfl rfl rfl rfl (ps_len_str rfl) rfl ?_
      | refine sd_pure_g rfl rfl rfl rfl (ps_extract rfl rfl) rfl ?_
      | refine sd_pure_g rfl rfl rfl rfl (ps_field rfl rfl) rfl ?_
      | refine sd_pure_g rfl rfl rfl rfl (ps_build rfl rfl) rfl ?_
      | refine sd_pure_g rfl rfl rfl rfl (ps_indexAddr rfl rfl rfl (by omega)) rfl ?_
      | refine sd_pure_g rfl rfl rfl rfl (ps_indexAddr (j := 0) rfl rfl rfl (by omega)) rfl ?_
      | refine sd_pure_g rfl rfl rfl rfl (ps_indexAddr (j := 1) rfl rfl rfl (by omega)) rfl ?_
      | refine sd_pure_g rfl rfl rfl rfl (ps_pick_t rfl rfl) rfl ?_
      | refine sd_pure_g rfl rfl rfl rfl (ps_pick_f rfl rfl) rfl ?_
      | refine sd_pure_g rfl rfl rfl rfl (ps_min2 rfl rfl) rfl ?_
      | refine sd_pure_g rfl rfl rfl rfl (ps_max2 rfl rfl) rfl ?_
      | refine sd_pure_g rfl rfl rfl rfl (ps_indexAddr_arr rfl rfl rfl (by omega)) rfl ?_
      | refine sd_load 0 rfl rfl rfl rfl rfl ?_
      | refine sd_load 1 rfl rfl rfl rfl rfl ?_
      | refine sd_load 2 rfl rfl rfl rfl rfl ?_
      | refine sd_load 3 rfl rfl rfl rfl rfl ?_
      | refine sd_load 4 rfl rfl rfl rfl rfl ?_
      | refine sd_load 5 rfl rfl rfl rfl rfl ?_
      | refine sd_load 6 rfl rfl rfl rfl rfl ?_
      | refine sd_load 7 rfl rfl rfl rfl rfl ?_
      | refine sd_eff rfl rfl ?_
      | refine sg_guard_yes rfl rfl ?_
      | refine sg_guard_nf rfl rfl rfl ?_
      | refine sg_guard_nt rfl rfl rfl ?_
      | refine sg_guard_nu rfl rfl rfl ?_
      | refine sg_store [] rfl rfl rfl (of_decide_eq_true rfl) ?_
      | refine sg_store [_] rfl rfl rfl (of_decide_eq_true rfl) ?_
      | refine sg_store [_, _] rfl rfl rfl (of_decide_eq_true rfl) ?_
      | refine sg_store [_, _, _] rfl rfl rfl (of_decide_eq_true rfl) ?_
      | refine sg_store [_, _, _, _] rfl rfl rfl (of_decide_eq_true rfl) ?_
      | refine sg_store [_, _, _, _, _] rfl rfl rfl (of_decide_eq_true rfl) ?_
      | refine sg_store [_, _, _, _, _, _] rfl rfl rfl (of_decide_eq_true rfl) ?_
      | refine sg_store [_, _, _, _, _, _, _] rfl rfl rfl (of_decide_eq_true rfl) ?_)
    refine sd_pure rfl rfl (ps_shr (m := 8 * j) rfl rfl (by omega) (by show min (Int.toNat (8 * (j : Int))) 64 = 8 * j; omega)) rfl ?_
    repeat' (first
      | refine sd_nil ?_
      | refine sd_pure rfl rfl (ps_move rfl) rfl ?_
      | refine sd_pure rfl rfl (ps_assign rfl) rfl ?_
      | refine sd_pure rfl rfl (ps_nilCheck rfl) rfl ?_
      | refine sd_pure rfl rfl (ps_fieldAddr rfl) rfl ?_
      | refine sd_pure rfl rfl (ps_add64 rfl rfl (by omega)) rfl ?_
      | refine sd_pure rfl rfl (ps_sub64 rfl rfl (by omega)) rfl ?_
      | refine sd_pure rfl rfl (ps_mul64 rfl rfl (by omega)) rfl ?_
      | refine sd_pure rfl rfl (ps_bin rfl rfl inferInstance) rfl ?_
      | refine sd_pure rfl rfl (ps_rem rfl rfl (by decide)) rfl ?_
      | refine sd_pure rfl rfl (ps_not rfl) rfl ?_
      | refine sd_pure rfl rfl (ps_conv rfl) rfl ?_
      | refine sd_pure rfl rfl (ps_shl rfl rfl (by decide) rfl) rfl ?_
      | refine sd_pure rfl rfl (ps_shr rfl rfl (by decide) rfl) rfl ?_
      | refine sd_pure rfl rfl (ps_len rfl) rfl ?_
      | refine sd_pure rfl rfl (ps_len_str rfl) rfl ?_
      | refine sd_pure rfl rfl (ps_extract rfl rfl) rfl ?_
      | refine sd_pure rfl rfl (ps_field rfl rfl) rfl ?_
      | refine sd_pure rfl rfl (ps_build rfl rfl) rfl ?_
      | refine sd_pure rfl rfl (ps_indexAddr rfl rfl rfl (by omega)) rfl ?_
      | refine sd_pure rfl rfl (ps_indexAddr (j := 0) rfl rfl rfl (by omega)) rfl ?_
      | refine sd_pure rfl rfl (ps_indexAddr (j := 1) rfl rfl rfl (by omega)) rfl ?_
      | refine sd_pure rfl rfl (ps_pick_t rfl rfl) rfl ?_
      | refine sd_pure rfl rfl (ps_pick_f rfl rfl) rfl ?_
      | refine sd_pure rfl rfl (ps_min2 rfl rfl) rfl ?_
      | refine sd_pure rfl rfl (ps_max2 rfl rfl) rfl ?_
      | refine sd_pure rfl rfl (ps_indexAddr_arr rfl rfl rfl (by omega)) rfl ?_
      | refine sd_no rfl rfl rfl rfl rfl ?_
      | refine sd_pure_g rfl rfl rfl rfl (ps_move rfl) rfl ?_
      | refine sd_pure_g rfl rfl rfl rfl (ps_assign rfl) rfl ?_
      | refine sd_pure_g rfl rfl rfl rfl (ps_nilCheck rfl) rfl ?_
      | refine sd_pure_g rfl rfl rfl rfl (ps_fieldAddr rfl) rfl ?_
      | refine sd_pure_g rfl rfl rfl rfl (ps_add64 rfl rfl (by omega)) rfl ?_
      | refine sd_pure_g rfl rfl rfl rfl (ps_sub64 rfl rfl (by omega)) rfl ?_
      | refine sd_pure_g rfl rfl rfl rfl (ps_mul64 rfl rfl (by omega)) rfl ?_
      | refine sd_pure_g rfl rfl rfl rfl (ps_bin rfl rfl inferInstance) rfl ?_
      | refine sd_pure_g rfl rfl rfl rfl (ps_rem rfl rfl (by decide)) rfl ?_
      | refine sd_pure_g rfl rfl rfl rfl (ps_not rfl) rfl ?_
      | refine sd_pure_g rfl rfl rfl rfl (ps_conv rfl) rfl ?_
      | refine sd_pure_g rfl rfl rfl rfl (ps_shl rfl rfl (by decide) rfl) rfl ?_
      | refine sd_pure_g rfl rfl rfl rfl (ps_shr rfl rfl (by decide) rfl) rfl ?_
      | refine sd_pure_g rfl rfl rfl rfl (ps_len rfl) rfl ?_
      | refine sd_pure_g rfl rfl rfl rfl (ps_len_str rfl) rfl ?_
      | refine sd_pure_g rfl rfl rfl rfl (ps_extract rfl rfl) rfl ?_
      | refine sd_pure_g rfl rfl rfl rfl (ps_field rfl rfl) rfl ?_
      | refine sd_pure_g rfl rfl rfl rfl (ps_build rfl rfl) rfl ?_
      | refine sd_pure_g rfl rfl rfl rfl (ps_indexAddr rfl rfl rfl (by omega)) rfl ?_
      | refine sd_pure_g rfl rfl rfl rfl (ps_indexAddr (j := 0) rfl rfl rfl (by omega)) rfl ?_
      | refine sd_pure_g rfl rfl rfl rfl (ps_indexAddr (j := 1) rfl rfl rfl (by omega)) rfl ?_
      | refine sd_pure_g rfl rfl rfl rfl (ps_pick_t rfl rfl) rfl ?_
      | refine sd_pure_g rfl rfl rfl rfl (ps_pick_f rfl rfl) rfl ?_
      | refine sd_pure_g rfl rfl rfl rfl (ps_min2 rfl rfl) rfl ?_
      | refine sd_pure_g rfl rfl rfl rfl (ps_max2 rfl rfl) rfl ?_
      | refine sd_pure_g rfl rfl rfl rfl (ps_indexAddr_arr rfl rfl rfl (by omega)) rfl ?_
      | refine sd_load 0 rfl rfl rfl rfl rfl ?_
      | refine sd_load 1 rfl rfl rfl rfl rfl ?_
      | refine sd_load 2 rfl rfl rfl rfl rfl ?_
      | refine sd_load 3 rfl rfl rfl rfl rfl ?_
      | refine sd_load 4 rfl rfl rfl rfl rfl ?_
      | refine sd_load 5 rfl rfl rfl rfl rfl ?_
      | refine sd_load 6 rfl rfl rfl rfl rfl ?_
      | refine sd_load 7 rfl rfl rfl rfl rfl ?_
      | refine sd_eff rfl rfl ?_
      | refine sg_guard_yes rfl rfl ?_
      | refine sg_guard_nf rfl rfl rfl ?_
      | refine sg_guard_nt rfl rfl rfl ?_
      | refine sg_guard_nu rfl rfl rfl ?_
      | refine sg_store [] rfl rfl rfl (of_decide_eq_true rfl) ?_
      | refine sg_store [_] rfl rfl rfl (of_decide_eq_true rfl) ?_
      | refine sg_store [_, _] rfl rfl rfl (of_decide_eq_true rfl) ?_
      | refine sg_store [_, _, _] rfl rfl rfl (of_decide_eq_true rfl) ?_
      | refine sg_store [_, _, _, _] rfl rfl rfl (of_decide_eq_true rfl) ?_
      | refine sg_store [_, _, _, _, _] rfl rfl rfl (of_decide_eq_true rfl) ?_
      | refine sg_store [_, _, _, _, _, _] rfl rfl rfl (of_decide_eq_true rfl) ?_
      | refine sg_store [_, _, _, _, _, _, _] rfl rfl rfl (of_decide_eq_true rfl) ?_)
    have e : Value.int .u8 (IntKind.u8.wrap ((x : Int).fdiv (2 ^ (8 * j)))) = bv (UInt8.ofNat (x / 256 ^ j)) := by
      rw [shr_nat, conv8, Nat.pow_mul]
    rw [e]
    refine sg_buildSlice1 rfl (by simp [Value.cells]) rfl rfl rfl (fun vb => ?_)
    repeat' (first
      | refine sd_nil ?_
      | refine sd_pure rfl rfl (ps_move rfl) rfl ?_
      | refine sd_pure rfl rfl (ps_assign rfl) rfl ?_
      | refine sd_pure rfl rfl (ps_nilCheck rfl) rfl ?_
      | refine sd_pure rfl rfl (ps_fieldAddr rfl) rfl ?_
      | refine sd_pure rfl rfl (ps_add64 rfl rfl (by omega)) rfl ?_
      | refine sd_pure rfl rfl (ps_sub64 rfl rfl (by omega)) rfl ?_
      | refine sd_pure rfl rfl (ps_mul64 rfl rfl (by omega)) rfl ?_
      | refine sd_pure rfl rfl (ps_bin rfl rfl inferInstance) rfl ?_
      | refine sd_pure rfl rfl (ps_rem rfl rfl (by decide)) rfl ?_
      | refine sd_pure rfl rfl (ps_not rfl) rfl ?_
      | refine sd_pure rfl rfl (ps_conv rfl) rfl ?_
      | refine sd_pure rfl rfl (ps_shl rfl rfl (by decide) rfl) rfl ?_
      | refine sd_pure rfl rfl (ps_shr rfl rfl (by decide) rfl) rfl ?_
      | refine sd_pure rfl rfl (ps_len rfl) rfl ?_
      | refine sd_pure rfl rfl (ps_len_str rfl) rfl ?_
      | refine sd_pure rfl rfl (ps_extract rfl rfl) rfl ?_
      | refine sd_pure rfl rfl (ps_field rfl rfl) rfl ?_
      | refine sd_pure rfl rfl (ps_build rfl rfl) rfl ?_
      | refine sd_pure rfl rfl (ps_indexAddr rfl rfl rfl (by omega)) rfl ?_
      | refine sd_pure rfl rfl (ps_indexAddr (j := 0) rfl rfl rfl (by omega)) rfl ?_
      | refine sd_pure rfl rfl (ps_indexAddr (j := 1) rfl rfl rfl (by omega)) rfl ?_
      | refine sd_pure rfl rfl (ps_pick_t rfl rfl) rfl ?_
      | refine sd_pure rfl rfl (ps_pick_f rfl rfl) rfl ?_
      | refine sd_pure rfl rfl (ps_min2 rfl rfl) rfl ?_
      | refine sd_pure rfl rfl (ps_max2 rfl rfl) rfl ?_
      | refine sd_pure rfl rfl (ps_indexAddr_arr rfl rfl rfl (by omega)) rfl ?_
      | refine sd_no rfl rfl rfl rfl rfl ?_
      | refine sd_pure_g rfl rfl rfl rfl (ps_move rfl) rfl ?_
      | refine sd_pure_g rfl rfl rfl rfl (ps_assign rfl) rfl ?_
      | refine sd_pure_g rfl rfl rfl rfl (ps_nilCheck rfl) rfl ?_
      | refine sd_pure_g rfl rfl rfl rfl (ps_fieldAddr rfl) rfl ?_
      | refine sd_pure_g rfl rfl rfl rfl (ps_add64 rfl rfl (by omega)) rfl ?_
      | refine sd_pure_g rfl rfl rfl rfl (ps_sub64 rfl rfl (by omega)) rfl ?_
      | refine sd_pure_g rfl rfl rfl rfl (ps_mul64 rfl rfl (by omega)) rfl ?_
      | refine sd_pure_g rfl rfl rfl rfl (ps_bin rfl rfl inferInstance) rfl ?_
      | refine sd_pure_g rfl rfl rfl rfl (ps_rem rfl rfl (by decide)) rfl ?_
      | refine sd_pure_g rfl rfl rfl rfl (ps_not rfl) rfl ?_
      | refine sd_pure_g rfl rfl rfl rfl (ps_conv rfl) rfl ?_
      | refine sd_pure_g rfl rfl rfl rfl (ps_shl rfl rfl (by decide) rfl) rfl ?_
      | refine sd_pure_g rfl rfl rfl rfl (ps_shr rfl rfl (by decide) rfl) rfl ?_
      | refine sd_pure_g rfl rfl rfl rfl (ps_len rfl) rfl ?_
      | refine sd_pure_g rfl rfl rfl rfl (ps_len_str rfl) rfl ?_
      | refine sd_pure_g rfl rfl rfl rfl (ps_extract rfl rfl) rfl ?_
      | refine sd_pure_g rfl rfl rfl rfl (ps_field rfl rfl) rfl ?_
      | refine sd_pure_g rfl rfl rfl rfl (ps_build rfl rfl) rfl ?_
      | refine sd_pure_g rfl rfl rfl rfl (ps_indexAddr rfl rfl rfl (by omega)) rfl ?_
      | refine sd_pure_g rfl rfl rfl rfl (ps_indexAddr (j := 0) rfl rfl rfl (by omega)) rfl ?_
      | refine sd_pure_g rfl rfl rfl rfl (ps_indexAddr (j := 1) rfl rfl rfl (by omega)) rfl ?_
      | refine sd_pure_g rfl rfl rfl rfl (ps_pick_t rfl rfl) rfl ?_
      | refine sd_pure_g rfl rfl rfl rfl (ps_pick_f rfl rfl) rfl ?_
      | refine sd_pure_g rfl rfl rfl rfl (ps_min2 rfl rfl) rfl ?_
      | refine sd_pure_g rfl rfl rfl rfl (ps_max2 rfl rfl) rfl ?_
      | refine sd_pure_g rfl rfl rfl rfl (ps_indexAddr_arr rfl rfl rfl (by omega)) rfl ?_
      | refine sd_load 0 rfl rfl rfl rfl rfl ?_
      | refine sd_load 1 rfl rfl rfl rfl rfl ?_
      | refine sd_load 2 rfl rfl rfl rfl rfl ?_
      | refine sd_load 3 rfl rfl rfl rfl rfl ?_
      | refine sd_load 4 rfl rfl rfl rfl rfl ?_
      | refine sd_load 5 rfl rfl rfl rfl rfl ?_
      | refine sd_load 6 rfl rfl rfl rfl rfl ?_
      | refine sd_load 7 rfl rfl rfl rfl rfl ?_
      | refine sd_eff rfl rfl ?_
      | refine sg_guard_yes rfl rfl ?_
      | refine sg_guard_nf rfl rfl rfl ?_
      | refine sg_guard_nt rfl rfl rfl ?_
      | refine sg_guard_nu rfl rfl rfl ?_
      | refine sg_store [] rfl rfl rfl (of_decide_eq_true rfl) ?_
      | refine sg_store [_] rfl rfl rfl (of_decide_eq_true rfl) ?_
      | refine sg_store [_, _] rfl rfl rfl (of_decide_eq_true rfl) ?_
      | refine sg_store [_, _, _] rfl rfl rfl (of_decide_eq_true rfl) ?_
      | refine sg_store [_, _, _, _] rfl rfl rfl (of_decide_eq_true rfl) ?_
      | refine sg_store [_, _, _, _, _] rfl rfl rfl (of_decide_eq_true rfl) ?_
      | refine sg_store [_, _, _, _, _, _] rfl rfl rfl (of_decide_eq_true rfl) ?_
      | refine sg_store [_, _, _, _, _, _, _] rfl rfl rfl (of_decide_eq_true rfl) ?_)
    refine sg_front2 ?_
    have hr : Rd W (sown a (bs ++ be (m - (j + 1)) (x / 256 ^ (j + 1))).length c 1 ((bs ++ be (m - (j + 1)) (x / 256 ^ (j + 1))).map bv) :: blk vb [bv (UInt8.ofNat (x / 256 ^ j))] :: blk o [.slice a (bs ++ be (m - (j + 1)) (x / 256 ^ (j + 1))).length c] :: R) (some ⟨vb, 0, none⟩) [bv (UInt8.ofNat (x / 256 ^ j))] := rd_blk_one 1 rfl rfl
    refine sg_append (news := [bv (UInt8.ofNat (x / 256 ^ j))]) rfl rfl rfl rfl (by intro u hu; simp at hu; subst hu; rfl) hr (by simp only [maxLen, List.length_append, be_length]; omega) (by simp only [List.length_append, be_length]; omega) (fun a' c' => ?_)
    repeat' (first
      | refine sd_nil ?_
      | refine sd_pure rfl rfl (ps_move rfl) rfl ?_
      | refine sd_pure rfl rfl (ps_assign rfl) rfl ?_
      | refine sd_pure rfl rfl (ps_nilCheck rfl) rfl ?_
      | refine sd_pure rfl rfl (ps_fieldAddr rfl) rfl ?_
      | refine sd_pure rfl rfl (ps_add64 rfl rfl (by omega)) rfl ?_
      | refine sd_pure rfl rfl (ps_sub64 rfl rfl (by omega)) rfl ?_
      | refine sd_pure rfl rfl (ps_mul64 rfl rfl (by omega)) rfl ?_
      | refine sd_pure rfl rfl (ps_bin rfl rfl inferInstance) rfl ?_
      | refine sd_pure rfl rfl (ps_rem rfl rfl (by decide)) rfl ?_
      | refine sd_pure rfl rfl (ps_not rfl) rfl ?_
      | refine sd_pure rfl rfl (ps_conv rfl) rfl ?_
      | refine sd_pure rfl rfl (ps_shl rfl rfl (by decide) rfl) rfl ?_
      | refine sd_pure rfl rfl (ps_shr rfl rfl (by decide) rfl) rfl ?_
      | refine sd_pure rfl rfl (ps_len rfl) rfl ?_
      | refine sd_pure rfl rfl (ps_len_str rfl) rfl ?_
      | refine sd_pure rfl rfl (ps_extract rfl rfl) rfl ?_
      | refine sd_pure rfl rfl (ps_field rfl rfl) rfl ?_
      | refine sd_pure rfl rfl (ps_build rfl rfl) rfl ?_
      | refine sd_pure rfl rfl (ps_indexAddr rfl rfl rfl (by omega)) rfl ?_
      | refine sd_pure rfl rfl (ps_indexAddr (j := 0) rfl rfl rfl (by omega)) rfl ?_
      | refine sd_pure rfl rfl (ps_indexAddr (j := 1) rfl rfl rfl (by omega)) rfl ?_
      | refine sd_pure rfl rfl (ps_pick_t rfl rfl) rfl ?_
      | refine sd_pure rfl rfl (ps_pick_f rfl rfl) rfl ?_
      | refine sd_pure rfl rfl (ps_min2 rfl rfl) rfl ?_
      | refine sd_pure rfl rfl (ps_max2 rfl rfl) rfl ?_
      | refine sd_pure rfl rfl (ps_indexAddr_arr rfl rfl rfl (by omega)) rfl ?_
      | refine sd_no rfl rfl rfl rfl rfl ?_
      | refine sd_pure_g rfl rfl rfl rfl (ps_move rfl) rfl ?_
      | refine sd_pure_g rfl rfl rfl rfl (ps_assign rfl) rfl ?_
      | refine sd_pure_g rfl rfl rfl rfl (ps_nilCheck rfl) rfl ?_
      | refine sd_pure_g rfl rfl rfl rfl (ps_fieldAddr rfl) rfl ?_
      | refine sd_pure_g rfl rfl rfl rfl (ps_add64 rfl rfl (by omega)) rfl ?_
      | refine sd_pure_g rfl rfl rfl rfl (ps_sub64 rfl rfl (by omega)) rfl ?_
      | refine sd_pure_g rfl rfl rfl rfl (ps_mul64 rfl rfl (by omega)) rfl ?_
      | refine sd_pure_g rfl rfl rfl rfl (ps_bin rfl rfl inferInstance) rfl ?_
      | refine sd_pure_g rfl rfl rfl rfl (ps_rem rfl rfl (by decide)) rfl ?_
      | refine sd_pure_g rfl rfl rfl rfl (ps_not rfl) rfl ?_
      | refine sd_pure_g rfl rfl rfl rfl (ps_conv rfl) rfl ?_
      | refine sd_pure_g rfl rfl rfl rfl (ps_shl rfl rfl (by decide) rfl) rfl ?_
      | refine sd_pure_g rfl rfl rfl rfl (ps_shr rfl rfl (by decide) rfl) rfl ?_
      | refine sd_pure_g rfl rfl rfl rfl (ps_len rfl) rfl ?_
      | refine sd_pure_g rfl rfl rfl rfl (ps_len_str rfl) rfl ?_
      | refine sd_pure_g rfl rfl rfl rfl (ps_extract rfl rfl) rfl ?_
      | refine sd_pure_g rfl rfl rfl rfl (ps_field rfl rfl) rfl ?_
      | refine sd_pure_g rfl rfl rfl rfl (ps_build rfl rfl) rfl ?_
      | refine sd_pure_g rfl rfl rfl rfl (ps_indexAddr rfl rfl rfl (by omega)) rfl ?_
      | refine sd_pure_g rfl rfl rfl rfl (ps_indexAddr (j := 0) rfl rfl rfl (by omega)) rfl ?_
      | refine sd_pure_g rfl rfl rfl rfl (ps_indexAddr (j := 1) rfl rfl rfl (by omega)) rfl ?_
      | refine sd_pure_g rfl rfl rfl rfl (ps_pick_t rfl rfl) rfl ?_
      | refine sd_pure_g rfl rfl rfl rfl (ps_pick_f rfl rfl) rfl ?_
      | refine sd_pure_g rfl rfl rfl rfl (ps_min2 rfl rfl) rfl ?_
      | refine sd_pure_g rfl rfl rfl rfl (ps_max2 rfl rfl) rfl ?_
      | refine sd_pure_g rfl rfl rfl rfl (ps_indexAddr_arr rfl rfl rfl (by omega)) rfl ?_
      | refine sd_load 0 rfl rfl rfl rfl rfl ?_
      | refine sd_load 1 rfl rfl rfl rfl rfl ?_
      | refine sd_load 2 rfl rfl rfl rfl rfl ?_
      | refine sd_load 3 rfl rfl rfl rfl rfl ?_
      | refine sd_load 4 rfl rfl rfl rfl rfl ?_
      | refine sd_load 5 rfl rfl rfl rfl rfl ?_
      | refine sd_load 6 rfl rfl rfl rfl rfl ?_
      | refine sd_load 7 rfl rfl rfl rfl rfl ?_
      | refine sd_eff rfl rfl ?_
      | refine sg_guard_yes rfl rfl ?_
      | refine sg_guard_nf rfl rfl rfl ?_
      | refine sg_guard_nt rfl rfl rfl ?_
      | refine sg_guard_nu rfl rfl rfl ?_
      | refine sg_store [] rfl rfl rfl (of_decide_eq_true rfl) ?_
      | refine sg_store [_] rfl rfl rfl (of_decide_eq_true rfl) ?_
      | refine sg_store [_, _] rfl rfl rfl (of_decide_eq_true rfl) ?_
      | refine sg_store [_, _, _] rfl rfl rfl (of_decide_eq_true rfl) ?_
      | refine sg_store [_, _, _, _] rfl rfl rfl (of_decide_eq_true rfl) ?_
      | refine sg_store [_, _, _, _, _] rfl rfl rfl (of_decide_eq_true rfl) ?_
      | refine sg_store [_, _, _, _, _, _] rfl rfl rfl (of_decide_eq_true rfl) ?_
      | refine sg_store [_, _, _, _, _, _, _] rfl rfl rfl (of_decide_eq_true rfl) ?_)
    repeat' (first
      | refine sg_wo ?_
      | refine sg_ps (ps_move rfl) rfl ?_
      | refine sg_ps (ps_assign rfl) rfl ?_
      | refine sg_seq ?_
      | refine sg_region ?_
      | refine sg_nil ?_
      | refine sg_then ?_
      | refine sg_ps (ps_fieldAddr rfl) rfl ?_
      | refine sg_ps (ps_nilCheck rfl) rfl ?_
      | refine sg_load 0 rfl rfl rfl rfl ?_
      | refine sg_load 1 rfl rfl rfl rfl ?_
      | refine sg_load 2 rfl rfl rfl rfl ?_
      | refine sg_load 3 rfl rfl rfl rfl ?_
      | refine sg_load 4 rfl rfl rfl rfl ?_
      | refine sg_load 5 rfl rfl rfl rfl ?_
      | refine sg_load 6 rfl rfl rfl rfl ?_
      | refine sg_load 7 rfl rfl rfl rfl ?_
      | refine sg_ps (ps_add64 rfl rfl (by omega)) rfl ?_
      | refine sg_ps (ps_sub64 rfl rfl (by omega)) rfl ?_
      | refine sg_ps (ps_mul64 rfl rfl (by omega)) rfl ?_
      | refine sg_ps (ps_bin rfl rfl inferInstance) rfl ?_
      | refine sg_ps (ps_rem rfl rfl (by decide)) rfl ?_
      | refine sg_ps (ps_quo64 rfl rfl (by decide) (by omega)) rfl ?_
      | refine sg_ps (ps_not rfl) rfl ?_
      | refine sg_ps (ps_conv rfl) rfl ?_
      | refine sg_ps (ps_shl rfl rfl (by decide) rfl) rfl ?_
      | refine sg_ps (ps_shr rfl rfl (by decide) rfl) rfl ?_
      | refine sg_cond_t rfl ?_
      | refine sg_cond_f rfl ?_
      | refine sg_guard_yes rfl rfl ?_
      | refine sg_guard_nf rfl rfl rfl ?_
      | refine sg_guard_nt rfl rfl rfl ?_
      | refine sg_guard_nu rfl rfl rfl ?_
      | refine sg_ps (ps_pick_t rfl rfl) rfl ?_
      | refine sg_ps (ps_pick_f rfl rfl) rfl ?_
      | refine sg_ps (ps_len rfl) rfl ?_
      | refine sg_ps (ps_len_str rfl) rfl ?_
      | refine sg_ps (ps_extract rfl rfl) rfl ?_
      | refine sg_ps (ps_field rfl rfl) rfl ?_
      | refine sg_ps (ps_min2 rfl rfl) rfl ?_
      | refine sg_ps (ps_max2 rfl rfl) rfl ?_
      | refine sg_ps (ps_build rfl rfl) rfl ?_
      | refine sg_box rfl rfl (fun bx => ?_)
      | refine sg_ps (ps_indexAddr rfl rfl rfl (by omega)) rfl ?_
      | refine sg_ps (ps_indexAddr (j := 0) rfl rfl rfl (by omega)) rfl ?_
      | refine sg_ps (ps_indexAddr (j := 1) rfl rfl rfl (by omega)) rfl ?_
      | refine sg_ps (ps_indexAddr_arr rfl rfl rfl (by omega)) rfl ?_
      | refine sg_block ?_
      | refine sg_skip ?_
      | refine sg_ret ?_
      | refine sg_exit ?_
      | refine ex_then_ret ?_
      | refine ex_then_exit ?_
      | refine ex_block_ret ?_
      | refine ex_block_normal ?_
      | refine ex_block_hit ?_
      | refine ex_block_miss rfl ?_
      | refine sg_store [] rfl rfl rfl (of_decide_eq_true rfl) ?_
      | refine sg_store [_] rfl rfl rfl (of_decide_eq_true rfl) ?_
      | refine sg_store [_, _] rfl rfl rfl (of_decide_eq_true rfl) ?_
      | refine sg_store [_, _, _] rfl rfl rfl (of_decide_eq_true rfl) ?_
      | refine sg_store [_, _, _, _] rfl rfl rfl (of_decide_eq_true rfl) ?_
      | refine sg_store [_, _, _, _, _] rfl rfl rfl (of_decide_eq_true rfl) ?_
      | refine sg_store [_, _, _, _, _, _] rfl rfl rfl (of_decide_eq_true rfl) ?_
      | refine sg_store [_, _, _, _, _, _, _] rfl rfl rfl (of_decide_eq_true rfl) ?_
      | (refine sg_guard_dec rfl rfl (fun hg => ?_) (fun hg => ?_) <;> first | (exfalso; omega) | (exact absurd rfl hg) | skip)
      | (refine sg_guard_ndec rfl rfl (fun hg => ?_) (fun hg => ?_) <;> first | (exfalso; omega) | (exact absurd rfl hg) | skip)
      | (refine sg_cond_dec rfl (fun hg => ?_) (fun hg => ?_) <;> first | (exfalso; omega) | (exact absurd rfl hg) | skip)
      | (refine sg_cond_ndec rfl (fun hg => ?_) (fun hg => ?_) <;> first | (exfalso; omega) | (exact absurd rfl hg) | skip)
      | refine sg_cond_not rfl (fun hg => ?_) (fun hg => ?_)
      | refine sg_cond rfl (fun hg => ?_) (fun hg => ?_))
    have e2 : be (m - j) (x / 256 ^ j) = be (m - (j + 1)) (x / 256 ^ (j + 1)) ++ [UInt8.ofNat (x / 256 ^ j)] := by
      rw [show m - j = (m - (j + 1)) + 1 by omega, be, Nat.div_div_eq_div_mul, ← Nat.pow_succ]
    refine ex_mid j ⟨by omega, by omega⟩ (.cons rfl (.cons rfl (.cons rfl .nil))) (fun w hO => ?_)
    refine OutRep.shut ?_ ?_ (hO.front2.front2.tail)
    · rw [e2]; simp only [List.length_append, be_length, List.length_singleton]; omega
    · rw [e2, ← List.append_assoc, List.map_append (l₂ := [_])]; rfl
  · have hk0 : k = 0 := by omega
    subst hk0
    refine ex_end0 rfl () rfl True.intro (fun w hO => ?_)
    rw [Nat.pow_zero, Nat.div_one, Nat.sub_zero] at hO
    exact hO
theorem conv_i64_64 (x : Nat) (h : x < 2 ^ 64) : IntKind.u64.wrap (x : Int) = (x : Int) := by rw [wrap_u _ rfl, Nat.mod_eq_of_lt]; exact h
end Go.Proofs.Ytdehkdmnddflhaa
