/- WalTrims: mounts that choose their next piece for the head, and themselves for the least mount, find behind any crashes the first ones of what was appended since, with all that were synced. -/
import Derived.Test.YtdehkdmnddflhaaLX5B
namespace Go.Proofs.Ytdehkdmnddflhaa
set_option linter.unusedVariables false
set_option linter.unusedSimpArgs false
set_option linter.unusedSectionVars false
set_option linter.unnecessarySimpa false
open Go Go.Proofs
set_option maxRecDepth 20000
set_option maxHeartbeats 4000000
attribute [local irreducible] SG WC WO W1 WD WK PS Rd Tri Exit.then Exit.inBlock bodyPost calmQ Mid sadd
variable {W : World} {n : Nat} {F : Fr} {L : List HP} {G : Act → World → Prop}
theorem walTrims_tri (l : List OpX) (la : Option Addr) (lc : Nat) (hl : OpsAt W l la) :
    Tri Try.prog W 8 [.slice la l.length lc] [old W] (X := Unit) (fun _ => .bool true) (fun _ => True) (fun _ => [old W]) := by
  obtain ⟨hp, hll, hl⟩ := hl
  refine tri_enter1 Try.func8 rfl Try.ntmps8 rfl ?_
  have w0 : wfound (DS.new 16) 0 16 1 1 1 = ([], 1) := fresh_found 0 16 16 1 (by decide) (by decide)
  repeat' (first
    | refine sg_wo ?_
    | refine sg_ps (ps_move rfl) rfl ?_
    | refine sg_ps (ps_assign rfl) rfl ?_
    | refine sg_seq ?_
    | refine sg_region ?_
    | refine sg_nil ?_
    | refine sg_then ?_
    | refine sg_ps (ps_fieldAddr rfl) rfl ?_
    | refine sg_ps (ps_nilCheck rfl) rfl ?_
    | refine sg_load 0 rfl rfl rfl rfl ?_
    | refine sg_load 1 rfl rfl rfl rfl ?_
    | refine sg_load 2 rfl rfl rfl rfl ?_
    | refine sg_load 3 rfl rfl rfl rfl ?_
    | refine sg_load 4 rfl rfl rfl rfl ?_
    | refine sg_load 5 rfl rfl rfl rfl ?_
    | refine sg_load 6 rfl rfl rfl rfl ?_
    | refine sg_load 7 rfl rfl rfl rfl ?_
    | refine sg_ps (ps_add64 rfl rfl (by omega)) rfl ?_
    | refine sg_ps (ps_sub64 rfl rfl (by omega)) rfl ?_
    | refine sg_ps (ps_mul64 rfl rfl (by omega)) rfl ?_
    | refine sg_ps (ps_bin rfl rfl inferInstance) rfl ?_
    | refine sg_ps (ps_rem rfl rfl (by decide)) rfl ?_
    | refine sg_ps (ps_quo64 rfl rfl (by decide) (by omega)) rfl ?_
    | refine sg_ps (ps_not rfl) rfl ?_
    | refine sg_ps (ps_conv rfl) rfl ?_
    | refine sg_ps (ps_shl rfl rfl (by decide) rfl) rfl ?_
    | refine sg_ps (ps_shr rfl rfl (by decide) rfl) rfl ?_
    | refine sg_cond_t rfl ?_
    | refine sg_cond_f rfl ?_
    | refine sg_guard_yes rfl rfl ?_
    | refine sg_guard_nf rfl rfl rfl ?_
    | refine sg_guard_nt rfl rfl rfl ?_
    | refine sg_guard_nu rfl rfl rfl ?_
    | refine sg_ps (ps_pick_t rfl rfl) rfl ?_
    | refine sg_ps (ps_pick_f rfl rfl) rfl ?_
    | refine sg_ps (ps_len rfl) rfl ?_
    | refine sg_ps (ps_len_str rfl) rfl ?_
    | refine sg_ps (ps_extract rfl rfl) rfl ?_
    | refine sg_ps (ps_field rfl rfl) rfl ?_
    | refine sg_ps (ps_min2 rfl rfl) rfl ?_
    | refine sg_ps (ps_max2 rfl rfl) rfl ?_
    | refine sg_ps (ps_build rfl rfl) rfl ?_
    | refine sg_box rfl rfl (fun bx => ?_)
    | refine sg_ps (ps_indexAddr rfl rfl rfl (by omega)) rfl ?_
    | refine sg_ps (ps_indexAddr (j := 0) rfl rfl rfl (by omega)) rfl ?_
    | refine sg_ps (ps_indexAddr (j := 1) rfl rfl rfl (by omega)) rfl ?_
    | refine sg_ps (ps_indexAddr_arr rfl rfl rfl (by omega)) rfl ?_
    | refine sg_block ?_
    | refine sg_skip ?_
    | refine sg_ret ?_
    | refine sg_exit ?_
    | refine ex_then_ret ?_
    | refine ex_then_exit ?_
    | refine ex_block_ret ?_
    | refine ex_block_normal ?_
    | refine ex_block_hit ?_
    | refine ex_block_miss rfl ?_
    | refine sg_store [] rfl rfl rfl (of_decide_eq_true rfl) ?_
    | refine sg_store [_] rfl rfl rfl (of_decide_eq_true rfl) ?_
    | refine sg_store [_, _] rfl rfl rfl (of_decide_eq_true rfl) ?_
    | refine sg_store [_, _, _] rfl rfl rfl (of_decide_eq_true rfl) ?_
    | refine sg_store [_, _, _, _] rfl rfl rfl (of_decide_eq_true rfl) ?_
    | refine sg_store [_, _, _, _, _] rfl rfl rfl (of_decide_eq_true rfl) ?_
    | refine sg_store [_, _, _, _, _, _] rfl rfl rfl (of_decide_eq_true rfl) ?_
    | refine sg_store [_, _, _, _, _, _, _] rfl rfl rfl (of_decide_eq_true rfl) ?_
    | (refine sg_guard_dec rfl rfl (fun hg => ?_) (fun hg => ?_) <;> first | (exfalso; omega) | (exact absurd rfl hg) | skip)
    | (refine sg_guard_ndec rfl rfl (fun hg => ?_) (fun hg => ?_) <;> first | (exfalso; omega) | (exact absurd rfl hg) | skip)
    | (refine sg_cond_dec rfl (fun hg => ?_) (fun hg => ?_) <;> first | (exfalso; omega) | (exact absurd rfl hg) | skip)
    | (refine sg_cond_ndec rfl (fun hg => ?_) (fun hg => ?_) <;> first | (exfalso; omega) | (exact absurd rfl hg) | skip)
    | refine sg_cond_not rfl (fun hg => ?_) (fun hg => ?_)
    | refine sg_cond rfl (fun hg => ?_) (fun hg => ?_))
  refine sg_call (awake_tri _) rfl rfl (fun _ _ => ?_)
  repeat' (first
    | refine sg_wo ?_
    | refine sg_ps (ps_move rfl) rfl ?_
    | refine sg_ps (ps_assign rfl) rfl ?_
    | refine sg_seq ?_
    | refine sg_region ?_
    | refine sg_nil ?_
    | refine sg_then ?_
    | refine sg_ps (ps_fieldAddr rfl) rfl ?_
    | refine sg_ps (ps_nilCheck rfl) rfl ?_
    | refine sg_load 0 rfl rfl rfl rfl ?_
    | refine sg_load 1 rfl rfl rfl rfl ?_
    | refine sg_load 2 rfl rfl rfl rfl ?_
    | refine sg_load 3 rfl rfl rfl rfl ?_
    | refine sg_load 4 rfl rfl rfl rfl ?_
    | refine sg_load 5 rfl rfl rfl rfl ?_
    | refine sg_load 6 rfl rfl rfl rfl ?_
    | refine sg_load 7 rfl rfl rfl rfl ?_
    | refine sg_ps (ps_add64 rfl rfl (by omega)) rfl ?_
    | refine sg_ps (ps_sub64 rfl rfl (by omega)) rfl ?_
    | refine sg_ps (ps_mul64 rfl rfl (by omega)) rfl ?_
    | refine sg_ps (ps_bin rfl rfl inferInstance) rfl ?_
    | refine sg_ps (ps_rem rfl rfl (by decide)) rfl ?_
    | refine sg_ps (ps_quo64 rfl rfl (by decide) (by omega)) rfl ?_
    | refine sg_ps (ps_not rfl) rfl ?_
    | refine sg_ps (ps_conv rfl) rfl ?_
    | refine sg_ps (ps_shl rfl rfl (by decide) rfl) rfl ?_
    | refine sg_ps (ps_shr rfl rfl (by decide) rfl) rfl ?_
    | refine sg_cond_t rfl ?_
    | refine sg_cond_f rfl ?_
    | refine sg_guard_yes rfl rfl ?_
    | refine sg_guard_nf rfl rfl rfl ?_
    | refine sg_guard_nt rfl rfl rfl ?_
    | refine sg_guard_nu rfl rfl rfl ?_
    | refine sg_ps (ps_pick_t rfl rfl) rfl ?_
    | refine sg_ps (ps_pick_f rfl rfl) rfl ?_
    | refine sg_ps (ps_len rfl) rfl ?_
    | refine sg_ps (ps_len_str rfl) rfl ?_
    | refine sg_ps (ps_extract rfl rfl) rfl ?_
    | refine sg_ps (ps_field rfl rfl) rfl ?_
    | refine sg_ps (ps_min2 rfl rfl) rfl ?_
    | refine sg_ps (ps_max2 rfl rfl) rfl ?_
    | refine sg_ps (ps_build rfl rfl) rfl ?_
    | refine sg_box rfl rfl (fun bx => ?_)
    | refine sg_ps (ps_indexAddr rfl rfl rfl (by omega)) rfl ?_
    | refine sg_ps (ps_indexAddr (j := 0) rfl rfl rfl (by omega)) rfl ?_
    | refine sg_ps (ps_indexAddr (j := 1) rfl rfl rfl (by omega)) rfl ?_
    | refine sg_ps (ps_indexAddr_arr rfl rfl rfl (by omega)) rfl ?_
    | refine sg_block ?_
    | refine sg_skip ?_
    | refine sg_ret ?_
    | refine sg_exit ?_
    | refine ex_then_ret ?_
    | refine ex_then_exit ?_
    | refine ex_block_ret ?_
    | refine ex_block_normal ?_
    | refine ex_block_hit ?_
    | refine ex_block_miss rfl ?_
    | refine sg_store [] rfl rfl rfl (of_decide_eq_true rfl) ?_
    | refine sg_store [_] rfl rfl rfl (of_decide_eq_true rfl) ?_
    | refine sg_store [_, _] rfl rfl rfl (of_decide_eq_true rfl) ?_
    | refine sg_store [_, _, _] rfl rfl rfl (of_decide_eq_true rfl) ?_
    | refine sg_store [_, _, _, _] rfl rfl rfl (of_decide_eq_true rfl) ?_
    | refine sg_store [_, _, _, _, _] rfl rfl rfl (of_decide_eq_true rfl) ?_
    | refine sg_store [_, _, _, _, _, _] rfl rfl rfl (of_decide_eq_true rfl) ?_
    | refine sg_store [_, _, _, _, _, _, _] rfl rfl rfl (of_decide_eq_true rfl) ?_
    | (refine sg_guard_dec rfl rfl (fun hg => ?_) (fun hg => ?_) <;> first | (exfalso; omega) | (exact absurd rfl hg) | skip)
    | (refine sg_guard_ndec rfl rfl (fun hg => ?_) (fun hg => ?_) <;> first | (exfalso; omega) | (exact absurd rfl hg) | skip)
    | (refine sg_cond_dec rfl (fun hg => ?_) (fun hg => ?_) <;> first | (exfalso; omega) | (exact absurd rfl hg) | skip)
    | (refine sg_cond_ndec rfl (fun hg => ?_) (fun hg => ?_) <;> first | (exfalso; omega) | (exact absurd rfl hg) | skip)
    | refine sg_cond_not rfl (fun hg => ?_) (fun hg => ?_)
    | refine sg_cond rfl (fun hg => ?_) (fun hg => ?_))
  refine sg_call (new_tri 16 _ (by omega) (by omega)) rfl rfl (fun d _ => ?_)
  repeat' (first
    | refine sg_wo ?_
    | refine sg_ps (ps_move rfl) rfl ?_
    | refine sg_ps (ps_assign rfl) rfl ?_
    | refine sg_seq ?_
    | refine sg_region ?_
    | refine sg_nil ?_
    | refine sg_then ?_
    | refine sg_ps (ps_fieldAddr rfl) rfl ?_
    | refine sg_ps (ps_nilCheck rfl) rfl ?_
    | refine sg_load 0 rfl rfl rfl rfl ?_
    | refine sg_load 1 rfl rfl rfl rfl ?_
    | refine sg_load 2 rfl rfl rfl rfl ?_
    | refine sg_load 3 rfl rfl rfl rfl ?_
    | refine sg_load 4 rfl rfl rfl rfl ?_
    | refine sg_load 5 rfl rfl rfl rfl ?_
    | refine sg_load 6 rfl rfl rfl rfl ?_
    | refine sg_load 7 rfl rfl rfl rfl ?_
    | refine sg_ps (ps_add64 rfl rfl (by omega)) rfl ?_
    | refine sg_ps (ps_sub64 rfl rfl (by omega)) rfl ?_
    | refine sg_ps (ps_mul64 rfl rfl (by omega)) rfl ?_
    | refine sg_ps (ps_bin rfl rfl inferInstance) rfl ?_
    | refine sg_ps (ps_rem rfl rfl (by decide)) rfl ?_
    | refine sg_ps (ps_quo64 rfl rfl (by decide) (by omega)) rfl ?_
    | refine sg_ps (ps_not rfl) rfl ?_
    | refine sg_ps (ps_conv rfl) rfl ?_
    | refine sg_ps (ps_shl rfl rfl (by decide) rfl) rfl ?_
    | refine sg_ps (ps_shr rfl rfl (by decide) rfl) rfl ?_
    | refine sg_cond_t rfl ?_
    | refine sg_cond_f rfl ?_
    | refine sg_guard_yes rfl rfl ?_
    | refine sg_guard_nf rfl rfl rfl ?_
    | refine sg_guard_nt rfl rfl rfl ?_
    | refine sg_guard_nu rfl rfl rfl ?_
    | refine sg_ps (ps_pick_t rfl rfl) rfl ?_
    | refine sg_ps (ps_pick_f rfl rfl) rfl ?_
    | refine sg_ps (ps_len rfl) rfl ?_
    | refine sg_ps (ps_len_str rfl) rfl ?_
    | refine sg_ps (ps_extract rfl rfl) rfl ?_
    | refine sg_ps (ps_field rfl rfl) rfl ?_
    | refine sg_ps (ps_min2 rfl rfl) rfl ?_
    | refine sg_ps (ps_max2 rfl rfl) rfl ?_
    | refine sg_ps (ps_build rfl rfl) rfl ?_
    | refine sg_box rfl rfl (fun bx => ?_)
    | refine sg_ps (ps_indexAddr rfl rfl rfl (by omega)) rfl ?_
    | refine sg_ps (ps_indexAddr (j := 0) rfl rfl rfl (by omega)) rfl ?_
    | refine sg_ps (ps_indexAddr (j := 1) rfl rfl rfl (by omega)) rfl ?_
    | refine sg_ps (ps_indexAddr_arr rfl rfl rfl (by omega)) rfl ?_
    | refine sg_block ?_
    | refine sg_skip ?_
    | refine sg_ret ?_
    | refine sg_exit ?_
    | refine ex_then_ret ?_
    | refine ex_then_exit ?_
    | refine ex_block_ret ?_
    | refine ex_block_normal ?_
    | refine ex_block_hit ?_
    | refine ex_block_miss rfl ?_
    | refine sg_store [] rfl rfl rfl (of_decide_eq_true rfl) ?_
    | refine sg_store [_] rfl rfl rfl (of_decide_eq_true rfl) ?_
    | refine sg_store [_, _] rfl rfl rfl (of_decide_eq_true rfl) ?_
    | refine sg_store [_, _, _] rfl rfl rfl (of_decide_eq_true rfl) ?_
    | refine sg_store [_, _, _, _] rfl rfl rfl (of_decide_eq_true rfl) ?_
    | refine sg_store [_, _, _, _, _] rfl rfl rfl (of_decide_eq_true rfl) ?_
    | refine sg_store [_, _, _, _, _, _] rfl rfl rfl (of_decide_eq_true rfl) ?_
    | refine sg_store [_, _, _, _, _, _, _] rfl rfl rfl (of_decide_eq_true rfl) ?_
    | (refine sg_guard_dec rfl rfl (fun hg => ?_) (fun hg => ?_) <;> first | (exfalso; omega) | (exact absurd rfl hg) | skip)
    | (refine sg_guard_ndec rfl rfl (fun hg => ?_) (fun hg => ?_) <;> first | (exfalso; omega) | (exact absurd rfl hg) | skip)
    | (refine sg_cond_dec rfl (fun hg => ?_) (fun hg => ?_) <;> first | (exfalso; omega) | (exact absurd rfl hg) | skip)
    | (refine sg_cond_ndec rfl (fun hg => ?_) (fun hg => ?_) <;> first | (exfalso; omega) | (exact absurd rfl hg) | skip)
    | refine sg_cond_not rfl (fun hg => ?_) (fun hg => ?_)
    | refine sg_cond rfl (fun hg => ?_) (fun hg => ?_))
  refine sg_call (wopen_tri d (DS.new 16) 0 16 1 1 1 _ (by decide) (by rw [new_seen]; decide) (by rw [new_seen]; decide) (by decide) (by decide) (by decide) (by decide) (by decide)) rfl rfl (fun x hx => ?_)
  obtain ⟨lg0, oa0, oc0, p0⟩ := x
  dsimp only at hx ⊢
  rw [w0] at hx ⊢
  have hp0 : p0 = [] := by cases p0 with | nil => rfl | cons a b => cases hx
  subst hp0
  refine sg_drop0 ?_
  repeat' (first
    | refine sg_wo ?_
    | refine sg_ps (ps_move rfl) rfl ?_
    | refine sg_ps (ps_assign rfl) rfl ?_
    | refine sg_seq ?_
    | refine sg_region ?_
    | refine sg_nil ?_
    | refine sg_then ?_
    | refine sg_ps (ps_fieldAddr rfl) rfl ?_
    | refine sg_ps (ps_nilCheck rfl) rfl ?_
    | refine sg_load 0 rfl rfl rfl rfl ?_
    | refine sg_load 1 rfl rfl rfl rfl ?_
    | refine sg_load 2 rfl rfl rfl rfl ?_
    | refine sg_load 3 rfl rfl rfl rfl ?_
    | refine sg_load 4 rfl rfl rfl rfl ?_
    | refine sg_load 5 rfl rfl rfl rfl ?_
    | refine sg_load 6 rfl rfl rfl rfl ?_
    | refine sg_load 7 rfl rfl rfl rfl ?_
    | refine sg_ps (ps_add64 rfl rfl (by omega)) rfl ?_
    | refine sg_ps (ps_sub64 rfl rfl (by omega)) rfl ?_
    | refine sg_ps (ps_mul64 rfl rfl (by omega)) rfl ?_
    | refine sg_ps (ps_bin rfl rfl inferInstance) rfl ?_
    | refine sg_ps (ps_rem rfl rfl (by decide)) rfl ?_
    | refine sg_ps (ps_quo64 rfl rfl (by decide) (by omega)) rfl ?_
    | refine sg_ps (ps_not rfl) rfl ?_
    | refine sg_ps (ps_conv rfl) rfl ?_
    | refine sg_ps (ps_shl rfl rfl (by decide) rfl) rfl ?_
    | refine sg_ps (ps_shr rfl rfl (by decide) rfl) rfl ?_
    | refine sg_cond_t rfl ?_
    | refine sg_cond_f rfl ?_
    | refine sg_guard_yes rfl rfl ?_
    | refine sg_guard_nf rfl rfl rfl ?_
    | refine sg_guard_nt rfl rfl rfl ?_
    | refine sg_guard_nu rfl rfl rfl ?_
    | refine sg_ps (ps_pick_t rfl rfl) rfl ?_
    | refine sg_ps (ps_pick_f rfl rfl) rfl ?_
    | refine sg_ps (ps_len rfl) rfl ?_
    | refine sg_ps (ps_len_str rfl) rfl ?_
    | refine sg_ps (ps_extract rfl rfl) rfl ?_
    | refine sg_ps (ps_field rfl rfl) rfl ?_
    | refine sg_ps (ps_min2 rfl rfl) rfl ?_
    | refine sg_ps (ps_max2 rfl rfl) rfl ?_
    | refine sg_ps (ps_build rfl rfl) rfl ?_
    | refine sg_box rfl rfl (fun bx => ?_)
    | refine sg_ps (ps_indexAddr rfl rfl rfl (by omega)) rfl ?_
    | refine sg_ps (ps_indexAddr (j := 0) rfl rfl rfl (by omega)) rfl ?_
    | refine sg_ps (ps_indexAddr (j := 1) rfl rfl rfl (by omega)) rfl ?_
    | refine sg_ps (ps_indexAddr_arr rfl rfl rfl (by omega)) rfl ?_
    | refine sg_block ?_
    | refine sg_skip ?_
    | refine sg_ret ?_
    | refine sg_exit ?_
    | refine ex_then_ret ?_
    | refine ex_then_exit ?_
    | refine ex_block_ret ?_
    | refine ex_block_normal ?_
    | refine ex_block_hit ?_
    | refine ex_block_miss rfl ?_
    | refine sg_store [] rfl rfl rfl (of_decide_eq_true rfl) ?_
    | refine sg_store [_] rfl rfl rfl (of_decide_eq_true rfl) ?_
    | refine sg_store [_, _] rfl rfl rfl (of_decide_eq_true rfl) ?_
    | refine sg_store [_, _, _] rfl rfl rfl (of_decide_eq_true rfl) ?_
    | refine sg_store [_, _, _, _] rfl rfl rfl (of_decide_eq_true rfl) ?_
    | refine sg_store [_, _, _, _, _] rfl rfl rfl (of_decide_eq_true rfl) ?_
    | refine sg_store [_, _, _, _, _, _] rfl rfl rfl (of_decide_eq_true rfl) ?_
    | refine sg_store [_, _, _, _, _, _, _] rfl rfl rfl (of_decide_eq_true rfl) ?_
    | (refine sg_guard_dec rfl rfl (fun hg => ?_) (fun hg => ?_) <;> first | (exfalso; omega) | (exact absurd rfl hg) | skip)
    | (refine sg_guard_ndec rfl rfl (fun hg => ?_) (fun hg => ?_) <;> first | (exfalso; omega) | (exact absurd rfl hg) | skip)
    | (refine sg_cond_dec rfl (fun hg => ?_) (fun hg => ?_) <;> first | (exfalso; omega) | (exact absurd rfl hg) | skip)
    | (refine sg_cond_ndec rfl (fun hg => ?_) (fun hg => ?_) <;> first | (exfalso; omega) | (exact absurd rfl hg) | skip)
    | refine sg_cond_not rfl (fun hg => ?_) (fun hg => ?_)
    | refine sg_cond rfl (fun hg => ?_) (fun hg => ?_))
  refine sg_own (L' := [BsRep none 0 [], blk lg0 (lcells d ⟨0, 16, 1, 1, 1⟩), DiskRep d (DS.new 16), old W]) (fun w hO => bs_nil hO) ?_
  refine sg_loop (γ := (WS × Option Addr × Nat × Nat) × Nat) (fun g => (g.2 ≤ l.length ∧ g.2 ≤ 60) ∧ WInv false 16 g.2 g.1.1 ∧ g.1.1.D.seen.length = 16)
    (fun g => [(0, .slice la l.length lc), (3, dp d), (5, .int .u32 (g.1.1.mt : Int)), (6, .int .u32 (g.1.1.ls : Int)), (7, u64v g.1.1.hd), (8, dp g.1.2.2.2), (11, .slice g.1.2.1 g.1.1.cs.length g.1.2.2.1), (12, i64 g.1.1.safe), (13, i64 g.2)])
    (fun g => [BsRep g.1.2.1 g.1.2.2.1 g.1.1.cs, blk g.1.2.2.2 (lcells d ⟨0, 16, g.1.1.mt, g.1.1.hd, g.1.1.nx⟩), DiskRep d g.1.1.D, old W]) (fun g => 60 - g.2) ((⟨1, 1, 1, 1, 0, DS.new 16, []⟩, none, 0, lg0), 0)
    ⟨⟨Nat.zero_le _, Nat.zero_le _⟩, WInv.new (by decide) (Nat.le_refl _) (by decide), new_seen 16⟩ (.cons rfl (.cons rfl (.cons rfl (.cons rfl (.cons rfl (.cons rfl (.cons rfl (.cons rfl (.cons rfl .nil))))))))) (fun w hO => hO) ?_
  clear w0 hx
  rintro ⟨⟨⟨nx, mt, ls, hd, safe, D, cs⟩, oa, oc, lg⟩, i⟩ ⟨⟨hil, hi60⟩, hI, hsl⟩
  dsimp only at hil hi60 hI hsl ⊢
  obtain ⟨n1, n2, n3, n4⟩ := hI.nx
  obtain ⟨q0, q1⟩ := hI.mt
  have q2 := hI.writes
  have q3 := hI.wait
  have q4 := hI.syncs
  have q5 := hI.cs
  obtain ⟨q6, q7⟩ := hI.ls
  obtain ⟨q8, q9⟩ := hI.hd
  dsimp only at n1 n2 n3 n4 q0 q1 q2 q3 q4 q5 q6 q7 q8 q9
  by_cases hc : i < l.length ∧ i < 60
  · obtain ⟨hc1, hc2⟩ := hc
    obtain ⟨lb, lo, rfl⟩ := hp (by omega)
    obtain ⟨bb, ka, bc, kc, hb1, hb2, hb3, hb4, hb5, r0, r1, r2⟩ := hl i hc1 lb lo rfl
    have hr5 := rem_lt l[i].1 (m := 6) (by decide)
    obtain ⟨m, hm, hm5⟩ := rem_nat l[i].1 6 (by decide)
    rw [show ((6 : Nat) : Int) = 6 from rfl] at hm
    generalize l[i] = x at *
    obtain ⟨x1, x2, x3, bs, keep, u⟩ := x
    dsimp only at hb1 hb2 hb3 hb4 hb5 r0 r1 r2 hr5 hm
    repeat' (first
      | refine sg_wo ?_
      | refine sg_ps (ps_move rfl) rfl ?_
      | refine sg_ps (ps_assign rfl) rfl ?_
      | refine sg_region ?_
      | refine sg_nil ?_
      | refine sg_then ?_
      | refine sg_ps (ps_fieldAddr rfl) rfl ?_
      | refine sg_ps (ps_nilCheck rfl) rfl ?_
      | refine sg_load 0 rfl rfl rfl rfl ?_
      | refine sg_load 1 rfl rfl rfl rfl ?_
      | refine sg_load 2 rfl rfl rfl rfl ?_
      | refine sg_load 3 rfl rfl rfl rfl ?_
      | refine sg_load 4 rfl rfl rfl rfl ?_
      | refine sg_load 5 rfl rfl rfl rfl ?_
      | refine sg_load 6 rfl rfl rfl rfl ?_
      | refine sg_load 7 rfl rfl rfl rfl ?_
      | refine sg_ps (ps_add64 rfl rfl (by omega)) rfl ?_
      | refine sg_ps (ps_sub64 rfl rfl (by omega)) rfl ?_
      | refine sg_ps (ps_mul64 rfl rfl (by omega)) rfl ?_
      | refine sg_ps (ps_bin rfl rfl inferInstance) rfl ?_
      | refine sg_ps (ps_rem rfl rfl (by decide)) rfl ?_
      | refine sg_ps (ps_quo64 rfl rfl (by decide) (by omega)) rfl ?_
      | refine sg_ps (ps_not rfl) rfl ?_
      | refine sg_ps (ps_conv rfl) rfl ?_
      | refine sg_ps (ps_shl rfl rfl (by decide) rfl) rfl ?_
      | refine sg_ps (ps_shr rfl rfl (by decide) rfl) rfl ?_
      | refine sg_cond_t rfl ?_
      | refine sg_cond_f rfl ?_
      | refine sg_guard_yes rfl rfl ?_
      | refine sg_guard_nf rfl rfl rfl ?_
      | refine sg_guard_nt rfl rfl rfl ?_
      | refine sg_guard_nu rfl rfl rfl ?_
      | refine sg_ps (ps_pick_t rfl rfl) rfl ?_
      | refine sg_ps (ps_pick_f rfl rfl) rfl ?_
      | refine sg_ps (ps_len rfl) rfl ?_
      | refine sg_ps (ps_len_str rfl) rfl ?_
      | refine sg_ps (ps_extract rfl rfl) rfl ?_
      | refine sg_ps (ps_field rfl rfl) rfl ?_
      | refine sg_ps (ps_min2 rfl rfl) rfl ?_
      | refine sg_ps (ps_max2 rfl rfl) rfl ?_
      | refine sg_ps (ps_build rfl rfl) rfl ?_
      | refine sg_box rfl rfl (fun bx => ?_)
      | refine sg_ps (ps_indexAddr rfl rfl rfl (by omega)) rfl ?_
      | refine sg_ps (ps_indexAddr (j := 0) rfl rfl rfl (by omega)) rfl ?_
      | refine sg_ps (ps_indexAddr (j := 1) rfl rfl rfl (by omega)) rfl ?_
      | refine sg_ps (ps_indexAddr_arr rfl rfl rfl (by omega)) rfl ?_
      | refine sg_load_whole 0 rfl rfl rfl rfl ?_
      | refine sg_load_whole 1 rfl rfl rfl rfl ?_
      | refine sg_load_whole 2 rfl rfl rfl rfl ?_
      | refine sg_load_whole 3 rfl rfl rfl rfl ?_
      | refine sg_load_whole 4 rfl rfl rfl rfl ?_
      | refine sg_load_whole 5 rfl rfl rfl rfl ?_
      | refine sg_load_whole 6 rfl rfl rfl rfl ?_
      | refine sg_load_whole 7 rfl rfl rfl rfl ?_
      | refine sg_store_whole [] rfl rfl rfl rfl rfl ?_
      | refine sg_store_whole [_] rfl rfl rfl rfl rfl ?_
      | refine sg_store_whole [_, _] rfl rfl rfl rfl rfl ?_
      | refine sg_store_whole [_, _, _] rfl rfl rfl rfl rfl ?_
      | refine sg_store_whole [_, _, _, _] rfl rfl rfl rfl rfl ?_
      | refine sg_store_whole [_, _, _, _, _] rfl rfl rfl rfl rfl ?_
      | refine sg_store_whole [_, _, _, _, _, _] rfl rfl rfl rfl rfl ?_
      | refine sg_alloc rfl (fun al => ?_)
      | refine sg_block ?_
      | refine sg_skip ?_
      | refine sg_ret ?_
      | refine sg_exit ?_
      | refine ex_then_ret ?_
      | refine ex_then_exit ?_
      | refine ex_block_ret ?_
      | refine ex_block_normal ?_
      | refine ex_block_hit ?_
      | refine ex_block_miss rfl ?_
      | refine sg_store [] rfl rfl rfl (of_decide_eq_true rfl) ?_
      | refine sg_store [_] rfl rfl rfl (of_decide_eq_true rfl) ?_
      | refine sg_store [_, _] rfl rfl rfl (of_decide_eq_true rfl) ?_
      | refine sg_store [_, _, _] rfl rfl rfl (of_decide_eq_true rfl) ?_
      | refine sg_store [_, _, _, _] rfl rfl rfl (of_decide_eq_true rfl) ?_
      | refine sg_store [_, _, _, _, _] rfl rfl rfl (of_decide_eq_true rfl) ?_
      | refine sg_store [_, _, _, _, _, _] rfl rfl rfl (of_decide_eq_true rfl) ?_
      | refine sg_store [_, _, _, _, _, _, _] rfl rfl rfl (of_decide_eq_true rfl) ?_
      | (refine sg_guard_dec rfl rfl (fun hg => ?_) (fun hg => ?_) <;> first | (exfalso; omega) | (exact absurd rfl hg) | skip)
      | (refine sg_guard_ndec rfl rfl (fun hg => ?_) (fun hg => ?_) <;> first | (exfalso; omega) | (exact absurd rfl hg) | skip)
      | (refine sg_cond_dec rfl (fun hg => ?_) (fun hg => ?_) <;> first | (exfalso; omega) | (exact absurd rfl hg) | skip)
      | (refine sg_cond_ndec rfl (fun hg => ?_) (fun hg => ?_) <;> first | (exfalso; omega) | (exact absurd rfl hg) | skip)
      | refine sg_cond_not rfl (fun hg => ?_) (fun hg => ?_)
      | refine sg_cond rfl (fun hg => ?_) (fun hg => ?_))
    refine sg_seq ?_
    refine sg_seq ?_
    repeat' (first
      | refine sg_wo ?_
      | refine sg_ps (ps_move rfl) rfl ?_
      | refine sg_ps (ps_assign rfl) rfl ?_
      | refine sg_region ?_
      | refine sg_nil ?_
      | refine sg_then ?_
      | refine sg_ps (ps_fieldAddr rfl) rfl ?_
      | refine sg_ps (ps_nilCheck rfl) rfl ?_
      | refine sg_load 0 rfl rfl rfl rfl ?_
      | refine sg_load 1 rfl rfl rfl rfl ?_
      | refine sg_load 2 rfl rfl rfl rfl ?_
      | refine sg_load 3 rfl rfl rfl rfl ?_
      | refine sg_load 4 rfl rfl rfl rfl ?_
      | refine sg_load 5 rfl rfl rfl rfl ?_
      | refine sg_load 6 rfl rfl rfl rfl ?_
      | refine sg_load 7 rfl rfl rfl rfl ?_
      | refine sg_ps (ps_add64 rfl rfl (by omega)) rfl ?_
      | refine sg_ps (ps_sub64 rfl rfl (by omega)) rfl ?_
      | refine sg_ps (ps_mul64 rfl rfl (by omega)) rfl ?_
      | refine sg_ps (ps_bin rfl rfl inferInstance) rfl ?_
      | refine sg_ps (ps_rem rfl rfl (by decide)) rfl ?_
      | refine sg_ps (ps_quo64 rfl rfl (by decide) (by omega)) rfl ?_
      | refine sg_ps (ps_not rfl) rfl ?_
      | refine sg_ps (ps_conv rfl) rfl ?_
      | refine sg_ps (ps_shl rfl rfl (by decide) rfl) rfl ?_
      | refine sg_ps (ps_shr rfl rfl (by decide) rfl) rfl ?_
      | refine sg_cond_t rfl ?_
      | refine sg_cond_f rfl ?_
      | refine sg_guard_yes rfl rfl ?_
      | refine sg_guard_nf rfl rfl rfl ?_
      | refine sg_guard_nt rfl rfl rfl ?_
      | refine sg_guard_nu rfl rfl rfl ?_
      | refine sg_ps (ps_pick_t rfl rfl) rfl ?_
      | refine sg_ps (ps_pick_f rfl rfl) rfl ?_
      | refine sg_ps (ps_len rfl) rfl ?_
      | refine sg_ps (ps_len_str rfl) rfl ?_
      | refine sg_ps (ps_extract rfl rfl) rfl ?_
      | refine sg_ps (ps_field rfl rfl) rfl ?_
      | refine sg_ps (ps_min2 rfl rfl) rfl ?_
      | refine sg_ps (ps_max2 rfl rfl) rfl ?_
      | refine sg_ps (ps_build rfl rfl) rfl ?_
      | refine sg_box rfl rfl (fun bx => ?_)
      | refine sg_ps (ps_indexAddr rfl rfl rfl (by omega)) rfl ?_
      | refine sg_ps (ps_indexAddr (j := 0) rfl rfl rfl (by omega)) rfl ?_
      | refine sg_ps (ps_indexAddr (j := 1) rfl rfl rfl (by omega)) rfl ?_
      | refine sg_ps (ps_indexAddr_arr rfl rfl rfl (by omega)) rfl ?_
      | refine sg_load_whole 0 rfl rfl rfl rfl ?_
      | refine sg_load_whole 1 rfl rfl rfl rfl ?_
      | refine sg_load_whole 2 rfl rfl rfl rfl ?_
      | refine sg_load_whole 3 rfl rfl rfl rfl ?_
      | refine sg_load_whole 4 rfl rfl rfl rfl ?_
      | refine sg_load_whole 5 rfl rfl rfl rfl ?_
      | refine sg_load_whole 6 rfl rfl rfl rfl ?_
      | refine sg_load_whole 7 rfl rfl rfl rfl ?_
      | refine sg_store_whole [] rfl rfl rfl rfl rfl ?_
      | refine sg_store_whole [_] rfl rfl rfl rfl rfl ?_
      | refine sg_store_whole [_, _] rfl rfl rfl rfl rfl ?_
      | refine sg_store_whole [_, _, _] rfl rfl rfl rfl rfl ?_
      | refine sg_store_whole [_, _, _, _] rfl rfl rfl rfl rfl ?_
      | refine sg_store_whole [_, _, _, _, _] rfl rfl rfl rfl rfl ?_
      | refine sg_store_whole [_, _, _, _, _, _] rfl rfl rfl rfl rfl ?_
      | refine sg_alloc rfl (fun al => ?_)
      | refine sg_block ?_
      | refine sg_skip ?_
      | refine sg_ret ?_
      | refine sg_exit ?_
      | refine ex_then_ret ?_
      | refine ex_then_exit ?_
      | refine ex_block_ret ?_
      | refine ex_block_normal ?_
      | refine ex_block_hit ?_
      | refine ex_block_miss rfl ?_
      | refine sg_store [] rfl rfl rfl (of_decide_eq_true rfl) ?_
      | refine sg_store [_] rfl rfl rfl (of_decide_eq_true rfl) ?_
      | refine sg_store [_, _] rfl rfl rfl (of_decide_eq_true rfl) ?_
      | refine sg_store [_, _, _] rfl rfl rfl (of_decide_eq_true rfl) ?_
      | refine sg_store [_, _, _, _] rfl rfl rfl (of_decide_eq_true rfl) ?_
      | refine sg_store [_, _, _, _, _] rfl rfl rfl (of_decide_eq_true rfl) ?_
      | refine sg_store [_, _, _, _, _, _] rfl rfl rfl (of_decide_eq_true rfl) ?_
      | refine sg_store [_, _, _, _, _, _, _] rfl rfl rfl (of_decide_eq_true rfl) ?_
      | (refine sg_guard_dec rfl rfl (fun hg => ?_) (fun hg => ?_) <;> first | (exfalso; omega) | (exact absurd rfl hg) | skip)
      | (refine sg_guard_ndec rfl rfl (fun hg => ?_) (fun hg => ?_) <;> first | (exfalso; omega) | (exact absurd rfl hg) | skip)
      | (refine sg_cond_dec rfl (fun hg => ?_) (fun hg => ?_) <;> first | (exfalso; omega) | (exact absurd rfl hg) | skip)
      | (refine sg_cond_ndec rfl (fun hg => ?_) (fun hg => ?_) <;> first | (exfalso; omega) | (exact absurd rfl hg) | skip)
      | refine sg_cond_not rfl (fun hg => ?_) (fun hg => ?_)
      | refine sg_cond rfl (fun hg => ?_) (fun hg => ?_))
    refine sg_seq ?_
    repeat' (first
      | refine sg_wo ?_
      | refine sg_ps (ps_move rfl) rfl ?_
      | refine sg_ps (ps_assign rfl) rfl ?_
      | refine sg_region ?_
      | refine sg_nil ?_
      | refine sg_then ?_
      | refine sg_ps (ps_fieldAddr rfl) rfl ?_
      | refine sg_ps (ps_nilCheck rfl) rfl ?_
      | refine sg_load 0 rfl rfl rfl rfl ?_
      | refine sg_load 1 rfl rfl rfl rfl ?_
      | refine sg_load 2 rfl rfl rfl rfl ?_
      | refine sg_load 3 rfl rfl rfl rfl ?_
      | refine sg_load 4 rfl rfl rfl rfl ?_
      | refine sg_load 5 rfl rfl rfl rfl ?_
      | refine sg_load 6 rfl rfl rfl rfl ?_
      | refine sg_load 7 rfl rfl rfl rfl ?_
      | refine sg_ps (ps_add64 rfl rfl (by omega)) rfl ?_
      | refine sg_ps (ps_sub64 rfl rfl (by omega)) rfl ?_
      | refine sg_ps (ps_mul64 rfl rfl (by omega)) rfl ?_
      | refine sg_ps (ps_bin rfl rfl inferInstance) rfl ?_
      | refine sg_ps (ps_rem rfl rfl (by decide)) rfl ?_
      | refine sg_ps (ps_quo64 rfl rfl (by decide) (by omega)) rfl ?_
      | refine sg_ps (ps_not rfl) rfl ?_
      | refine sg_ps (ps_conv rfl) rfl ?_
      | refine sg_ps (ps_shl rfl rfl (by decide) rfl) rfl ?_
      | refine sg_ps (ps_shr rfl rfl (by decide) rfl) rfl ?_
      | refine sg_cond_t rfl ?_
      | refine sg_cond_f rfl ?_
      | refine sg_guard_yes rfl rfl ?_
      | refine sg_guard_nf rfl rfl rfl ?_
      | refine sg_guard_nt rfl rfl rfl ?_
      | refine sg_guard_nu rfl rfl rfl ?_
      | refine sg_ps (ps_pick_t rfl rfl) rfl ?_
      | refine sg_ps (ps_pick_f rfl rfl) rfl ?_
      | refine sg_ps (ps_len rfl) rfl ?_
      | refine sg_ps (ps_len_str rfl) rfl ?_
      | refine sg_ps (ps_extract rfl rfl) rfl ?_
      | refine sg_ps (ps_field rfl rfl) rfl ?_
      | refine sg_ps (ps_min2 rfl rfl) rfl ?_
      | refine sg_ps (ps_max2 rfl rfl) rfl ?_
      | refine sg_ps (ps_build rfl rfl) rfl ?_
      | refine sg_box rfl rfl (fun bx => ?_)
      | refine sg_ps (ps_indexAddr rfl rfl rfl (by omega)) rfl ?_
      | refine sg_ps (ps_indexAddr (j := 0) rfl rfl rfl (by omega)) rfl ?_
      | refine sg_ps (ps_indexAddr (j := 1) rfl rfl rfl (by omega)) rfl ?_
      | refine sg_ps (ps_indexAddr_arr rfl rfl rfl (by omega)) rfl ?_
      | refine sg_load_whole 0 rfl rfl rfl rfl ?_
      | refine sg_load_whole 1 rfl rfl rfl rfl ?_
      | refine sg_load_whole 2 rfl rfl rfl rfl ?_
      | refine sg_load_whole 3 rfl rfl rfl rfl ?_
      | refine sg_load_whole 4 rfl rfl rfl rfl ?_
      | refine sg_load_whole 5 rfl rfl rfl rfl ?_
      | refine sg_load_whole 6 rfl rfl rfl rfl ?_
      | refine sg_load_whole 7 rfl rfl rfl rfl ?_
      | refine sg_store_whole [] rfl rfl rfl rfl rfl ?_
      | refine sg_store_whole [_] rfl rfl rfl rfl rfl ?_
      | refine sg_store_whole [_, _] rfl rfl rfl rfl rfl ?_
      | refine sg_store_whole [_, _, _] rfl rfl rfl rfl rfl ?_
      | refine sg_store_whole [_, _, _, _] rfl rfl rfl rfl rfl ?_
      | refine sg_store_whole [_, _, _, _, _] rfl rfl rfl rfl rfl ?_
      | refine sg_store_whole [_, _, _, _, _, _] rfl rfl rfl rfl rfl ?_
      | refine sg_alloc rfl (fun al => ?_)
      | refine sg_block ?_
      | refine sg_skip ?_
      | refine sg_ret ?_
      | refine sg_exit ?_
      | refine ex_then_ret ?_
      | refine ex_then_exit ?_
      | refine ex_block_ret ?_
      | refine ex_block_normal ?_
      | refine ex_block_hit ?_
      | refine ex_block_miss rfl ?_
      | refine sg_store [] rfl rfl rfl (of_decide_eq_true rfl) ?_
      | refine sg_store [_] rfl rfl rfl (of_decide_eq_true rfl) ?_
      | refine sg_store [_, _] rfl rfl rfl (of_decide_eq_true rfl) ?_
      | refine sg_store [_, _, _] rfl rfl rfl (of_decide_eq_true rfl) ?_
      | refine sg_store [_, _, _, _] rfl rfl rfl (of_decide_eq_true rfl) ?_
      | refine sg_store [_, _, _, _, _] rfl rfl rfl (of_decide_eq_true rfl) ?_
      | refine sg_store [_, _, _, _, _, _] rfl rfl rfl (of_decide_eq_true rfl) ?_
      | refine sg_store [_, _, _, _, _, _, _] rfl rfl rfl (of_decide_eq_true rfl) ?_
      | (refine sg_guard_dec rfl rfl (fun hg => ?_) (fun hg => ?_) <;> first | (exfalso; omega) | (exact absurd rfl hg) | skip)
      | (refine sg_guard_ndec rfl rfl (fun hg => ?_) (fun hg => ?_) <;> first | (exfalso; omega) | (exact absurd rfl hg) | skip)
      | (refine sg_cond_dec rfl (fun hg => ?_) (fun hg => ?_) <;> first | (exfalso; omega) | (exact absurd rfl hg) | skip)
      | (refine sg_cond_ndec rfl (fun hg => ?_) (fun hg => ?_) <;> first | (exfalso; omega) | (exact absurd rfl hg) | skip)
      | refine sg_cond_not rfl (fun hg => ?_) (fun hg => ?_)
      | refine sg_cond rfl (fun hg => ?_) (fun hg => ?_))
    refine sg_seq ?_
    repeat' (first
      | refine sg_wo ?_
      | refine sg_ps (ps_move rfl) rfl ?_
      | refine sg_ps (ps_assign rfl) rfl ?_
      | refine sg_region ?_
      | refine sg_nil ?_
      | refine sg_then ?_
      | refine sg_ps (ps_fieldAddr rfl) rfl ?_
      | refine sg_ps (ps_nilCheck rfl) rfl ?_
      | refine sg_load 0 rfl rfl rfl rfl ?_
      | refine sg_load 1 rfl rfl rfl rfl ?_
      | refine sg_load 2 rfl rfl rfl rfl ?_
      | refine sg_load 3 rfl rfl rfl rfl ?_
      | refine sg_load 4 rfl rfl rfl rfl ?_
      | refine sg_load 5 rfl rfl rfl rfl ?_
      | refine sg_load 6 rfl rfl rfl rfl ?_
      | refine sg_load 7 rfl rfl rfl rfl ?_
      | refine sg_ps (ps_add64 rfl rfl (by omega)) rfl ?_
      | refine sg_ps (ps_sub64 rfl rfl (by omega)) rfl ?_
      | refine sg_ps (ps_mul64 rfl rfl (by omega)) rfl ?_
      | refine sg_ps (ps_bin rfl rfl inferInstance) rfl ?_
      | refine sg_ps (ps_rem rfl rfl (by decide)) rfl ?_
      | refine sg_ps (ps_quo64 rfl rfl (by decide) (by omega)) rfl ?_
      | refine sg_ps (ps_not rfl) rfl ?_
      | refine sg_ps (ps_conv rfl) rfl ?_
      | refine sg_ps (ps_shl rfl rfl (by decide) rfl) rfl ?_
      | refine sg_ps (ps_shr rfl rfl (by decide) rfl) rfl ?_
      | refine sg_cond_t rfl ?_
      | refine sg_cond_f rfl ?_
      | refine sg_guard_yes rfl rfl ?_
      | refine sg_guard_nf rfl rfl rfl ?_
      | refine sg_guard_nt rfl rfl rfl ?_
      | refine sg_guard_nu rfl rfl rfl ?_
      | refine sg_ps (ps_pick_t rfl rfl) rfl ?_
      | refine sg_ps (ps_pick_f rfl rfl) rfl ?_
      | refine sg_ps (ps_len rfl) rfl ?_
      | refine sg_ps (ps_len_str rfl) rfl ?_
      | refine sg_ps (ps_extract rfl rfl) rfl ?_
      | refine sg_ps (ps_field rfl rfl) rfl ?_
      | refine sg_ps (ps_min2 rfl rfl) rfl ?_
      | refine sg_ps (ps_max2 rfl rfl) rfl ?_
      | refine sg_ps (ps_build rfl rfl) rfl ?_
      | refine sg_box rfl rfl (fun bx => ?_)
      | refine sg_ps (ps_indexAddr rfl rfl rfl (by omega)) rfl ?_
      | refine sg_ps (ps_indexAddr (j := 0) rfl rfl rfl (by omega)) rfl ?_
      | refine sg_ps (ps_indexAddr (j := 1) rfl rfl rfl (by omega)) rfl ?_
      | refine sg_ps (ps_indexAddr_arr rfl rfl rfl (by omega)) rfl ?_
      | refine sg_load_whole 0 rfl rfl rfl rfl ?_
      | refine sg_load_whole 1 rfl rfl rfl rfl ?_
      | refine sg_load_whole 2 rfl rfl rfl rfl ?_
      | refine sg_load_whole 3 rfl rfl rfl rfl ?_
      | refine sg_load_whole 4 rfl rfl rfl rfl ?_
      | refine sg_load_whole 5 rfl rfl rfl rfl ?_
      | refine sg_load_whole 6 rfl rfl rfl rfl ?_
      | refine sg_load_whole 7 rfl rfl rfl rfl ?_
      | refine sg_store_whole [] rfl rfl rfl rfl rfl ?_
      | refine sg_store_whole [_] rfl rfl rfl rfl rfl ?_
      | refine sg_store_whole [_, _] rfl rfl rfl rfl rfl ?_
      | refine sg_store_whole [_, _, _] rfl rfl rfl rfl rfl ?_
      | refine sg_store_whole [_, _, _, _] rfl rfl rfl rfl rfl ?_
      | refine sg_store_whole [_, _, _, _, _] rfl rfl rfl rfl rfl ?_
      | refine sg_store_whole [_, _, _, _, _, _] rfl rfl rfl rfl rfl ?_
      | refine sg_alloc rfl (fun al => ?_)
      | refine sg_block ?_
      | refine sg_skip ?_
      | refine sg_ret ?_
      | refine sg_exit ?_
      | refine ex_then_ret ?_
      | refine ex_then_exit ?_
      | refine ex_block_ret ?_
      | refine ex_block_normal ?_
      | refine ex_block_hit ?_
      | refine ex_block_miss rfl ?_
      | refine sg_store [] rfl rfl rfl (of_decide_eq_true rfl) ?_
      | refine sg_store [_] rfl rfl rfl (of_decide_eq_true rfl) ?_
      | refine sg_store [_, _] rfl rfl rfl (of_decide_eq_true rfl) ?_
      | refine sg_store [_, _, _] rfl rfl rfl (of_decide_eq_true rfl) ?_
      | refine sg_store [_, _, _, _] rfl rfl rfl (of_decide_eq_true rfl) ?_
      | refine sg_store [_, _, _, _, _] rfl rfl rfl (of_decide_eq_true rfl) ?_
      | refine sg_store [_, _, _, _, _, _] rfl rfl rfl (of_decide_eq_true rfl) ?_
      | refine sg_store [_, _, _, _, _, _, _] rfl rfl rfl (of_decide_eq_true rfl) ?_
      | (refine sg_guard_dec rfl rfl (fun hg => ?_) (fun hg => ?_) <;> first | (exfalso; omega) | (exact absurd rfl hg) | skip)
      | (refine sg_guard_ndec rfl rfl (fun hg => ?_) (fun hg => ?_) <;> first | (exfalso; omega) | (exact absurd rfl hg) | skip)
      | (refine sg_cond_dec rfl (fun hg => ?_) (fun hg => ?_) <;> first | (exfalso; omega) | (exact absurd rfl hg) | skip)
      | (refine sg_cond_ndec rfl (fun hg => ?_) (fun hg => ?_) <;> first | (exfalso; omega) | (exact absurd rfl hg) | skip)
      | refine sg_cond_not rfl (fun hg => ?_) (fun hg => ?_)
      | refine sg_cond rfl (fun hg => ?_) (fun hg => ?_))
    refine sg_load_agg_rd rfl rfl (r0.rd 3 rfl) rfl ?_
    repeat' (first
      | refine sg_wo ?_
      | refine sg_ps (ps_move rfl) rfl ?_
      | refine sg_ps (ps_assign rfl) rfl ?_
      | refine sg_region ?_
      | refine sg_nil ?_
      | refine sg_then ?_
      | refine sg_ps (ps_fieldAddr rfl) rfl ?_
      | refine sg_ps (ps_nilCheck rfl) rfl ?_
      | refine sg_load 0 rfl rfl rfl rfl ?_
      | refine sg_load 1 rfl rfl rfl rfl ?_
      | refine sg_load 2 rfl rfl rfl rfl ?_
      | refine sg_load 3 rfl rfl rfl rfl ?_
      | refine sg_load 4 rfl rfl rfl rfl ?_
      | refine sg_load 5 rfl rfl rfl rfl ?_
      | refine sg_load 6 rfl rfl rfl rfl ?_
      | refine sg_load 7 rfl rfl rfl rfl ?_
      | refine sg_ps (ps_add64 rfl rfl (by omega)) rfl ?_
      | refine sg_ps (ps_sub64 rfl rfl (by omega)) rfl ?_
      | refine sg_ps (ps_mul64 rfl rfl (by omega)) rfl ?_
      | refine sg_ps (ps_bin rfl rfl inferInstance) rfl ?_
      | refine sg_ps (ps_rem rfl rfl (by decide)) rfl ?_
      | refine sg_ps (ps_quo64 rfl rfl (by decide) (by omega)) rfl ?_
      | refine sg_ps (ps_not rfl) rfl ?_
      | refine sg_ps (ps_conv rfl) rfl ?_
      | refine sg_ps (ps_shl rfl rfl (by decide) rfl) rfl ?_
      | refine sg_ps (ps_shr rfl rfl (by decide) rfl) rfl ?_
      | refine sg_cond_t rfl ?_
      | refine sg_cond_f rfl ?_
      | refine sg_guard_yes rfl rfl ?_
      | refine sg_guard_nf rfl rfl rfl ?_
      | refine sg_guard_nt rfl rfl rfl ?_
      | refine sg_guard_nu rfl rfl rfl ?_
      | refine sg_ps (ps_pick_t rfl rfl) rfl ?_
      | refine sg_ps (ps_pick_f rfl rfl) rfl ?_
      | refine sg_ps (ps_len rfl) rfl ?_
      | refine sg_ps (ps_len_str rfl) rfl ?_
      | refine sg_ps (ps_extract rfl rfl) rfl ?_
      | refine sg_ps (ps_field rfl rfl) rfl ?_
      | refine sg_ps (ps_min2 rfl rfl) rfl ?_
      | refine sg_ps (ps_max2 rfl rfl) rfl ?_
      | refine sg_ps (ps_build rfl rfl) rfl ?_
      | refine sg_box rfl rfl (fun bx => ?_)
      | refine sg_ps (ps_indexAddr rfl rfl rfl (by omega)) rfl ?_
      | refine sg_ps (ps_indexAddr (j := 0) rfl rfl rfl (by omega)) rfl ?_
      | refine sg_ps (ps_indexAddr (j := 1) rfl rfl rfl (by omega)) rfl ?_
      | refine sg_ps (ps_indexAddr_arr rfl rfl rfl (by omega)) rfl ?_
      | refine sg_load_whole 0 rfl rfl rfl rfl ?_
      | refine sg_load_whole 1 rfl rfl rfl rfl ?_
      | refine sg_load_whole 2 rfl rfl rfl rfl ?_
      | refine sg_load_whole 3 rfl rfl rfl rfl ?_
      | refine sg_load_whole 4 rfl rfl rfl rfl ?_
      | refine sg_load_whole 5 rfl rfl rfl rfl ?_
      | refine sg_load_whole 6 rfl rfl rfl rfl ?_
      | refine sg_load_whole 7 rfl rfl rfl rfl ?_
      | refine sg_store_whole [] rfl rfl rfl rfl rfl ?_
      | refine sg_store_whole [_] rfl rfl rfl rfl rfl ?_
      | refine sg_store_whole [_, _] rfl rfl rfl rfl rfl ?_
      | refine sg_store_whole [_, _, _] rfl rfl rfl rfl rfl ?_
      | refine sg_store_whole [_, _, _, _] rfl rfl rfl rfl rfl ?_
      | refine sg_store_whole [_, _, _, _, _] rfl rfl rfl rfl rfl ?_
      | refine sg_store_whole [_, _, _, _, _, _] rfl rfl rfl rfl rfl ?_
      | refine sg_alloc rfl (fun al => ?_)
      | refine sg_block ?_
      | refine sg_skip ?_
      | refine sg_ret ?_
      | refine sg_exit ?_
      | refine ex_then_ret ?_
      | refine ex_then_exit ?_
      | refine ex_block_ret ?_
      | refine ex_block_normal ?_
      | refine ex_block_hit ?_
      | refine ex_block_miss rfl ?_
      | refine sg_store [] rfl rfl rfl (of_decide_eq_true rfl) ?_
      | refine sg_store [_] rfl rfl rfl (of_decide_eq_true rfl) ?_
      | refine sg_store [_, _] rfl rfl rfl (of_decide_eq_true rfl) ?_
      | refine sg_store [_, _, _] rfl rfl rfl (of_decide_eq_true rfl) ?_
      | refine sg_store [_, _, _, _] rfl rfl rfl (of_decide_eq_true rfl) ?_
      | refine sg_store [_, _, _, _, _] rfl rfl rfl (of_decide_eq_true rfl) ?_
      | refine sg_store [_, _, _, _, _, _] rfl rfl rfl (of_decide_eq_true rfl) ?_
      | refine sg_store [_, _, _, _, _, _, _] rfl rfl rfl (of_decide_eq_true rfl) ?_
      | (refine sg_guard_dec rfl rfl (fun hg => ?_) (fun hg => ?_) <;> first | (exfalso; omega) | (exact absurd rfl hg) | skip)
      | (refine sg_guard_ndec rfl rfl (fun hg => ?_) (fun hg => ?_) <;> first | (exfalso; omega) | (exact absurd rfl hg) | skip)
      | (refine sg_cond_dec rfl (fun hg => ?_) (fun hg => ?_) <;> first | (exfalso; omega) | (exact absurd rfl hg) | skip)
      | (refine sg_cond_ndec rfl (fun hg => ?_) (fun hg => ?_) <;> first | (exfalso; omega) | (exact absurd rfl hg) | skip)
      | refine sg_cond_not rfl (fun hg => ?_) (fun hg => ?_)
      | refine sg_cond rfl (fun hg => ?_) (fun hg => ?_))
    refine sg_seq ?_
    repeat' (first
      | refine sg_wo ?_
      | refine sg_ps (ps_move rfl) rfl ?_
      | refine sg_ps (ps_assign rfl) rfl ?_
      | refine sg_region ?_
      | refine sg_nil ?_
      | refine sg_then ?_
      | refine sg_ps (ps_fieldAddr rfl) rfl ?_
      | refine sg_ps (ps_nilCheck rfl) rfl ?_
      | refine sg_load 0 rfl rfl rfl rfl ?_
      | refine sg_load 1 rfl rfl rfl rfl ?_
      | refine sg_load 2 rfl rfl rfl rfl ?_
      | refine sg_load 3 rfl rfl rfl rfl ?_
      | refine sg_load 4 rfl rfl rfl rfl ?_
      | refine sg_load 5 rfl rfl rfl rfl ?_
      | refine sg_load 6 rfl rfl rfl rfl ?_
      | refine sg_load 7 rfl rfl rfl rfl ?_
      | refine sg_ps (ps_add64 rfl rfl (by omega)) rfl ?_
      | refine sg_ps (ps_sub64 rfl rfl (by omega)) rfl ?_
      | refine sg_ps (ps_mul64 rfl rfl (by omega)) rfl ?_
      | refine sg_ps (ps_bin rfl rfl inferInstance) rfl ?_
      | refine sg_ps (ps_rem rfl rfl (by decide)) rfl ?_
      | refine sg_ps (ps_quo64 rfl rfl (by decide) (by omega)) rfl ?_
      | refine sg_ps (ps_not rfl) rfl ?_
      | refine sg_ps (ps_conv rfl) rfl ?_
      | refine sg_ps (ps_shl rfl rfl (by decide) rfl) rfl ?_
      | refine sg_ps (ps_shr rfl rfl (by decide) rfl) rfl ?_
      | refine sg_cond_t rfl ?_
      | refine sg_cond_f rfl ?_
      | refine sg_guard_yes rfl rfl ?_
      | refine sg_guard_nf rfl rfl rfl ?_
      | refine sg_guard_nt rfl rfl rfl ?_
      | refine sg_guard_nu rfl rfl rfl ?_
      | refine sg_ps (ps_pick_t rfl rfl) rfl ?_
      | refine sg_ps (ps_pick_f rfl rfl) rfl ?_
      | refine sg_ps (ps_len rfl) rfl ?_
      | refine sg_ps (ps_len_str rfl) rfl ?_
      | refine sg_ps (ps_extract rfl rfl) rfl ?_
      | refine sg_ps (ps_field rfl rfl) rfl ?_
      | refine sg_ps (ps_min2 rfl rfl) rfl ?_
      | refine sg_ps (ps_max2 rfl rfl) rfl ?_
      | refine sg_ps (ps_build rfl rfl) rfl ?_
      | refine sg_box rfl rfl (fun bx => ?_)
      | refine sg_ps (ps_indexAddr rfl rfl rfl (by omega)) rfl ?_
      | refine sg_ps (ps_indexAddr (j := 0) rfl rfl rfl (by omega)) rfl ?_
      | refine sg_ps (ps_indexAddr (j := 1) rfl rfl rfl (by omega)) rfl ?_
      | refine sg_ps (ps_indexAddr_arr rfl rfl rfl (by omega)) rfl ?_
      | refine sg_load_whole 0 rfl rfl rfl rfl ?_
      | refine sg_load_whole 1 rfl rfl rfl rfl ?_
      | refine sg_load_whole 2 rfl rfl rfl rfl ?_
      | refine sg_load_whole 3 rfl rfl rfl rfl ?_
      | refine sg_load_whole 4 rfl rfl rfl rfl ?_
      | refine sg_load_whole 5 rfl rfl rfl rfl ?_
      | refine sg_load_whole 6 rfl rfl rfl rfl ?_
      | refine sg_load_whole 7 rfl rfl rfl rfl ?_
      | refine sg_store_whole [] rfl rfl rfl rfl rfl ?_
      | refine sg_store_whole [_] rfl rfl rfl rfl rfl ?_
      | refine sg_store_whole [_, _] rfl rfl rfl rfl rfl ?_
      | refine sg_store_whole [_, _, _] rfl rfl rfl rfl rfl ?_
      | refine sg_store_whole [_, _, _, _] rfl rfl rfl rfl rfl ?_
      | refine sg_store_whole [_, _, _, _, _] rfl rfl rfl rfl rfl ?_
      | refine sg_store_whole [_, _, _, _, _, _] rfl rfl rfl rfl rfl ?_
      | refine sg_alloc rfl (fun al => ?_)
      | refine sg_block ?_
      | refine sg_skip ?_
      | refine sg_ret ?_
      | refine sg_exit ?_
      | refine ex_then_ret ?_
      | refine ex_then_exit ?_
      | refine ex_block_ret ?_
      | refine ex_block_normal ?_
      | refine ex_block_hit ?_
      | refine ex_block_miss rfl ?_
      | refine sg_store [] rfl rfl rfl (of_decide_eq_true rfl) ?_
      | refine sg_store [_] rfl rfl rfl (of_decide_eq_true rfl) ?_
      | refine sg_store [_, _] rfl rfl rfl (of_decide_eq_true rfl) ?_
      | refine sg_store [_, _, _] rfl rfl rfl (of_decide_eq_true rfl) ?_
      | refine sg_store [_, _, _, _] rfl rfl rfl (of_decide_eq_true rfl) ?_
      | refine sg_store [_, _, _, _, _] rfl rfl rfl (of_decide_eq_true rfl) ?_
      | refine sg_store [_, _, _, _, _, _] rfl rfl rfl (of_decide_eq_true rfl) ?_
      | refine sg_store [_, _, _, _, _, _, _] rfl rfl rfl (of_decide_eq_true rfl) ?_
      | (refine sg_guard_dec rfl rfl (fun hg => ?_) (fun hg => ?_) <;> first | (exfalso; omega) | (exact absurd rfl hg) | skip)
      | (refine sg_guard_ndec rfl rfl (fun hg => ?_) (fun hg => ?_) <;> first | (exfalso; omega) | (exact absurd rfl hg) | skip)
      | (refine sg_cond_dec rfl (fun hg => ?_) (fun hg => ?_) <;> first | (exfalso; omega) | (exact absurd rfl hg) | skip)
      | (refine sg_cond_ndec rfl (fun hg => ?_) (fun hg => ?_) <;> first | (exfalso; omega) | (exact absurd rfl hg) | skip)
      | refine sg_cond_not rfl (fun hg => ?_) (fun hg => ?_)
      | refine sg_cond rfl (fun hg => ?_) (fun hg => ?_))
    rw [hm]
    repeat' (first
      | refine sg_wo ?_
      | refine sg_ps (ps_move rfl) rfl ?_
      | refine sg_ps (ps_assign rfl) rfl ?_
      | refine sg_region ?_
      | refine sg_nil ?_
      | refine sg_then ?_
      | refine sg_ps (ps_fieldAddr rfl) rfl ?_
      | refine sg_ps (ps_nilCheck rfl) rfl ?_
      | refine sg_load 0 rfl rfl rfl rfl ?_
      | refine sg_load 1 rfl rfl rfl rfl ?_
      | refine sg_load 2 rfl rfl rfl rfl ?_
      | refine sg_load 3 rfl rfl rfl rfl ?_
      | refine sg_load 4 rfl rfl rfl rfl ?_
      | refine sg_load 5 rfl rfl rfl rfl ?_
      | refine sg_load 6 rfl rfl rfl rfl ?_
      | refine sg_load 7 rfl rfl rfl rfl ?_
      | refine sg_ps (ps_add64 rfl rfl (by omega)) rfl ?_
      | refine sg_ps (ps_sub64 rfl rfl (by omega)) rfl ?_
      | refine sg_ps (ps_mul64 rfl rfl (by omega)) rfl ?_
      | refine sg_ps (ps_bin rfl rfl inferInstance) rfl ?_
      | refine sg_ps (ps_rem rfl rfl (by decide)) rfl ?_
      | refine sg_ps (ps_quo64 rfl rfl (by decide) (by omega)) rfl ?_
      | refine sg_ps (ps_not rfl) rfl ?_
      | refine sg_ps (ps_conv rfl) rfl ?_
      | refine sg_ps (ps_shl rfl rfl (by decide) rfl) rfl ?_
      | refine sg_ps (ps_shr rfl rfl (by decide) rfl) rfl ?_
      | refine sg_cond_t rfl ?_
      | refine sg_cond_f rfl ?_
      | refine sg_guard_yes rfl rfl ?_
      | refine sg_guard_nf rfl rfl rfl ?_
      | refine sg_guard_nt rfl rfl rfl ?_
      | refine sg_guard_nu rfl rfl rfl ?_
      | refine sg_ps (ps_pick_t rfl rfl) rfl ?_
      | refine sg_ps (ps_pick_f rfl rfl) rfl ?_
      | refine sg_ps (ps_len rfl) rfl ?_
      | refine sg_ps (ps_len_str rfl) rfl ?_
      | refine sg_ps (ps_extract rfl rfl) rfl ?_
      | refine sg_ps (ps_field rfl rfl) rfl ?_
      | refine sg_ps (ps_min2 rfl rfl) rfl ?_
      | refine sg_ps (ps_max2 rfl rfl) rfl ?_
      | refine sg_ps (ps_build rfl rfl) rfl ?_
      | refine sg_box rfl rfl (fun bx => ?_)
      | refine sg_ps (ps_indexAddr rfl rfl rfl (by omega)) rfl ?_
      | refine sg_ps (ps_indexAddr (j := 0) rfl rfl rfl (by omega)) rfl ?_
      | refine sg_ps (ps_indexAddr (j := 1) rfl rfl rfl (by omega)) rfl ?_
      | refine sg_ps (ps_indexAddr_arr rfl rfl rfl (by omega)) rfl ?_
      | refine sg_load_whole 0 rfl rfl rfl rfl ?_
      | refine sg_load_whole 1 rfl rfl rfl rfl ?_
      | refine sg_load_whole 2 rfl rfl rfl rfl ?_
      | refine sg_load_whole 3 rfl rfl rfl rfl ?_
      | refine sg_load_whole 4 rfl rfl rfl rfl ?_
      | refine sg_load_whole 5 rfl rfl rfl rfl ?_
      | refine sg_load_whole 6 rfl rfl rfl rfl ?_
      | refine sg_load_whole 7 rfl rfl rfl rfl ?_
      | refine sg_store_whole [] rfl rfl rfl rfl rfl ?_
      | refine sg_store_whole [_] rfl rfl rfl rfl rfl ?_
      | refine sg_store_whole [_, _] rfl rfl rfl rfl rfl ?_
      | refine sg_store_whole [_, _, _] rfl rfl rfl rfl rfl ?_
      | refine sg_store_whole [_, _, _, _] rfl rfl rfl rfl rfl ?_
      | refine sg_store_whole [_, _, _, _, _] rfl rfl rfl rfl rfl ?_
      | refine sg_store_whole [_, _, _, _, _, _] rfl rfl rfl rfl rfl ?_
      | refine sg_alloc rfl (fun al => ?_)
      | refine sg_block ?_
      | refine sg_skip ?_
      | refine sg_ret ?_
      | refine sg_exit ?_
      | refine ex_then_ret ?_
      | refine ex_then_exit ?_
      | refine ex_block_ret ?_
      | refine ex_block_normal ?_
      | refine ex_block_hit ?_
      | refine ex_block_miss rfl ?_
      | refine sg_store [] rfl rfl rfl (of_decide_eq_true rfl) ?_
      | refine sg_store [_] rfl rfl rfl (of_decide_eq_true rfl) ?_
      | refine sg_store [_, _] rfl rfl rfl (of_decide_eq_true rfl) ?_
      | refine sg_store [_, _, _] rfl rfl rfl (of_decide_eq_true rfl) ?_
      | refine sg_store [_, _, _, _] rfl rfl rfl (of_decide_eq_true rfl) ?_
      | refine sg_store [_, _, _, _, _] rfl rfl rfl (of_decide_eq_true rfl) ?_
      | refine sg_store [_, _, _, _, _, _] rfl rfl rfl (of_decide_eq_true rfl) ?_
      | refine sg_store [_, _, _, _, _, _, _] rfl rfl rfl (of_decide_eq_true rfl) ?_
      | (refine sg_guard_dec rfl rfl (fun hg => ?_) (fun hg => ?_) <;> first | (exfalso; omega) | (exact absurd rfl hg) | skip)
      | (refine sg_guard_ndec rfl rfl (fun hg => ?_) (fun hg => ?_) <;> first | (exfalso; omega) | (exact absurd rfl hg) | skip)
      | (refine sg_cond_dec rfl (fun hg => ?_) (fun hg => ?_) <;> first | (exfalso; omega) | (exact absurd rfl hg) | skip)
      | (refine sg_cond_ndec rfl (fun hg => ?_) (fun hg => ?_) <;> first | (exfalso; omega) | (exact absurd rfl hg) | skip)
      | refine sg_cond_not rfl (fun hg => ?_) (fun hg => ?_)
      | refine sg_cond rfl (fun hg => ?_) (fun hg => ?_))
    refine sg_seq_mid (γ := Unit) (fun _ => True) (fun _ => [(0, .slice (some ⟨lb, lo, none⟩) l.length lc), (3, dp d), (5, .int .u32 (mt : Int)), (6, .int .u32 (ls : Int)), (7, u64v hd), (8, dp lg), (11, .slice oa cs.length oc), (12, i64 safe), (13, i64 i), (14, dp al), (65, i64 m), (126, .bool (decide (m ≤ 1)))])
      (fun _ => [blk al [i64 x1, i64 x2, .int .u32 x3, .slice bb bs.length bc, .slice ka keep.length kc], BsRep oa oc cs, blk lg (lcells d ⟨0, 16, mt, hd, nx⟩), DiskRep d D, old W]) ?_ ?_
    · rcases (by omega : m = 0 ∨ m = 1 ∨ 2 ≤ m) with rfl | rfl | h2
      · skip
        repeat' (first
          | refine sg_wo ?_
          | refine sg_ps (ps_move rfl) rfl ?_
          | refine sg_ps (ps_assign rfl) rfl ?_
          | refine sg_seq ?_
          | refine sg_region ?_
          | refine sg_nil ?_
          | refine sg_then ?_
          | refine sg_ps (ps_fieldAddr rfl) rfl ?_
          | refine sg_ps (ps_nilCheck rfl) rfl ?_
          | refine sg_load 0 rfl rfl rfl rfl ?_
          | refine sg_load 1 rfl rfl rfl rfl ?_
          | refine sg_load 2 rfl rfl rfl rfl ?_
          | refine sg_load 3 rfl rfl rfl rfl ?_
          | refine sg_load 4 rfl rfl rfl rfl ?_
          | refine sg_load 5 rfl rfl rfl rfl ?_
          | refine sg_load 6 rfl rfl rfl rfl ?_
          | refine sg_load 7 rfl rfl rfl rfl ?_
          | refine sg_ps (ps_add64 rfl rfl (by omega)) rfl ?_
          | refine sg_ps (ps_sub64 rfl rfl (by omega)) rfl ?_
          | refine sg_ps (ps_mul64 rfl rfl (by omega)) rfl ?_
          | refine sg_ps (ps_bin rfl rfl inferInstance) rfl ?_
          | refine sg_ps (ps_rem rfl rfl (by decide)) rfl ?_
          | refine sg_ps (ps_quo64 rfl rfl (by decide) (by omega)) rfl ?_
          | refine sg_ps (ps_not rfl) rfl ?_
          | refine sg_ps (ps_conv rfl) rfl ?_
          | refine sg_ps (ps_shl rfl rfl (by decide) rfl) rfl ?_
          | refine sg_ps (ps_shr rfl rfl (by decide) rfl) rfl ?_
          | refine sg_cond_t rfl ?_
          | refine sg_cond_f rfl ?_
          | refine sg_guard_yes rfl rfl ?_
          | refine sg_guard_nf rfl rfl rfl ?_
          | refine sg_guard_nt rfl rfl rfl ?_
          | refine sg_guard_nu rfl rfl rfl ?_
          | refine sg_ps (ps_pick_t rfl rfl) rfl ?_
          | refine sg_ps (ps_pick_f rfl rfl) rfl ?_
          | refine sg_ps (ps_len rfl) rfl ?_
          | refine sg_ps (ps_len_str rfl) rfl ?_
          | refine sg_ps (ps_extract rfl rfl) rfl ?_
          | refine sg_ps (ps_field rfl rfl) rfl ?_
          | refine sg_ps (ps_min2 rfl rfl) rfl ?_
          | refine sg_ps (ps_max2 rfl rfl) rfl ?_
          | refine sg_ps (ps_build rfl rfl) rfl ?_
          | refine sg_box rfl rfl (fun bx => ?_)
          | refine sg_ps (ps_indexAddr rfl rfl rfl (by omega)) rfl ?_
          | refine sg_ps (ps_indexAddr (j := 0) rfl rfl rfl (by omega)) rfl ?_
          | refine sg_ps (ps_indexAddr (j := 1) rfl rfl rfl (by omega)) rfl ?_
          | refine sg_ps (ps_indexAddr_arr rfl rfl rfl (by omega)) rfl ?_
          | refine sg_block ?_
          | refine sg_skip ?_
          | refine sg_ret ?_
          | refine sg_exit ?_
          | refine ex_then_ret ?_
          | refine ex_then_exit ?_
          | refine ex_block_ret ?_
          | refine ex_block_normal ?_
          | refine ex_block_hit ?_
          | refine ex_block_miss rfl ?_
          | refine sg_store [] rfl rfl rfl (of_decide_eq_true rfl) ?_
          | refine sg_store [_] rfl rfl rfl (of_decide_eq_true rfl) ?_
          | refine sg_store [_, _] rfl rfl rfl (of_decide_eq_true rfl) ?_
          | refine sg_store [_, _, _] rfl rfl rfl (of_decide_eq_true rfl) ?_
          | refine sg_store [_, _, _, _] rfl rfl rfl (of_decide_eq_true rfl) ?_
          | refine sg_store [_, _, _, _, _] rfl rfl rfl (of_decide_eq_true rfl) ?_
          | refine sg_store [_, _, _, _, _, _] rfl rfl rfl (of_decide_eq_true rfl) ?_
          | refine sg_store [_, _, _, _, _, _, _] rfl rfl rfl (of_decide_eq_true rfl) ?_
          | (refine sg_guard_dec rfl rfl (fun hg => ?_) (fun hg => ?_) <;> first | (exfalso; omega) | (exact absurd rfl hg) | skip)
          | (refine sg_guard_ndec rfl rfl (fun hg => ?_) (fun hg => ?_) <;> first | (exfalso; omega) | (exact absurd rfl hg) | skip)
          | (refine sg_cond_dec rfl (fun hg => ?_) (fun hg => ?_) <;> first | (exfalso; omega) | (exact absurd rfl hg) | skip)
          | (refine sg_cond_ndec rfl (fun hg => ?_) (fun hg => ?_) <;> first | (exfalso; omega) | (exact absurd rfl hg) | skip)
          | refine sg_cond_not rfl (fun hg => ?_) (fun hg => ?_)
          | refine sg_cond rfl (fun hg => ?_) (fun hg => ?_))
        exact ex_mid () trivial (.cons rfl (.cons rfl (.cons rfl (.cons rfl (.cons rfl (.cons rfl (.cons rfl (.cons rfl (.cons rfl (.cons rfl (.cons rfl (.cons rfl .nil)))))))))))) (fun w hO => hO)
      · skip
        repeat' (first
          | refine sg_wo ?_
          | refine sg_ps (ps_move rfl) rfl ?_
          | refine sg_ps (ps_assign rfl) rfl ?_
          | refine sg_seq ?_
          | refine sg_region ?_
          | refine sg_nil ?_
          | refine sg_then ?_
          | refine sg_ps (ps_fieldAddr rfl) rfl ?_
          | refine sg_ps (ps_nilCheck rfl) rfl ?_
          | refine sg_load 0 rfl rfl rfl rfl ?_
          | refine sg_load 1 rfl rfl rfl rfl ?_
          | refine sg_load 2 rfl rfl rfl rfl ?_
          | refine sg_load 3 rfl rfl rfl rfl ?_
          | refine sg_load 4 rfl rfl rfl rfl ?_
          | refine sg_load 5 rfl rfl rfl rfl ?_
          | refine sg_load 6 rfl rfl rfl rfl ?_
          | refine sg_load 7 rfl rfl rfl rfl ?_
          | refine sg_ps (ps_add64 rfl rfl (by omega)) rfl ?_
          | refine sg_ps (ps_sub64 rfl rfl (by omega)) rfl ?_
          | refine sg_ps (ps_mul64 rfl rfl (by omega)) rfl ?_
          | refine sg_ps (ps_bin rfl rfl inferInstance) rfl ?_
          | refine sg_ps (ps_rem rfl rfl (by decide)) rfl ?_
          | refine sg_ps (ps_quo64 rfl rfl (by decide) (by omega)) rfl ?_
          | refine sg_ps (ps_not rfl) rfl ?_
          | refine sg_ps (ps_conv rfl) rfl ?_
          | refine sg_ps (ps_shl rfl rfl (by decide) rfl) rfl ?_
          | refine sg_ps (ps_shr rfl rfl (by decide) rfl) rfl ?_
          | refine sg_cond_t rfl ?_
          | refine sg_cond_f rfl ?_
          | refine sg_guard_yes rfl rfl ?_
          | refine sg_guard_nf rfl rfl rfl ?_
          | refine sg_guard_nt rfl rfl rfl ?_
          | refine sg_guard_nu rfl rfl rfl ?_
          | refine sg_ps (ps_pick_t rfl rfl) rfl ?_
          | refine sg_ps (ps_pick_f rfl rfl) rfl ?_
          | refine sg_ps (ps_len rfl) rfl ?_
          | refine sg_ps (ps_len_str rfl) rfl ?_
          | refine sg_ps (ps_extract rfl rfl) rfl ?_
          | refine sg_ps (ps_field rfl rfl) rfl ?_
          | refine sg_ps (ps_min2 rfl rfl) rfl ?_
          | refine sg_ps (ps_max2 rfl rfl) rfl ?_
          | refine sg_ps (ps_build rfl rfl) rfl ?_
          | refine sg_box rfl rfl (fun bx => ?_)
          | refine sg_ps (ps_indexAddr rfl rfl rfl (by omega)) rfl ?_
          | refine sg_ps (ps_indexAddr (j := 0) rfl rfl rfl (by omega)) rfl ?_
          | refine sg_ps (ps_indexAddr (j := 1) rfl rfl rfl (by omega)) rfl ?_
          | refine sg_ps (ps_indexAddr_arr rfl rfl rfl (by omega)) rfl ?_
          | refine sg_block ?_
          | refine sg_skip ?_
          | refine sg_ret ?_
          | refine sg_exit ?_
          | refine ex_then_ret ?_
          | refine ex_then_exit ?_
          | refine ex_block_ret ?_
          | refine ex_block_normal ?_
          | refine ex_block_hit ?_
          | refine ex_block_miss rfl ?_
          | refine sg_store [] rfl rfl rfl (of_decide_eq_true rfl) ?_
          | refine sg_store [_] rfl rfl rfl (of_decide_eq_true rfl) ?_
          | refine sg_store [_, _] rfl rfl rfl (of_decide_eq_true rfl) ?_
          | refine sg_store [_, _, _] rfl rfl rfl (of_decide_eq_true rfl) ?_
          | refine sg_store [_, _, _, _] rfl rfl rfl (of_decide_eq_true rfl) ?_
          | refine sg_store [_, _, _, _, _] rfl rfl rfl (of_decide_eq_true rfl) ?_
          | refine sg_store [_, _, _, _, _, _] rfl rfl rfl (of_decide_eq_true rfl) ?_
          | refine sg_store [_, _, _, _, _, _, _] rfl rfl rfl (of_decide_eq_true rfl) ?_
          | (refine sg_guard_dec rfl rfl (fun hg => ?_) (fun hg => ?_) <;> first | (exfalso; omega) | (exact absurd rfl hg) | skip)
          | (refine sg_guard_ndec rfl rfl (fun hg => ?_) (fun hg => ?_) <;> first | (exfalso; omega) | (exact absurd rfl hg) | skip)
          | (refine sg_cond_dec rfl (fun hg => ?_) (fun hg => ?_) <;> first | (exfalso; omega) | (exact absurd rfl hg) | skip)
          | (refine sg_cond_ndec rfl (fun hg => ?_) (fun hg => ?_) <;> first | (exfalso; omega) | (exact absurd rfl hg) | skip)
          | refine sg_cond_not rfl (fun hg => ?_) (fun hg => ?_)
          | refine sg_cond rfl (fun hg => ?_) (fun hg => ?_))
        exact ex_mid () trivial (.cons rfl (.cons rfl (.cons rfl (.cons rfl (.cons rfl (.cons rfl (.cons rfl (.cons rfl (.cons rfl (.cons rfl (.cons rfl (.cons rfl .nil)))))))))))) (fun w hO => hO)
      · have e1 : decide (m ≤ 1) = false := decide_eq_false (by omega)
        have e2 : decide ((m : Int) = 1) = false := decide_eq_false (by omega)
        rw [e1]
        repeat' (first
          | refine sg_wo ?_
          | refine sg_ps (ps_move rfl) rfl ?_
          | refine sg_ps (ps_assign rfl) rfl ?_
          | refine sg_seq ?_
          | refine sg_region ?_
          | refine sg_nil ?_
          | refine sg_then ?_
          | refine sg_ps (ps_fieldAddr rfl) rfl ?_
          | refine sg_ps (ps_nilCheck rfl) rfl ?_
          | refine sg_load 0 rfl rfl rfl rfl ?_
          | refine sg_load 1 rfl rfl rfl rfl ?_
          | refine sg_load 2 rfl rfl rfl rfl ?_
          | refine sg_load 3 rfl rfl rfl rfl ?_
          | refine sg_load 4 rfl rfl rfl rfl ?_
          | refine sg_load 5 rfl rfl rfl rfl ?_
          | refine sg_load 6 rfl rfl rfl rfl ?_
          | refine sg_load 7 rfl rfl rfl rfl ?_
          | refine sg_ps (ps_add64 rfl rfl (by omega)) rfl ?_
          | refine sg_ps (ps_sub64 rfl rfl (by omega)) rfl ?_
          | refine sg_ps (ps_mul64 rfl rfl (by omega)) rfl ?_
          | refine sg_ps (ps_bin rfl rfl inferInstance) rfl ?_
          | refine sg_ps (ps_rem rfl rfl (by decide)) rfl ?_
          | refine sg_ps (ps_quo64 rfl rfl (by decide) (by omega)) rfl ?_
          | refine sg_ps (ps_not rfl) rfl ?_
          | refine sg_ps (ps_conv rfl) rfl ?_
          | refine sg_ps (ps_shl rfl rfl (by decide) rfl) rfl ?_
          | refine sg_ps (ps_shr rfl rfl (by decide) rfl) rfl ?_
          | refine sg_cond_t rfl ?_
          | refine sg_cond_f rfl ?_
          | refine sg_guard_yes rfl rfl ?_
          | refine sg_guard_nf rfl rfl rfl ?_
          | refine sg_guard_nt rfl rfl rfl ?_
          | refine sg_guard_nu rfl rfl rfl ?_
          | refine sg_ps (ps_pick_t rfl rfl) rfl ?_
          | refine sg_ps (ps_pick_f rfl rfl) rfl ?_
          | refine sg_ps (ps_len rfl) rfl ?_
          | refine sg_ps (ps_len_str rfl) rfl ?_
          | refine sg_ps (ps_extract rfl rfl) rfl ?_
          | refine sg_ps (ps_field rfl rfl) rfl ?_
          | refine sg_ps (ps_min2 rfl rfl) rfl ?_
          | refine sg_ps (ps_max2 rfl rfl) rfl ?_
          | refine sg_ps (ps_build rfl rfl) rfl ?_
          | refine sg_box rfl rfl (fun bx => ?_)
          | refine sg_ps (ps_indexAddr rfl rfl rfl (by omega)) rfl ?_
          | refine sg_ps (ps_indexAddr (j := 0) rfl rfl rfl (by omega)) rfl ?_
          | refine sg_ps (ps_indexAddr (j := 1) rfl rfl rfl (by omega)) rfl ?_
          | refine sg_ps (ps_indexAddr_arr rfl rfl rfl (by omega)) rfl ?_
          | refine sg_block ?_
          | refine sg_skip ?_
          | refine sg_ret ?_
          | refine sg_exit ?_
          | refine ex_then_ret ?_
          | refine ex_then_exit ?_
          | refine ex_block_ret ?_
          | refine ex_block_normal ?_
          | refine ex_block_hit ?_
          | refine ex_block_miss rfl ?_
          | refine sg_store [] rfl rfl rfl (of_decide_eq_true rfl) ?_
          | refine sg_store [_] rfl rfl rfl (of_decide_eq_true rfl) ?_
          | refine sg_store [_, _] rfl rfl rfl (of_decide_eq_true rfl) ?_
          | refine sg_store [_, _, _] rfl rfl rfl (of_decide_eq_true rfl) ?_
          | refine sg_store [_, _, _, _] rfl rfl rfl (of_decide_eq_true rfl) ?_
          | refine sg_store [_, _, _, _, _] rfl rfl rfl (of_decide_eq_true rfl) ?_
          | refine sg_store [_, _, _, _, _, _] rfl rfl rfl (of_decide_eq_true rfl) ?_
          | refine sg_store [_, _, _, _, _, _, _] rfl rfl rfl (of_decide_eq_true rfl) ?_
          | (refine sg_guard_dec rfl rfl (fun hg => ?_) (fun hg => ?_) <;> first | (exfalso; omega) | (exact absurd rfl hg) | skip)
          | (refine sg_guard_ndec rfl rfl (fun hg => ?_) (fun hg => ?_) <;> first | (exfalso; omega) | (exact absurd rfl hg) | skip)
          | (refine sg_cond_dec rfl (fun hg => ?_) (fun hg => ?_) <;> first | (exfalso; omega) | (exact absurd rfl hg) | skip)
          | (refine sg_cond_ndec rfl (fun hg => ?_) (fun hg => ?_) <;> first | (exfalso; omega) | (exact absurd rfl hg) | skip)
          | refine sg_cond_not rfl (fun hg => ?_) (fun hg => ?_)
          | refine sg_cond rfl (fun hg => ?_) (fun hg => ?_))
        rw [e2]
        exact ex_mid () trivial (.cons rfl (.cons rfl (.cons rfl (.cons rfl (.cons rfl (.cons rfl (.cons rfl (.cons rfl (.cons rfl (.cons rfl (.cons rfl (.cons rfl .nil)))))))))))) (fun w hO => hO)
    · intro _ _
      clear r0 hm hr5
      by_cases hm1 : m ≤ 1
      · rw [decide_eq_true hm1]
        by_cases hbl : bs.length ≤ 200
        · skip
          repeat' (first
            | refine sg_wo ?_
            | refine sg_ps (ps_move rfl) rfl ?_
            | refine sg_ps (ps_assign rfl) rfl ?_
            | refine sg_seq ?_
            | refine sg_region ?_
            | refine sg_nil ?_
            | refine sg_then ?_
            | refine sg_ps (ps_fieldAddr rfl) rfl ?_
            | refine sg_ps (ps_nilCheck rfl) rfl ?_
            | refine sg_load 0 rfl rfl rfl rfl ?_
            | refine sg_load 1 rfl rfl rfl rfl ?_
            | refine sg_load 2 rfl rfl rfl rfl ?_
            | refine sg_load 3 rfl rfl rfl rfl ?_
            | refine sg_load 4 rfl rfl rfl rfl ?_
            | refine sg_load 5 rfl rfl rfl rfl ?_
            | refine sg_load 6 rfl rfl rfl rfl ?_
            | refine sg_load 7 rfl rfl rfl rfl ?_
            | refine sg_ps (ps_add64 rfl rfl (by omega)) rfl ?_
            | refine sg_ps (ps_sub64 rfl rfl (by omega)) rfl ?_
            | refine sg_ps (ps_mul64 rfl rfl (by omega)) rfl ?_
            | refine sg_ps (ps_bin rfl rfl inferInstance) rfl ?_
            | refine sg_ps (ps_rem rfl rfl (by decide)) rfl ?_
            | refine sg_ps (ps_quo64 rfl rfl (by decide) (by omega)) rfl ?_
            | refine sg_ps (ps_not rfl) rfl ?_
            | refine sg_ps (ps_conv rfl) rfl ?_
            | refine sg_ps (ps_shl rfl rfl (by decide) rfl) rfl ?_
            | refine sg_ps (ps_shr rfl rfl (by decide) rfl) rfl ?_
            | refine sg_cond_t rfl ?_
            | refine sg_cond_f rfl ?_
            | refine sg_guard_yes rfl rfl ?_
            | refine sg_guard_nf rfl rfl rfl ?_
            | refine sg_guard_nt rfl rfl rfl ?_
            | refine sg_guard_nu rfl rfl rfl ?_
            | refine sg_ps (ps_pick_t rfl rfl) rfl ?_
            | refine sg_ps (ps_pick_f rfl rfl) rfl ?_
            | refine sg_ps (ps_len rfl) rfl ?_
            | refine sg_ps (ps_len_str rfl) rfl ?_
            | refine sg_ps (ps_extract rfl rfl) rfl ?_
            | refine sg_ps (ps_field rfl rfl) rfl ?_
            | refine sg_ps (ps_min2 rfl rfl) rfl ?_
            | refine sg_ps (ps_max2 rfl rfl) rfl ?_
            | refine sg_ps (ps_build rfl rfl) rfl ?_
            | refine sg_box rfl rfl (fun bx => ?_)
            | refine sg_ps (ps_indexAddr rfl rfl rfl (by omega)) rfl ?_
            | refine sg_ps (ps_indexAddr (j := 0) rfl rfl rfl (by omega)) rfl ?_
            | refine sg_ps (ps_indexAddr (j := 1) rfl rfl rfl (by omega)) rfl ?_
            | refine sg_ps (ps_indexAddr_arr rfl rfl rfl (by omega)) rfl ?_
            | refine sg_block ?_
            | refine sg_skip ?_
            | refine sg_ret ?_
            | refine sg_exit ?_
            | refine ex_then_ret ?_
            | refine ex_then_exit ?_
            | refine ex_block_ret ?_
            | refine ex_block_normal ?_
            | refine ex_block_hit ?_
            | refine ex_block_miss rfl ?_
            | refine sg_store [] rfl rfl rfl (of_decide_eq_true rfl) ?_
            | refine sg_store [_] rfl rfl rfl (of_decide_eq_true rfl) ?_
            | refine sg_store [_, _] rfl rfl rfl (of_decide_eq_true rfl) ?_
            | refine sg_store [_, _, _] rfl rfl rfl (of_decide_eq_true rfl) ?_
            | refine sg_store [_, _, _, _] rfl rfl rfl (of_decide_eq_true rfl) ?_
            | refine sg_store [_, _, _, _, _] rfl rfl rfl (of_decide_eq_true rfl) ?_
            | refine sg_store [_, _, _, _, _, _] rfl rfl rfl (of_decide_eq_true rfl) ?_
            | refine sg_store [_, _, _, _, _, _, _] rfl rfl rfl (of_decide_eq_true rfl) ?_
            | (refine sg_guard_dec rfl rfl (fun hg => ?_) (fun hg => ?_) <;> first | (exfalso; omega) | (exact absurd rfl hg) | skip)
            | (refine sg_guard_ndec rfl rfl (fun hg => ?_) (fun hg => ?_) <;> first | (exfalso; omega) | (exact absurd rfl hg) | skip)
            | (refine sg_cond_dec rfl (fun hg => ?_) (fun hg => ?_) <;> first | (exfalso; omega) | (exact absurd rfl hg) | skip)
            | (refine sg_cond_ndec rfl (fun hg => ?_) (fun hg => ?_) <;> first | (exfalso; omega) | (exact absurd rfl hg) | skip)
            | refine sg_cond_not rfl (fun hg => ?_) (fun hg => ?_)
            | refine sg_cond rfl (fun hg => ?_) (fun hg => ?_))
          have hap := wappend_tri (W := W) lg d ⟨0, 16, mt, hd, nx⟩ D bs bb bc [blk al [i64 x1, i64 x2, .int .u32 x3, .slice bb bs.length bc, .slice ka keep.length kc], BsRep oa oc cs, old W] (ok_mk hsl (by decide) (by decide) (by decide) (by omega) (by omega) (by omega)) n1 (by show nx - hd ≤ 16; omega) (by show nx + 700 < _; omega) hb1 (by omega) (r1.rd 2 rfl) (by omega) (by omega)
          rcases hI.append (data := bs) (by omega) with e1 | ⟨E, nx2, e1, hJ⟩ | ⟨hpf, _⟩
          · rw [e1] at hap
            refine sg_call (hap.pre (fun w hO => hO.pick [2, 3, 0, 1, 4] (by decide))) rfl rfl (fun _ _ => ?_)
            repeat' (first
              | refine sg_wo ?_
              | refine sg_ps (ps_move rfl) rfl ?_
              | refine sg_ps (ps_assign rfl) rfl ?_
              | refine sg_seq ?_
              | refine sg_region ?_
              | refine sg_nil ?_
              | refine sg_then ?_
              | refine sg_ps (ps_fieldAddr rfl) rfl ?_
              | refine sg_ps (ps_nilCheck rfl) rfl ?_
              | refine sg_load 0 rfl rfl rfl rfl ?_
              | refine sg_load 1 rfl rfl rfl rfl ?_
              | refine sg_load 2 rfl rfl rfl rfl ?_
              | refine sg_load 3 rfl rfl rfl rfl ?_
              | refine sg_load 4 rfl rfl rfl rfl ?_
              | refine sg_load 5 rfl rfl rfl rfl ?_
              | refine sg_load 6 rfl rfl rfl rfl ?_
              | refine sg_load 7 rfl rfl rfl rfl ?_
              | refine sg_ps (ps_add64 rfl rfl (by omega)) rfl ?_
              | refine sg_ps (ps_sub64 rfl rfl (by omega)) rfl ?_
              | refine sg_ps (ps_mul64 rfl rfl (by omega)) rfl ?_
              | refine sg_ps (ps_bin rfl rfl inferInstance) rfl ?_
              | refine sg_ps (ps_rem rfl rfl (by decide)) rfl ?_
              | refine sg_ps (ps_quo64 rfl rfl (by decide) (by omega)) rfl ?_
              | refine sg_ps (ps_not rfl) rfl ?_
              | refine sg_ps (ps_conv rfl) rfl ?_
              | refine sg_ps (ps_shl rfl rfl (by decide) rfl) rfl ?_
              | refine sg_ps (ps_shr rfl rfl (by decide) rfl) rfl ?_
              | refine sg_cond_t rfl ?_
              | refine sg_cond_f rfl ?_
              | refine sg_guard_yes rfl rfl ?_
              | refine sg_guard_nf rfl rfl rfl ?_
              | refine sg_guard_nt rfl rfl rfl ?_
              | refine sg_guard_nu rfl rfl rfl ?_
              | refine sg_ps (ps_pick_t rfl rfl) rfl ?_
              | refine sg_ps (ps_pick_f rfl rfl) rfl ?_
              | refine sg_ps (ps_len rfl) rfl ?_
              | refine sg_ps (ps_len_str rfl) rfl ?_
              | refine sg_ps (ps_extract rfl rfl) rfl ?_
              | refine sg_ps (ps_field rfl rfl) rfl ?_
              | refine sg_ps (ps_min2 rfl rfl) rfl ?_
              | refine sg_ps (ps_max2 rfl rfl) rfl ?_
              | refine sg_ps (ps_build rfl rfl) rfl ?_
              | refine sg_box rfl rfl (fun bx => ?_)
              | refine sg_ps (ps_indexAddr rfl rfl rfl (by omega)) rfl ?_
              | refine sg_ps (ps_indexAddr (j := 0) rfl rfl rfl (by omega)) rfl ?_
              | refine sg_ps (ps_indexAddr (j := 1) rfl rfl rfl (by omega)) rfl ?_
              | refine sg_ps (ps_indexAddr_arr rfl rfl rfl (by omega)) rfl ?_
              | refine sg_block ?_
              | refine sg_skip ?_
              | refine sg_ret ?_
              | refine sg_exit ?_
              | refine ex_then_ret ?_
              | refine ex_then_exit ?_
              | refine ex_block_ret ?_
              | refine ex_block_normal ?_
              | refine ex_block_hit ?_
              | refine ex_block_miss rfl ?_
              | refine sg_store [] rfl rfl rfl (of_decide_eq_true rfl) ?_
              | refine sg_store [_] rfl rfl rfl (of_decide_eq_true rfl) ?_
              | refine sg_store [_, _] rfl rfl rfl (of_decide_eq_true rfl) ?_
              | refine sg_store [_, _, _] rfl rfl rfl (of_decide_eq_true rfl) ?_
              | refine sg_store [_, _, _, _] rfl rfl rfl (of_decide_eq_true rfl) ?_
              | refine sg_store [_, _, _, _, _] rfl rfl rfl (of_decide_eq_true rfl) ?_
              | refine sg_store [_, _, _, _, _, _] rfl rfl rfl (of_decide_eq_true rfl) ?_
              | refine sg_store [_, _, _, _, _, _, _] rfl rfl rfl (of_decide_eq_true rfl) ?_
              | (refine sg_guard_dec rfl rfl (fun hg => ?_) (fun hg => ?_) <;> first | (exfalso; omega) | (exact absurd rfl hg) | skip)
              | (refine sg_guard_ndec rfl rfl (fun hg => ?_) (fun hg => ?_) <;> first | (exfalso; omega) | (exact absurd rfl hg) | skip)
              | (refine sg_cond_dec rfl (fun hg => ?_) (fun hg => ?_) <;> first | (exfalso; omega) | (exact absurd rfl hg) | skip)
              | (refine sg_cond_ndec rfl (fun hg => ?_) (fun hg => ?_) <;> first | (exfalso; omega) | (exact absurd rfl hg) | skip)
              | refine sg_cond_not rfl (fun hg => ?_) (fun hg => ?_)
              | refine sg_cond rfl (fun hg => ?_) (fun hg => ?_))
            exact ex_mid ((⟨nx, mt, ls, hd, safe, D, cs⟩, oa, oc, lg), i + 1) ⟨by show 60 - (i + 1) < 60 - i; omega, ⟨by omega, by omega⟩, hI.mono, hsl⟩ (.cons rfl (.cons rfl (.cons rfl (.cons rfl (.cons rfl (.cons rfl (.cons rfl (.cons rfl (.cons rfl .nil))))))))) (fun w hO => hO.pick [3, 0, 1, 4] (by decide))
          · have hEl := congrArg (fun r : WR => r.D.seen.length) e1
            have hEl : (wappend ⟨0, 16, mt, hd, nx⟩ D bs).D.seen.length = E.seen.length := hEl
            rw [(wappend_other _ _ _).2, hsl] at hEl
            rw [e1] at hap
            refine sg_call (hap.pre (fun w hO => hO.pick [2, 3, 0, 1, 4] (by decide))) rfl rfl (fun _ _ => ?_)
            repeat' (first
              | refine sg_wo ?_
              | refine sg_ps (ps_move rfl) rfl ?_
              | refine sg_ps (ps_assign rfl) rfl ?_
              | refine sg_seq ?_
              | refine sg_region ?_
              | refine sg_nil ?_
              | refine sg_then ?_
              | refine sg_ps (ps_fieldAddr rfl) rfl ?_
              | refine sg_ps (ps_nilCheck rfl) rfl ?_
              | refine sg_load 0 rfl rfl rfl rfl ?_
              | refine sg_load 1 rfl rfl rfl rfl ?_
              | refine sg_load 2 rfl rfl rfl rfl ?_
              | refine sg_load 3 rfl rfl rfl rfl ?_
              | refine sg_load 4 rfl rfl rfl rfl ?_
              | refine sg_load 5 rfl rfl rfl rfl ?_
              | refine sg_load 6 rfl rfl rfl rfl ?_
              | refine sg_load 7 rfl rfl rfl rfl ?_
              | refine sg_ps (ps_add64 rfl rfl (by omega)) rfl ?_
              | refine sg_ps (ps_sub64 rfl rfl (by omega)) rfl ?_
              | refine sg_ps (ps_mul64 rfl rfl (by omega)) rfl ?_
              | refine sg_ps (ps_bin rfl rfl inferInstance) rfl ?_
              | refine sg_ps (ps_rem rfl rfl (by decide)) rfl ?_
              | refine sg_ps (ps_quo64 rfl rfl (by decide) (by omega)) rfl ?_
              | refine sg_ps (ps_not rfl) rfl ?_
              | refine sg_ps (ps_conv rfl) rfl ?_
              | refine sg_ps (ps_shl rfl rfl (by decide) rfl) rfl ?_
              | refine sg_ps (ps_shr rfl rfl (by decide) rfl) rfl ?_
              | refine sg_cond_t rfl ?_
              | refine sg_cond_f rfl ?_
              | refine sg_guard_yes rfl rfl ?_
              | refine sg_guard_nf rfl rfl rfl ?_
              | refine sg_guard_nt rfl rfl rfl ?_
              | refine sg_guard_nu rfl rfl rfl ?_
              | refine sg_ps (ps_pick_t rfl rfl) rfl ?_
              | refine sg_ps (ps_pick_f rfl rfl) rfl ?_
              | refine sg_ps (ps_len rfl) rfl ?_
              | refine sg_ps (ps_len_str rfl) rfl ?_
              | refine sg_ps (ps_extract rfl rfl) rfl ?_
              | refine sg_ps (ps_field rfl rfl) rfl ?_
              | refine sg_ps (ps_min2 rfl rfl) rfl ?_
              | refine sg_ps (ps_max2 rfl rfl) rfl ?_
              | refine sg_ps (ps_build rfl rfl) rfl ?_
              | refine sg_box rfl rfl (fun bx => ?_)
              | refine sg_ps (ps_indexAddr rfl rfl rfl (by omega)) rfl ?_
              | refine sg_ps (ps_indexAddr (j := 0) rfl rfl rfl (by omega)) rfl ?_
              | refine sg_ps (ps_indexAddr (j := 1) rfl rfl rfl (by omega)) rfl ?_
              | refine sg_ps (ps_indexAddr_arr rfl rfl rfl (by omega)) rfl ?_
              | refine sg_block ?_
              | refine sg_skip ?_
              | refine sg_ret ?_
              | refine sg_exit ?_
              | refine ex_then_ret ?_
              | refine ex_then_exit ?_
              | refine ex_block_ret ?_
              | refine ex_block_normal ?_
              | refine ex_block_hit ?_
              | refine ex_block_miss rfl ?_
              | refine sg_store [] rfl rfl rfl (of_decide_eq_true rfl) ?_
              | refine sg_store [_] rfl rfl rfl (of_decide_eq_true rfl) ?_
              | refine sg_store [_, _] rfl rfl rfl (of_decide_eq_true rfl) ?_
              | refine sg_store [_, _, _] rfl rfl rfl (of_decide_eq_true rfl) ?_
              | refine sg_store [_, _, _, _] rfl rfl rfl (of_decide_eq_true rfl) ?_
              | refine sg_store [_, _, _, _, _] rfl rfl rfl (of_decide_eq_true rfl) ?_
              | refine sg_store [_, _, _, _, _, _] rfl rfl rfl (of_decide_eq_true rfl) ?_
              | refine sg_store [_, _, _, _, _, _, _] rfl rfl rfl (of_decide_eq_true rfl) ?_
              | (refine sg_guard_dec rfl rfl (fun hg => ?_) (fun hg => ?_) <;> first | (exfalso; omega) | (exact absurd rfl hg) | skip)
              | (refine sg_guard_ndec rfl rfl (fun hg => ?_) (fun hg => ?_) <;> first | (exfalso; omega) | (exact absurd rfl hg) | skip)
              | (refine sg_cond_dec rfl (fun hg => ?_) (fun hg => ?_) <;> first | (exfalso; omega) | (exact absurd rfl hg) | skip)
              | (refine sg_cond_ndec rfl (fun hg => ?_) (fun hg => ?_) <;> first | (exfalso; omega) | (exact absurd rfl hg) | skip)
              | refine sg_cond_not rfl (fun hg => ?_) (fun hg => ?_)
              | refine sg_cond rfl (fun hg => ?_) (fun hg => ?_))
            refine sg_call (rawCopy_tri bs bb bc (by omega) _ (r1.rd 4 rfl)) rfl rfl (fun x _ => ?_)
            obtain ⟨ca, cc⟩ := x
            repeat' (first
              | refine sg_wo ?_
              | refine sg_ps (ps_move rfl) rfl ?_
              | refine sg_ps (ps_assign rfl) rfl ?_
              | refine sg_seq ?_
              | refine sg_region ?_
              | refine sg_nil ?_
              | refine sg_then ?_
              | refine sg_ps (ps_fieldAddr rfl) rfl ?_
              | refine sg_ps (ps_nilCheck rfl) rfl ?_
              | refine sg_load 0 rfl rfl rfl rfl ?_
              | refine sg_load 1 rfl rfl rfl rfl ?_
              | refine sg_load 2 rfl rfl rfl rfl ?_
              | refine sg_load 3 rfl rfl rfl rfl ?_
              | refine sg_load 4 rfl rfl rfl rfl ?_
              | refine sg_load 5 rfl rfl rfl rfl ?_
              | refine sg_load 6 rfl rfl rfl rfl ?_
              | refine sg_load 7 rfl rfl rfl rfl ?_
              | refine sg_ps (ps_add64 rfl rfl (by omega)) rfl ?_
              | refine sg_ps (ps_sub64 rfl rfl (by omega)) rfl ?_
              | refine sg_ps (ps_mul64 rfl rfl (by omega)) rfl ?_
              | refine sg_ps (ps_bin rfl rfl inferInstance) rfl ?_
              | refine sg_ps (ps_rem rfl rfl (by decide)) rfl ?_
              | refine sg_ps (ps_quo64 rfl rfl (by decide) (by omega)) rfl ?_
              | refine sg_ps (ps_not rfl) rfl ?_
              | refine sg_ps (ps_conv rfl) rfl ?_
              | refine sg_ps (ps_shl rfl rfl (by decide) rfl) rfl ?_
              | refine sg_ps (ps_shr rfl rfl (by decide) rfl) rfl ?_
              | refine sg_cond_t rfl ?_
              | refine sg_cond_f rfl ?_
              | refine sg_guard_yes rfl rfl ?_
              | refine sg_guard_nf rfl rfl rfl ?_
              | refine sg_guard_nt rfl rfl rfl ?_
              | refine sg_guard_nu rfl rfl rfl ?_
              | refine sg_ps (ps_pick_t rfl rfl) rfl ?_
              | refine sg_ps (ps_pick_f rfl rfl) rfl ?_
              | refine sg_ps (ps_len rfl) rfl ?_
              | refine sg_ps (ps_len_str rfl) rfl ?_
              | refine sg_ps (ps_extract rfl rfl) rfl ?_
              | refine sg_ps (ps_field rfl rfl) rfl ?_
              | refine sg_ps (ps_min2 rfl rfl) rfl ?_
              | refine sg_ps (ps_max2 rfl rfl) rfl ?_
              | refine sg_ps (ps_build rfl rfl) rfl ?_
              | refine sg_box rfl rfl (fun bx => ?_)
              | refine sg_ps (ps_indexAddr rfl rfl rfl (by omega)) rfl ?_
              | refine sg_ps (ps_indexAddr (j := 0) rfl rfl rfl (by omega)) rfl ?_
              | refine sg_ps (ps_indexAddr (j := 1) rfl rfl rfl (by omega)) rfl ?_
              | refine sg_ps (ps_indexAddr_arr rfl rfl rfl (by omega)) rfl ?_
              | refine sg_block ?_
              | refine sg_skip ?_
              | refine sg_ret ?_
              | refine sg_exit ?_
              | refine ex_then_ret ?_
              | refine ex_then_exit ?_
              | refine ex_block_ret ?_
              | refine ex_block_normal ?_
              | refine ex_block_hit ?_
              | refine ex_block_miss rfl ?_
              | refine sg_store [] rfl rfl rfl (of_decide_eq_true rfl) ?_
              | refine sg_store [_] rfl rfl rfl (of_decide_eq_true rfl) ?_
              | refine sg_store [_, _] rfl rfl rfl (of_decide_eq_true rfl) ?_
              | refine sg_store [_, _, _] rfl rfl rfl (of_decide_eq_true rfl) ?_
              | refine sg_store [_, _, _, _] rfl rfl rfl (of_decide_eq_true rfl) ?_
              | refine sg_store [_, _, _, _, _] rfl rfl rfl (of_decide_eq_true rfl) ?_
              | refine sg_store [_, _, _, _, _, _] rfl rfl rfl (of_decide_eq_true rfl) ?_
              | refine sg_store [_, _, _, _, _, _, _] rfl rfl rfl (of_decide_eq_true rfl) ?_
              | (refine sg_guard_dec rfl rfl (fun hg => ?_) (fun hg => ?_) <;> first | (exfalso; omega) | (exact absurd rfl hg) | skip)
              | (refine sg_guard_ndec rfl rfl (fun hg => ?_) (fun hg => ?_) <;> first | (exfalso; omega) | (exact absurd rfl hg) | skip)
              | (refine sg_cond_dec rfl (fun hg => ?_) (fun hg => ?_) <;> first | (exfalso; omega) | (exact absurd rfl hg) | skip)
              | (refine sg_cond_ndec rfl (fun hg => ?_) (fun hg => ?_) <;> first | (exfalso; omega) | (exact absurd rfl hg) | skip)
              | refine sg_cond_not rfl (fun hg => ?_) (fun hg => ?_)
              | refine sg_cond rfl (fun hg => ?_) (fun hg => ?_))
            refine sg_buildSlice1 (sz := 1) (vs := [CB.hdr ⟨bs, ca, cc⟩]) rfl (by decide) rfl rfl rfl (fun vb => ?_)
            refine sg_own (L' := sown oa cs.length oc 1 (cs.map CB.hdr) :: blk vb [CB.hdr ⟨bs, ca, cc⟩] :: CB.chunk ⟨bs, ca, cc⟩ :: (cs.map CB.chunk ++ [blk lg (lcells d ⟨0, 16, mt, hd, nx2⟩), DiskRep d E, old W])) (fun w hO => bs_open (hO.pick [5, 0, 1, 2, 3, 6] (by decide))) ?_
            repeat' (first
              | refine sg_wo ?_
              | refine sg_ps (ps_move rfl) rfl ?_
              | refine sg_ps (ps_assign rfl) rfl ?_
              | refine sg_seq ?_
              | refine sg_region ?_
              | refine sg_nil ?_
              | refine sg_then ?_
              | refine sg_ps (ps_fieldAddr rfl) rfl ?_
              | refine sg_ps (ps_nilCheck rfl) rfl ?_
              | refine sg_load 0 rfl rfl rfl rfl ?_
              | refine sg_load 1 rfl rfl rfl rfl ?_
              | refine sg_load 2 rfl rfl rfl rfl ?_
              | refine sg_load 3 rfl rfl rfl rfl ?_
              | refine sg_load 4 rfl rfl rfl rfl ?_
              | refine sg_load 5 rfl rfl rfl rfl ?_
              | refine sg_load 6 rfl rfl rfl rfl ?_
              | refine sg_load 7 rfl rfl rfl rfl ?_
              | refine sg_ps (ps_add64 rfl rfl (by omega)) rfl ?_
              | refine sg_ps (ps_sub64 rfl rfl (by omega)) rfl ?_
              | refine sg_ps (ps_mul64 rfl rfl (by omega)) rfl ?_
              | refine sg_ps (ps_bin rfl rfl inferInstance) rfl ?_
              | refine sg_ps (ps_rem rfl rfl (by decide)) rfl ?_
              | refine sg_ps (ps_quo64 rfl rfl (by decide) (by omega)) rfl ?_
              | refine sg_ps (ps_not rfl) rfl ?_
              | refine sg_ps (ps_conv rfl) rfl ?_
              | refine sg_ps (ps_shl rfl rfl (by decide) rfl) rfl ?_
              | refine sg_ps (ps_shr rfl rfl (by decide) rfl) rfl ?_
              | refine sg_cond_t rfl ?_
              | refine sg_cond_f rfl ?_
              | refine sg_guard_yes rfl rfl ?_
              | refine sg_guard_nf rfl rfl rfl ?_
              | refine sg_guard_nt rfl rfl rfl ?_
              | refine sg_guard_nu rfl rfl rfl ?_
              | refine sg_ps (ps_pick_t rfl rfl) rfl ?_
              | refine sg_ps (ps_pick_f rfl rfl) rfl ?_
              | refine sg_ps (ps_len rfl) rfl ?_
              | refine sg_ps (ps_len_str rfl) rfl ?_
              | refine sg_ps (ps_extract rfl rfl) rfl ?_
              | refine sg_ps (ps_field rfl rfl) rfl ?_
              | refine sg_ps (ps_min2 rfl rfl) rfl ?_
              | refine sg_ps (ps_max2 rfl rfl) rfl ?_
              | refine sg_ps (ps_build rfl rfl) rfl ?_
              | refine sg_box rfl rfl (fun bx => ?_)
              | refine sg_ps (ps_indexAddr rfl rfl rfl (by omega)) rfl ?_
              | refine sg_ps (ps_indexAddr (j := 0) rfl rfl rfl (by omega)) rfl ?_
              | refine sg_ps (ps_indexAddr (j := 1) rfl rfl rfl (by omega)) rfl ?_
              | refine sg_ps (ps_indexAddr_arr rfl rfl rfl (by omega)) rfl ?_
              | refine sg_block ?_
              | refine sg_skip ?_
              | refine sg_ret ?_
              | refine sg_exit ?_
              | refine ex_then_ret ?_
              | refine ex_then_exit ?_
              | refine ex_block_ret ?_
              | refine ex_block_normal ?_
              | refine ex_block_hit ?_
              | refine ex_block_miss rfl ?_
              | refine sg_store [] rfl rfl rfl (of_decide_eq_true rfl) ?_
              | refine sg_store [_] rfl rfl rfl (of_decide_eq_true rfl) ?_
              | refine sg_store [_, _] rfl rfl rfl (of_decide_eq_true rfl) ?_
              | refine sg_store [_, _, _] rfl rfl rfl (of_decide_eq_true rfl) ?_
              | refine sg_store [_, _, _, _] rfl rfl rfl (of_decide_eq_true rfl) ?_
              | refine sg_store [_, _, _, _, _] rfl rfl rfl (of_decide_eq_true rfl) ?_
              | refine sg_store [_, _, _, _, _, _] rfl rfl rfl (of_decide_eq_true rfl) ?_
              | refine sg_store [_, _, _, _, _, _, _] rfl rfl rfl (of_decide_eq_true rfl) ?_
              | (refine sg_guard_dec rfl rfl (fun hg => ?_) (fun hg => ?_) <;> first | (exfalso; omega) | (exact absurd rfl hg) | skip)
              | (refine sg_guard_ndec rfl rfl (fun hg => ?_) (fun hg => ?_) <;> first | (exfalso; omega) | (exact absurd rfl hg) | skip)
              | (refine sg_cond_dec rfl (fun hg => ?_) (fun hg => ?_) <;> first | (exfalso; omega) | (exact absurd rfl hg) | skip)
              | (refine sg_cond_ndec rfl (fun hg => ?_) (fun hg => ?_) <;> first | (exfalso; omega) | (exact absurd rfl hg) | skip)
              | refine sg_cond_not rfl (fun hg => ?_) (fun hg => ?_)
              | refine sg_cond rfl (fun hg => ?_) (fun hg => ?_))
            refine sg_append (sz := 1) (m := 1) (news := [CB.hdr ⟨bs, ca, cc⟩]) rfl rfl rfl rfl (by intro u hu; simp at hu; subst hu; rfl) (rd_blk 1 rfl (fun j u h => by rw [Nat.zero_add]; exact h)) (by simp only [maxLen]; omega) (by omega) (fun a2 c2 => ?_)
            refine sg_own (L' := [BsRep a2 c2 (cs ++ [⟨bs, ca, cc⟩]), blk lg (lcells d ⟨0, 16, mt, hd, nx2⟩), DiskRep d E, old W]) (fun w hO => bs_snoc (r := ⟨bs, ca, cc⟩) hO.front1.tail) ?_
            rw [show cs.length + 1 = (cs ++ [(⟨bs, ca, cc⟩ : CB)]).length by simp]
            repeat' (first
              | refine sg_wo ?_
              | refine sg_ps (ps_move rfl) rfl ?_
              | refine sg_ps (ps_assign rfl) rfl ?_
              | refine sg_seq ?_
              | refine sg_region ?_
              | refine sg_nil ?_
              | refine sg_then ?_
              | refine sg_ps (ps_fieldAddr rfl) rfl ?_
              | refine sg_ps (ps_nilCheck rfl) rfl ?_
              | refine sg_load 0 rfl rfl rfl rfl ?_
              | refine sg_load 1 rfl rfl rfl rfl ?_
              | refine sg_load 2 rfl rfl rfl rfl ?_
              | refine sg_load 3 rfl rfl rfl rfl ?_
              | refine sg_load 4 rfl rfl rfl rfl ?_
              | refine sg_load 5 rfl rfl rfl rfl ?_
              | refine sg_load 6 rfl rfl rfl rfl ?_
              | refine sg_load 7 rfl rfl rfl rfl ?_
              | refine sg_ps (ps_add64 rfl rfl (by omega)) rfl ?_
              | refine sg_ps (ps_sub64 rfl rfl (by omega)) rfl ?_
              | refine sg_ps (ps_mul64 rfl rfl (by omega)) rfl ?_
              | refine sg_ps (ps_bin rfl rfl inferInstance) rfl ?_
              | refine sg_ps (ps_rem rfl rfl (by decide)) rfl ?_
              | refine sg_ps (ps_quo64 rfl rfl (by decide) (by omega)) rfl ?_
              | refine sg_ps (ps_not rfl) rfl ?_
              | refine sg_ps (ps_conv rfl) rfl ?_
              | refine sg_ps (ps_shl rfl rfl (by decide) rfl) rfl ?_
              | refine sg_ps (ps_shr rfl rfl (by decide) rfl) rfl ?_
              | refine sg_cond_t rfl ?_
              | refine sg_cond_f rfl ?_
              | refine sg_guard_yes rfl rfl ?_
              | refine sg_guard_nf rfl rfl rfl ?_
              | refine sg_guard_nt rfl rfl rfl ?_
              | refine sg_guard_nu rfl rfl rfl ?_
              | refine sg_ps (ps_pick_t rfl rfl) rfl ?_
              | refine sg_ps (ps_pick_f rfl rfl) rfl ?_
              | refine sg_ps (ps_len rfl) rfl ?_
              | refine sg_ps (ps_len_str rfl) rfl ?_
              | refine sg_ps (ps_extract rfl rfl) rfl ?_
              | refine sg_ps (ps_field rfl rfl) rfl ?_
              | refine sg_ps (ps_min2 rfl rfl) rfl ?_
              | refine sg_ps (ps_max2 rfl rfl) rfl ?_
              | refine sg_ps (ps_build rfl rfl) rfl ?_
              | refine sg_box rfl rfl (fun bx => ?_)
              | refine sg_ps (ps_indexAddr rfl rfl rfl (by omega)) rfl ?_
              | refine sg_ps (ps_indexAddr (j := 0) rfl rfl rfl (by omega)) rfl ?_
              | refine sg_ps (ps_indexAddr (j := 1) rfl rfl rfl (by omega)) rfl ?_
              | refine sg_ps (ps_indexAddr_arr rfl rfl rfl (by omega)) rfl ?_
              | refine sg_block ?_
              | refine sg_skip ?_
              | refine sg_ret ?_
              | refine sg_exit ?_
              | refine ex_then_ret ?_
              | refine ex_then_exit ?_
              | refine ex_block_ret ?_
              | refine ex_block_normal ?_
              | refine ex_block_hit ?_
              | refine ex_block_miss rfl ?_
              | refine sg_store [] rfl rfl rfl (of_decide_eq_true rfl) ?_
              | refine sg_store [_] rfl rfl rfl (of_decide_eq_true rfl) ?_
              | refine sg_store [_, _] rfl rfl rfl (of_decide_eq_true rfl) ?_
              | refine sg_store [_, _, _] rfl rfl rfl (of_decide_eq_true rfl) ?_
              | refine sg_store [_, _, _, _] rfl rfl rfl (of_decide_eq_true rfl) ?_
              | refine sg_store [_, _, _, _, _] rfl rfl rfl (of_decide_eq_true rfl) ?_
              | refine sg_store [_, _, _, _, _, _] rfl rfl rfl (of_decide_eq_true rfl) ?_
              | refine sg_store [_, _, _, _, _, _, _] rfl rfl rfl (of_decide_eq_true rfl) ?_
              | (refine sg_guard_dec rfl rfl (fun hg => ?_) (fun hg => ?_) <;> first | (exfalso; omega) | (exact absurd rfl hg) | skip)
              | (refine sg_guard_ndec rfl rfl (fun hg => ?_) (fun hg => ?_) <;> first | (exfalso; omega) | (exact absurd rfl hg) | skip)
              | (refine sg_cond_dec rfl (fun hg => ?_) (fun hg => ?_) <;> first | (exfalso; omega) | (exact absurd rfl hg) | skip)
              | (refine sg_cond_ndec rfl (fun hg => ?_) (fun hg => ?_) <;> first | (exfalso; omega) | (exact absurd rfl hg) | skip)
              | refine sg_cond_not rfl (fun hg => ?_) (fun hg => ?_)
              | refine sg_cond rfl (fun hg => ?_) (fun hg => ?_))
            exact ex_mid ((⟨nx2, mt, ls, hd, safe, E, cs ++ [⟨bs, ca, cc⟩]⟩, a2, c2, lg), i + 1) ⟨by show 60 - (i + 1) < 60 - i; omega, ⟨by omega, by omega⟩, hJ ⟨bs, ca, cc⟩ rfl, hEl.symm⟩ (.cons rfl (.cons rfl (.cons rfl (.cons rfl (.cons rfl (.cons rfl (.cons rfl (.cons rfl (.cons rfl .nil))))))))) (fun w hO => hO)
          · cases hpf
        · skip
          repeat' (first
            | refine sg_wo ?_
            | refine sg_ps (ps_move rfl) rfl ?_
            | refine sg_ps (ps_assign rfl) rfl ?_
            | refine sg_seq ?_
            | refine sg_region ?_
            | refine sg_nil ?_
            | refine sg_then ?_
            | refine sg_ps (ps_fieldAddr rfl) rfl ?_
            | refine sg_ps (ps_nilCheck rfl) rfl ?_
            | refine sg_load 0 rfl rfl rfl rfl ?_
            | refine sg_load 1 rfl rfl rfl rfl ?_
            | refine sg_load 2 rfl rfl rfl rfl ?_
            | refine sg_load 3 rfl rfl rfl rfl ?_
            | refine sg_load 4 rfl rfl rfl rfl ?_
            | refine sg_load 5 rfl rfl rfl rfl ?_
            | refine sg_load 6 rfl rfl rfl rfl ?_
            | refine sg_load 7 rfl rfl rfl rfl ?_
            | refine sg_ps (ps_add64 rfl rfl (by omega)) rfl ?_
            | refine sg_ps (ps_sub64 rfl rfl (by omega)) rfl ?_
            | refine sg_ps (ps_mul64 rfl rfl (by omega)) rfl ?_
            | refine sg_ps (ps_bin rfl rfl inferInstance) rfl ?_
            | refine sg_ps (ps_rem rfl rfl (by decide)) rfl ?_
            | refine sg_ps (ps_quo64 rfl rfl (by decide) (by omega)) rfl ?_
            | refine sg_ps (ps_not rfl) rfl ?_
            | refine sg_ps (ps_conv rfl) rfl ?_
            | refine sg_ps (ps_shl rfl rfl (by decide) rfl) rfl ?_
            | refine sg_ps (ps_shr rfl rfl (by decide) rfl) rfl ?_
            | refine sg_cond_t rfl ?_
            | refine sg_cond_f rfl ?_
            | refine sg_guard_yes rfl rfl ?_
            | refine sg_guard_nf rfl rfl rfl ?_
            | refine sg_guard_nt rfl rfl rfl ?_
            | refine sg_guard_nu rfl rfl rfl ?_
            | refine sg_ps (ps_pick_t rfl rfl) rfl ?_
            | refine sg_ps (ps_pick_f rfl rfl) rfl ?_
            | refine sg_ps (ps_len rfl) rfl ?_
            | refine sg_ps (ps_len_str rfl) rfl ?_
            | refine sg_ps (ps_extract rfl rfl) rfl ?_
            | refine sg_ps (ps_field rfl rfl) rfl ?_
            | refine sg_ps (ps_min2 rfl rfl) rfl ?_
            | refine sg_ps (ps_max2 rfl rfl) rfl ?_
            | refine sg_ps (ps_build rfl rfl) rfl ?_
            | refine sg_box rfl rfl (fun bx => ?_)
            | refine sg_ps (ps_indexAddr rfl rfl rfl (by omega)) rfl ?_
            | refine sg_ps (ps_indexAddr (j := 0) rfl rfl rfl (by omega)) rfl ?_
            | refine sg_ps (ps_indexAddr (j := 1) rfl rfl rfl (by omega)) rfl ?_
            | refine sg_ps (ps_indexAddr_arr rfl rfl rfl (by omega)) rfl ?_
            | refine sg_block ?_
            | refine sg_skip ?_
            | refine sg_ret ?_
            | refine sg_exit ?_
            | refine ex_then_ret ?_
            | refine ex_then_exit ?_
            | refine ex_block_ret ?_
            | refine ex_block_normal ?_
            | refine ex_block_hit ?_
            | refine ex_block_miss rfl ?_
            | refine sg_store [] rfl rfl rfl (of_decide_eq_true rfl) ?_
            | refine sg_store [_] rfl rfl rfl (of_decide_eq_true rfl) ?_
            | refine sg_store [_, _] rfl rfl rfl (of_decide_eq_true rfl) ?_
            | refine sg_store [_, _, _] rfl rfl rfl (of_decide_eq_true rfl) ?_
            | refine sg_store [_, _, _, _] rfl rfl rfl (of_decide_eq_true rfl) ?_
            | refine sg_store [_, _, _, _, _] rfl rfl rfl (of_decide_eq_true rfl) ?_
            | refine sg_store [_, _, _, _, _, _] rfl rfl rfl (of_decide_eq_true rfl) ?_
            | refine sg_store [_, _, _, _, _, _, _] rfl rfl rfl (of_decide_eq_true rfl) ?_
            | (refine sg_guard_dec rfl rfl (fun hg => ?_) (fun hg => ?_) <;> first | (exfalso; omega) | (exact absurd rfl hg) | skip)
            | (refine sg_guard_ndec rfl rfl (fun hg => ?_) (fun hg => ?_) <;> first | (exfalso; omega) | (exact absurd rfl hg) | skip)
            | (refine sg_cond_dec rfl (fun hg => ?_) (fun hg => ?_) <;> first | (exfalso; omega) | (exact absurd rfl hg) | skip)
            | (refine sg_cond_ndec rfl (fun hg => ?_) (fun hg => ?_) <;> first | (exfalso; omega) | (exact absurd rfl hg) | skip)
            | refine sg_cond_not rfl (fun hg => ?_) (fun hg => ?_)
            | refine sg_cond rfl (fun hg => ?_) (fun hg => ?_))
          exact ex_mid ((⟨nx, mt, ls, hd, safe, D, cs⟩, oa, oc, lg), i + 1) ⟨by show 60 - (i + 1) < 60 - i; omega, ⟨by omega, by omega⟩, hI.mono, hsl⟩ (.cons rfl (.cons rfl (.cons rfl (.cons rfl (.cons rfl (.cons rfl (.cons rfl (.cons rfl (.cons rfl .nil))))))))) (fun w hO => hO.tail)
      · rw [decide_eq_false hm1]
        have hEl : D.sync.2.seen.length = 16 := by
          rw [← hsl]; unfold DS.sync; split <;> rfl
        rcases (by omega : m = 2 ∨ m = 3 ∨ 4 ≤ m) with rfl | rfl | hm4
        · skip
          repeat' (first
            | refine sg_wo ?_
            | refine sg_ps (ps_move rfl) rfl ?_
            | refine sg_ps (ps_assign rfl) rfl ?_
            | refine sg_seq ?_
            | refine sg_region ?_
            | refine sg_nil ?_
            | refine sg_then ?_
            | refine sg_ps (ps_fieldAddr rfl) rfl ?_
            | refine sg_ps (ps_nilCheck rfl) rfl ?_
            | refine sg_load 0 rfl rfl rfl rfl ?_
            | refine sg_load 1 rfl rfl rfl rfl ?_
            | refine sg_load 2 rfl rfl rfl rfl ?_
            | refine sg_load 3 rfl rfl rfl rfl ?_
            | refine sg_load 4 rfl rfl rfl rfl ?_
            | refine sg_load 5 rfl rfl rfl rfl ?_
            | refine sg_load 6 rfl rfl rfl rfl ?_
            | refine sg_load 7 rfl rfl rfl rfl ?_
            | refine sg_ps (ps_add64 rfl rfl (by omega)) rfl ?_
            | refine sg_ps (ps_sub64 rfl rfl (by omega)) rfl ?_
            | refine sg_ps (ps_mul64 rfl rfl (by omega)) rfl ?_
            | refine sg_ps (ps_bin rfl rfl inferInstance) rfl ?_
            | refine sg_ps (ps_rem rfl rfl (by decide)) rfl ?_
            | refine sg_ps (ps_quo64 rfl rfl (by decide) (by omega)) rfl ?_
            | refine sg_ps (ps_not rfl) rfl ?_
            | refine sg_ps (ps_conv rfl) rfl ?_
            | refine sg_ps (ps_shl rfl rfl (by decide) rfl) rfl ?_
            | refine sg_ps (ps_shr rfl rfl (by decide) rfl) rfl ?_
            | refine sg_cond_t rfl ?_
            | refine sg_cond_f rfl ?_
            | refine sg_guard_yes rfl rfl ?_
            | refine sg_guard_nf rfl rfl rfl ?_
            | refine sg_guard_nt rfl rfl rfl ?_
            | refine sg_guard_nu rfl rfl rfl ?_
            | refine sg_ps (ps_pick_t rfl rfl) rfl ?_
            | refine sg_ps (ps_pick_f rfl rfl) rfl ?_
            | refine sg_ps (ps_len rfl) rfl ?_
            | refine sg_ps (ps_len_str rfl) rfl ?_
            | refine sg_ps (ps_extract rfl rfl) rfl ?_
            | refine sg_ps (ps_field rfl rfl) rfl ?_
            | refine sg_ps (ps_min2 rfl rfl) rfl ?_
            | refine sg_ps (ps_max2 rfl rfl) rfl ?_
            | refine sg_ps (ps_build rfl rfl) rfl ?_
            | refine sg_box rfl rfl (fun bx => ?_)
            | refine sg_ps (ps_indexAddr rfl rfl rfl (by omega)) rfl ?_
            | refine sg_ps (ps_indexAddr (j := 0) rfl rfl rfl (by omega)) rfl ?_
            | refine sg_ps (ps_indexAddr (j := 1) rfl rfl rfl (by omega)) rfl ?_
            | refine sg_ps (ps_indexAddr_arr rfl rfl rfl (by omega)) rfl ?_
            | refine sg_block ?_
            | refine sg_skip ?_
            | refine sg_ret ?_
            | refine sg_exit ?_
            | refine ex_then_ret ?_
            | refine ex_then_exit ?_
            | refine ex_block_ret ?_
            | refine ex_block_normal ?_
            | refine ex_block_hit ?_
            | refine ex_block_miss rfl ?_
            | refine sg_store [] rfl rfl rfl (of_decide_eq_true rfl) ?_
            | refine sg_store [_] rfl rfl rfl (of_decide_eq_true rfl) ?_
            | refine sg_store [_, _] rfl rfl rfl (of_decide_eq_true rfl) ?_
            | refine sg_store [_, _, _] rfl rfl rfl (of_decide_eq_true rfl) ?_
            | refine sg_store [_, _, _, _] rfl rfl rfl (of_decide_eq_true rfl) ?_
            | refine sg_store [_, _, _, _, _] rfl rfl rfl (of_decide_eq_true rfl) ?_
            | refine sg_store [_, _, _, _, _, _] rfl rfl rfl (of_decide_eq_true rfl) ?_
            | refine sg_store [_, _, _, _, _, _, _] rfl rfl rfl (of_decide_eq_true rfl) ?_
            | (refine sg_guard_dec rfl rfl (fun hg => ?_) (fun hg => ?_) <;> first | (exfalso; omega) | (exact absurd rfl hg) | skip)
            | (refine sg_guard_ndec rfl rfl (fun hg => ?_) (fun hg => ?_) <;> first | (exfalso; omega) | (exact absurd rfl hg) | skip)
            | (refine sg_cond_dec rfl (fun hg => ?_) (fun hg => ?_) <;> first | (exfalso; omega) | (exact absurd rfl hg) | skip)
            | (refine sg_cond_ndec rfl (fun hg => ?_) (fun hg => ?_) <;> first | (exfalso; omega) | (exact absurd rfl hg) | skip)
            | refine sg_cond_not rfl (fun hg => ?_) (fun hg => ?_)
            | refine sg_cond rfl (fun hg => ?_) (fun hg => ?_))
          have hsy := sync_tri (W := W) d D [blk al [i64 x1, i64 x2, .int .u32 x3, .slice bb bs.length bc, .slice ka keep.length kc], BsRep oa oc cs, blk lg (lcells d ⟨0, 16, mt, hd, nx⟩), old W] (by omega)
          rcases hI.sync with ⟨e1, hJ⟩ | ⟨hpf, _⟩
          · dsimp only at e1 hJ
            rw [e1] at hsy
            generalize D.sync.2 = E at *
            refine sg_call (hsy.pre (fun w hO => hO.pick [3, 0, 1, 2, 4] (by decide))) rfl rfl (fun _ _ => ?_)
            repeat' (first
              | refine sg_wo ?_
              | refine sg_ps (ps_move rfl) rfl ?_
              | refine sg_ps (ps_assign rfl) rfl ?_
              | refine sg_seq ?_
              | refine sg_region ?_
              | refine sg_nil ?_
              | refine sg_then ?_
              | refine sg_ps (ps_fieldAddr rfl) rfl ?_
              | refine sg_ps (ps_nilCheck rfl) rfl ?_
              | refine sg_load 0 rfl rfl rfl rfl ?_
              | refine sg_load 1 rfl rfl rfl rfl ?_
              | refine sg_load 2 rfl rfl rfl rfl ?_
              | refine sg_load 3 rfl rfl rfl rfl ?_
              | refine sg_load 4 rfl rfl rfl rfl ?_
              | refine sg_load 5 rfl rfl rfl rfl ?_
              | refine sg_load 6 rfl rfl rfl rfl ?_
              | refine sg_load 7 rfl rfl rfl rfl ?_
              | refine sg_ps (ps_add64 rfl rfl (by omega)) rfl ?_
              | refine sg_ps (ps_sub64 rfl rfl (by omega)) rfl ?_
              | refine sg_ps (ps_mul64 rfl rfl (by omega)) rfl ?_
              | refine sg_ps (ps_bin rfl rfl inferInstance) rfl ?_
              | refine sg_ps (ps_rem rfl rfl (by decide)) rfl ?_
              | refine sg_ps (ps_quo64 rfl rfl (by decide) (by omega)) rfl ?_
              | refine sg_ps (ps_not rfl) rfl ?_
              | refine sg_ps (ps_conv rfl) rfl ?_
              | refine sg_ps (ps_shl rfl rfl (by decide) rfl) rfl ?_
              | refine sg_ps (ps_shr rfl rfl (by decide) rfl) rfl ?_
              | refine sg_cond_t rfl ?_
              | refine sg_cond_f rfl ?_
              | refine sg_guard_yes rfl rfl ?_
              | refine sg_guard_nf rfl rfl rfl ?_
              | refine sg_guard_nt rfl rfl rfl ?_
              | refine sg_guard_nu rfl rfl rfl ?_
              | refine sg_ps (ps_pick_t rfl rfl) rfl ?_
              | refine sg_ps (ps_pick_f rfl rfl) rfl ?_
              | refine sg_ps (ps_len rfl) rfl ?_
              | refine sg_ps (ps_len_str rfl) rfl ?_
              | refine sg_ps (ps_extract rfl rfl) rfl ?_
              | refine sg_ps (ps_field rfl rfl) rfl ?_
              | refine sg_ps (ps_min2 rfl rfl) rfl ?_
              | refine sg_ps (ps_max2 rfl rfl) rfl ?_
              | refine sg_ps (ps_build rfl rfl) rfl ?_
              | refine sg_box rfl rfl (fun bx => ?_)
              | refine sg_ps (ps_indexAddr rfl rfl rfl (by omega)) rfl ?_
              | refine sg_ps (ps_indexAddr (j := 0) rfl rfl rfl (by omega)) rfl ?_
              | refine sg_ps (ps_indexAddr (j := 1) rfl rfl rfl (by omega)) rfl ?_
              | refine sg_ps (ps_indexAddr_arr rfl rfl rfl (by omega)) rfl ?_
              | refine sg_block ?_
              | refine sg_skip ?_
              | refine sg_ret ?_
              | refine sg_exit ?_
              | refine ex_then_ret ?_
              | refine ex_then_exit ?_
              | refine ex_block_ret ?_
              | refine ex_block_normal ?_
              | refine ex_block_hit ?_
              | refine ex_block_miss rfl ?_
              | refine sg_store [] rfl rfl rfl (of_decide_eq_true rfl) ?_
              | refine sg_store [_] rfl rfl rfl (of_decide_eq_true rfl) ?_
              | refine sg_store [_, _] rfl rfl rfl (of_decide_eq_true rfl) ?_
              | refine sg_store [_, _, _] rfl rfl rfl (of_decide_eq_true rfl) ?_
              | refine sg_store [_, _, _, _] rfl rfl rfl (of_decide_eq_true rfl) ?_
              | refine sg_store [_, _, _, _, _] rfl rfl rfl (of_decide_eq_true rfl) ?_
              | refine sg_store [_, _, _, _, _, _] rfl rfl rfl (of_decide_eq_true rfl) ?_
              | refine sg_store [_, _, _, _, _, _, _] rfl rfl rfl (of_decide_eq_true rfl) ?_
              | (refine sg_guard_dec rfl rfl (fun hg => ?_) (fun hg => ?_) <;> first | (exfalso; omega) | (exact absurd rfl hg) | skip)
              | (refine sg_guard_ndec rfl rfl (fun hg => ?_) (fun hg => ?_) <;> first | (exfalso; omega) | (exact absurd rfl hg) | skip)
              | (refine sg_cond_dec rfl (fun hg => ?_) (fun hg => ?_) <;> first | (exfalso; omega) | (exact absurd rfl hg) | skip)
              | (refine sg_cond_ndec rfl (fun hg => ?_) (fun hg => ?_) <;> first | (exfalso; omega) | (exact absurd rfl hg) | skip)
              | refine sg_cond_not rfl (fun hg => ?_) (fun hg => ?_)
              | refine sg_cond rfl (fun hg => ?_) (fun hg => ?_))
            exact ex_mid ((⟨nx, mt, ls, hd, cs.length, E, cs⟩, oa, oc, lg), i + 1) ⟨by show 60 - (i + 1) < 60 - i; omega, ⟨by omega, by omega⟩, hJ, hEl⟩ (.cons rfl (.cons rfl (.cons rfl (.cons rfl (.cons rfl (.cons rfl (.cons rfl (.cons rfl (.cons rfl .nil))))))))) (fun w hO => hO.pick [2, 3, 0, 4] (by decide))
          · cases hpf
        · skip
          repeat' (first
            | refine sg_wo ?_
            | refine sg_ps (ps_move rfl) rfl ?_
            | refine sg_ps (ps_assign rfl) rfl ?_
            | refine sg_seq ?_
            | refine sg_region ?_
            | refine sg_nil ?_
            | refine sg_then ?_
            | refine sg_ps (ps_fieldAddr rfl) rfl ?_
            | refine sg_ps (ps_nilCheck rfl) rfl ?_
            | refine sg_load 0 rfl rfl rfl rfl ?_
            | refine sg_load 1 rfl rfl rfl rfl ?_
            | refine sg_load 2 rfl rfl rfl rfl ?_
            | refine sg_load 3 rfl rfl rfl rfl ?_
            | refine sg_load 4 rfl rfl rfl rfl ?_
            | refine sg_load 5 rfl rfl rfl rfl ?_
            | refine sg_load 6 rfl rfl rfl rfl ?_
            | refine sg_load 7 rfl rfl rfl rfl ?_
            | refine sg_ps (ps_add64 rfl rfl (by omega)) rfl ?_
            | refine sg_ps (ps_sub64 rfl rfl (by omega)) rfl ?_
            | refine sg_ps (ps_mul64 rfl rfl (by omega)) rfl ?_
            | refine sg_ps (ps_bin rfl rfl inferInstance) rfl ?_
            | refine sg_ps (ps_rem rfl rfl (by decide)) rfl ?_
            | refine sg_ps (ps_quo64 rfl rfl (by decide) (by omega)) rfl ?_
            | refine sg_ps (ps_not rfl) rfl ?_
            | refine sg_ps (ps_conv rfl) rfl ?_
            | refine sg_ps (ps_shl rfl rfl (by decide) rfl) rfl ?_
            | refine sg_ps (ps_shr rfl rfl (by decide) rfl) rfl ?_
            | refine sg_cond_t rfl ?_
            | refine sg_cond_f rfl ?_
            | refine sg_guard_yes rfl rfl ?_
            | refine sg_guard_nf rfl rfl rfl ?_
            | refine sg_guard_nt rfl rfl rfl ?_
            | refine sg_guard_nu rfl rfl rfl ?_
            | refine sg_ps (ps_pick_t rfl rfl) rfl ?_
            | refine sg_ps (ps_pick_f rfl rfl) rfl ?_
            | refine sg_ps (ps_len rfl) rfl ?_
            | refine sg_ps (ps_len_str rfl) rfl ?_
            | refine sg_ps (ps_extract rfl rfl) rfl ?_
            | refine sg_ps (ps_field rfl rfl) rfl ?_
            | refine sg_ps (ps_min2 rfl rfl) rfl ?_
            | refine sg_ps (ps_max2 rfl rfl) rfl ?_
            | refine sg_ps (ps_build rfl rfl) rfl ?_
            | refine sg_box rfl rfl (fun bx => ?_)
            | refine sg_ps (ps_indexAddr rfl rfl rfl (by omega)) rfl ?_
            | refine sg_ps (ps_indexAddr (j := 0) rfl rfl rfl (by omega)) rfl ?_
            | refine sg_ps (ps_indexAddr (j := 1) rfl rfl rfl (by omega)) rfl ?_
            | refine sg_ps (ps_indexAddr_arr rfl rfl rfl (by omega)) rfl ?_
            | refine sg_block ?_
            | refine sg_skip ?_
            | refine sg_ret ?_
            | refine sg_exit ?_
            | refine ex_then_ret ?_
            | refine ex_then_exit ?_
            | refine ex_block_ret ?_
            | refine ex_block_normal ?_
            | refine ex_block_hit ?_
            | refine ex_block_miss rfl ?_
            | refine sg_store [] rfl rfl rfl (of_decide_eq_true rfl) ?_
            | refine sg_store [_] rfl rfl rfl (of_decide_eq_true rfl) ?_
            | refine sg_store [_, _] rfl rfl rfl (of_decide_eq_true rfl) ?_
            | refine sg_store [_, _, _] rfl rfl rfl (of_decide_eq_true rfl) ?_
            | refine sg_store [_, _, _, _] rfl rfl rfl (of_decide_eq_true rfl) ?_
            | refine sg_store [_, _, _, _, _] rfl rfl rfl (of_decide_eq_true rfl) ?_
            | refine sg_store [_, _, _, _, _, _] rfl rfl rfl (of_decide_eq_true rfl) ?_
            | refine sg_store [_, _, _, _, _, _, _] rfl rfl rfl (of_decide_eq_true rfl) ?_
            | (refine sg_guard_dec rfl rfl (fun hg => ?_) (fun hg => ?_) <;> first | (exfalso; omega) | (exact absurd rfl hg) | skip)
            | (refine sg_guard_ndec rfl rfl (fun hg => ?_) (fun hg => ?_) <;> first | (exfalso; omega) | (exact absurd rfl hg) | skip)
            | (refine sg_cond_dec rfl (fun hg => ?_) (fun hg => ?_) <;> first | (exfalso; omega) | (exact absurd rfl hg) | skip)
            | (refine sg_cond_ndec rfl (fun hg => ?_) (fun hg => ?_) <;> first | (exfalso; omega) | (exact absurd rfl hg) | skip)
            | refine sg_cond_not rfl (fun hg => ?_) (fun hg => ?_)
            | refine sg_cond rfl (fun hg => ?_) (fun hg => ?_))
          have hsy := sync_tri (W := W) d D [blk al [i64 x1, i64 x2, .int .u32 x3, .slice bb bs.length bc, .slice ka keep.length kc], BsRep oa oc cs, blk lg (lcells d ⟨0, 16, mt, hd, nx⟩), old W] (by omega)
          obtain ⟨e1, hJ⟩ := hI.trim rfl (by omega) (by decide)
          dsimp only at e1 hJ
          rw [e1] at hsy
          generalize D.sync.2 = E at *
          refine sg_call (hsy.pre (fun w hO => hO.pick [3, 0, 1, 2, 4] (by decide))) rfl rfl (fun _ _ => ?_)
          repeat' (first
            | refine sg_wo ?_
            | refine sg_ps (ps_move rfl) rfl ?_
            | refine sg_ps (ps_assign rfl) rfl ?_
            | refine sg_seq ?_
            | refine sg_region ?_
            | refine sg_nil ?_
            | refine sg_then ?_
            | refine sg_ps (ps_fieldAddr rfl) rfl ?_
            | refine sg_ps (ps_nilCheck rfl) rfl ?_
            | refine sg_load 0 rfl rfl rfl rfl ?_
            | refine sg_load 1 rfl rfl rfl rfl ?_
            | refine sg_load 2 rfl rfl rfl rfl ?_
            | refine sg_load 3 rfl rfl rfl rfl ?_
            | refine sg_load 4 rfl rfl rfl rfl ?_
            | refine sg_load 5 rfl rfl rfl rfl ?_
            | refine sg_load 6 rfl rfl rfl rfl ?_
            | refine sg_load 7 rfl rfl rfl rfl ?_
            | refine sg_ps (ps_add64 rfl rfl (by omega)) rfl ?_
            | refine sg_ps (ps_sub64 rfl rfl (by omega)) rfl ?_
            | refine sg_ps (ps_mul64 rfl rfl (by omega)) rfl ?_
            | refine sg_ps (ps_bin rfl rfl inferInstance) rfl ?_
            | refine sg_ps (ps_rem rfl rfl (by decide)) rfl ?_
            | refine sg_ps (ps_quo64 rfl rfl (by decide) (by omega)) rfl ?_
            | refine sg_ps (ps_not rfl) rfl ?_
            | refine sg_ps (ps_conv rfl) rfl ?_
            | refine sg_ps (ps_shl rfl rfl (by decide) rfl) rfl ?_
            | refine sg_ps (ps_shr rfl rfl (by decide) rfl) rfl ?_
            | refine sg_cond_t rfl ?_
            | refine sg_cond_f rfl ?_
            | refine sg_guard_yes rfl rfl ?_
            | refine sg_guard_nf rfl rfl rfl ?_
            | refine sg_guard_nt rfl rfl rfl ?_
            | refine sg_guard_nu rfl rfl rfl ?_
            | refine sg_ps (ps_pick_t rfl rfl) rfl ?_
            | refine sg_ps (ps_pick_f rfl rfl) rfl ?_
            | refine sg_ps (ps_len rfl) rfl ?_
            | refine sg_ps (ps_len_str rfl) rfl ?_
            | refine sg_ps (ps_extract rfl rfl) rfl ?_
            | refine sg_ps (ps_field rfl rfl) rfl ?_
            | refine sg_ps (ps_min2 rfl rfl) rfl ?_
            | refine sg_ps (ps_max2 rfl rfl) rfl ?_
            | refine sg_ps (ps_build rfl rfl) rfl ?_
            | refine sg_box rfl rfl (fun bx => ?_)
            | refine sg_ps (ps_indexAddr rfl rfl rfl (by omega)) rfl ?_
            | refine sg_ps (ps_indexAddr (j := 0) rfl rfl rfl (by omega)) rfl ?_
            | refine sg_ps (ps_indexAddr (j := 1) rfl rfl rfl (by omega)) rfl ?_
            | refine sg_ps (ps_indexAddr_arr rfl rfl rfl (by omega)) rfl ?_
            | refine sg_block ?_
            | refine sg_skip ?_
            | refine sg_ret ?_
            | refine sg_exit ?_
            | refine ex_then_ret ?_
            | refine ex_then_exit ?_
            | refine ex_block_ret ?_
            | refine ex_block_normal ?_
            | refine ex_block_hit ?_
            | refine ex_block_miss rfl ?_
            | refine sg_store [] rfl rfl rfl (of_decide_eq_true rfl) ?_
            | refine sg_store [_] rfl rfl rfl (of_decide_eq_true rfl) ?_
            | refine sg_store [_, _] rfl rfl rfl (of_decide_eq_true rfl) ?_
            | refine sg_store [_, _, _] rfl rfl rfl (of_decide_eq_true rfl) ?_
            | refine sg_store [_, _, _, _] rfl rfl rfl (of_decide_eq_true rfl) ?_
            | refine sg_store [_, _, _, _, _] rfl rfl rfl (of_decide_eq_true rfl) ?_
            | refine sg_store [_, _, _, _, _, _] rfl rfl rfl (of_decide_eq_true rfl) ?_
            | refine sg_store [_, _, _, _, _, _, _] rfl rfl rfl (of_decide_eq_true rfl) ?_
            | (refine sg_guard_dec rfl rfl (fun hg => ?_) (fun hg => ?_) <;> first | (exfalso; omega) | (exact absurd rfl hg) | skip)
            | (refine sg_guard_ndec rfl rfl (fun hg => ?_) (fun hg => ?_) <;> first | (exfalso; omega) | (exact absurd rfl hg) | skip)
            | (refine sg_cond_dec rfl (fun hg => ?_) (fun hg => ?_) <;> first | (exfalso; omega) | (exact absurd rfl hg) | skip)
            | (refine sg_cond_ndec rfl (fun hg => ?_) (fun hg => ?_) <;> first | (exfalso; omega) | (exact absurd rfl hg) | skip)
            | refine sg_cond_not rfl (fun hg => ?_) (fun hg => ?_)
            | refine sg_cond rfl (fun hg => ?_) (fun hg => ?_))
          refine sg_call ((next_at lg d 0 16 mt hd nx [DiskRep d E, old W]).pre (fun w hO => hO.pick [3, 0, 4] (by decide))) rfl rfl (fun _ _ => ?_)
          repeat' (first
            | refine sg_wo ?_
            | refine sg_ps (ps_move rfl) rfl ?_
            | refine sg_ps (ps_assign rfl) rfl ?_
            | refine sg_seq ?_
            | refine sg_region ?_
            | refine sg_nil ?_
            | refine sg_then ?_
            | refine sg_ps (ps_fieldAddr rfl) rfl ?_
            | refine sg_ps (ps_nilCheck rfl) rfl ?_
            | refine sg_load 0 rfl rfl rfl rfl ?_
            | refine sg_load 1 rfl rfl rfl rfl ?_
            | refine sg_load 2 rfl rfl rfl rfl ?_
            | refine sg_load 3 rfl rfl rfl rfl ?_
            | refine sg_load 4 rfl rfl rfl rfl ?_
            | refine sg_load 5 rfl rfl rfl rfl ?_
            | refine sg_load 6 rfl rfl rfl rfl ?_
            | refine sg_load 7 rfl rfl rfl rfl ?_
            | refine sg_ps (ps_add64 rfl rfl (by omega)) rfl ?_
            | refine sg_ps (ps_sub64 rfl rfl (by omega)) rfl ?_
            | refine sg_ps (ps_mul64 rfl rfl (by omega)) rfl ?_
            | refine sg_ps (ps_bin rfl rfl inferInstance) rfl ?_
            | refine sg_ps (ps_rem rfl rfl (by decide)) rfl ?_
            | refine sg_ps (ps_quo64 rfl rfl (by decide) (by omega)) rfl ?_
            | refine sg_ps (ps_not rfl) rfl ?_
            | refine sg_ps (ps_conv rfl) rfl ?_
            | refine sg_ps (ps_shl rfl rfl (by decide) rfl) rfl ?_
            | refine sg_ps (ps_shr rfl rfl (by decide) rfl) rfl ?_
            | refine sg_cond_t rfl ?_
            | refine sg_cond_f rfl ?_
            | refine sg_guard_yes rfl rfl ?_
            | refine sg_guard_nf rfl rfl rfl ?_
            | refine sg_guard_nt rfl rfl rfl ?_
            | refine sg_guard_nu rfl rfl rfl ?_
            | refine sg_ps (ps_pick_t rfl rfl) rfl ?_
            | refine sg_ps (ps_pick_f rfl rfl) rfl ?_
            | refine sg_ps (ps_len rfl) rfl ?_
            | refine sg_ps (ps_len_str rfl) rfl ?_
            | refine sg_ps (ps_extract rfl rfl) rfl ?_
            | refine sg_ps (ps_field rfl rfl) rfl ?_
            | refine sg_ps (ps_min2 rfl rfl) rfl ?_
            | refine sg_ps (ps_max2 rfl rfl) rfl ?_
            | refine sg_ps (ps_build rfl rfl) rfl ?_
            | refine sg_box rfl rfl (fun bx => ?_)
            | refine sg_ps (ps_indexAddr rfl rfl rfl (by omega)) rfl ?_
            | refine sg_ps (ps_indexAddr (j := 0) rfl rfl rfl (by omega)) rfl ?_
            | refine sg_ps (ps_indexAddr (j := 1) rfl rfl rfl (by omega)) rfl ?_
            | refine sg_ps (ps_indexAddr_arr rfl rfl rfl (by omega)) rfl ?_
            | refine sg_block ?_
            | refine sg_skip ?_
            | refine sg_ret ?_
            | refine sg_exit ?_
            | refine ex_then_ret ?_
            | refine ex_then_exit ?_
            | refine ex_block_ret ?_
            | refine ex_block_normal ?_
            | refine ex_block_hit ?_
            | refine ex_block_miss rfl ?_
            | refine sg_store [] rfl rfl rfl (of_decide_eq_true rfl) ?_
            | refine sg_store [_] rfl rfl rfl (of_decide_eq_true rfl) ?_
            | refine sg_store [_, _] rfl rfl rfl (of_decide_eq_true rfl) ?_
            | refine sg_store [_, _, _] rfl rfl rfl (of_decide_eq_true rfl) ?_
            | refine sg_store [_, _, _, _] rfl rfl rfl (of_decide_eq_true rfl) ?_
            | refine sg_store [_, _, _, _, _] rfl rfl rfl (of_decide_eq_true rfl) ?_
            | refine sg_store [_, _, _, _, _, _] rfl rfl rfl (of_decide_eq_true rfl) ?_
            | refine sg_store [_, _, _, _, _, _, _] rfl rfl rfl (of_decide_eq_true rfl) ?_
            | (refine sg_guard_dec rfl rfl (fun hg => ?_) (fun hg => ?_) <;> first | (exfalso; omega) | (exact absurd rfl hg) | skip)
            | (refine sg_guard_ndec rfl rfl (fun hg => ?_) (fun hg => ?_) <;> first | (exfalso; omega) | (exact absurd rfl hg) | skip)
            | (refine sg_cond_dec rfl (fun hg => ?_) (fun hg => ?_) <;> first | (exfalso; omega) | (exact absurd rfl hg) | skip)
            | (refine sg_cond_ndec rfl (fun hg => ?_) (fun hg => ?_) <;> first | (exfalso; omega) | (exact absurd rfl hg) | skip)
            | refine sg_cond_not rfl (fun hg => ?_) (fun hg => ?_)
            | refine sg_cond rfl (fun hg => ?_) (fun hg => ?_))
          refine sg_call (trim_ok lg d 0 16 mt hd nx nx n1 (Nat.le_refl _) _) rfl rfl (fun _ _ => ?_)
          repeat' (first
            | refine sg_wo ?_
            | refine sg_ps (ps_move rfl) rfl ?_
            | refine sg_ps (ps_assign rfl) rfl ?_
            | refine sg_seq ?_
            | refine sg_region ?_
            | refine sg_nil ?_
            | refine sg_then ?_
            | refine sg_ps (ps_fieldAddr rfl) rfl ?_
            | refine sg_ps (ps_nilCheck rfl) rfl ?_
            | refine sg_load 0 rfl rfl rfl rfl ?_
            | refine sg_load 1 rfl rfl rfl rfl ?_
            | refine sg_load 2 rfl rfl rfl rfl ?_
            | refine sg_load 3 rfl rfl rfl rfl ?_
            | refine sg_load 4 rfl rfl rfl rfl ?_
            | refine sg_load 5 rfl rfl rfl rfl ?_
            | refine sg_load 6 rfl rfl rfl rfl ?_
            | refine sg_load 7 rfl rfl rfl rfl ?_
            | refine sg_ps (ps_add64 rfl rfl (by omega)) rfl ?_
            | refine sg_ps (ps_sub64 rfl rfl (by omega)) rfl ?_
            | refine sg_ps (ps_mul64 rfl rfl (by omega)) rfl ?_
            | refine sg_ps (ps_bin rfl rfl inferInstance) rfl ?_
            | refine sg_ps (ps_rem rfl rfl (by decide)) rfl ?_
            | refine sg_ps (ps_quo64 rfl rfl (by decide) (by omega)) rfl ?_
            | refine sg_ps (ps_not rfl) rfl ?_
            | refine sg_ps (ps_conv rfl) rfl ?_
            | refine sg_ps (ps_shl rfl rfl (by decide) rfl) rfl ?_
            | refine sg_ps (ps_shr rfl rfl (by decide) rfl) rfl ?_
            | refine sg_cond_t rfl ?_
            | refine sg_cond_f rfl ?_
            | refine sg_guard_yes rfl rfl ?_
            | refine sg_guard_nf rfl rfl rfl ?_
            | refine sg_guard_nt rfl rfl rfl ?_
            | refine sg_guard_nu rfl rfl rfl ?_
            | refine sg_ps (ps_pick_t rfl rfl) rfl ?_
            | refine sg_ps (ps_pick_f rfl rfl) rfl ?_
            | refine sg_ps (ps_len rfl) rfl ?_
            | refine sg_ps (ps_len_str rfl) rfl ?_
            | refine sg_ps (ps_extract rfl rfl) rfl ?_
            | refine sg_ps (ps_field rfl rfl) rfl ?_
            | refine sg_ps (ps_min2 rfl rfl) rfl ?_
            | refine sg_ps (ps_max2 rfl rfl) rfl ?_
            | refine sg_ps (ps_build rfl rfl) rfl ?_
            | refine sg_box rfl rfl (fun bx => ?_)
            | refine sg_ps (ps_indexAddr rfl rfl rfl (by omega)) rfl ?_
            | refine sg_ps (ps_indexAddr (j := 0) rfl rfl rfl (by omega)) rfl ?_
            | refine sg_ps (ps_indexAddr (j := 1) rfl rfl rfl (by omega)) rfl ?_
            | refine sg_ps (ps_indexAddr_arr rfl rfl rfl (by omega)) rfl ?_
            | refine sg_block ?_
            | refine sg_skip ?_
            | refine sg_ret ?_
            | refine sg_exit ?_
            | refine ex_then_ret ?_
            | refine ex_then_exit ?_
            | refine ex_block_ret ?_
            | refine ex_block_normal ?_
            | refine ex_block_hit ?_
            | refine ex_block_miss rfl ?_
            | refine sg_store [] rfl rfl rfl (of_decide_eq_true rfl) ?_
            | refine sg_store [_] rfl rfl rfl (of_decide_eq_true rfl) ?_
            | refine sg_store [_, _] rfl rfl rfl (of_decide_eq_true rfl) ?_
            | refine sg_store [_, _, _] rfl rfl rfl (of_decide_eq_true rfl) ?_
            | refine sg_store [_, _, _, _] rfl rfl rfl (of_decide_eq_true rfl) ?_
            | refine sg_store [_, _, _, _, _] rfl rfl rfl (of_decide_eq_true rfl) ?_
            | refine sg_store [_, _, _, _, _, _] rfl rfl rfl (of_decide_eq_true rfl) ?_
            | refine sg_store [_, _, _, _, _, _, _] rfl rfl rfl (of_decide_eq_true rfl) ?_
            | (refine sg_guard_dec rfl rfl (fun hg => ?_) (fun hg => ?_) <;> first | (exfalso; omega) | (exact absurd rfl hg) | skip)
            | (refine sg_guard_ndec rfl rfl (fun hg => ?_) (fun hg => ?_) <;> first | (exfalso; omega) | (exact absurd rfl hg) | skip)
            | (refine sg_cond_dec rfl (fun hg => ?_) (fun hg => ?_) <;> first | (exfalso; omega) | (exact absurd rfl hg) | skip)
            | (refine sg_cond_ndec rfl (fun hg => ?_) (fun hg => ?_) <;> first | (exfalso; omega) | (exact absurd rfl hg) | skip)
            | refine sg_cond_not rfl (fun hg => ?_) (fun hg => ?_)
            | refine sg_cond rfl (fun hg => ?_) (fun hg => ?_))
          refine sg_call (room_at lg d 0 16 mt nx nx (Nat.le_refl _) (by omega) (by decide) _) rfl rfl (fun _ _ => ?_)
          rw [Nat.sub_self]
          repeat' (first
            | refine sg_wo ?_
            | refine sg_ps (ps_move rfl) rfl ?_
            | refine sg_ps (ps_assign rfl) rfl ?_
            | refine sg_seq ?_
            | refine sg_region ?_
            | refine sg_nil ?_
            | refine sg_then ?_
            | refine sg_ps (ps_fieldAddr rfl) rfl ?_
            | refine sg_ps (ps_nilCheck rfl) rfl ?_
            | refine sg_load 0 rfl rfl rfl rfl ?_
            | refine sg_load 1 rfl rfl rfl rfl ?_
            | refine sg_load 2 rfl rfl rfl rfl ?_
            | refine sg_load 3 rfl rfl rfl rfl ?_
            | refine sg_load 4 rfl rfl rfl rfl ?_
            | refine sg_load 5 rfl rfl rfl rfl ?_
            | refine sg_load 6 rfl rfl rfl rfl ?_
            | refine sg_load 7 rfl rfl rfl rfl ?_
            | refine sg_ps (ps_add64 rfl rfl (by omega)) rfl ?_
            | refine sg_ps (ps_sub64 rfl rfl (by omega)) rfl ?_
            | refine sg_ps (ps_mul64 rfl rfl (by omega)) rfl ?_
            | refine sg_ps (ps_bin rfl rfl inferInstance) rfl ?_
            | refine sg_ps (ps_rem rfl rfl (by decide)) rfl ?_
            | refine sg_ps (ps_quo64 rfl rfl (by decide) (by omega)) rfl ?_
            | refine sg_ps (ps_not rfl) rfl ?_
            | refine sg_ps (ps_conv rfl) rfl ?_
            | refine sg_ps (ps_shl rfl rfl (by decide) rfl) rfl ?_
            | refine sg_ps (ps_shr rfl rfl (by decide) rfl) rfl ?_
            | refine sg_cond_t rfl ?_
            | refine sg_cond_f rfl ?_
            | refine sg_guard_yes rfl rfl ?_
            | refine sg_guard_nf rfl rfl rfl ?_
            | refine sg_guard_nt rfl rfl rfl ?_
            | refine sg_guard_nu rfl rfl rfl ?_
            | refine sg_ps (ps_pick_t rfl rfl) rfl ?_
            | refine sg_ps (ps_pick_f rfl rfl) rfl ?_
            | refine sg_ps (ps_len rfl) rfl ?_
            | refine sg_ps (ps_len_str rfl) rfl ?_
            | refine sg_ps (ps_extract rfl rfl) rfl ?_
            | refine sg_ps (ps_field rfl rfl) rfl ?_
            | refine sg_ps (ps_min2 rfl rfl) rfl ?_
            | refine sg_ps (ps_max2 rfl rfl) rfl ?_
            | refine sg_ps (ps_build rfl rfl) rfl ?_
            | refine sg_box rfl rfl (fun bx => ?_)
            | refine sg_ps (ps_indexAddr rfl rfl rfl (by omega)) rfl ?_
            | refine sg_ps (ps_indexAddr (j := 0) rfl rfl rfl (by omega)) rfl ?_
            | refine sg_ps (ps_indexAddr (j := 1) rfl rfl rfl (by omega)) rfl ?_
            | refine sg_ps (ps_indexAddr_arr rfl rfl rfl (by omega)) rfl ?_
            | refine sg_block ?_
            | refine sg_skip ?_
            | refine sg_ret ?_
            | refine sg_exit ?_
            | refine ex_then_ret ?_
            | refine ex_then_exit ?_
            | refine ex_block_ret ?_
            | refine ex_block_normal ?_
            | refine ex_block_hit ?_
            | refine ex_block_miss rfl ?_
            | refine sg_store [] rfl rfl rfl (of_decide_eq_true rfl) ?_
            | refine sg_store [_] rfl rfl rfl (of_decide_eq_true rfl) ?_
            | refine sg_store [_, _] rfl rfl rfl (of_decide_eq_true rfl) ?_
            | refine sg_store [_, _, _] rfl rfl rfl (of_decide_eq_true rfl) ?_
            | refine sg_store [_, _, _, _] rfl rfl rfl (of_decide_eq_true rfl) ?_
            | refine sg_store [_, _, _, _, _] rfl rfl rfl (of_decide_eq_true rfl) ?_
            | refine sg_store [_, _, _, _, _, _] rfl rfl rfl (of_decide_eq_true rfl) ?_
            | refine sg_store [_, _, _, _, _, _, _] rfl rfl rfl (of_decide_eq_true rfl) ?_
            | (refine sg_guard_dec rfl rfl (fun hg => ?_) (fun hg => ?_) <;> first | (exfalso; omega) | (exact absurd rfl hg) | skip)
            | (refine sg_guard_ndec rfl rfl (fun hg => ?_) (fun hg => ?_) <;> first | (exfalso; omega) | (exact absurd rfl hg) | skip)
            | (refine sg_cond_dec rfl (fun hg => ?_) (fun hg => ?_) <;> first | (exfalso; omega) | (exact absurd rfl hg) | skip)
            | (refine sg_cond_ndec rfl (fun hg => ?_) (fun hg => ?_) <;> first | (exfalso; omega) | (exact absurd rfl hg) | skip)
            | refine sg_cond_not rfl (fun hg => ?_) (fun hg => ?_)
            | refine sg_cond rfl (fun hg => ?_) (fun hg => ?_))
          exact ex_mid ((⟨nx, mt, mt, nx, 0, E, []⟩, none, 0, lg), i + 1) ⟨by show 60 - (i + 1) < 60 - i; omega, ⟨by omega, by omega⟩, hJ, hEl⟩ (.cons rfl (.cons rfl (.cons rfl (.cons rfl (.cons rfl (.cons rfl (.cons rfl (.cons rfl (.cons rfl .nil))))))))) (fun w hO => bs_nil hO)
        · clear hEl
          obtain ⟨rs, nx2, hw, hs1, hs2, hs3, hs4, hJ⟩ := hI.crash keep (by omega)
          dsimp only at hw hs1 hs2 hs3 hs4 hJ
          have hcr := crash_len D keep
          rw [hsl] at hcr
          have hu : IntKind.u32.wrap ((mt : Int) + 1) = ((mt + 1 : Nat) : Int) := by
            rw [show (mt : Int) + 1 = ((mt + 1 : Nat) : Int) by omega, wrap_u _ rfl, Nat.mod_eq_of_lt (by show mt + 1 < 2 ^ 32; omega)]
          repeat' (first
            | refine sg_wo ?_
            | refine sg_ps (ps_move rfl) rfl ?_
            | refine sg_ps (ps_assign rfl) rfl ?_
            | refine sg_seq ?_
            | refine sg_region ?_
            | refine sg_nil ?_
            | refine sg_then ?_
            | refine sg_ps (ps_fieldAddr rfl) rfl ?_
            | refine sg_ps (ps_nilCheck rfl) rfl ?_
            | refine sg_load 0 rfl rfl rfl rfl ?_
            | refine sg_load 1 rfl rfl rfl rfl ?_
            | refine sg_load 2 rfl rfl rfl rfl ?_
            | refine sg_load 3 rfl rfl rfl rfl ?_
            | refine sg_load 4 rfl rfl rfl rfl ?_
            | refine sg_load 5 rfl rfl rfl rfl ?_
            | refine sg_load 6 rfl rfl rfl rfl ?_
            | refine sg_load 7 rfl rfl rfl rfl ?_
            | refine sg_ps (ps_add64 rfl rfl (by omega)) rfl ?_
            | refine sg_ps (ps_sub64 rfl rfl (by omega)) rfl ?_
            | refine sg_ps (ps_mul64 rfl rfl (by omega)) rfl ?_
            | refine sg_ps (ps_bin rfl rfl inferInstance) rfl ?_
            | refine sg_ps (ps_rem rfl rfl (by decide)) rfl ?_
            | refine sg_ps (ps_quo64 rfl rfl (by decide) (by omega)) rfl ?_
            | refine sg_ps (ps_not rfl) rfl ?_
            | refine sg_ps (ps_conv rfl) rfl ?_
            | refine sg_ps (ps_shl rfl rfl (by decide) rfl) rfl ?_
            | refine sg_ps (ps_shr rfl rfl (by decide) rfl) rfl ?_
            | refine sg_cond_t rfl ?_
            | refine sg_cond_f rfl ?_
            | refine sg_guard_yes rfl rfl ?_
            | refine sg_guard_nf rfl rfl rfl ?_
            | refine sg_guard_nt rfl rfl rfl ?_
            | refine sg_guard_nu rfl rfl rfl ?_
            | refine sg_ps (ps_pick_t rfl rfl) rfl ?_
            | refine sg_ps (ps_pick_f rfl rfl) rfl ?_
            | refine sg_ps (ps_len rfl) rfl ?_
            | refine sg_ps (ps_len_str rfl) rfl ?_
            | refine sg_ps (ps_extract rfl rfl) rfl ?_
            | refine sg_ps (ps_field rfl rfl) rfl ?_
            | refine sg_ps (ps_min2 rfl rfl) rfl ?_
            | refine sg_ps (ps_max2 rfl rfl) rfl ?_
            | refine sg_ps (ps_build rfl rfl) rfl ?_
            | refine sg_box rfl rfl (fun bx => ?_)
            | refine sg_ps (ps_indexAddr rfl rfl rfl (by omega)) rfl ?_
            | refine sg_ps (ps_indexAddr (j := 0) rfl rfl rfl (by omega)) rfl ?_
            | refine sg_ps (ps_indexAddr (j := 1) rfl rfl rfl (by omega)) rfl ?_
            | refine sg_ps (ps_indexAddr_arr rfl rfl rfl (by omega)) rfl ?_
            | refine sg_block ?_
            | refine sg_skip ?_
            | refine sg_ret ?_
            | refine sg_exit ?_
            | refine ex_then_ret ?_
            | refine ex_then_exit ?_
            | refine ex_block_ret ?_
            | refine ex_block_normal ?_
            | refine ex_block_hit ?_
            | refine ex_block_miss rfl ?_
            | refine sg_store [] rfl rfl rfl (of_decide_eq_true rfl) ?_
            | refine sg_store [_] rfl rfl rfl (of_decide_eq_true rfl) ?_
            | refine sg_store [_, _] rfl rfl rfl (of_decide_eq_true rfl) ?_
            | refine sg_store [_, _, _] rfl rfl rfl (of_decide_eq_true rfl) ?_
            | refine sg_store [_, _, _, _] rfl rfl rfl (of_decide_eq_true rfl) ?_
            | refine sg_store [_, _, _, _, _] rfl rfl rfl (of_decide_eq_true rfl) ?_
            | refine sg_store [_, _, _, _, _, _] rfl rfl rfl (of_decide_eq_true rfl) ?_
            | refine sg_store [_, _, _, _, _, _, _] rfl rfl rfl (of_decide_eq_true rfl) ?_
            | (refine sg_guard_dec rfl rfl (fun hg => ?_) (fun hg => ?_) <;> first | (exfalso; omega) | (exact absurd rfl hg) | skip)
            | (refine sg_guard_ndec rfl rfl (fun hg => ?_) (fun hg => ?_) <;> first | (exfalso; omega) | (exact absurd rfl hg) | skip)
            | (refine sg_cond_dec rfl (fun hg => ?_) (fun hg => ?_) <;> first | (exfalso; omega) | (exact absurd rfl hg) | skip)
            | (refine sg_cond_ndec rfl (fun hg => ?_) (fun hg => ?_) <;> first | (exfalso; omega) | (exact absurd rfl hg) | skip)
            | refine sg_cond_not rfl (fun hg => ?_) (fun hg => ?_)
            | refine sg_cond rfl (fun hg => ?_) (fun hg => ?_))
          refine sg_buildSlice rfl (by decide) rfl rfl (fun kb => ?_)
          repeat' (first
            | refine sg_wo ?_
            | refine sg_ps (ps_move rfl) rfl ?_
            | refine sg_ps (ps_assign rfl) rfl ?_
            | refine sg_seq ?_
            | refine sg_region ?_
            | refine sg_nil ?_
            | refine sg_then ?_
            | refine sg_ps (ps_fieldAddr rfl) rfl ?_
            | refine sg_ps (ps_nilCheck rfl) rfl ?_
            | refine sg_load 0 rfl rfl rfl rfl ?_
            | refine sg_load 1 rfl rfl rfl rfl ?_
            | refine sg_load 2 rfl rfl rfl rfl ?_
            | refine sg_load 3 rfl rfl rfl rfl ?_
            | refine sg_load 4 rfl rfl rfl rfl ?_
            | refine sg_load 5 rfl rfl rfl rfl ?_
            | refine sg_load 6 rfl rfl rfl rfl ?_
            | refine sg_load 7 rfl rfl rfl rfl ?_
            | refine sg_ps (ps_add64 rfl rfl (by omega)) rfl ?_
            | refine sg_ps (ps_sub64 rfl rfl (by omega)) rfl ?_
            | refine sg_ps (ps_mul64 rfl rfl (by omega)) rfl ?_
            | refine sg_ps (ps_bin rfl rfl inferInstance) rfl ?_
            | refine sg_ps (ps_rem rfl rfl (by decide)) rfl ?_
            | refine sg_ps (ps_quo64 rfl rfl (by decide) (by omega)) rfl ?_
            | refine sg_ps (ps_not rfl) rfl ?_
            | refine sg_ps (ps_conv rfl) rfl ?_
            | refine sg_ps (ps_shl rfl rfl (by decide) rfl) rfl ?_
            | refine sg_ps (ps_shr rfl rfl (by decide) rfl) rfl ?_
            | refine sg_cond_t rfl ?_
            | refine sg_cond_f rfl ?_
            | refine sg_guard_yes rfl rfl ?_
            | refine sg_guard_nf rfl rfl rfl ?_
            | refine sg_guard_nt rfl rfl rfl ?_
            | refine sg_guard_nu rfl rfl rfl ?_
            | refine sg_ps (ps_pick_t rfl rfl) rfl ?_
            | refine sg_ps (ps_pick_f rfl rfl) rfl ?_
            | refine sg_ps (ps_len rfl) rfl ?_
            | refine sg_ps (ps_len_str rfl) rfl ?_
            | refine sg_ps (ps_extract rfl rfl) rfl ?_
            | refine sg_ps (ps_field rfl rfl) rfl ?_
            | refine sg_ps (ps_min2 rfl rfl) rfl ?_
            | refine sg_ps (ps_max2 rfl rfl) rfl ?_
            | refine sg_ps (ps_build rfl rfl) rfl ?_
            | refine sg_box rfl rfl (fun bx => ?_)
            | refine sg_ps (ps_indexAddr rfl rfl rfl (by omega)) rfl ?_
            | refine sg_ps (ps_indexAddr (j := 0) rfl rfl rfl (by omega)) rfl ?_
            | refine sg_ps (ps_indexAddr (j := 1) rfl rfl rfl (by omega)) rfl ?_
            | refine sg_ps (ps_indexAddr_arr rfl rfl rfl (by omega)) rfl ?_
            | refine sg_block ?_
            | refine sg_skip ?_
            | refine sg_ret ?_
            | refine sg_exit ?_
            | refine ex_then_ret ?_
            | refine ex_then_exit ?_
            | refine ex_block_ret ?_
            | refine ex_block_normal ?_
            | refine ex_block_hit ?_
            | refine ex_block_miss rfl ?_
            | refine sg_store [] rfl rfl rfl (of_decide_eq_true rfl) ?_
            | refine sg_store [_] rfl rfl rfl (of_decide_eq_true rfl) ?_
            | refine sg_store [_, _] rfl rfl rfl (of_decide_eq_true rfl) ?_
            | refine sg_store [_, _, _] rfl rfl rfl (of_decide_eq_true rfl) ?_
            | refine sg_store [_, _, _, _] rfl rfl rfl (of_decide_eq_true rfl) ?_
            | refine sg_store [_, _, _, _, _] rfl rfl rfl (of_decide_eq_true rfl) ?_
            | refine sg_store [_, _, _, _, _, _] rfl rfl rfl (of_decide_eq_true rfl) ?_
            | refine sg_store [_, _, _, _, _, _, _] rfl rfl rfl (of_decide_eq_true rfl) ?_
            | (refine sg_guard_dec rfl rfl (fun hg => ?_) (fun hg => ?_) <;> first | (exfalso; omega) | (exact absurd rfl hg) | skip)
            | (refine sg_guard_ndec rfl rfl (fun hg => ?_) (fun hg => ?_) <;> first | (exfalso; omega) | (exact absurd rfl hg) | skip)
            | (refine sg_cond_dec rfl (fun hg => ?_) (fun hg => ?_) <;> first | (exfalso; omega) | (exact absurd rfl hg) | skip)
            | (refine sg_cond_ndec rfl (fun hg => ?_) (fun hg => ?_) <;> first | (exfalso; omega) | (exact absurd rfl hg) | skip)
            | refine sg_cond_not rfl (fun hg => ?_) (fun hg => ?_)
            | refine sg_cond rfl (fun hg => ?_) (fun hg => ?_))
          refine sg_own_mk (m := 0) (c := 0) (sz := 1) (xs := []) (Nat.le_refl _) (by decide) rfl rfl ?_
          refine sg_append (by_ := 8) rfl rfl rfl (news := keep.map (Value.int .i64)) (by simp) (by intro u hu; obtain ⟨x, _, rfl⟩ := List.mem_map.1 hu; rfl) (r2.rd 5 rfl) (by show 0 + keep.length ≤ 9223372036854775807; omega) (by omega) (fun a' c' => ?_)
          rw [Nat.zero_add, List.nil_append]
          refine sg_wo (sg_call ((crash_tri d D keep a' c' [sown a' keep.length c' 1 (keep.map (Value.int .i64)), BsRep oa oc cs, old W] (rd_sown 0 rfl (fun j u hj => hj)) (by omega) (by omega)).pre (fun w hO => hO.pick [4, 0, 2, 5] (by decide))) rfl rfl (fun _ _ => ?_))
          generalize D.crash keep = E at *
          repeat' (first
            | refine sg_wo ?_
            | refine sg_ps (ps_move rfl) rfl ?_
            | refine sg_ps (ps_assign rfl) rfl ?_
            | refine sg_seq ?_
            | refine sg_region ?_
            | refine sg_nil ?_
            | refine sg_then ?_
            | refine sg_ps (ps_fieldAddr rfl) rfl ?_
            | refine sg_ps (ps_nilCheck rfl) rfl ?_
            | refine sg_load 0 rfl rfl rfl rfl ?_
            | refine sg_load 1 rfl rfl rfl rfl ?_
            | refine sg_load 2 rfl rfl rfl rfl ?_
            | refine sg_load 3 rfl rfl rfl rfl ?_
            | refine sg_load 4 rfl rfl rfl rfl ?_
            | refine sg_load 5 rfl rfl rfl rfl ?_
            | refine sg_load 6 rfl rfl rfl rfl ?_
            | refine sg_load 7 rfl rfl rfl rfl ?_
            | refine sg_ps (ps_add64 rfl rfl (by omega)) rfl ?_
            | refine sg_ps (ps_sub64 rfl rfl (by omega)) rfl ?_
            | refine sg_ps (ps_mul64 rfl rfl (by omega)) rfl ?_
            | refine sg_ps (ps_bin rfl rfl inferInstance) rfl ?_
            | refine sg_ps (ps_rem rfl rfl (by decide)) rfl ?_
            | refine sg_ps (ps_quo64 rfl rfl (by decide) (by omega)) rfl ?_
            | refine sg_ps (ps_not rfl) rfl ?_
            | refine sg_ps (ps_conv rfl) rfl ?_
            | refine sg_ps (ps_shl rfl rfl (by decide) rfl) rfl ?_
            | refine sg_ps (ps_shr rfl rfl (by decide) rfl) rfl ?_
            | refine sg_cond_t rfl ?_
            | refine sg_cond_f rfl ?_
            | refine sg_guard_yes rfl rfl ?_
            | refine sg_guard_nf rfl rfl rfl ?_
            | refine sg_guard_nt rfl rfl rfl ?_
            | refine sg_guard_nu rfl rfl rfl ?_
            | refine sg_ps (ps_pick_t rfl rfl) rfl ?_
            | refine sg_ps (ps_pick_f rfl rfl) rfl ?_
            | refine sg_ps (ps_len rfl) rfl ?_
            | refine sg_ps (ps_len_str rfl) rfl ?_
            | refine sg_ps (ps_extract rfl rfl) rfl ?_
            | refine sg_ps (ps_field rfl rfl) rfl ?_
            | refine sg_ps (ps_min2 rfl rfl) rfl ?_
            | refine sg_ps (ps_max2 rfl rfl) rfl ?_
            | refine sg_ps (ps_build rfl rfl) rfl ?_
            | refine sg_box rfl rfl (fun bx => ?_)
            | refine sg_ps (ps_indexAddr rfl rfl rfl (by omega)) rfl ?_
            | refine sg_ps (ps_indexAddr (j := 0) rfl rfl rfl (by omega)) rfl ?_
            | refine sg_ps (ps_indexAddr (j := 1) rfl rfl rfl (by omega)) rfl ?_
            | refine sg_ps (ps_indexAddr_arr rfl rfl rfl (by omega)) rfl ?_
            | refine sg_block ?_
            | refine sg_skip ?_
            | refine sg_ret ?_
            | refine sg_exit ?_
            | refine ex_then_ret ?_
            | refine ex_then_exit ?_
            | refine ex_block_ret ?_
            | refine ex_block_normal ?_
            | refine ex_block_hit ?_
            | refine ex_block_miss rfl ?_
            | refine sg_store [] rfl rfl rfl (of_decide_eq_true rfl) ?_
            | refine sg_store [_] rfl rfl rfl (of_decide_eq_true rfl) ?_
            | refine sg_store [_, _] rfl rfl rfl (of_decide_eq_true rfl) ?_
            | refine sg_store [_, _, _] rfl rfl rfl (of_decide_eq_true rfl) ?_
            | refine sg_store [_, _, _, _] rfl rfl rfl (of_decide_eq_true rfl) ?_
            | refine sg_store [_, _, _, _, _] rfl rfl rfl (of_decide_eq_true rfl) ?_
            | refine sg_store [_, _, _, _, _, _] rfl rfl rfl (of_decide_eq_true rfl) ?_
            | refine sg_store [_, _, _, _, _, _, _] rfl rfl rfl (of_decide_eq_true rfl) ?_
            | (refine sg_guard_dec rfl rfl (fun hg => ?_) (fun hg => ?_) <;> first | (exfalso; omega) | (exact absurd rfl hg) | skip)
            | (refine sg_guard_ndec rfl rfl (fun hg => ?_) (fun hg => ?_) <;> first | (exfalso; omega) | (exact absurd rfl hg) | skip)
            | (refine sg_cond_dec rfl (fun hg => ?_) (fun hg => ?_) <;> first | (exfalso; omega) | (exact absurd rfl hg) | skip)
            | (refine sg_cond_ndec rfl (fun hg => ?_) (fun hg => ?_) <;> first | (exfalso; omega) | (exact absurd rfl hg) | skip)
            | refine sg_cond_not rfl (fun hg => ?_) (fun hg => ?_)
            | refine sg_cond rfl (fun hg => ?_) (fun hg => ?_))
          rw [hu]
          repeat' (first
            | refine sg_wo ?_
            | refine sg_ps (ps_move rfl) rfl ?_
            | refine sg_ps (ps_assign rfl) rfl ?_
            | refine sg_seq ?_
            | refine sg_region ?_
            | refine sg_nil ?_
            | refine sg_then ?_
            | refine sg_ps (ps_fieldAddr rfl) rfl ?_
            | refine sg_ps (ps_nilCheck rfl) rfl ?_
            | refine sg_load 0 rfl rfl rfl rfl ?_
            | refine sg_load 1 rfl rfl rfl rfl ?_
            | refine sg_load 2 rfl rfl rfl rfl ?_
            | refine sg_load 3 rfl rfl rfl rfl ?_
            | refine sg_load 4 rfl rfl rfl rfl ?_
            | refine sg_load 5 rfl rfl rfl rfl ?_
            | refine sg_load 6 rfl rfl rfl rfl ?_
            | refine sg_load 7 rfl rfl rfl rfl ?_
            | refine sg_ps (ps_add64 rfl rfl (by omega)) rfl ?_
            | refine sg_ps (ps_sub64 rfl rfl (by omega)) rfl ?_
            | refine sg_ps (ps_mul64 rfl rfl (by omega)) rfl ?_
            | refine sg_ps (ps_bin rfl rfl inferInstance) rfl ?_
            | refine sg_ps (ps_rem rfl rfl (by decide)) rfl ?_
            | refine sg_ps (ps_quo64 rfl rfl (by decide) (by omega)) rfl ?_
            | refine sg_ps (ps_not rfl) rfl ?_
            | refine sg_ps (ps_conv rfl) rfl ?_
            | refine sg_ps (ps_shl rfl rfl (by decide) rfl) rfl ?_
            | refine sg_ps (ps_shr rfl rfl (by decide) rfl) rfl ?_
            | refine sg_cond_t rfl ?_
            | refine sg_cond_f rfl ?_
            | refine sg_guard_yes rfl rfl ?_
            | refine sg_guard_nf rfl rfl rfl ?_
            | refine sg_guard_nt rfl rfl rfl ?_
            | refine sg_guard_nu rfl rfl rfl ?_
            | refine sg_ps (ps_pick_t rfl rfl) rfl ?_
            | refine sg_ps (ps_pick_f rfl rfl) rfl ?_
            | refine sg_ps (ps_len rfl) rfl ?_
            | refine sg_ps (ps_len_str rfl) rfl ?_
            | refine sg_ps (ps_extract rfl rfl) rfl ?_
            | refine sg_ps (ps_field rfl rfl) rfl ?_
            | refine sg_ps (ps_min2 rfl rfl) rfl ?_
            | refine sg_ps (ps_max2 rfl rfl) rfl ?_
            | refine sg_ps (ps_build rfl rfl) rfl ?_
            | refine sg_box rfl rfl (fun bx => ?_)
            | refine sg_ps (ps_indexAddr rfl rfl rfl (by omega)) rfl ?_
            | refine sg_ps (ps_indexAddr (j := 0) rfl rfl rfl (by omega)) rfl ?_
            | refine sg_ps (ps_indexAddr (j := 1) rfl rfl rfl (by omega)) rfl ?_
            | refine sg_ps (ps_indexAddr_arr rfl rfl rfl (by omega)) rfl ?_
            | refine sg_block ?_
            | refine sg_skip ?_
            | refine sg_ret ?_
            | refine sg_exit ?_
            | refine ex_then_ret ?_
            | refine ex_then_exit ?_
            | refine ex_block_ret ?_
            | refine ex_block_normal ?_
            | refine ex_block_hit ?_
            | refine ex_block_miss rfl ?_
            | refine sg_store [] rfl rfl rfl (of_decide_eq_true rfl) ?_
            | refine sg_store [_] rfl rfl rfl (of_decide_eq_true rfl) ?_
            | refine sg_store [_, _] rfl rfl rfl (of_decide_eq_true rfl) ?_
            | refine sg_store [_, _, _] rfl rfl rfl (of_decide_eq_true rfl) ?_
            | refine sg_store [_, _, _, _] rfl rfl rfl (of_decide_eq_true rfl) ?_
            | refine sg_store [_, _, _, _, _] rfl rfl rfl (of_decide_eq_true rfl) ?_
            | refine sg_store [_, _, _, _, _, _] rfl rfl rfl (of_decide_eq_true rfl) ?_
            | refine sg_store [_, _, _, _, _, _, _] rfl rfl rfl (of_decide_eq_true rfl) ?_
            | (refine sg_guard_dec rfl rfl (fun hg => ?_) (fun hg => ?_) <;> first | (exfalso; omega) | (exact absurd rfl hg) | skip)
            | (refine sg_guard_ndec rfl rfl (fun hg => ?_) (fun hg => ?_) <;> first | (exfalso; omega) | (exact absurd rfl hg) | skip)
            | (refine sg_cond_dec rfl (fun hg => ?_) (fun hg => ?_) <;> first | (exfalso; omega) | (exact absurd rfl hg) | skip)
            | (refine sg_cond_ndec rfl (fun hg => ?_) (fun hg => ?_) <;> first | (exfalso; omega) | (exact absurd rfl hg) | skip)
            | refine sg_cond_not rfl (fun hg => ?_) (fun hg => ?_)
            | refine sg_cond rfl (fun hg => ?_) (fun hg => ?_))
          refine sg_call ((wopen_tri d E 0 16 ls (mt + 1) hd [BsRep oa oc cs, old W] (by decide) (by omega) (by omega) (by omega) (by omega) (by omega) (by omega) (by omega)).pre (fun w hO => hO.pick [0, 2, 3] (by decide))) rfl rfl (fun x hx => ?_)
          obtain ⟨lg2, oa2, oc2, p⟩ := x
          dsimp only at hx ⊢
          rw [hw] at hx ⊢
          dsimp only at hx ⊢
          have hpl : p.length = rs.length := by have := congrArg List.length hx; simpa using this
          have hpd : p.map RR.data = (cs.take rs.length).map CB.data := by
            rw [← hs3, ← hx, List.map_map]; rfl
          clear hw hI
          have hget : ∀ k, k < p.length → ∃ y r, p[k]? = some y ∧ cs[k]? = some r ∧ y.data = r.data := by
            intro k hk
            refine ⟨p[k], cs[k]'(by omega), List.getElem?_eq_getElem hk, List.getElem?_eq_getElem (by omega), ?_⟩
            have h9 := congrArg (fun l => l[k]?) hpd
            simp only [List.getElem?_map, List.getElem?_take, List.getElem?_eq_getElem hk, List.getElem?_eq_getElem (show k < cs.length by omega), Option.map_some, if_pos (show k < rs.length by omega), Option.some.injEq] at h9
            exact h9
          repeat' (first
            | refine sg_wo ?_
            | refine sg_ps (ps_move rfl) rfl ?_
            | refine sg_ps (ps_assign rfl) rfl ?_
            | refine sg_seq ?_
            | refine sg_region ?_
            | refine sg_nil ?_
            | refine sg_then ?_
            | refine sg_ps (ps_fieldAddr rfl) rfl ?_
            | refine sg_ps (ps_nilCheck rfl) rfl ?_
            | refine sg_load 0 rfl rfl rfl rfl ?_
            | refine sg_load 1 rfl rfl rfl rfl ?_
            | refine sg_load 2 rfl rfl rfl rfl ?_
            | refine sg_load 3 rfl rfl rfl rfl ?_
            | refine sg_load 4 rfl rfl rfl rfl ?_
            | refine sg_load 5 rfl rfl rfl rfl ?_
            | refine sg_load 6 rfl rfl rfl rfl ?_
            | refine sg_load 7 rfl rfl rfl rfl ?_
            | refine sg_ps (ps_add64 rfl rfl (by omega)) rfl ?_
            | refine sg_ps (ps_sub64 rfl rfl (by omega)) rfl ?_
            | refine sg_ps (ps_mul64 rfl rfl (by omega)) rfl ?_
            | refine sg_ps (ps_bin rfl rfl inferInstance) rfl ?_
            | refine sg_ps (ps_rem rfl rfl (by decide)) rfl ?_
            | refine sg_ps (ps_quo64 rfl rfl (by decide) (by omega)) rfl ?_
            | refine sg_ps (ps_not rfl) rfl ?_
            | refine sg_ps (ps_conv rfl) rfl ?_
            | refine sg_ps (ps_shl rfl rfl (by decide) rfl) rfl ?_
            | refine sg_ps (ps_shr rfl rfl (by decide) rfl) rfl ?_
            | refine sg_cond_t rfl ?_
            | refine sg_cond_f rfl ?_
            | refine sg_guard_yes rfl rfl ?_
            | refine sg_guard_nf rfl rfl rfl ?_
            | refine sg_guard_nt rfl rfl rfl ?_
            | refine sg_guard_nu rfl rfl rfl ?_
            | refine sg_ps (ps_pick_t rfl rfl) rfl ?_
            | refine sg_ps (ps_pick_f rfl rfl) rfl ?_
            | refine sg_ps (ps_len rfl) rfl ?_
            | refine sg_ps (ps_len_str rfl) rfl ?_
            | refine sg_ps (ps_extract rfl rfl) rfl ?_
            | refine sg_ps (ps_field rfl rfl) rfl ?_
            | refine sg_ps (ps_min2 rfl rfl) rfl ?_
            | refine sg_ps (ps_max2 rfl rfl) rfl ?_
            | refine sg_ps (ps_build rfl rfl) rfl ?_
            | refine sg_box rfl rfl (fun bx => ?_)
            | refine sg_ps (ps_indexAddr rfl rfl rfl (by omega)) rfl ?_
            | refine sg_ps (ps_indexAddr (j := 0) rfl rfl rfl (by omega)) rfl ?_
            | refine sg_ps (ps_indexAddr (j := 1) rfl rfl rfl (by omega)) rfl ?_
            | refine sg_ps (ps_indexAddr_arr rfl rfl rfl (by omega)) rfl ?_
            | refine sg_block ?_
            | refine sg_skip ?_
            | refine sg_ret ?_
            | refine sg_exit ?_
            | refine ex_then_ret ?_
            | refine ex_then_exit ?_
            | refine ex_block_ret ?_
            | refine ex_block_normal ?_
            | refine ex_block_hit ?_
            | refine ex_block_miss rfl ?_
            | refine sg_store [] rfl rfl rfl (of_decide_eq_true rfl) ?_
            | refine sg_store [_] rfl rfl rfl (of_decide_eq_true rfl) ?_
            | refine sg_store [_, _] rfl rfl rfl (of_decide_eq_true rfl) ?_
            | refine sg_store [_, _, _] rfl rfl rfl (of_decide_eq_true rfl) ?_
            | refine sg_store [_, _, _, _] rfl rfl rfl (of_decide_eq_true rfl) ?_
            | refine sg_store [_, _, _, _, _] rfl rfl rfl (of_decide_eq_true rfl) ?_
            | refine sg_store [_, _, _, _, _, _] rfl rfl rfl (of_decide_eq_true rfl) ?_
            | refine sg_store [_, _, _, _, _, _, _] rfl rfl rfl (of_decide_eq_true rfl) ?_
            | (refine sg_guard_dec rfl rfl (fun hg => ?_) (fun hg => ?_) <;> first | (exfalso; omega) | (exact absurd rfl hg) | skip)
            | (refine sg_guard_ndec rfl rfl (fun hg => ?_) (fun hg => ?_) <;> first | (exfalso; omega) | (exact absurd rfl hg) | skip)
            | (refine sg_cond_dec rfl (fun hg => ?_) (fun hg => ?_) <;> first | (exfalso; omega) | (exact absurd rfl hg) | skip)
            | (refine sg_cond_ndec rfl (fun hg => ?_) (fun hg => ?_) <;> first | (exfalso; omega) | (exact absurd rfl hg) | skip)
            | refine sg_cond_not rfl (fun hg => ?_) (fun hg => ?_)
            | refine sg_cond rfl (fun hg => ?_) (fun hg => ?_))
          refine sg_loop (γ := Nat) (fun k => k ≤ p.length) (fun k => [(0, .slice (some ⟨lb, lo, none⟩) l.length lc), (3, dp d), (5, .int .u32 ((mt + 1 : Nat) : Int)), (6, .int .u32 (ls : Int)), (7, u64v hd), (11, .slice oa cs.length oc), (13, i64 i), (17, dp lg2), (18, .slice oa2 p.length oc2), (20, i64 k)])
            (fun _ => [RecsRep oa2 oc2 p, blk lg2 (lcells d ⟨0, 16, mt + 1, hd, nx2⟩), DiskRep d E, BsRep oa oc cs, old W]) (fun k => p.length - k) 0 (Nat.zero_le _)
            (.cons rfl (.cons rfl (.cons rfl (.cons rfl (.cons rfl (.cons rfl (.cons rfl (.cons rfl (.cons rfl (.cons rfl .nil)))))))))) (fun w hO => hO) ?_
          intro k hk
          by_cases hkp : k < p.length
          · obtain ⟨y, r, hy, hr, hd2⟩ := hget k hkp
            refine sg_recs_some 0 rfl (by omega) ?_
            rintro rb rfl
            refine sg_bs_some 3 rfl (by omega) ?_
            rintro ab rfl
            repeat' (first
              | refine sg_wo ?_
              | refine sg_ps (ps_move rfl) rfl ?_
              | refine sg_ps (ps_assign rfl) rfl ?_
              | refine sg_seq ?_
              | refine sg_region ?_
              | refine sg_nil ?_
              | refine sg_then ?_
              | refine sg_ps (ps_fieldAddr rfl) rfl ?_
              | refine sg_ps (ps_nilCheck rfl) rfl ?_
              | refine sg_load 0 rfl rfl rfl rfl ?_
              | refine sg_load 1 rfl rfl rfl rfl ?_
              | refine sg_load 2 rfl rfl rfl rfl ?_
              | refine sg_load 3 rfl rfl rfl rfl ?_
              | refine sg_load 4 rfl rfl rfl rfl ?_
              | refine sg_load 5 rfl rfl rfl rfl ?_
              | refine sg_load 6 rfl rfl rfl rfl ?_
              | refine sg_load 7 rfl rfl rfl rfl ?_
              | refine sg_ps (ps_add64 rfl rfl (by omega)) rfl ?_
              | refine sg_ps (ps_sub64 rfl rfl (by omega)) rfl ?_
              | refine sg_ps (ps_mul64 rfl rfl (by omega)) rfl ?_
              | refine sg_ps (ps_bin rfl rfl inferInstance) rfl ?_
              | refine sg_ps (ps_rem rfl rfl (by decide)) rfl ?_
              | refine sg_ps (ps_quo64 rfl rfl (by decide) (by omega)) rfl ?_
              | refine sg_ps (ps_not rfl) rfl ?_
              | refine sg_ps (ps_conv rfl) rfl ?_
              | refine sg_ps (ps_shl rfl rfl (by decide) rfl) rfl ?_
              | refine sg_ps (ps_shr rfl rfl (by decide) rfl) rfl ?_
              | refine sg_cond_t rfl ?_
              | refine sg_cond_f rfl ?_
              | refine sg_guard_yes rfl rfl ?_
              | refine sg_guard_nf rfl rfl rfl ?_
              | refine sg_guard_nt rfl rfl rfl ?_
              | refine sg_guard_nu rfl rfl rfl ?_
              | refine sg_ps (ps_pick_t rfl rfl) rfl ?_
              | refine sg_ps (ps_pick_f rfl rfl) rfl ?_
              | refine sg_ps (ps_len rfl) rfl ?_
              | refine sg_ps (ps_len_str rfl) rfl ?_
              | refine sg_ps (ps_extract rfl rfl) rfl ?_
              | refine sg_ps (ps_field rfl rfl) rfl ?_
              | refine sg_ps (ps_min2 rfl rfl) rfl ?_
              | refine sg_ps (ps_max2 rfl rfl) rfl ?_
              | refine sg_ps (ps_build rfl rfl) rfl ?_
              | refine sg_box rfl rfl (fun bx => ?_)
              | refine sg_ps (ps_indexAddr rfl rfl rfl (by omega)) rfl ?_
              | refine sg_ps (ps_indexAddr (j := 0) rfl rfl rfl (by omega)) rfl ?_
              | refine sg_ps (ps_indexAddr (j := 1) rfl rfl rfl (by omega)) rfl ?_
              | refine sg_ps (ps_indexAddr_arr rfl rfl rfl (by omega)) rfl ?_
              | refine sg_block ?_
              | refine sg_skip ?_
              | refine sg_ret ?_
              | refine sg_exit ?_
              | refine ex_then_ret ?_
              | refine ex_then_exit ?_
              | refine ex_block_ret ?_
              | refine ex_block_normal ?_
              | refine ex_block_hit ?_
              | refine ex_block_miss rfl ?_
              | refine sg_store [] rfl rfl rfl (of_decide_eq_true rfl) ?_
              | refine sg_store [_] rfl rfl rfl (of_decide_eq_true rfl) ?_
              | refine sg_store [_, _] rfl rfl rfl (of_decide_eq_true rfl) ?_
              | refine sg_store [_, _, _] rfl rfl rfl (of_decide_eq_true rfl) ?_
              | refine sg_store [_, _, _, _] rfl rfl rfl (of_decide_eq_true rfl) ?_
              | refine sg_store [_, _, _, _, _] rfl rfl rfl (of_decide_eq_true rfl) ?_
              | refine sg_store [_, _, _, _, _, _] rfl rfl rfl (of_decide_eq_true rfl) ?_
              | refine sg_store [_, _, _, _, _, _, _] rfl rfl rfl (of_decide_eq_true rfl) ?_
              | (refine sg_guard_dec rfl rfl (fun hg => ?_) (fun hg => ?_) <;> first | (exfalso; omega) | (exact absurd rfl hg) | skip)
              | (refine sg_guard_ndec rfl rfl (fun hg => ?_) (fun hg => ?_) <;> first | (exfalso; omega) | (exact absurd rfl hg) | skip)
              | (refine sg_cond_dec rfl (fun hg => ?_) (fun hg => ?_) <;> first | (exfalso; omega) | (exact absurd rfl hg) | skip)
              | (refine sg_cond_ndec rfl (fun hg => ?_) (fun hg => ?_) <;> first | (exfalso; omega) | (exact absurd rfl hg) | skip)
              | refine sg_cond_not rfl (fun hg => ?_) (fun hg => ?_)
              | refine sg_cond rfl (fun hg => ?_) (fun hg => ?_))
            refine sg_drawK [RecsRep (some ⟨rb, 0, none⟩) oc2 p, blk lg2 (lcells d ⟨0, 16, mt + 1, hd, nx2⟩), DiskRep d E, BsRep (some ⟨ab, 0, none⟩) oc cs, old W] [0, 1, 2, 3, 5, 6, 7, 4, 8, 9, 10] (by kernel_rfl) (by kernel_rfl) (fun w hO => hO) ?_
            repeat' (first
              | refine sk_nil ?_
              | refine sk_pure rfl rfl (ps_move rfl) rfl ?_
              | refine sk_pure rfl rfl (ps_assign rfl) rfl ?_
              | refine sk_pure rfl rfl (ps_nilCheck rfl) rfl ?_
              | refine sk_pure rfl rfl (ps_fieldAddr rfl) rfl ?_
              | refine sk_pure rfl rfl (ps_add64 rfl rfl (by omega)) rfl ?_
              | refine sk_pure rfl rfl (ps_sub64 rfl rfl (by omega)) rfl ?_
              | refine sk_pure rfl rfl (ps_mul64 rfl rfl (by omega)) rfl ?_
              | refine sk_pure rfl rfl (ps_bin rfl rfl inferInstance) rfl ?_
              | refine sk_pure rfl rfl (ps_rem rfl rfl (by decide)) rfl ?_
              | refine sk_pure rfl rfl (ps_not rfl) rfl ?_
              | refine sk_pure rfl rfl (ps_conv rfl) rfl ?_
              | refine sk_pure rfl rfl (ps_shl rfl rfl (by decide) rfl) rfl ?_
              | refine sk_pure rfl rfl (ps_shr rfl rfl (by decide) rfl) rfl ?_
              | refine sk_pure rfl rfl (ps_len rfl) rfl ?_
              | refine sk_pure rfl rfl (ps_len_str rfl) rfl ?_
              | refine sk_pure rfl rfl (ps_extract rfl rfl) rfl ?_
              | refine sk_pure rfl rfl (ps_field rfl rfl) rfl ?_
              | refine sk_pure rfl rfl (ps_build rfl rfl) rfl ?_
              | refine sk_pure rfl rfl (ps_indexAddr rfl rfl rfl (by omega)) rfl ?_
              | refine sk_pure rfl rfl (ps_indexAddr (j := 0) rfl rfl rfl (by omega)) rfl ?_
              | refine sk_pure rfl rfl (ps_indexAddr (j := 1) rfl rfl rfl (by omega)) rfl ?_
              | refine sk_pure rfl rfl (ps_pick_t rfl rfl) rfl ?_
              | refine sk_pure rfl rfl (ps_pick_f rfl rfl) rfl ?_
              | refine sk_pure rfl rfl (ps_min2 rfl rfl) rfl ?_
              | refine sk_pure rfl rfl (ps_max2 rfl rfl) rfl ?_
              | refine sk_pure rfl rfl (ps_indexAddr_arr rfl rfl rfl (by omega)) rfl ?_
              | refine sk_no rfl rfl rfl rfl rfl ?_
              | refine sk_pure_g rfl rfl rfl rfl (ps_move rfl) rfl ?_
              | refine sk_pure_g rfl rfl rfl rfl (ps_assign rfl) rfl ?_
              | refine sk_pure_g rfl rfl rfl rfl (ps_nilCheck rfl) rfl ?_
              | refine sk_pure_g rfl rfl rfl rfl (ps_fieldAddr rfl) rfl ?_
              | refine sk_pure_g rfl rfl rfl rfl (ps_add64 rfl rfl (by omega)) rfl ?_
              | refine sk_pure_g rfl rfl rfl rfl (ps_sub64 rfl rfl (by omega)) rfl ?_
              | refine sk_pure_g rfl rfl rfl rfl (ps_mul64 rfl rfl (by omega)) rfl ?_
              | refine sk_pure_g rfl rfl rfl rfl (ps_bin rfl rfl inferInstance) rfl ?_
              | refine sk_pure_g rfl rfl rfl rfl (ps_rem rfl rfl (by decide)) rfl ?_
              | refine sk_pure_g rfl rfl rfl rfl (ps_not rfl) rfl ?_
              | refine sk_pure_g rfl rfl rfl rfl (ps_conv rfl) rfl ?_
              | refine sk_pure_g rfl rfl rfl rfl (ps_shl rfl rfl (by decide) rfl) rfl ?_
              | refine sk_pure_g rfl rfl rfl rfl (ps_shr rfl rfl (by decide) rfl) rfl ?_
              | refine sk_pure_g rfl rfl rfl rfl (ps_len rfl) rfl ?_
              | refine sk_pure_g rfl rfl rfl rfl (ps_len_str rfl) rfl ?_
              | refine sk_pure_g rfl rfl rfl rfl (ps_extract rfl rfl) rfl ?_
              | refine sk_pure_g rfl rfl rfl rfl (ps_field rfl rfl) rfl ?_
              | refine sk_pure_g rfl rfl rfl rfl (ps_build rfl rfl) rfl ?_
              | refine sk_pure_g rfl rfl rfl rfl (ps_indexAddr rfl rfl rfl (by omega)) rfl ?_
              | refine sk_pure_g rfl rfl rfl rfl (ps_indexAddr (j := 0) rfl rfl rfl (by omega)) rfl ?_
              | refine sk_pure_g rfl rfl rfl rfl (ps_indexAddr (j := 1) rfl rfl rfl (by omega)) rfl ?_
              | refine sk_pure_g rfl rfl rfl rfl (ps_pick_t rfl rfl) rfl ?_
              | refine sk_pure_g rfl rfl rfl rfl (ps_pick_f rfl rfl) rfl ?_
              | refine sk_pure_g rfl rfl rfl rfl (ps_min2 rfl rfl) rfl ?_
              | refine sk_pure_g rfl rfl rfl rfl (ps_max2 rfl rfl) rfl ?_
              | refine sk_pure_g rfl rfl rfl rfl (ps_indexAddr_arr rfl rfl rfl (by omega)) rfl ?_
              | refine sk_load 0 rfl rfl rfl rfl rfl ?_
              | refine sk_load 1 rfl rfl rfl rfl rfl ?_
              | refine sk_load 2 rfl rfl rfl rfl rfl ?_
              | refine sk_load 3 rfl rfl rfl rfl rfl ?_
              | refine sk_load 4 rfl rfl rfl rfl rfl ?_
              | refine sk_load 5 rfl rfl rfl rfl rfl ?_
              | refine sk_load_g 0 rfl rfl rfl rfl rfl rfl rfl ?_
              | refine sk_load_g 1 rfl rfl rfl rfl rfl rfl rfl ?_
              | refine sk_load_g 2 rfl rfl rfl rfl rfl rfl rfl ?_
              | refine sk_load_g 3 rfl rfl rfl rfl rfl rfl rfl ?_
              | refine sk_load_g 4 rfl rfl rfl rfl rfl rfl rfl ?_
              | refine sk_load_g 5 rfl rfl rfl rfl rfl rfl rfl ?_
              | refine sk_lw 0 rfl rfl rfl rfl rfl ?_
              | refine sk_lw 1 rfl rfl rfl rfl rfl ?_
              | refine sk_lw 2 rfl rfl rfl rfl rfl ?_
              | refine sk_lw 3 rfl rfl rfl rfl rfl ?_
              | refine sk_lw 4 rfl rfl rfl rfl rfl ?_
              | refine sk_lw 5 rfl rfl rfl rfl rfl ?_
              | refine sk_lwg 0 rfl rfl rfl rfl rfl rfl rfl ?_
              | refine sk_lwg 1 rfl rfl rfl rfl rfl rfl rfl ?_
              | refine sk_lwg 2 rfl rfl rfl rfl rfl rfl rfl ?_
              | refine sk_lwg 3 rfl rfl rfl rfl rfl rfl rfl ?_
              | refine sk_lwg 4 rfl rfl rfl rfl rfl rfl rfl ?_
              | refine sk_lwg 5 rfl rfl rfl rfl rfl rfl rfl ?_
              | refine sk_eff rfl rfl ?_
              | refine sg_store_whole [] rfl rfl rfl rfl rfl ?_
              | refine sg_store_whole [_] rfl rfl rfl rfl rfl ?_
              | refine sg_store_whole [_, _] rfl rfl rfl rfl rfl ?_
              | refine sg_store_whole [_, _, _] rfl rfl rfl rfl rfl ?_
              | refine sg_store_whole [_, _, _, _] rfl rfl rfl rfl rfl ?_
              | refine sg_store_whole [_, _, _, _, _] rfl rfl rfl rfl rfl ?_
              | refine sg_store_whole [_, _, _, _, _, _] rfl rfl rfl rfl rfl ?_
              | refine sg_guard_yes rfl rfl ?_
              | refine sg_guard_nf rfl rfl rfl ?_
              | refine sg_guard_nt rfl rfl rfl ?_
              | refine sg_guard_nu rfl rfl rfl ?_
              | refine sk_back (fun w hO => hO) ?_
              | refine sg_store [] rfl rfl rfl (of_decide_eq_true rfl) ?_
              | refine sg_store [_] rfl rfl rfl (of_decide_eq_true rfl) ?_
              | refine sg_store [_, _] rfl rfl rfl (of_decide_eq_true rfl) ?_
              | refine sg_store [_, _, _] rfl rfl rfl (of_decide_eq_true rfl) ?_
              | refine sg_store [_, _, _, _] rfl rfl rfl (of_decide_eq_true rfl) ?_
              | refine sg_store [_, _, _, _, _] rfl rfl rfl (of_decide_eq_true rfl) ?_
              | refine sg_store [_, _, _, _, _, _] rfl rfl rfl (of_decide_eq_true rfl) ?_
              | refine sg_store [_, _, _, _, _, _, _] rfl rfl rfl (of_decide_eq_true rfl) ?_
              | refine sk_nu rfl rfl rfl rfl rfl ?_
              | (refine sk_dec rfl rfl rfl rfl (fun hg => ?_) (fun hg => ?_) <;> first | (exfalso; omega) | (exact absurd rfl hg) | skip)
              | (refine sk_ndec rfl rfl rfl rfl (fun hg => ?_) (fun hg => ?_) <;> first | (exfalso; omega) | (exact absurd rfl hg) | skip))
            refine sk_load_rd rfl rfl (rd_rcell (i := k) (j := 2) 0 rfl hy (by decide) rfl) rfl ?_
            repeat' (first
              | refine sk_nil ?_
              | refine sk_pure rfl rfl (ps_move rfl) rfl ?_
              | refine sk_pure rfl rfl (ps_assign rfl) rfl ?_
              | refine sk_pure rfl rfl (ps_nilCheck rfl) rfl ?_
              | refine sk_pure rfl rfl (ps_fieldAddr rfl) rfl ?_
              | refine sk_pure rfl rfl (ps_add64 rfl rfl (by omega)) rfl ?_
              | refine sk_pure rfl rfl (ps_sub64 rfl rfl (by omega)) rfl ?_
              | refine sk_pure rfl rfl (ps_mul64 rfl rfl (by omega)) rfl ?_
              | refine sk_pure rfl rfl (ps_bin rfl rfl inferInstance) rfl ?_
              | refine sk_pure rfl rfl (ps_rem rfl rfl (by decide)) rfl ?_
              | refine sk_pure rfl rfl (ps_not rfl) rfl ?_
              | refine sk_pure rfl rfl (ps_conv rfl) rfl ?_
              | refine sk_pure rfl rfl (ps_shl rfl rfl (by decide) rfl) rfl ?_
              | refine sk_pure rfl rfl (ps_shr rfl rfl (by decide) rfl) rfl ?_
              | refine sk_pure rfl rfl (ps_len rfl) rfl ?_
              | refine sk_pure rfl rfl (ps_len_str rfl) rfl ?_
              | refine sk_pure rfl rfl (ps_extract rfl rfl) rfl ?_
              | refine sk_pure rfl rfl (ps_field rfl rfl) rfl ?_
              | refine sk_pure rfl rfl (ps_build rfl rfl) rfl ?_
              | refine sk_pure rfl rfl (ps_indexAddr rfl rfl rfl (by omega)) rfl ?_
              | refine sk_pure rfl rfl (ps_indexAddr (j := 0) rfl rfl rfl (by omega)) rfl ?_
              | refine sk_pure rfl rfl (ps_indexAddr (j := 1) rfl rfl rfl (by omega)) rfl ?_
              | refine sk_pure rfl rfl (ps_pick_t rfl rfl) rfl ?_
              | refine sk_pure rfl rfl (ps_pick_f rfl rfl) rfl ?_
              | refine sk_pure rfl rfl (ps_min2 rfl rfl) rfl ?_
              | refine sk_pure rfl rfl (ps_max2 rfl rfl) rfl ?_
              | refine sk_pure rfl rfl (ps_indexAddr_arr rfl rfl rfl (by omega)) rfl ?_
              | refine sk_no rfl rfl rfl rfl rfl ?_
              | refine sk_pure_g rfl rfl rfl rfl (ps_move rfl) rfl ?_
              | refine sk_pure_g rfl rfl rfl rfl (ps_assign rfl) rfl ?_
              | refine sk_pure_g rfl rfl rfl rfl (ps_nilCheck rfl) rfl ?_
              | refine sk_pure_g rfl rfl rfl rfl (ps_fieldAddr rfl) rfl ?_
              | refine sk_pure_g rfl rfl rfl rfl (ps_add64 rfl rfl (by omega)) rfl ?_
              | refine sk_pure_g rfl rfl rfl rfl (ps_sub64 rfl rfl (by omega)) rfl ?_
              | refine sk_pure_g rfl rfl rfl rfl (ps_mul64 rfl rfl (by omega)) rfl ?_
              | refine sk_pure_g rfl rfl rfl rfl (ps_bin rfl rfl inferInstance) rfl ?_
              | refine sk_pure_g rfl rfl rfl rfl (ps_rem rfl rfl (by decide)) rfl ?_
              | refine sk_pure_g rfl rfl rfl rfl (ps_not rfl) rfl ?_
              | refine sk_pure_g rfl rfl rfl rfl (ps_conv rfl) rfl ?_
              | refine sk_pure_g rfl rfl rfl rfl (ps_shl rfl rfl (by decide) rfl) rfl ?_
              | refine sk_pure_g rfl rfl rfl rfl (ps_shr rfl rfl (by decide) rfl) rfl ?_
              | refine sk_pure_g rfl rfl rfl rfl (ps_len rfl) rfl ?_
              | refine sk_pure_g rfl rfl rfl rfl (ps_len_str rfl) rfl ?_
              | refine sk_pure_g rfl rfl rfl rfl (ps_extract rfl rfl) rfl ?_
              | refine sk_pure_g rfl rfl rfl rfl (ps_field rfl rfl) rfl ?_
              | refine sk_pure_g rfl rfl rfl rfl (ps_build rfl rfl) rfl ?_
              | refine sk_pure_g rfl rfl rfl rfl (ps_indexAddr rfl rfl rfl (by omega)) rfl ?_
              | refine sk_pure_g rfl rfl rfl rfl (ps_indexAddr (j := 0) rfl rfl rfl (by omega)) rfl ?_
              | refine sk_pure_g rfl rfl rfl rfl (ps_indexAddr (j := 1) rfl rfl rfl (by omega)) rfl ?_
              | refine sk_pure_g rfl rfl rfl rfl (ps_pick_t rfl rfl) rfl ?_
              | refine sk_pure_g rfl rfl rfl rfl (ps_pick_f rfl rfl) rfl ?_
              | refine sk_pure_g rfl rfl rfl rfl (ps_min2 rfl rfl) rfl ?_
              | refine sk_pure_g rfl rfl rfl rfl (ps_max2 rfl rfl) rfl ?_
              | refine sk_pure_g rfl rfl rfl rfl (ps_indexAddr_arr rfl rfl rfl (by omega)) rfl ?_
              | refine sk_load 0 rfl rfl rfl rfl rfl ?_
              | refine sk_load 1 rfl rfl rfl rfl rfl ?_
              | refine sk_load 2 rfl rfl rfl rfl rfl ?_
              | refine sk_load 3 rfl rfl rfl rfl rfl ?_
              | refine sk_load 4 rfl rfl rfl rfl rfl ?_
              | refine sk_load 5 rfl rfl rfl rfl rfl ?_
              | refine sk_load_g 0 rfl rfl rfl rfl rfl rfl rfl ?_
              | refine sk_load_g 1 rfl rfl rfl rfl rfl rfl rfl ?_
              | refine sk_load_g 2 rfl rfl rfl rfl rfl rfl rfl ?_
              | refine sk_load_g 3 rfl rfl rfl rfl rfl rfl rfl ?_
              | refine sk_load_g 4 rfl rfl rfl rfl rfl rfl rfl ?_
              | refine sk_load_g 5 rfl rfl rfl rfl rfl rfl rfl ?_
              | refine sk_lw 0 rfl rfl rfl rfl rfl ?_
              | refine sk_lw 1 rfl rfl rfl rfl rfl ?_
              | refine sk_lw 2 rfl rfl rfl rfl rfl ?_
              | refine sk_lw 3 rfl rfl rfl rfl rfl ?_
              | refine sk_lw 4 rfl rfl rfl rfl rfl ?_
              | refine sk_lw 5 rfl rfl rfl rfl rfl ?_
              | refine sk_lwg 0 rfl rfl rfl rfl rfl rfl rfl ?_
              | refine sk_lwg 1 rfl rfl rfl rfl rfl rfl rfl ?_
              | refine sk_lwg 2 rfl rfl rfl rfl rfl rfl rfl ?_
              | refine sk_lwg 3 rfl rfl rfl rfl rfl rfl rfl ?_
              | refine sk_lwg 4 rfl rfl rfl rfl rfl rfl rfl ?_
              | refine sk_lwg 5 rfl rfl rfl rfl rfl rfl rfl ?_
              | refine sk_eff rfl rfl ?_
              | refine sg_store_whole [] rfl rfl rfl rfl rfl ?_
              | refine sg_store_whole [_] rfl rfl rfl rfl rfl ?_
              | refine sg_store_whole [_, _] rfl rfl rfl rfl rfl ?_
              | refine sg_store_whole [_, _, _] rfl rfl rfl rfl rfl ?_
              | refine sg_store_whole [_, _, _, _] rfl rfl rfl rfl rfl ?_
              | refine sg_store_whole [_, _, _, _, _] rfl rfl rfl rfl rfl ?_
              | refine sg_store_whole [_, _, _, _, _, _] rfl rfl rfl rfl rfl ?_
              | refine sg_guard_yes rfl rfl ?_
              | refine sg_guard_nf rfl rfl rfl ?_
              | refine sg_guard_nt rfl rfl rfl ?_
              | refine sg_guard_nu rfl rfl rfl ?_
              | refine sk_back (fun w hO => hO) ?_
              | refine sg_store [] rfl rfl rfl (of_decide_eq_true rfl) ?_
              | refine sg_store [_] rfl rfl rfl (of_decide_eq_true rfl) ?_
              | refine sg_store [_, _] rfl rfl rfl (of_decide_eq_true rfl) ?_
              | refine sg_store [_, _, _] rfl rfl rfl (of_decide_eq_true rfl) ?_
              | refine sg_store [_, _, _, _] rfl rfl rfl (of_decide_eq_true rfl) ?_
              | refine sg_store [_, _, _, _, _] rfl rfl rfl (of_decide_eq_true rfl) ?_
              | refine sg_store [_, _, _, _, _, _] rfl rfl rfl (of_decide_eq_true rfl) ?_
              | refine sg_store [_, _, _, _, _, _, _] rfl rfl rfl (of_decide_eq_true rfl) ?_
              | refine sk_nu rfl rfl rfl rfl rfl ?_
              | (refine sk_dec rfl rfl rfl rfl (fun hg => ?_) (fun hg => ?_) <;> first | (exfalso; omega) | (exact absurd rfl hg) | skip)
              | (refine sk_ndec rfl rfl rfl rfl (fun hg => ?_) (fun hg => ?_) <;> first | (exfalso; omega) | (exact absurd rfl hg) | skip))
            refine sk_load_rd rfl rfl (rd_bhdr (i := k) 3 rfl hr) rfl ?_
            repeat' (first
              | refine sk_nil ?_
              | refine sk_pure rfl rfl (ps_move rfl) rfl ?_
              | refine sk_pure rfl rfl (ps_assign rfl) rfl ?_
              | refine sk_pure rfl rfl (ps_nilCheck rfl) rfl ?_
              | refine sk_pure rfl rfl (ps_fieldAddr rfl) rfl ?_
              | refine sk_pure rfl rfl (ps_add64 rfl rfl (by omega)) rfl ?_
              | refine sk_pure rfl rfl (ps_sub64 rfl rfl (by omega)) rfl ?_
              | refine sk_pure rfl rfl (ps_mul64 rfl rfl (by omega)) rfl ?_
              | refine sk_pure rfl rfl (ps_bin rfl rfl inferInstance) rfl ?_
              | refine sk_pure rfl rfl (ps_rem rfl rfl (by decide)) rfl ?_
              | refine sk_pure rfl rfl (ps_not rfl) rfl ?_
              | refine sk_pure rfl rfl (ps_conv rfl) rfl ?_
              | refine sk_pure rfl rfl (ps_shl rfl rfl (by decide) rfl) rfl ?_
              | refine sk_pure rfl rfl (ps_shr rfl rfl (by decide) rfl) rfl ?_
              | refine sk_pure rfl rfl (ps_len rfl) rfl ?_
              | refine sk_pure rfl rfl (ps_len_str rfl) rfl ?_
              | refine sk_pure rfl rfl (ps_extract rfl rfl) rfl ?_
              | refine sk_pure rfl rfl (ps_field rfl rfl) rfl ?_
              | refine sk_pure rfl rfl (ps_build rfl rfl) rfl ?_
              | refine sk_pure rfl rfl (ps_indexAddr rfl rfl rfl (by omega)) rfl ?_
              | refine sk_pure rfl rfl (ps_indexAddr (j := 0) rfl rfl rfl (by omega)) rfl ?_
              | refine sk_pure rfl rfl (ps_indexAddr (j := 1) rfl rfl rfl (by omega)) rfl ?_
              | refine sk_pure rfl rfl (ps_pick_t rfl rfl) rfl ?_
              | refine sk_pure rfl rfl (ps_pick_f rfl rfl) rfl ?_
              | refine sk_pure rfl rfl (ps_min2 rfl rfl) rfl ?_
              | refine sk_pure rfl rfl (ps_max2 rfl rfl) rfl ?_
              | refine sk_pure rfl rfl (ps_indexAddr_arr rfl rfl rfl (by omega)) rfl ?_
              | refine sk_no rfl rfl rfl rfl rfl ?_
              | refine sk_pure_g rfl rfl rfl rfl (ps_move rfl) rfl ?_
              | refine sk_pure_g rfl rfl rfl rfl (ps_assign rfl) rfl ?_
              | refine sk_pure_g rfl rfl rfl rfl (ps_nilCheck rfl) rfl ?_
              | refine sk_pure_g rfl rfl rfl rfl (ps_fieldAddr rfl) rfl ?_
              | refine sk_pure_g rfl rfl rfl rfl (ps_add64 rfl rfl (by omega)) rfl ?_
              | refine sk_pure_g rfl rfl rfl rfl (ps_sub64 rfl rfl (by omega)) rfl ?_
              | refine sk_pure_g rfl rfl rfl rfl (ps_mul64 rfl rfl (by omega)) rfl ?_
              | refine sk_pure_g rfl rfl rfl rfl (ps_bin rfl rfl inferInstance) rfl ?_
              | refine sk_pure_g rfl rfl rfl rfl (ps_rem rfl rfl (by decide)) rfl ?_
              | refine sk_pure_g rfl rfl rfl rfl (ps_not rfl) rfl ?_
              | refine sk_pure_g rfl rfl rfl rfl (ps_conv rfl) rfl ?_
              | refine sk_pure_g rfl rfl rfl rfl (ps_shl rfl rfl (by decide) rfl) rfl ?_
              | refine sk_pure_g rfl rfl rfl rfl (ps_shr rfl rfl (by decide) rfl) rfl ?_
              | refine sk_pure_g rfl rfl rfl rfl (ps_len rfl) rfl ?_
              | refine sk_pure_g rfl rfl rfl rfl (ps_len_str rfl) rfl ?_
              | refine sk_pure_g rfl rfl rfl rfl (ps_extract rfl rfl) rfl ?_
              | refine sk_pure_g rfl rfl rfl rfl (ps_field rfl rfl) rfl ?_
              | refine sk_pure_g rfl rfl rfl rfl (ps_build rfl rfl) rfl ?_
              | refine sk_pure_g rfl rfl rfl rfl (ps_indexAddr rfl rfl rfl (by omega)) rfl ?_
              | refine sk_pure_g rfl rfl rfl rfl (ps_indexAddr (j := 0) rfl rfl rfl (by omega)) rfl ?_
              | refine sk_pure_g rfl rfl rfl rfl (ps_indexAddr (j := 1) rfl rfl rfl (by omega)) rfl ?_
              | refine sk_pure_g rfl rfl rfl rfl (ps_pick_t rfl rfl) rfl ?_
              | refine sk_pure_g rfl rfl rfl rfl (ps_pick_f rfl rfl) rfl ?_
              | refine sk_pure_g rfl rfl rfl rfl (ps_min2 rfl rfl) rfl ?_
              | refine sk_pure_g rfl rfl rfl rfl (ps_max2 rfl rfl) rfl ?_
              | refine sk_pure_g rfl rfl rfl rfl (ps_indexAddr_arr rfl rfl rfl (by omega)) rfl ?_
              | refine sk_load 0 rfl rfl rfl rfl rfl ?_
              | refine sk_load 1 rfl rfl rfl rfl rfl ?_
              | refine sk_load 2 rfl rfl rfl rfl rfl ?_
              | refine sk_load 3 rfl rfl rfl rfl rfl ?_
              | refine sk_load 4 rfl rfl rfl rfl rfl ?_
              | refine sk_load 5 rfl rfl rfl rfl rfl ?_
              | refine sk_load_g 0 rfl rfl rfl rfl rfl rfl rfl ?_
              | refine sk_load_g 1 rfl rfl rfl rfl rfl rfl rfl ?_
              | refine sk_load_g 2 rfl rfl rfl rfl rfl rfl rfl ?_
              | refine sk_load_g 3 rfl rfl rfl rfl rfl rfl rfl ?_
              | refine sk_load_g 4 rfl rfl rfl rfl rfl rfl rfl ?_
              | refine sk_load_g 5 rfl rfl rfl rfl rfl rfl rfl ?_
              | refine sk_lw 0 rfl rfl rfl rfl rfl ?_
              | refine sk_lw 1 rfl rfl rfl rfl rfl ?_
              | refine sk_lw 2 rfl rfl rfl rfl rfl ?_
              | refine sk_lw 3 rfl rfl rfl rfl rfl ?_
              | refine sk_lw 4 rfl rfl rfl rfl rfl ?_
              | refine sk_lw 5 rfl rfl rfl rfl rfl ?_
              | refine sk_lwg 0 rfl rfl rfl rfl rfl rfl rfl ?_
              | refine sk_lwg 1 rfl rfl rfl rfl rfl rfl rfl ?_
              | refine sk_lwg 2 rfl rfl rfl rfl rfl rfl rfl ?_
              | refine sk_lwg 3 rfl rfl rfl rfl rfl rfl rfl ?_
              | refine sk_lwg 4 rfl rfl rfl rfl rfl rfl rfl ?_
              | refine sk_lwg 5 rfl rfl rfl rfl rfl rfl rfl ?_
              | refine sk_eff rfl rfl ?_
              | refine sg_store_whole [] rfl rfl rfl rfl rfl ?_
              | refine sg_store_whole [_] rfl rfl rfl rfl rfl ?_
              | refine sg_store_whole [_, _] rfl rfl rfl rfl rfl ?_
              | refine sg_store_whole [_, _, _] rfl rfl rfl rfl rfl ?_
              | refine sg_store_whole [_, _, _, _] rfl rfl rfl rfl rfl ?_
              | refine sg_store_whole [_, _, _, _, _] rfl rfl rfl rfl rfl ?_
              | refine sg_store_whole [_, _, _, _, _, _] rfl rfl rfl rfl rfl ?_
              | refine sg_guard_yes rfl rfl ?_
              | refine sg_guard_nf rfl rfl rfl ?_
              | refine sg_guard_nt rfl rfl rfl ?_
              | refine sg_guard_nu rfl rfl rfl ?_
              | refine sk_back (fun w hO => hO) ?_
              | refine sg_store [] rfl rfl rfl (of_decide_eq_true rfl) ?_
              | refine sg_store [_] rfl rfl rfl (of_decide_eq_true rfl) ?_
              | refine sg_store [_, _] rfl rfl rfl (of_decide_eq_true rfl) ?_
              | refine sg_store [_, _, _] rfl rfl rfl (of_decide_eq_true rfl) ?_
              | refine sg_store [_, _, _, _] rfl rfl rfl (of_decide_eq_true rfl) ?_
              | refine sg_store [_, _, _, _, _] rfl rfl rfl (of_decide_eq_true rfl) ?_
              | refine sg_store [_, _, _, _, _, _] rfl rfl rfl (of_decide_eq_true rfl) ?_
              | refine sg_store [_, _, _, _, _, _, _] rfl rfl rfl (of_decide_eq_true rfl) ?_
              | refine sk_nu rfl rfl rfl rfl rfl ?_
              | (refine sk_dec rfl rfl rfl rfl (fun hg => ?_) (fun hg => ?_) <;> first | (exfalso; omega) | (exact absurd rfl hg) | skip)
              | (refine sk_ndec rfl rfl rfl rfl (fun hg => ?_) (fun hg => ?_) <;> first | (exfalso; omega) | (exact absurd rfl hg) | skip))
            refine sg_call (rawBytes_tri y.data r.data y.a r.a y.c r.c [RecsRep (some ⟨rb, 0, none⟩) oc2 p, blk lg2 (lcells d ⟨0, 16, mt + 1, hd, nx2⟩), DiskRep d E, BsRep (some ⟨ab, 0, none⟩) oc cs, old W] (rd_rdata (i := k) 0 rfl hy) (rd_bdata (i := k) 3 rfl hr)) rfl rfl (fun _ _ => ?_)
            refine sk_back (fun w hO => hO) ?_
            rw [show decide (y.data = r.data) = true from decide_eq_true hd2]
            repeat' (first
              | refine sk_nil ?_
              | refine sk_pure rfl rfl (ps_move rfl) rfl ?_
              | refine sk_pure rfl rfl (ps_assign rfl) rfl ?_
              | refine sk_pure rfl rfl (ps_nilCheck rfl) rfl ?_
              | refine sk_pure rfl rfl (ps_fieldAddr rfl) rfl ?_
              | refine sk_pure rfl rfl (ps_add64 rfl rfl (by omega)) rfl ?_
              | refine sk_pure rfl rfl (ps_sub64 rfl rfl (by omega)) rfl ?_
              | refine sk_pure rfl rfl (ps_mul64 rfl rfl (by omega)) rfl ?_
              | refine sk_pure rfl rfl (ps_bin rfl rfl inferInstance) rfl ?_
              | refine sk_pure rfl rfl (ps_rem rfl rfl (by decide)) rfl ?_
              | refine sk_pure rfl rfl (ps_not rfl) rfl ?_
              | refine sk_pure rfl rfl (ps_conv rfl) rfl ?_
              | refine sk_pure rfl rfl (ps_shl rfl rfl (by decide) rfl) rfl ?_
              | refine sk_pure rfl rfl (ps_shr rfl rfl (by decide) rfl) rfl ?_
              | refine sk_pure rfl rfl (ps_len rfl) rfl ?_
              | refine sk_pure rfl rfl (ps_len_str rfl) rfl ?_
              | refine sk_pure rfl rfl (ps_extract rfl rfl) rfl ?_
              | refine sk_pure rfl rfl (ps_field rfl rfl) rfl ?_
              | refine sk_pure rfl rfl (ps_build rfl rfl) rfl ?_
              | refine sk_pure rfl rfl (ps_indexAddr rfl rfl rfl (by omega)) rfl ?_
              | refine sk_pure rfl rfl (ps_indexAddr (j := 0) rfl rfl rfl (by omega)) rfl ?_
              | refine sk_pure rfl rfl (ps_indexAddr (j := 1) rfl rfl rfl (by omega)) rfl ?_
              | refine sk_pure rfl rfl (ps_pick_t rfl rfl) rfl ?_
              | refine sk_pure rfl rfl (ps_pick_f rfl rfl) rfl ?_
              | refine sk_pure rfl rfl (ps_min2 rfl rfl) rfl ?_
              | refine sk_pure rfl rfl (ps_max2 rfl rfl) rfl ?_
              | refine sk_pure rfl rfl (ps_indexAddr_arr rfl rfl rfl (by omega)) rfl ?_
              | refine sk_no rfl rfl rfl rfl rfl ?_
              | refine sk_pure_g rfl rfl rfl rfl (ps_move rfl) rfl ?_
              | refine sk_pure_g rfl rfl rfl rfl (ps_assign rfl) rfl ?_
              | refine sk_pure_g rfl rfl rfl rfl (ps_nilCheck rfl) rfl ?_
              | refine sk_pure_g rfl rfl rfl rfl (ps_fieldAddr rfl) rfl ?_
              | refine sk_pure_g rfl rfl rfl rfl (ps_add64 rfl rfl (by omega)) rfl ?_
              | refine sk_pure_g rfl rfl rfl rfl (ps_sub64 rfl rfl (by omega)) rfl ?_
              | refine sk_pure_g rfl rfl rfl rfl (ps_mul64 rfl rfl (by omega)) rfl ?_
              | refine sk_pure_g rfl rfl rfl rfl (ps_bin rfl rfl inferInstance) rfl ?_
              | refine sk_pure_g rfl rfl rfl rfl (ps_rem rfl rfl (by decide)) rfl ?_
              | refine sk_pure_g rfl rfl rfl rfl (ps_not rfl) rfl ?_
              | refine sk_pure_g rfl rfl rfl rfl (ps_conv rfl) rfl ?_
              | refine sk_pure_g rfl rfl rfl rfl (ps_shl rfl rfl (by decide) rfl) rfl ?_
              | refine sk_pure_g rfl rfl rfl rfl (ps_shr rfl rfl (by decide) rfl) rfl ?_
              | refine sk_pure_g rfl rfl rfl rfl (ps_len rfl) rfl ?_
              | refine sk_pure_g rfl rfl rfl rfl (ps_len_str rfl) rfl ?_
              | refine sk_pure_g rfl rfl rfl rfl (ps_extract rfl rfl) rfl ?_
              | refine sk_pure_g rfl rfl rfl rfl (ps_field rfl rfl) rfl ?_
              | refine sk_pure_g rfl rfl rfl rfl (ps_build rfl rfl) rfl ?_
              | refine sk_pure_g rfl rfl rfl rfl (ps_indexAddr rfl rfl rfl (by omega)) rfl ?_
              | refine sk_pure_g rfl rfl rfl rfl (ps_indexAddr (j := 0) rfl rfl rfl (by omega)) rfl ?_
              | refine sk_pure_g rfl rfl rfl rfl (ps_indexAddr (j := 1) rfl rfl rfl (by omega)) rfl ?_
              | refine sk_pure_g rfl rfl rfl rfl (ps_pick_t rfl rfl) rfl ?_
              | refine sk_pure_g rfl rfl rfl rfl (ps_pick_f rfl rfl) rfl ?_
              | refine sk_pure_g rfl rfl rfl rfl (ps_min2 rfl rfl) rfl ?_
              | refine sk_pure_g rfl rfl rfl rfl (ps_max2 rfl rfl) rfl ?_
              | refine sk_pure_g rfl rfl rfl rfl (ps_indexAddr_arr rfl rfl rfl (by omega)) rfl ?_
              | refine sk_load 0 rfl rfl rfl rfl rfl ?_
              | refine sk_load 1 rfl rfl rfl rfl rfl ?_
              | refine sk_load 2 rfl rfl rfl rfl rfl ?_
              | refine sk_load 3 rfl rfl rfl rfl rfl ?_
              | refine sk_load 4 rfl rfl rfl rfl rfl ?_
              | refine sk_load 5 rfl rfl rfl rfl rfl ?_
              | refine sk_load_g 0 rfl rfl rfl rfl rfl rfl rfl ?_
              | refine sk_load_g 1 rfl rfl rfl rfl rfl rfl rfl ?_
              | refine sk_load_g 2 rfl rfl rfl rfl rfl rfl rfl ?_
              | refine sk_load_g 3 rfl rfl rfl rfl rfl rfl rfl ?_
              | refine sk_load_g 4 rfl rfl rfl rfl rfl rfl rfl ?_
              | refine sk_load_g 5 rfl rfl rfl rfl rfl rfl rfl ?_
              | refine sk_lw 0 rfl rfl rfl rfl rfl ?_
              | refine sk_lw 1 rfl rfl rfl rfl rfl ?_
              | refine sk_lw 2 rfl rfl rfl rfl rfl ?_
              | refine sk_lw 3 rfl rfl rfl rfl rfl ?_
              | refine sk_lw 4 rfl rfl rfl rfl rfl ?_
              | refine sk_lw 5 rfl rfl rfl rfl rfl ?_
              | refine sk_lwg 0 rfl rfl rfl rfl rfl rfl rfl ?_
              | refine sk_lwg 1 rfl rfl rfl rfl rfl rfl rfl ?_
              | refine sk_lwg 2 rfl rfl rfl rfl rfl rfl rfl ?_
              | refine sk_lwg 3 rfl rfl rfl rfl rfl rfl rfl ?_
              | refine sk_lwg 4 rfl rfl rfl rfl rfl rfl rfl ?_
              | refine sk_lwg 5 rfl rfl rfl rfl rfl rfl rfl ?_
              | refine sk_eff rfl rfl ?_
              | refine sg_store_whole [] rfl rfl rfl rfl rfl ?_
              | refine sg_store_whole [_] rfl rfl rfl rfl rfl ?_
              | refine sg_store_whole [_, _] rfl rfl rfl rfl rfl ?_
              | refine sg_store_whole [_, _, _] rfl rfl rfl rfl rfl ?_
              | refine sg_store_whole [_, _, _, _] rfl rfl rfl rfl rfl ?_
              | refine sg_store_whole [_, _, _, _, _] rfl rfl rfl rfl rfl ?_
              | refine sg_store_whole [_, _, _, _, _, _] rfl rfl rfl rfl rfl ?_
              | refine sg_guard_yes rfl rfl ?_
              | refine sg_guard_nf rfl rfl rfl ?_
              | refine sg_guard_nt rfl rfl rfl ?_
              | refine sg_guard_nu rfl rfl rfl ?_
              | refine sk_back (fun w hO => hO) ?_
              | refine sg_store [] rfl rfl rfl (of_decide_eq_true rfl) ?_
              | refine sg_store [_] rfl rfl rfl (of_decide_eq_true rfl) ?_
              | refine sg_store [_, _] rfl rfl rfl (of_decide_eq_true rfl) ?_
              | refine sg_store [_, _, _] rfl rfl rfl (of_decide_eq_true rfl) ?_
              | refine sg_store [_, _, _, _] rfl rfl rfl (of_decide_eq_true rfl) ?_
              | refine sg_store [_, _, _, _, _] rfl rfl rfl (of_decide_eq_true rfl) ?_
              | refine sg_store [_, _, _, _, _, _] rfl rfl rfl (of_decide_eq_true rfl) ?_
              | refine sg_store [_, _, _, _, _, _, _] rfl rfl rfl (of_decide_eq_true rfl) ?_
              | refine sk_nu rfl rfl rfl rfl rfl ?_
              | (refine sk_dec rfl rfl rfl rfl (fun hg => ?_) (fun hg => ?_) <;> first | (exfalso; omega) | (exact absurd rfl hg) | skip)
              | (refine sk_ndec rfl rfl rfl rfl (fun hg => ?_) (fun hg => ?_) <;> first | (exfalso; omega) | (exact absurd rfl hg) | skip))
            repeat' (first
              | refine sg_wo ?_
              | refine sg_ps (ps_move rfl) rfl ?_
              | refine sg_ps (ps_assign rfl) rfl ?_
              | refine sg_seq ?_
              | refine sg_region ?_
              | refine sg_nil ?_
              | refine sg_then ?_
              | refine sg_ps (ps_fieldAddr rfl) rfl ?_
              | refine sg_ps (ps_nilCheck rfl) rfl ?_
              | refine sg_load 0 rfl rfl rfl rfl ?_
              | refine sg_load 1 rfl rfl rfl rfl ?_
              | refine sg_load 2 rfl rfl rfl rfl ?_
              | refine sg_load 3 rfl rfl rfl rfl ?_
              | refine sg_load 4 rfl rfl rfl rfl ?_
              | refine sg_load 5 rfl rfl rfl rfl ?_
              | refine sg_load 6 rfl rfl rfl rfl ?_
              | refine sg_load 7 rfl rfl rfl rfl ?_
              | refine sg_ps (ps_add64 rfl rfl (by omega)) rfl ?_
              | refine sg_ps (ps_sub64 rfl rfl (by omega)) rfl ?_
              | refine sg_ps (ps_mul64 rfl rfl (by omega)) rfl ?_
              | refine sg_ps (ps_bin rfl rfl inferInstance) rfl ?_
              | refine sg_ps (ps_rem rfl rfl (by decide)) rfl ?_
              | refine sg_ps (ps_quo64 rfl rfl (by decide) (by omega)) rfl ?_
              | refine sg_ps (ps_not rfl) rfl ?_
              | refine sg_ps (ps_conv rfl) rfl ?_
              | refine sg_ps (ps_shl rfl rfl (by decide) rfl) rfl ?_
              | refine sg_ps (ps_shr rfl rfl (by decide) rfl) rfl ?_
              | refine sg_cond_t rfl ?_
              | refine sg_cond_f rfl ?_
              | refine sg_guard_yes rfl rfl ?_
              | refine sg_guard_nf rfl rfl rfl ?_
              | refine sg_guard_nt rfl rfl rfl ?_
              | refine sg_guard_nu rfl rfl rfl ?_
              | refine sg_ps (ps_pick_t rfl rfl) rfl ?_
              | refine sg_ps (ps_pick_f rfl rfl) rfl ?_
              | refine sg_ps (ps_len rfl) rfl ?_
              | refine sg_ps (ps_len_str rfl) rfl ?_
              | refine sg_ps (ps_extract rfl rfl) rfl ?_
              | refine sg_ps (ps_field rfl rfl) rfl ?_
              | refine sg_ps (ps_min2 rfl rfl) rfl ?_
              | refine sg_ps (ps_max2 rfl rfl) rfl ?_
              | refine sg_ps (ps_build rfl rfl) rfl ?_
              | refine sg_box rfl rfl (fun bx => ?_)
              | refine sg_ps (ps_indexAddr rfl rfl rfl (by omega)) rfl ?_
              | refine sg_ps (ps_indexAddr (j := 0) rfl rfl rfl (by omega)) rfl ?_
              | refine sg_ps (ps_indexAddr (j := 1) rfl rfl rfl (by omega)) rfl ?_
              | refine sg_ps (ps_indexAddr_arr rfl rfl rfl (by omega)) rfl ?_
              | refine sg_block ?_
              | refine sg_skip ?_
              | refine sg_ret ?_
              | refine sg_exit ?_
              | refine ex_then_ret ?_
              | refine ex_then_exit ?_
              | refine ex_block_ret ?_
              | refine ex_block_normal ?_
              | refine ex_block_hit ?_
              | refine ex_block_miss rfl ?_
              | refine sg_store [] rfl rfl rfl (of_decide_eq_true rfl) ?_
              | refine sg_store [_] rfl rfl rfl (of_decide_eq_true rfl) ?_
              | refine sg_store [_, _] rfl rfl rfl (of_decide_eq_true rfl) ?_
              | refine sg_store [_, _, _] rfl rfl rfl (of_decide_eq_true rfl) ?_
              | refine sg_store [_, _, _, _] rfl rfl rfl (of_decide_eq_true rfl) ?_
              | refine sg_store [_, _, _, _, _] rfl rfl rfl (of_decide_eq_true rfl) ?_
              | refine sg_store [_, _, _, _, _, _] rfl rfl rfl (of_decide_eq_true rfl) ?_
              | refine sg_store [_, _, _, _, _, _, _] rfl rfl rfl (of_decide_eq_true rfl) ?_
              | (refine sg_guard_dec rfl rfl (fun hg => ?_) (fun hg => ?_) <;> first | (exfalso; omega) | (exact absurd rfl hg) | skip)
              | (refine sg_guard_ndec rfl rfl (fun hg => ?_) (fun hg => ?_) <;> first | (exfalso; omega) | (exact absurd rfl hg) | skip)
              | (refine sg_cond_dec rfl (fun hg => ?_) (fun hg => ?_) <;> first | (exfalso; omega) | (exact absurd rfl hg) | skip)
              | (refine sg_cond_ndec rfl (fun hg => ?_) (fun hg => ?_) <;> first | (exfalso; omega) | (exact absurd rfl hg) | skip)
              | refine sg_cond_not rfl (fun hg => ?_) (fun hg => ?_)
              | refine sg_cond rfl (fun hg => ?_) (fun hg => ?_))
            exact ex_mid (k + 1) ⟨by omega, by omega⟩ (.cons rfl (.cons rfl (.cons rfl (.cons rfl (.cons rfl (.cons rfl (.cons rfl (.cons rfl (.cons rfl (.cons rfl .nil)))))))))) (fun w hO => hO)
          · have hkp2 : k = p.length := by omega
            subst hkp2
            repeat' (first
              | refine sg_wo ?_
              | refine sg_ps (ps_move rfl) rfl ?_
              | refine sg_ps (ps_assign rfl) rfl ?_
              | refine sg_seq ?_
              | refine sg_region ?_
              | refine sg_nil ?_
              | refine sg_then ?_
              | refine sg_ps (ps_fieldAddr rfl) rfl ?_
              | refine sg_ps (ps_nilCheck rfl) rfl ?_
              | refine sg_load 0 rfl rfl rfl rfl ?_
              | refine sg_load 1 rfl rfl rfl rfl ?_
              | refine sg_load 2 rfl rfl rfl rfl ?_
              | refine sg_load 3 rfl rfl rfl rfl ?_
              | refine sg_load 4 rfl rfl rfl rfl ?_
              | refine sg_load 5 rfl rfl rfl rfl ?_
              | refine sg_load 6 rfl rfl rfl rfl ?_
              | refine sg_load 7 rfl rfl rfl rfl ?_
              | refine sg_ps (ps_add64 rfl rfl (by omega)) rfl ?_
              | refine sg_ps (ps_sub64 rfl rfl (by omega)) rfl ?_
              | refine sg_ps (ps_mul64 rfl rfl (by omega)) rfl ?_
              | refine sg_ps (ps_bin rfl rfl inferInstance) rfl ?_
              | refine sg_ps (ps_rem rfl rfl (by decide)) rfl ?_
              | refine sg_ps (ps_quo64 rfl rfl (by decide) (by omega)) rfl ?_
              | refine sg_ps (ps_not rfl) rfl ?_
              | refine sg_ps (ps_conv rfl) rfl ?_
              | refine sg_ps (ps_shl rfl rfl (by decide) rfl) rfl ?_
              | refine sg_ps (ps_shr rfl rfl (by decide) rfl) rfl ?_
              | refine sg_cond_t rfl ?_
              | refine sg_cond_f rfl ?_
              | refine sg_guard_yes rfl rfl ?_
              | refine sg_guard_nf rfl rfl rfl ?_
              | refine sg_guard_nt rfl rfl rfl ?_
              | refine sg_guard_nu rfl rfl rfl ?_
              | refine sg_ps (ps_pick_t rfl rfl) rfl ?_
              | refine sg_ps (ps_pick_f rfl rfl) rfl ?_
              | refine sg_ps (ps_len rfl) rfl ?_
              | refine sg_ps (ps_len_str rfl) rfl ?_
              | refine sg_ps (ps_extract rfl rfl) rfl ?_
              | refine sg_ps (ps_field rfl rfl) rfl ?_
              | refine sg_ps (ps_min2 rfl rfl) rfl ?_
              | refine sg_ps (ps_max2 rfl rfl) rfl ?_
              | refine sg_ps (ps_build rfl rfl) rfl ?_
              | refine sg_box rfl rfl (fun bx => ?_)
              | refine sg_ps (ps_indexAddr rfl rfl rfl (by omega)) rfl ?_
              | refine sg_ps (ps_indexAddr (j := 0) rfl rfl rfl (by omega)) rfl ?_
              | refine sg_ps (ps_indexAddr (j := 1) rfl rfl rfl (by omega)) rfl ?_
              | refine sg_ps (ps_indexAddr_arr rfl rfl rfl (by omega)) rfl ?_
              | refine sg_block ?_
              | refine sg_skip ?_
              | refine sg_ret ?_
              | refine sg_exit ?_
              | refine ex_then_ret ?_
              | refine ex_then_exit ?_
              | refine ex_block_ret ?_
              | refine ex_block_normal ?_
              | refine ex_block_hit ?_
              | refine ex_block_miss rfl ?_
              | refine sg_store [] rfl rfl rfl (of_decide_eq_true rfl) ?_
              | refine sg_store [_] rfl rfl rfl (of_decide_eq_true rfl) ?_
              | refine sg_store [_, _] rfl rfl rfl (of_decide_eq_true rfl) ?_
              | refine sg_store [_, _, _] rfl rfl rfl (of_decide_eq_true rfl) ?_
              | refine sg_store [_, _, _, _] rfl rfl rfl (of_decide_eq_true rfl) ?_
              | refine sg_store [_, _, _, _, _] rfl rfl rfl (of_decide_eq_true rfl) ?_
              | refine sg_store [_, _, _, _, _, _] rfl rfl rfl (of_decide_eq_true rfl) ?_
              | refine sg_store [_, _, _, _, _, _, _] rfl rfl rfl (of_decide_eq_true rfl) ?_
              | (refine sg_guard_dec rfl rfl (fun hg => ?_) (fun hg => ?_) <;> first | (exfalso; omega) | (exact absurd rfl hg) | skip)
              | (refine sg_guard_ndec rfl rfl (fun hg => ?_) (fun hg => ?_) <;> first | (exfalso; omega) | (exact absurd rfl hg) | skip)
              | (refine sg_cond_dec rfl (fun hg => ?_) (fun hg => ?_) <;> first | (exfalso; omega) | (exact absurd rfl hg) | skip)
              | (refine sg_cond_ndec rfl (fun hg => ?_) (fun hg => ?_) <;> first | (exfalso; omega) | (exact absurd rfl hg) | skip)
              | refine sg_cond_not rfl (fun hg => ?_) (fun hg => ?_)
              | refine sg_cond rfl (fun hg => ?_) (fun hg => ?_))
            refine sg_bs_cap 3 rfl (fun hcap => ?_)
            refine sg_ps (ps_slice_h (h' := p.length) rfl rfl rfl (by omega)) rfl ?_
            repeat' (first
              | refine sg_wo ?_
              | refine sg_ps (ps_move rfl) rfl ?_
              | refine sg_ps (ps_assign rfl) rfl ?_
              | refine sg_seq ?_
              | refine sg_region ?_
              | refine sg_nil ?_
              | refine sg_then ?_
              | refine sg_ps (ps_fieldAddr rfl) rfl ?_
              | refine sg_ps (ps_nilCheck rfl) rfl ?_
              | refine sg_load 0 rfl rfl rfl rfl ?_
              | refine sg_load 1 rfl rfl rfl rfl ?_
              | refine sg_load 2 rfl rfl rfl rfl ?_
              | refine sg_load 3 rfl rfl rfl rfl ?_
              | refine sg_load 4 rfl rfl rfl rfl ?_
              | refine sg_load 5 rfl rfl rfl rfl ?_
              | refine sg_load 6 rfl rfl rfl rfl ?_
              | refine sg_load 7 rfl rfl rfl rfl ?_
              | refine sg_ps (ps_add64 rfl rfl (by omega)) rfl ?_
              | refine sg_ps (ps_sub64 rfl rfl (by omega)) rfl ?_
              | refine sg_ps (ps_mul64 rfl rfl (by omega)) rfl ?_
              | refine sg_ps (ps_bin rfl rfl inferInstance) rfl ?_
              | refine sg_ps (ps_rem rfl rfl (by decide)) rfl ?_
              | refine sg_ps (ps_quo64 rfl rfl (by decide) (by omega)) rfl ?_
              | refine sg_ps (ps_not rfl) rfl ?_
              | refine sg_ps (ps_conv rfl) rfl ?_
              | refine sg_ps (ps_shl rfl rfl (by decide) rfl) rfl ?_
              | refine sg_ps (ps_shr rfl rfl (by decide) rfl) rfl ?_
              | refine sg_cond_t rfl ?_
              | refine sg_cond_f rfl ?_
              | refine sg_guard_yes rfl rfl ?_
              | refine sg_guard_nf rfl rfl rfl ?_
              | refine sg_guard_nt rfl rfl rfl ?_
              | refine sg_guard_nu rfl rfl rfl ?_
              | refine sg_ps (ps_pick_t rfl rfl) rfl ?_
              | refine sg_ps (ps_pick_f rfl rfl) rfl ?_
              | refine sg_ps (ps_len rfl) rfl ?_
              | refine sg_ps (ps_len_str rfl) rfl ?_
              | refine sg_ps (ps_extract rfl rfl) rfl ?_
              | refine sg_ps (ps_field rfl rfl) rfl ?_
              | refine sg_ps (ps_min2 rfl rfl) rfl ?_
              | refine sg_ps (ps_max2 rfl rfl) rfl ?_
              | refine sg_ps (ps_build rfl rfl) rfl ?_
              | refine sg_box rfl rfl (fun bx => ?_)
              | refine sg_ps (ps_indexAddr rfl rfl rfl (by omega)) rfl ?_
              | refine sg_ps (ps_indexAddr (j := 0) rfl rfl rfl (by omega)) rfl ?_
              | refine sg_ps (ps_indexAddr (j := 1) rfl rfl rfl (by omega)) rfl ?_
              | refine sg_ps (ps_indexAddr_arr rfl rfl rfl (by omega)) rfl ?_
              | refine sg_block ?_
              | refine sg_skip ?_
              | refine sg_ret ?_
              | refine sg_exit ?_
              | refine ex_then_ret ?_
              | refine ex_then_exit ?_
              | refine ex_block_ret ?_
              | refine ex_block_normal ?_
              | refine ex_block_hit ?_
              | refine ex_block_miss rfl ?_
              | refine sg_store [] rfl rfl rfl (of_decide_eq_true rfl) ?_
              | refine sg_store [_] rfl rfl rfl (of_decide_eq_true rfl) ?_
              | refine sg_store [_, _] rfl rfl rfl (of_decide_eq_true rfl) ?_
              | refine sg_store [_, _, _] rfl rfl rfl (of_decide_eq_true rfl) ?_
              | refine sg_store [_, _, _, _] rfl rfl rfl (of_decide_eq_true rfl) ?_
              | refine sg_store [_, _, _, _, _] rfl rfl rfl (of_decide_eq_true rfl) ?_
              | refine sg_store [_, _, _, _, _, _] rfl rfl rfl (of_decide_eq_true rfl) ?_
              | refine sg_store [_, _, _, _, _, _, _] rfl rfl rfl (of_decide_eq_true rfl) ?_
              | (refine sg_guard_dec rfl rfl (fun hg => ?_) (fun hg => ?_) <;> first | (exfalso; omega) | (exact absurd rfl hg) | skip)
              | (refine sg_guard_ndec rfl rfl (fun hg => ?_) (fun hg => ?_) <;> first | (exfalso; omega) | (exact absurd rfl hg) | skip)
              | (refine sg_cond_dec rfl (fun hg => ?_) (fun hg => ?_) <;> first | (exfalso; omega) | (exact absurd rfl hg) | skip)
              | (refine sg_cond_ndec rfl (fun hg => ?_) (fun hg => ?_) <;> first | (exfalso; omega) | (exact absurd rfl hg) | skip)
              | refine sg_cond_not rfl (fun hg => ?_) (fun hg => ?_)
              | refine sg_cond rfl (fun hg => ?_) (fun hg => ?_))
            refine sg_own (L' := [BsRep oa oc (cs.take rs.length), blk lg2 (lcells d ⟨0, 16, mt + 1, hd, nx2⟩), DiskRep d E, old W]) (fun w hO => bs_take (by omega) (hO.pick [3, 1, 2, 4] (by decide))) ?_
            have hlt : (cs.take rs.length).length = p.length := by rw [List.length_take]; omega
            exact ex_mid ((⟨nx2, mt + 1, ls, hd, rs.length, E, cs.take rs.length⟩, oa, oc, lg2), i + 1) ⟨by show 60 - (i + 1) < 60 - i; omega, ⟨by omega, by omega⟩, hJ, hcr⟩
              (.cons rfl (.cons rfl (.cons rfl (.cons rfl (.cons rfl (.cons rfl (.cons (by show some _ = some (Value.slice oa (cs.take rs.length).length oc); rw [hlt]) (.cons (by show some _ = some (i64 (rs.length : Int)); rw [← hpl]) (.cons rfl .nil))))))))) (fun w hO => hO)
  · skip
    repeat' (first
      | refine sg_wo ?_
      | refine sg_ps (ps_move rfl) rfl ?_
      | refine sg_ps (ps_assign rfl) rfl ?_
      | refine sg_seq ?_
      | refine sg_region ?_
      | refine sg_nil ?_
      | refine sg_then ?_
      | refine sg_ps (ps_fieldAddr rfl) rfl ?_
      | refine sg_ps (ps_nilCheck rfl) rfl ?_
      | refine sg_load 0 rfl rfl rfl rfl ?_
      | refine sg_load 1 rfl rfl rfl rfl ?_
      | refine sg_load 2 rfl rfl rfl rfl ?_
      | refine sg_load 3 rfl rfl rfl rfl ?_
      | refine sg_load 4 rfl rfl rfl rfl ?_
      | refine sg_load 5 rfl rfl rfl rfl ?_
      | refine sg_load 6 rfl rfl rfl rfl ?_
      | refine sg_load 7 rfl rfl rfl rfl ?_
      | refine sg_ps (ps_add64 rfl rfl (by omega)) rfl ?_
      | refine sg_ps (ps_sub64 rfl rfl (by omega)) rfl ?_
      | refine sg_ps (ps_mul64 rfl rfl (by omega)) rfl ?_
      | refine sg_ps (ps_bin rfl rfl inferInstance) rfl ?_
      | refine sg_ps (ps_rem rfl rfl (by decide)) rfl ?_
      | refine sg_ps (ps_quo64 rfl rfl (by decide) (by omega)) rfl ?_
      | refine sg_ps (ps_not rfl) rfl ?_
      | refine sg_ps (ps_conv rfl) rfl ?_
      | refine sg_ps (ps_shl rfl rfl (by decide) rfl) rfl ?_
      | refine sg_ps (ps_shr rfl rfl (by decide) rfl) rfl ?_
      | refine sg_cond_t rfl ?_
      | refine sg_cond_f rfl ?_
      | refine sg_guard_yes rfl rfl ?_
      | refine sg_guard_nf rfl rfl rfl ?_
      | refine sg_guard_nt rfl rfl rfl ?_
      | refine sg_guard_nu rfl rfl rfl ?_
      | refine sg_ps (ps_pick_t rfl rfl) rfl ?_
      | refine sg_ps (ps_pick_f rfl rfl) rfl ?_
      | refine sg_ps (ps_len rfl) rfl ?_
      | refine sg_ps (ps_len_str rfl) rfl ?_
      | refine sg_ps (ps_extract rfl rfl) rfl ?_
      | refine sg_ps (ps_field rfl rfl) rfl ?_
      | refine sg_ps (ps_min2 rfl rfl) rfl ?_
      | refine sg_ps (ps_max2 rfl rfl) rfl ?_
      | refine sg_ps (ps_build rfl rfl) rfl ?_
      | refine sg_box rfl rfl (fun bx => ?_)
      | refine sg_ps (ps_indexAddr rfl rfl rfl (by omega)) rfl ?_
      | refine sg_ps (ps_indexAddr (j := 0) rfl rfl rfl (by omega)) rfl ?_
      | refine sg_ps (ps_indexAddr (j := 1) rfl rfl rfl (by omega)) rfl ?_
      | refine sg_ps (ps_indexAddr_arr rfl rfl rfl (by omega)) rfl ?_
      | refine sg_block ?_
      | refine sg_skip ?_
      | refine sg_ret ?_
      | refine sg_exit ?_
      | refine ex_then_ret ?_
      | refine ex_then_exit ?_
      | refine ex_block_ret ?_
      | refine ex_block_normal ?_
      | refine ex_block_hit ?_
      | refine ex_block_miss rfl ?_
      | refine sg_store [] rfl rfl rfl (of_decide_eq_true rfl) ?_
      | refine sg_store [_] rfl rfl rfl (of_decide_eq_true rfl) ?_
      | refine sg_store [_, _] rfl rfl rfl (of_decide_eq_true rfl) ?_
      | refine sg_store [_, _, _] rfl rfl rfl (of_decide_eq_true rfl) ?_
      | refine sg_store [_, _, _, _] rfl rfl rfl (of_decide_eq_true rfl) ?_
      | refine sg_store [_, _, _, _, _] rfl rfl rfl (of_decide_eq_true rfl) ?_
      | refine sg_store [_, _, _, _, _, _] rfl rfl rfl (of_decide_eq_true rfl) ?_
      | refine sg_store [_, _, _, _, _, _, _] rfl rfl rfl (of_decide_eq_true rfl) ?_
      | (refine sg_guard_dec rfl rfl (fun hg => ?_) (fun hg => ?_) <;> first | (exfalso; omega) | (exact absurd rfl hg) | skip)
      | (refine sg_guard_ndec rfl rfl (fun hg => ?_) (fun hg => ?_) <;> first | (exfalso; omega) | (exact absurd rfl hg) | skip)
      | (refine sg_cond_dec rfl (fun hg => ?_) (fun hg => ?_) <;> first | (exfalso; omega) | (exact absurd rfl hg) | skip)
      | (refine sg_cond_ndec rfl (fun hg => ?_) (fun hg => ?_) <;> first | (exfalso; omega) | (exact absurd rfl hg) | skip)
      | refine sg_cond_not rfl (fun hg => ?_) (fun hg => ?_)
      | refine sg_cond rfl (fun hg => ?_) (fun hg => ?_))
    all_goals exact ex_ret1 rfl rfl () rfl trivial (fun w hO => hO.tail.tail.tail)
theorem walTrims_opened (W : World) (vs : List Value) (h : Opens Try.prog W Try.f8.params.toList vs) :
    Tri Try.prog W 8 vs [old W] (X := Unit) (fun _ => .bool true) (fun _ => True) (fun _ => [old W]) := by
  obtain ⟨a0, c0, vs, rfl, e0, h⟩ := Opens.cons (RT.slice 5 72 Try.underlying51 (by kernel_rfl) (by kernel_rfl) (RT.struct (tot := 5) Try.underlying53 (by kernel_rfl) (RF.cons 1 (RT.int .i64 Try.underlying3) rfl (by kernel_rfl) (RF.cons 1 (RT.int .i64 Try.underlying3) rfl (by kernel_rfl) (RF.cons 1 (RT.int .u32 Try.underlying32) rfl (by kernel_rfl) (RF.cons 1 (RT.slice 1 1 Try.underlying34 (by kernel_rfl) (by kernel_rfl) (RT.u8 Try.underlying5)) rfl (by kernel_rfl) (RF.cons 1 (RT.slice 1 8 Try.underlying40 (by kernel_rfl) (by kernel_rfl) (RT.int .i64 Try.underlying3)) rfl (by kernel_rfl) (RF.nil rfl)))))))) h
  obtain rfl := Opens.nil h
  obtain ⟨la, lc, rfl, hl⟩ := opsAt_of e0
  exact walTrims_tri a0 la lc hl
set_option maxRecDepth 100000 in
theorem walTrims_lifted (os : Os) (started : os.Started) (H : Type) (enc : TypeId × Value → H) :
    ReturnsInHanded {} Try.checked os 8 .any (Rows.walTrimsSpec.pre6 enc Try.prog Try.f8 Rows.walTrimsRow.domain false) (Rows.walTrimsSpec.post enc Try.prog Try.f8 false true false false) :=
  lift (tb := 4) started law_own law_laidOut (by kernel_rfl) Try.func8
    (ChangeSpec.witness6 (enc := enc) (C := Try.checked) false ⟨#[], #[.slice none 0 0], []⟩ 8 (by kernel_rfl) (by kernel_rfl) (by kernel_rfl) (by kernel_rfl))
    rfl rfl Try.underlying4 (by kernel_rfl) (fun ds h => by
      match ds, h with
      | [d1], _ => rfl) walTrims_opened
theorem walTrims_over : Rows.walTrimsRow.holds Try.pinned (OpenSpec.ofChange Rows.walTrimsSpec) :=
  OpenClaim.holds_of_wide 8 Try.f8 rfl rfl rfl rfl rfl rfl rfl ⟨rfl, rfl, rfl, rfl, rfl⟩ rfl rfl rfl rfl rfl (by kernel_rfl) Try.func8 (by kernel_rfl)
    (of_decide_eq_true (by kernel_rfl)) (by unfold Func.isWrapper; first | (rw [if_pos (by decide +kernel)]; kernel_rfl) | (rw [if_neg (by decide +kernel)]; exact ⟨rfl, rfl⟩))
    (fun os started H enc _ => walTrims_lifted os started H enc)
theorem walTrims_proved : Rows.WalTrimsSaid := walTrims_over
#print axioms walTrims_proved
end Go.Proofs.Ytdehkdmnddflhaa
