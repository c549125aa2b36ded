/- Package pool: Unpin. -/
import Derived.Test.YtclehoaeppbmpaaPO14
namespace Go.Proofs.Ytclehoaeppbmpaa
set_option linter.unusedVariables false
set_option linter.unusedSimpArgs false
set_option linter.unusedSectionVars false
set_option linter.unnecessarySimpa false
open Go Go.Proofs
def pin0 (r : Pl) : Pl := { r with pins := IntKind.i64.wrap (r.pins - 1) }
def pinsAt (S : PlS) (i : Nat) : Int := match S.rows[i]? with
  | some r => r.pins
  | none => 0
def unpinS (S : PlS) (B : BkS) (id : Int) : Int × PlS × BkS := match atP S.rows id 0 with
  | none => (5, S, B)
  | some i => if pinsAt S i = 0 then (5, S, B) else (0, roomS (rowSet S i pin0) B)
set_option maxRecDepth 20000
set_option maxHeartbeats 4000000
attribute [local irreducible] SG WC WO W1 WD WK PS Rd Tri Exit.then Exit.inBlock bodyPost calmQ Mid sadd
variable {W : World} {n : Nat} {F : Fr} {L : List HP} {G : Act → World → Prop}
theorem punpin_tri {N : Nat} (p bp : Nat) (S : PlS) (B : BkS) (id : Int) (R : List HP) (hF : Fit S B N) (hN : N ≤ 100000) :
    Tri Try.prog W 13 [dp p, u64 id] (PoolRep p bp S :: BackRep bp B :: R) (X := Unit) (fun _ => i64 (unpinS S B id).1) (fun _ => True) (fun _ => PoolRep p bp (unpinS S B id).2.1 :: BackRep bp (unpinS S B id).2.2 :: R) := by
  refine tri_enter2 Try.func13 rfl Try.ntmps13 rfl ?_
  refine PoolRep.open fun T ra rc m clk hT hI => ?_
  unfold pcells
  repeat' (first
    | refine sg_wo ?_
    | refine sg_ps (ps_move rfl) rfl ?_
    | refine sg_ps (ps_assign rfl) rfl ?_
    | refine sg_seq ?_
    | refine sg_region ?_
    | refine sg_nil ?_
    | refine sg_then ?_
    | refine sg_ps (ps_fieldAddr rfl) rfl ?_
    | refine sg_ps (ps_nilCheck rfl) rfl ?_
    | refine sg_load 0 rfl rfl rfl rfl ?_
    | refine sg_load 1 rfl rfl rfl rfl ?_
    | refine sg_load 2 rfl rfl rfl rfl ?_
    | refine sg_load 3 rfl rfl rfl rfl ?_
    | refine sg_load 4 rfl rfl rfl rfl ?_
    | refine sg_load 5 rfl rfl rfl rfl ?_
    | refine sg_load 6 rfl rfl rfl rfl ?_
    | refine sg_load 7 rfl rfl rfl rfl ?_
    | refine sg_ps (ps_add64 rfl rfl (by omega)) rfl ?_
    | refine sg_ps (ps_sub64 rfl rfl (by omega)) rfl ?_
    | refine sg_ps (ps_mul64 rfl rfl (by omega)) rfl ?_
    | refine sg_ps (ps_bin rfl rfl inferInstance) rfl ?_
    | refine sg_ps (ps_rem rfl rfl (by decide)) rfl ?_
    | refine sg_ps (ps_quo64 rfl rfl (by decide) (by omega)) rfl ?_
    | refine sg_ps (ps_not rfl) rfl ?_
    | refine sg_ps (ps_conv rfl) rfl ?_
    | refine sg_ps (ps_shl rfl rfl (by decide) rfl) rfl ?_
    | refine sg_ps (ps_shr rfl rfl (by decide) rfl) rfl ?_
    | refine sg_cond_t rfl ?_
    | refine sg_cond_f rfl ?_
    | refine sg_guard_yes rfl rfl ?_
    | refine sg_guard_nf rfl rfl rfl ?_
    | refine sg_guard_nt rfl rfl rfl ?_
    | refine sg_guard_nu rfl rfl rfl ?_
    | refine sg_ps (ps_pick_t rfl rfl) rfl ?_
    | refine sg_ps (ps_pick_f rfl rfl) rfl ?_
    | refine sg_ps (ps_len rfl) rfl ?_
    | refine sg_ps (ps_len_str rfl) rfl ?_
    | refine sg_ps (ps_extract rfl rfl) rfl ?_
    | refine sg_ps (ps_field rfl rfl) rfl ?_
    | refine sg_ps (ps_min2 rfl rfl) rfl ?_
    | refine sg_ps (ps_max2 rfl rfl) rfl ?_
    | refine sg_ps (ps_build rfl rfl) rfl ?_
    | refine sg_box rfl rfl (fun bx => ?_)
    | refine sg_ps (ps_indexAddr rfl rfl rfl (by omega)) rfl ?_
    | refine sg_ps (ps_indexAddr (j := 0) rfl rfl rfl (by omega)) rfl ?_
    | refine sg_ps (ps_indexAddr (j := 1) rfl rfl rfl (by omega)) rfl ?_
    | refine sg_ps (ps_indexAddr_arr rfl rfl rfl (by omega)) rfl ?_
    | refine sg_block ?_
    | refine sg_skip ?_
    | refine sg_ret ?_
    | refine sg_exit ?_
    | refine ex_then_ret ?_
    | refine ex_then_exit ?_
    | refine ex_block_ret ?_
    | refine ex_block_normal ?_
    | refine ex_block_hit ?_
    | refine ex_block_miss rfl ?_
    | refine sg_store [] rfl rfl rfl (of_decide_eq_true rfl) ?_
    | refine sg_store [_] rfl rfl rfl (of_decide_eq_true rfl) ?_
    | refine sg_store [_, _] rfl rfl rfl (of_decide_eq_true rfl) ?_
    | refine sg_store [_, _, _] rfl rfl rfl (of_decide_eq_true rfl) ?_
    | refine sg_store [_, _, _, _] rfl rfl rfl (of_decide_eq_true rfl) ?_
    | refine sg_store [_, _, _, _, _] rfl rfl rfl (of_decide_eq_true rfl) ?_
    | refine sg_store [_, _, _, _, _, _] rfl rfl rfl (of_decide_eq_true rfl) ?_
    | refine sg_store [_, _, _, _, _, _, _] rfl rfl rfl (of_decide_eq_true rfl) ?_
    | (refine sg_guard_dec rfl rfl (fun hg => ?_) (fun hg => ?_) <;> first | (exfalso; omega) | (exact absurd rfl hg) | skip)
    | (refine sg_guard_ndec rfl rfl (fun hg => ?_) (fun hg => ?_) <;> first | (exfalso; omega) | (exact absurd rfl hg) | skip)
    | (refine sg_cond_dec rfl (fun hg => ?_) (fun hg => ?_) <;> first | (exfalso; omega) | (exact absurd rfl hg) | skip)
    | (refine sg_cond_ndec rfl (fun hg => ?_) (fun hg => ?_) <;> first | (exfalso; omega) | (exact absurd rfl hg) | skip)
    | refine sg_cond_not rfl (fun hg => ?_) (fun hg => ?_)
    | refine sg_cond rfl (fun hg => ?_) (fun hg => ?_))
  refine sg_lookup2 (k := .u64) (z := .pointer none) 2 Try.underlying63 Try.underlying32 rfl rfl rfl rfl ?_
  rcases at_cases id S.rows 0 with ⟨A0, r, C0, h1, h2, h3, h4⟩ | ⟨h1, h2⟩
  · have hT0 := hT
    rw [h1] at hT
    obtain ⟨A, e, C, rfl, g1, g2, g3⟩ := split_map hT
    have hA : A.length = A0.length := by rw [← g1, List.length_map]
    have heid : e.pl.id = id := by rw [g2]; exact h2
    have hget : getE ((A ++ e :: C).map PE.me) id = some e.dp := by
      rw [List.map_append, List.map_cons, getE_at (e := e.me) (a := id) heid (by rw [← heid]; exact hI.ne)]; rfl
    have hpa : pinsAt S A.length = e.pl.pins := by
      unfold pinsAt
      rw [← hT0, List.map_append, List.map_cons, List.getElem?_append_right (by simp), List.length_map, Nat.sub_self]; rfl
    rw [hget]
    refine sg_own (fun w hO => Own.plOut hO) ?_
    unfold PE.cells
    rw [Option.getD_some, Option.isSome_some]
    by_cases hp : e.pl.pins = 0
    · have hf : unpinS S B id = (5, S, B) := by unfold unpinS; rw [h4, Nat.zero_add, ← hA]; simp only [hpa, hp, if_true]
      rw [hf]
      repeat' (first
        | refine sg_wo ?_
        | refine sg_ps (ps_move rfl) rfl ?_
        | refine sg_ps (ps_assign rfl) rfl ?_
        | refine sg_seq ?_
        | refine sg_region ?_
        | refine sg_nil ?_
        | refine sg_then ?_
        | refine sg_ps (ps_fieldAddr rfl) rfl ?_
        | refine sg_ps (ps_nilCheck rfl) rfl ?_
        | refine sg_load 0 rfl rfl rfl rfl ?_
        | refine sg_load 1 rfl rfl rfl rfl ?_
        | refine sg_load 2 rfl rfl rfl rfl ?_
        | refine sg_load 3 rfl rfl rfl rfl ?_
        | refine sg_load 4 rfl rfl rfl rfl ?_
        | refine sg_load 5 rfl rfl rfl rfl ?_
        | refine sg_load 6 rfl rfl rfl rfl ?_
        | refine sg_load 7 rfl rfl rfl rfl ?_
        | refine sg_ps (ps_add64 rfl rfl (by omega)) rfl ?_
        | refine sg_ps (ps_sub64 rfl rfl (by omega)) rfl ?_
        | refine sg_ps (ps_mul64 rfl rfl (by omega)) rfl ?_
        | refine sg_ps (ps_bin rfl rfl inferInstance) rfl ?_
        | refine sg_ps (ps_rem rfl rfl (by decide)) rfl ?_
        | refine sg_ps (ps_quo64 rfl rfl (by decide) (by omega)) rfl ?_
        | refine sg_ps (ps_not rfl) rfl ?_
        | refine sg_ps (ps_conv rfl) rfl ?_
        | refine sg_ps (ps_shl rfl rfl (by decide) rfl) rfl ?_
        | refine sg_ps (ps_shr rfl rfl (by decide) rfl) rfl ?_
        | refine sg_cond_t rfl ?_
        | refine sg_cond_f rfl ?_
        | refine sg_guard_yes rfl rfl ?_
        | refine sg_guard_nf rfl rfl rfl ?_
        | refine sg_guard_nt rfl rfl rfl ?_
        | refine sg_guard_nu rfl rfl rfl ?_
        | refine sg_ps (ps_pick_t rfl rfl) rfl ?_
        | refine sg_ps (ps_pick_f rfl rfl) rfl ?_
        | refine sg_ps (ps_len rfl) rfl ?_
        | refine sg_ps (ps_len_str rfl) rfl ?_
        | refine sg_ps (ps_extract rfl rfl) rfl ?_
        | refine sg_ps (ps_field rfl rfl) rfl ?_
        | refine sg_ps (ps_min2 rfl rfl) rfl ?_
        | refine sg_ps (ps_max2 rfl rfl) rfl ?_
        | refine sg_ps (ps_build rfl rfl) rfl ?_
        | refine sg_box rfl rfl (fun bx => ?_)
        | refine sg_ps (ps_indexAddr rfl rfl rfl (by omega)) rfl ?_
        | refine sg_ps (ps_indexAddr (j := 0) rfl rfl rfl (by omega)) rfl ?_
        | refine sg_ps (ps_indexAddr (j := 1) rfl rfl rfl (by omega)) rfl ?_
        | refine sg_ps (ps_indexAddr_arr rfl rfl rfl (by omega)) rfl ?_
        | refine sg_block ?_
        | refine sg_skip ?_
        | refine sg_ret ?_
        | refine sg_exit ?_
        | refine ex_then_ret ?_
        | refine ex_then_exit ?_
        | refine ex_block_ret ?_
        | refine ex_block_normal ?_
        | refine ex_block_hit ?_
        | refine ex_block_miss rfl ?_
        | refine sg_store [] rfl rfl rfl (of_decide_eq_true rfl) ?_
        | refine sg_store [_] rfl rfl rfl (of_decide_eq_true rfl) ?_
        | refine sg_store [_, _] rfl rfl rfl (of_decide_eq_true rfl) ?_
        | refine sg_store [_, _, _] rfl rfl rfl (of_decide_eq_true rfl) ?_
        | refine sg_store [_, _, _, _] rfl rfl rfl (of_decide_eq_true rfl) ?_
        | refine sg_store [_, _, _, _, _] rfl rfl rfl (of_decide_eq_true rfl) ?_
        | refine sg_store [_, _, _, _, _, _] rfl rfl rfl (of_decide_eq_true rfl) ?_
        | refine sg_store [_, _, _, _, _, _, _] rfl rfl rfl (of_decide_eq_true rfl) ?_
        | (refine sg_guard_dec rfl rfl (fun hg => ?_) (fun hg => ?_) <;> first | (exfalso; omega) | (exact absurd rfl hg) | skip)
        | (refine sg_guard_ndec rfl rfl (fun hg => ?_) (fun hg => ?_) <;> first | (exfalso; omega) | (exact absurd rfl hg) | skip)
        | (refine sg_cond_dec rfl (fun hg => ?_) (fun hg => ?_) <;> first | (exfalso; omega) | (exact absurd rfl hg) | skip)
        | (refine sg_cond_ndec rfl (fun hg => ?_) (fun hg => ?_) <;> first | (exfalso; omega) | (exact absurd rfl hg) | skip)
        | refine sg_cond_not rfl (fun hg => ?_) (fun hg => ?_)
        | refine sg_cond rfl (fun hg => ?_) (fun hg => ?_))
      exact ex_ret1 rfl rfl () rfl trivial (fun w hO => PoolRep.shut hT0 hI (Own.plIn (e := e) hO))
    · have hf : unpinS S B id = (0, roomS (rowSet S A.length pin0) B) := by unfold unpinS; rw [h4, Nat.zero_add, ← hA]; simp only [hpa, if_neg hp]
      rw [hf]
      repeat' (first
        | refine sg_wo ?_
        | refine sg_ps (ps_move rfl) rfl ?_
        | refine sg_ps (ps_assign rfl) rfl ?_
        | refine sg_seq ?_
        | refine sg_region ?_
        | refine sg_nil ?_
        | refine sg_then ?_
        | refine sg_ps (ps_fieldAddr rfl) rfl ?_
        | refine sg_ps (ps_nilCheck rfl) rfl ?_
        | refine sg_load 0 rfl rfl rfl rfl ?_
        | refine sg_load 1 rfl rfl rfl rfl ?_
        | refine sg_load 2 rfl rfl rfl rfl ?_
        | refine sg_load 3 rfl rfl rfl rfl ?_
        | refine sg_load 4 rfl rfl rfl rfl ?_
        | refine sg_load 5 rfl rfl rfl rfl ?_
        | refine sg_load 6 rfl rfl rfl rfl ?_
        | refine sg_load 7 rfl rfl rfl rfl ?_
        | refine sg_ps (ps_add64 rfl rfl (by omega)) rfl ?_
        | refine sg_ps (ps_sub64 rfl rfl (by omega)) rfl ?_
        | refine sg_ps (ps_mul64 rfl rfl (by omega)) rfl ?_
        | refine sg_ps (ps_bin rfl rfl inferInstance) rfl ?_
        | refine sg_ps (ps_rem rfl rfl (by decide)) rfl ?_
        | refine sg_ps (ps_quo64 rfl rfl (by decide) (by omega)) rfl ?_
        | refine sg_ps (ps_not rfl) rfl ?_
        | refine sg_ps (ps_conv rfl) rfl ?_
        | refine sg_ps (ps_shl rfl rfl (by decide) rfl) rfl ?_
        | refine sg_ps (ps_shr rfl rfl (by decide) rfl) rfl ?_
        | refine sg_cond_t rfl ?_
        | refine sg_cond_f rfl ?_
        | refine sg_guard_yes rfl rfl ?_
        | refine sg_guard_nf rfl rfl rfl ?_
        | refine sg_guard_nt rfl rfl rfl ?_
        | refine sg_guard_nu rfl rfl rfl ?_
        | refine sg_ps (ps_pick_t rfl rfl) rfl ?_
        | refine sg_ps (ps_pick_f rfl rfl) rfl ?_
        | refine sg_ps (ps_len rfl) rfl ?_
        | refine sg_ps (ps_len_str rfl) rfl ?_
        | refine sg_ps (ps_extract rfl rfl) rfl ?_
        | refine sg_ps (ps_field rfl rfl) rfl ?_
        | refine sg_ps (ps_min2 rfl rfl) rfl ?_
        | refine sg_ps (ps_max2 rfl rfl) rfl ?_
        | refine sg_ps (ps_build rfl rfl) rfl ?_
        | refine sg_box rfl rfl (fun bx => ?_)
        | refine sg_ps (ps_indexAddr rfl rfl rfl (by omega)) rfl ?_
        | refine sg_ps (ps_indexAddr (j := 0) rfl rfl rfl (by omega)) rfl ?_
        | refine sg_ps (ps_indexAddr (j := 1) rfl rfl rfl (by omega)) rfl ?_
        | refine sg_ps (ps_indexAddr_arr rfl rfl rfl (by omega)) rfl ?_
        | refine sg_block ?_
        | refine sg_skip ?_
        | refine sg_ret ?_
        | refine sg_exit ?_
        | refine ex_then_ret ?_
        | refine ex_then_exit ?_
        | refine ex_block_ret ?_
        | refine ex_block_normal ?_
        | refine ex_block_hit ?_
        | refine ex_block_miss rfl ?_
        | refine sg_store [] rfl rfl rfl (of_decide_eq_true rfl) ?_
        | refine sg_store [_] rfl rfl rfl (of_decide_eq_true rfl) ?_
        | refine sg_store [_, _] rfl rfl rfl (of_decide_eq_true rfl) ?_
        | refine sg_store [_, _, _] rfl rfl rfl (of_decide_eq_true rfl) ?_
        | refine sg_store [_, _, _, _] rfl rfl rfl (of_decide_eq_true rfl) ?_
        | refine sg_store [_, _, _, _, _] rfl rfl rfl (of_decide_eq_true rfl) ?_
        | refine sg_store [_, _, _, _, _, _] rfl rfl rfl (of_decide_eq_true rfl) ?_
        | refine sg_store [_, _, _, _, _, _, _] rfl rfl rfl (of_decide_eq_true rfl) ?_
        | (refine sg_guard_dec rfl rfl (fun hg => ?_) (fun hg => ?_) <;> first | (exfalso; omega) | (exact absurd rfl hg) | skip)
        | (refine sg_guard_ndec rfl rfl (fun hg => ?_) (fun hg => ?_) <;> first | (exfalso; omega) | (exact absurd rfl hg) | skip)
        | (refine sg_cond_dec rfl (fun hg => ?_) (fun hg => ?_) <;> first | (exfalso; omega) | (exact absurd rfl hg) | skip)
        | (refine sg_cond_ndec rfl (fun hg => ?_) (fun hg => ?_) <;> first | (exfalso; omega) | (exact absurd rfl hg) | skip)
        | refine sg_cond_not rfl (fun hg => ?_) (fun hg => ?_)
        | refine sg_cond rfl (fun hg => ?_) (fun hg => ?_))
      obtain ⟨e', he'⟩ : ∃ e' : PE, e' = ⟨pin0 e.pl, e.ptr, e.a, e.c, e.born⟩ := ⟨_, rfl⟩
      have hT2 : (A ++ e' :: C).map (·.pl) = (rowSet S A.length pin0).rows := by rw [he']; exact (modify_at pin0 hT0).symm
      have hdp : (A ++ e :: C).map PE.dp = (A ++ e' :: C).map PE.dp := by rw [he', List.map_append, List.map_append]; rfl
      have hme : (A ++ e :: C).map PE.me = (A ++ e' :: C).map PE.me := by rw [he', List.map_append, List.map_append]; rfl
      have hle : (A ++ e :: C).length = (A ++ e' :: C).length := by rw [List.length_append, List.length_append]; rfl
      rw [hdp, hme, hle]
      refine sg_own (L' := PoolRep p bp (rowSet S A.length pin0) :: BackRep bp B :: R) (fun w hO => ?_) ?_
      · refine PoolAt.rep (i := A.length) (x := e.ptr) (PoolAt.shut (S := rowSet S A.length pin0) (A := A) (B := C) (e := e') (ra := ra) (rc := rc) (m := m) hT2 (hI.swap (by rw [he']) (by rw [he']; rfl)) rfl (by rw [he']) ?_)
        subst he'
        exact hO
      refine sg_call (proom_tri p bp (rowSet S A.length pin0) B _ (hF.set A.length pin0 hF.rbs) hN) rfl rfl (fun _ _ => ?_)
      repeat' (first
        | refine sg_wo ?_
        | refine sg_ps (ps_move rfl) rfl ?_
        | refine sg_ps (ps_assign rfl) rfl ?_
        | refine sg_seq ?_
        | refine sg_region ?_
        | refine sg_nil ?_
        | refine sg_then ?_
        | refine sg_ps (ps_fieldAddr rfl) rfl ?_
        | refine sg_ps (ps_nilCheck rfl) rfl ?_
        | refine sg_load 0 rfl rfl rfl rfl ?_
        | refine sg_load 1 rfl rfl rfl rfl ?_
        | refine sg_load 2 rfl rfl rfl rfl ?_
        | refine sg_load 3 rfl rfl rfl rfl ?_
        | refine sg_load 4 rfl rfl rfl rfl ?_
        | refine sg_load 5 rfl rfl rfl rfl ?_
        | refine sg_load 6 rfl rfl rfl rfl ?_
        | refine sg_load 7 rfl rfl rfl rfl ?_
        | refine sg_ps (ps_add64 rfl rfl (by omega)) rfl ?_
        | refine sg_ps (ps_sub64 rfl rfl (by omega)) rfl ?_
        | refine sg_ps (ps_mul64 rfl rfl (by omega)) rfl ?_
        | refine sg_ps (ps_bin rfl rfl inferInstance) rfl ?_
        | refine sg_ps (ps_rem rfl rfl (by decide)) rfl ?_
        | refine sg_ps (ps_quo64 rfl rfl (by decide) (by omega)) rfl ?_
        | refine sg_ps (ps_not rfl) rfl ?_
        | refine sg_ps (ps_conv rfl) rfl ?_
        | refine sg_ps (ps_shl rfl rfl (by decide) rfl) rfl ?_
        | refine sg_ps (ps_shr rfl rfl (by decide) rfl) rfl ?_
        | refine sg_cond_t rfl ?_
        | refine sg_cond_f rfl ?_
        | refine sg_guard_yes rfl rfl ?_
        | refine sg_guard_nf rfl rfl rfl ?_
        | refine sg_guard_nt rfl rfl rfl ?_
        | refine sg_guard_nu rfl rfl rfl ?_
        | refine sg_ps (ps_pick_t rfl rfl) rfl ?_
        | refine sg_ps (ps_pick_f rfl rfl) rfl ?_
        | refine sg_ps (ps_len rfl) rfl ?_
        | refine sg_ps (ps_len_str rfl) rfl ?_
        | refine sg_ps (ps_extract rfl rfl) rfl ?_
        | refine sg_ps (ps_field rfl rfl) rfl ?_
        | refine sg_ps (ps_min2 rfl rfl) rfl ?_
        | refine sg_ps (ps_max2 rfl rfl) rfl ?_
        | refine sg_ps (ps_build rfl rfl) rfl ?_
        | refine sg_box rfl rfl (fun bx => ?_)
        | refine sg_ps (ps_indexAddr rfl rfl rfl (by omega)) rfl ?_
        | refine sg_ps (ps_indexAddr (j := 0) rfl rfl rfl (by omega)) rfl ?_
        | refine sg_ps (ps_indexAddr (j := 1) rfl rfl rfl (by omega)) rfl ?_
        | refine sg_ps (ps_indexAddr_arr rfl rfl rfl (by omega)) rfl ?_
        | refine sg_block ?_
        | refine sg_skip ?_
        | refine sg_ret ?_
        | refine sg_exit ?_
        | refine ex_then_ret ?_
        | refine ex_then_exit ?_
        | refine ex_block_ret ?_
        | refine ex_block_normal ?_
        | refine ex_block_hit ?_
        | refine ex_block_miss rfl ?_
        | refine sg_store [] rfl rfl rfl (of_decide_eq_true rfl) ?_
        | refine sg_store [_] rfl rfl rfl (of_decide_eq_true rfl) ?_
        | refine sg_store [_, _] rfl rfl rfl (of_decide_eq_true rfl) ?_
        | refine sg_store [_, _, _] rfl rfl rfl (of_decide_eq_true rfl) ?_
        | refine sg_store [_, _, _, _] rfl rfl rfl (of_decide_eq_true rfl) ?_
        | refine sg_store [_, _, _, _, _] rfl rfl rfl (of_decide_eq_true rfl) ?_
        | refine sg_store [_, _, _, _, _, _] rfl rfl rfl (of_decide_eq_true rfl) ?_
        | refine sg_store [_, _, _, _, _, _, _] rfl rfl rfl (of_decide_eq_true rfl) ?_
        | (refine sg_guard_dec rfl rfl (fun hg => ?_) (fun hg => ?_) <;> first | (exfalso; omega) | (exact absurd rfl hg) | skip)
        | (refine sg_guard_ndec rfl rfl (fun hg => ?_) (fun hg => ?_) <;> first | (exfalso; omega) | (exact absurd rfl hg) | skip)
        | (refine sg_cond_dec rfl (fun hg => ?_) (fun hg => ?_) <;> first | (exfalso; omega) | (exact absurd rfl hg) | skip)
        | (refine sg_cond_ndec rfl (fun hg => ?_) (fun hg => ?_) <;> first | (exfalso; omega) | (exact absurd rfl hg) | skip)
        | refine sg_cond_not rfl (fun hg => ?_) (fun hg => ?_)
        | refine sg_cond rfl (fun hg => ?_) (fun hg => ?_))
      exact ex_ret1 rfl rfl () rfl trivial (fun w hO => hO)
  · have hget : getE (T.map PE.me) id = none := getE_no fun y hy => by
      obtain ⟨e, he, rfl⟩ := List.mem_map.1 hy
      exact h1 e.pl (by rw [← hT]; exact List.mem_map_of_mem he)
    have hf : unpinS S B id = (5, S, B) := by unfold unpinS; rw [h2]
    rw [hget, hf]
    repeat' (first
      | refine sg_wo ?_
      | refine sg_ps (ps_move rfl) rfl ?_
      | refine sg_ps (ps_assign rfl) rfl ?_
      | refine sg_seq ?_
      | refine sg_region ?_
      | refine sg_nil ?_
      | refine sg_then ?_
      | refine sg_ps (ps_fieldAddr rfl) rfl ?_
      | refine sg_ps (ps_nilCheck rfl) rfl ?_
      | refine sg_load 0 rfl rfl rfl rfl ?_
      | refine sg_load 1 rfl rfl rfl rfl ?_
      | refine sg_load 2 rfl rfl rfl rfl ?_
      | refine sg_load 3 rfl rfl rfl rfl ?_
      | refine sg_load 4 rfl rfl rfl rfl ?_
      | refine sg_load 5 rfl rfl rfl rfl ?_
      | refine sg_load 6 rfl rfl rfl rfl ?_
      | refine sg_load 7 rfl rfl rfl rfl ?_
      | refine sg_ps (ps_add64 rfl rfl (by omega)) rfl ?_
      | refine sg_ps (ps_sub64 rfl rfl (by omega)) rfl ?_
      | refine sg_ps (ps_mul64 rfl rfl (by omega)) rfl ?_
      | refine sg_ps (ps_bin rfl rfl inferInstance) rfl ?_
      | refine sg_ps (ps_rem rfl rfl (by decide)) rfl ?_
      | refine sg_ps (ps_quo64 rfl rfl (by decide) (by omega)) rfl ?_
      | refine sg_ps (ps_not rfl) rfl ?_
      | refine sg_ps (ps_conv rfl) rfl ?_
      | refine sg_ps (ps_shl rfl rfl (by decide) rfl) rfl ?_
      | refine sg_ps (ps_shr rfl rfl (by decide) rfl) rfl ?_
      | refine sg_cond_t rfl ?_
      | refine sg_cond_f rfl ?_
      | refine sg_guard_yes rfl rfl ?_
      | refine sg_guard_nf rfl rfl rfl ?_
      | refine sg_guard_nt rfl rfl rfl ?_
      | refine sg_guard_nu rfl rfl rfl ?_
      | refine sg_ps (ps_pick_t rfl rfl) rfl ?_
      | refine sg_ps (ps_pick_f rfl rfl) rfl ?_
      | refine sg_ps (ps_len rfl) rfl ?_
      | refine sg_ps (ps_len_str rfl) rfl ?_
      | refine sg_ps (ps_extract rfl rfl) rfl ?_
      | refine sg_ps (ps_field rfl rfl) rfl ?_
      | refine sg_ps (ps_min2 rfl rfl) rfl ?_
      | refine sg_ps (ps_max2 rfl rfl) rfl ?_
      | refine sg_ps (ps_build rfl rfl) rfl ?_
      | refine sg_box rfl rfl (fun bx => ?_)
      | refine sg_ps (ps_indexAddr rfl rfl rfl (by omega)) rfl ?_
      | refine sg_ps (ps_indexAddr (j := 0) rfl rfl rfl (by omega)) rfl ?_
      | refine sg_ps (ps_indexAddr (j := 1) rfl rfl rfl (by omega)) rfl ?_
      | refine sg_ps (ps_indexAddr_arr rfl rfl rfl (by omega)) rfl ?_
      | refine sg_block ?_
      | refine sg_skip ?_
      | refine sg_ret ?_
      | refine sg_exit ?_
      | refine ex_then_ret ?_
      | refine ex_then_exit ?_
      | refine ex_block_ret ?_
      | refine ex_block_normal ?_
      | refine ex_block_hit ?_
      | refine ex_block_miss rfl ?_
      | refine sg_store [] rfl rfl rfl (of_decide_eq_true rfl) ?_
      | refine sg_store [_] rfl rfl rfl (of_decide_eq_true rfl) ?_
      | refine sg_store [_, _] rfl rfl rfl (of_decide_eq_true rfl) ?_
      | refine sg_store [_, _, _] rfl rfl rfl (of_decide_eq_true rfl) ?_
      | refine sg_store [_, _, _, _] rfl rfl rfl (of_decide_eq_true rfl) ?_
      | refine sg_store [_, _, _, _, _] rfl rfl rfl (of_decide_eq_true rfl) ?_
      | refine sg_store [_, _, _, _, _, _] rfl rfl rfl (of_decide_eq_true rfl) ?_
      | refine sg_store [_, _, _, _, _, _, _] rfl rfl rfl (of_decide_eq_true rfl) ?_
      | (refine sg_guard_dec rfl rfl (fun hg => ?_) (fun hg => ?_) <;> first | (exfalso; omega) | (exact absurd rfl hg) | skip)
      | (refine sg_guard_ndec rfl rfl (fun hg => ?_) (fun hg => ?_) <;> first | (exfalso; omega) | (exact absurd rfl hg) | skip)
      | (refine sg_cond_dec rfl (fun hg => ?_) (fun hg => ?_) <;> first | (exfalso; omega) | (exact absurd rfl hg) | skip)
      | (refine sg_cond_ndec rfl (fun hg => ?_) (fun hg => ?_) <;> first | (exfalso; omega) | (exact absurd rfl hg) | skip)
      | refine sg_cond_not rfl (fun hg => ?_) (fun hg => ?_)
      | refine sg_cond rfl (fun hg => ?_) (fun hg => ?_))
    exact ex_ret1 rfl rfl () rfl trivial (fun w hO => PoolRep.shut hT hI hO)
end Go.Proofs.Ytclehoaeppbmpaa
