/- Package pool: New. | granarylaw13: the back with six things. -/
import Derived.Test.YtclehoaeppbmpaaPOD
import Derived.Test.YtclehoaeppbmpaaPV
namespace Go.Proofs.Ytclehoaeppbmpaa
set_option linter.unusedVariables false
set_option linter.unusedSimpArgs false
set_option linter.unusedSectionVars false
set_option linter.unnecessarySimpa false
open Go Go.Proofs
set_option maxRecDepth 20000
set_option maxHeartbeats 4000000
attribute [local irreducible] SG WC WO W1 WD WK PS Rd Tri Exit.then Exit.inBlock bodyPost calmQ Mid sadd
variable {W : World} {n : Nat} {F : Fr} {L : List HP} {G : Act → World → Prop}
theorem pnew_tri (bp : Nat) (most : Int) (R : List HP) (hm : 1 ≤ most ∧ most ≤ 4096) :
    Tri Try.prog W 9 [.iface 24 (dp bp), i64 most] R (X := Nat) (fun p => .tuple #[dp p, i64 0]) (fun _ => True) (fun p => PoolRep p bp ⟨most, [], 0⟩ :: R) := by
  obtain ⟨hm1, hm2⟩ := hm
  refine tri_enter2 Try.func9 rfl Try.ntmps9 rfl ?_
  repeat' (first
    | refine sg_wo ?_
    | refine sg_ps (ps_move rfl) rfl ?_
    | refine sg_ps (ps_assign rfl) rfl ?_
    | refine sg_seq ?_
    | refine sg_region ?_
    | refine sg_nil ?_
    | refine sg_then ?_
    | refine sg_ps (ps_fieldAddr rfl) rfl ?_
    | refine sg_ps (ps_nilCheck rfl) rfl ?_
    | refine sg_load 0 rfl rfl rfl rfl ?_
    | refine sg_load 1 rfl rfl rfl rfl ?_
    | refine sg_load 2 rfl rfl rfl rfl ?_
    | refine sg_load 3 rfl rfl rfl rfl ?_
    | refine sg_load 4 rfl rfl rfl rfl ?_
    | refine sg_load 5 rfl rfl rfl rfl ?_
    | refine sg_load 6 rfl rfl rfl rfl ?_
    | refine sg_load 7 rfl rfl rfl rfl ?_
    | refine sg_ps (ps_add64 rfl rfl (by omega)) rfl ?_
    | refine sg_ps (ps_sub64 rfl rfl (by omega)) rfl ?_
    | refine sg_ps (ps_mul64 rfl rfl (by omega)) rfl ?_
    | refine sg_ps (ps_bin rfl rfl inferInstance) rfl ?_
    | refine sg_ps (ps_rem rfl rfl (by decide)) rfl ?_
    | refine sg_ps (ps_quo64 rfl rfl (by decide) (by omega)) rfl ?_
    | refine sg_ps (ps_not rfl) rfl ?_
    | refine sg_ps (ps_conv rfl) rfl ?_
    | refine sg_ps (ps_shl rfl rfl (by decide) rfl) rfl ?_
    | refine sg_ps (ps_shr rfl rfl (by decide) rfl) rfl ?_
    | refine sg_cond_t rfl ?_
    | refine sg_cond_f rfl ?_
    | refine sg_guard_yes rfl rfl ?_
    | refine sg_guard_nf rfl rfl rfl ?_
    | refine sg_guard_nt rfl rfl rfl ?_
    | refine sg_guard_nu rfl rfl rfl ?_
    | refine sg_ps (ps_pick_t rfl rfl) rfl ?_
    | refine sg_ps (ps_pick_f rfl rfl) rfl ?_
    | refine sg_ps (ps_len rfl) rfl ?_
    | refine sg_ps (ps_len_str rfl) rfl ?_
    | refine sg_ps (ps_extract rfl rfl) rfl ?_
    | refine sg_ps (ps_field rfl rfl) rfl ?_
    | refine sg_ps (ps_min2 rfl rfl) rfl ?_
    | refine sg_ps (ps_max2 rfl rfl) rfl ?_
    | refine sg_ps (ps_build rfl rfl) rfl ?_
    | refine sg_box rfl rfl (fun bx => ?_)
    | refine sg_ps (ps_indexAddr rfl rfl rfl (by omega)) rfl ?_
    | refine sg_ps (ps_indexAddr (j := 0) rfl rfl rfl (by omega)) rfl ?_
    | refine sg_ps (ps_indexAddr (j := 1) rfl rfl rfl (by omega)) rfl ?_
    | refine sg_ps (ps_indexAddr_arr rfl rfl rfl (by omega)) rfl ?_
    | refine sg_block ?_
    | refine sg_skip ?_
    | refine sg_ret ?_
    | refine sg_exit ?_
    | refine ex_then_ret ?_
    | refine ex_then_exit ?_
    | refine ex_block_ret ?_
    | refine ex_block_normal ?_
    | refine ex_block_hit ?_
    | refine ex_block_miss rfl ?_
    | refine sg_store [] rfl rfl rfl (of_decide_eq_true rfl) ?_
    | refine sg_store [_] rfl rfl rfl (of_decide_eq_true rfl) ?_
    | refine sg_store [_, _] rfl rfl rfl (of_decide_eq_true rfl) ?_
    | refine sg_store [_, _, _] rfl rfl rfl (of_decide_eq_true rfl) ?_
    | refine sg_store [_, _, _, _] rfl rfl rfl (of_decide_eq_true rfl) ?_
    | refine sg_store [_, _, _, _, _] rfl rfl rfl (of_decide_eq_true rfl) ?_
    | refine sg_store [_, _, _, _, _, _] rfl rfl rfl (of_decide_eq_true rfl) ?_
    | refine sg_store [_, _, _, _, _, _, _] rfl rfl rfl (of_decide_eq_true rfl) ?_
    | (refine sg_guard_dec rfl rfl (fun hg => ?_) (fun hg => ?_) <;> first | (exfalso; omega) | (exact absurd rfl hg) | skip)
    | (refine sg_guard_ndec rfl rfl (fun hg => ?_) (fun hg => ?_) <;> first | (exfalso; omega) | (exact absurd rfl hg) | skip)
    | (refine sg_cond_dec rfl (fun hg => ?_) (fun hg => ?_) <;> first | (exfalso; omega) | (exact absurd rfl hg) | skip)
    | (refine sg_cond_ndec rfl (fun hg => ?_) (fun hg => ?_) <;> first | (exfalso; omega) | (exact absurd rfl hg) | skip)
    | refine sg_cond_not rfl (fun hg => ?_) (fun hg => ?_)
    | refine sg_cond rfl (fun hg => ?_) (fun hg => ?_))
  refine sg_makeMap .u64 rfl (fun m => ?_)
  repeat' (first
    | refine sg_wo ?_
    | refine sg_ps (ps_move rfl) rfl ?_
    | refine sg_ps (ps_assign rfl) rfl ?_
    | refine sg_seq ?_
    | refine sg_region ?_
    | refine sg_nil ?_
    | refine sg_then ?_
    | refine sg_ps (ps_fieldAddr rfl) rfl ?_
    | refine sg_ps (ps_nilCheck rfl) rfl ?_
    | refine sg_load 0 rfl rfl rfl rfl ?_
    | refine sg_load 1 rfl rfl rfl rfl ?_
    | refine sg_load 2 rfl rfl rfl rfl ?_
    | refine sg_load 3 rfl rfl rfl rfl ?_
    | refine sg_load 4 rfl rfl rfl rfl ?_
    | refine sg_load 5 rfl rfl rfl rfl ?_
    | refine sg_load 6 rfl rfl rfl rfl ?_
    | refine sg_load 7 rfl rfl rfl rfl ?_
    | refine sg_ps (ps_add64 rfl rfl (by omega)) rfl ?_
    | refine sg_ps (ps_sub64 rfl rfl (by omega)) rfl ?_
    | refine sg_ps (ps_mul64 rfl rfl (by omega)) rfl ?_
    | refine sg_ps (ps_bin rfl rfl inferInstance) rfl ?_
    | refine sg_ps (ps_rem rfl rfl (by decide)) rfl ?_
    | refine sg_ps (ps_quo64 rfl rfl (by decide) (by omega)) rfl ?_
    | refine sg_ps (ps_not rfl) rfl ?_
    | refine sg_ps (ps_conv rfl) rfl ?_
    | refine sg_ps (ps_shl rfl rfl (by decide) rfl) rfl ?_
    | refine sg_ps (ps_shr rfl rfl (by decide) rfl) rfl ?_
    | refine sg_cond_t rfl ?_
    | refine sg_cond_f rfl ?_
    | refine sg_guard_yes rfl rfl ?_
    | refine sg_guard_nf rfl rfl rfl ?_
    | refine sg_guard_nt rfl rfl rfl ?_
    | refine sg_guard_nu rfl rfl rfl ?_
    | refine sg_ps (ps_pick_t rfl rfl) rfl ?_
    | refine sg_ps (ps_pick_f rfl rfl) rfl ?_
    | refine sg_ps (ps_len rfl) rfl ?_
    | refine sg_ps (ps_len_str rfl) rfl ?_
    | refine sg_ps (ps_extract rfl rfl) rfl ?_
    | refine sg_ps (ps_field rfl rfl) rfl ?_
    | refine sg_ps (ps_min2 rfl rfl) rfl ?_
    | refine sg_ps (ps_max2 rfl rfl) rfl ?_
    | refine sg_ps (ps_build rfl rfl) rfl ?_
    | refine sg_box rfl rfl (fun bx => ?_)
    | refine sg_ps (ps_indexAddr rfl rfl rfl (by omega)) rfl ?_
    | refine sg_ps (ps_indexAddr (j := 0) rfl rfl rfl (by omega)) rfl ?_
    | refine sg_ps (ps_indexAddr (j := 1) rfl rfl rfl (by omega)) rfl ?_
    | refine sg_ps (ps_indexAddr_arr rfl rfl rfl (by omega)) rfl ?_
    | refine sg_block ?_
    | refine sg_skip ?_
    | refine sg_ret ?_
    | refine sg_exit ?_
    | refine ex_then_ret ?_
    | refine ex_then_exit ?_
    | refine ex_block_ret ?_
    | refine ex_block_normal ?_
    | refine ex_block_hit ?_
    | refine ex_block_miss rfl ?_
    | refine sg_store [] rfl rfl rfl (of_decide_eq_true rfl) ?_
    | refine sg_store [_] rfl rfl rfl (of_decide_eq_true rfl) ?_
    | refine sg_store [_, _] rfl rfl rfl (of_decide_eq_true rfl) ?_
    | refine sg_store [_, _, _] rfl rfl rfl (of_decide_eq_true rfl) ?_
    | refine sg_store [_, _, _, _] rfl rfl rfl (of_decide_eq_true rfl) ?_
    | refine sg_store [_, _, _, _, _] rfl rfl rfl (of_decide_eq_true rfl) ?_
    | refine sg_store [_, _, _, _, _, _] rfl rfl rfl (of_decide_eq_true rfl) ?_
    | refine sg_store [_, _, _, _, _, _, _] rfl rfl rfl (of_decide_eq_true rfl) ?_
    | (refine sg_guard_dec rfl rfl (fun hg => ?_) (fun hg => ?_) <;> first | (exfalso; omega) | (exact absurd rfl hg) | skip)
    | (refine sg_guard_ndec rfl rfl (fun hg => ?_) (fun hg => ?_) <;> first | (exfalso; omega) | (exact absurd rfl hg) | skip)
    | (refine sg_cond_dec rfl (fun hg => ?_) (fun hg => ?_) <;> first | (exfalso; omega) | (exact absurd rfl hg) | skip)
    | (refine sg_cond_ndec rfl (fun hg => ?_) (fun hg => ?_) <;> first | (exfalso; omega) | (exact absurd rfl hg) | skip)
    | refine sg_cond_not rfl (fun hg => ?_) (fun hg => ?_)
    | refine sg_cond rfl (fun hg => ?_) (fun hg => ?_))
  rename_i bx
  refine ex_ret2 rfl rfl rfl bx rfl trivial (fun w hO => ?_)
  have k0 : Own W w (blk bx (pcells bp ⟨most, [], 0⟩ 0 none 0 m) :: mapc .u64 m [] 0 :: R) := hO
  have k1 := (own_nil (sz := 1) (Own.join (L1 := []) k0)).front1.front3.front2.front3
  exact PoolRep.shut (S := ⟨most, [], 0⟩) (T := []) (ra := none) (rc := 0) (m := m) (clk := 0) rfl ⟨(fun e he => (by cases he)), by simp⟩ k1
end Go.Proofs.Ytclehoaeppbmpaa
namespace Go.Proofs.Ytclehoaeppbmpaa
set_option linter.unusedVariables false
set_option linter.unusedSimpArgs false
set_option linter.unusedSectionVars false
set_option linter.unnecessarySimpa false
open Go Go.Proofs

def backK (k : Nat) : BkS := ⟨backE.take k, [], -1⟩
theorem backK_next {k : Nat} (h : k < 6) : backE.take (k + 1) = backE.take k ++ [(((k + 1 : Nat) : Int), [UInt8.ofNat (98 + k)])] := by
  match k, h with
  | 0, _ => decide
  | 1, _ => decide
  | 2, _ => decide
  | 3, _ => decide
  | 4, _ => decide
  | 5, _ => decide
set_option maxRecDepth 20000
set_option maxHeartbeats 4000000
attribute [local irreducible] SG WC WO W1 WD WK PS Rd Tri Exit.then Exit.inBlock bodyPost calmQ Mid sadd
variable {W : World} {n : Nat} {F : Fr} {L : List HP} {G : Act → World → Prop}
theorem lback_tri (R : List HP) : Tri Try.prog W 8 [] R (X := Nat) (fun b => dp b) (fun _ => True) (fun b => BackRep b (backK 6) :: R) := by
  refine tri_enter0 Try.func8 rfl Try.ntmps8 ?_
  repeat' (first | refine sg_wo ?_ | refine sg_ps (ps_assign rfl) rfl ?_ | refine sg_seq ?_ | refine sg_region ?_ | refine sg_nil ?_ | refine sg_then ?_ | refine sg_ps (ps_build rfl rfl) rfl ?_ | refine sg_box rfl rfl (fun bx => ?_) | refine sg_block ?_)
  generalize bx = b
  refine sg_loop (γ := Nat) (fun k => k ≤ 6) (fun k => [(1, dp b), (2, i64 ((k : Int) + 1))]) (fun k => BackRep b (backK k) :: R) (fun k => 6 - k) 0 (Nat.zero_le _)
    (.cons rfl (.cons rfl .nil)) (fun w hO => ?_) ?_
  · have k1 := own_nil (sz := 1) (own_nil (sz := 1) (own_nil (sz := 1) (Own.join (L1 := []) hO)))
    exact BackRep.shut (S := backK 0) (T := []) (ia := none) (ic := 0) (ba := none) (bc := 0) (aa := none) (ac := 0) rfl k1.front4
  intro k hk
  by_cases hk6 : k < 6
  · refine BackRep.open fun T ia ic ba bc aa ac hT => ?_
    have hlen : (backK k).ent.length = k := by unfold backK; dsimp only; rw [List.length_take]; show min k 6 = k; omega
    have hTl : T.length = k := by rw [← hlen, ← hT, List.length_map]
    rw [hlen]
    have hw1 : IntKind.u64.wrap ((k : Int) + 1) = (k : Int) + 1 := by
      match k, hk6 with
      | 0, _ => decide
      | 1, _ => decide
      | 2, _ => decide
      | 3, _ => decide
      | 4, _ => decide
      | 5, _ => decide
    have hw2 : Value.int .u8 (IntKind.u8.wrap (97 + ((k : Int) + 1))) = bv (UInt8.ofNat (98 + k)) := by
      match k, hk6 with
      | 0, _ => rfl
      | 1, _ => rfl
      | 2, _ => rfl
      | 3, _ => rfl
      | 4, _ => rfl
      | 5, _ => rfl
    generalize hq : (k : Int) + 1 = q at hw1 hw2 ⊢
    repeat' (first | refine sg_wo ?_ | refine sg_ps (ps_move rfl) rfl ?_ | refine sg_seq ?_ | refine sg_region ?_ | refine sg_nil ?_ | refine sg_then ?_ | refine sg_ps (ps_fieldAddr rfl) rfl ?_ | refine sg_ps (ps_nilCheck rfl) rfl ?_ | refine sg_load 0 rfl rfl rfl rfl ?_ | refine sg_ps (ps_bin rfl rfl inferInstance) rfl ?_ | refine sg_ps (ps_conv rfl) rfl ?_ | refine sg_block ?_ | refine sg_skip ?_ | (refine sg_cond_dec rfl (fun hg => ?_) (fun hg => ?_) <;> first | (exfalso; omega) | (exact absurd rfl hg) | skip))
    rw [hw1]
    refine sg_buildSlice1 (vs := [u64 q]) rfl (of_decide_eq_true rfl) rfl rfl rfl (fun b1 => ?_)
    refine sg_own (L' := sown ia k ic 1 ((backK k).ent.map fun e => u64 e.1) :: blk b1 [u64 q] :: blk b [.slice ia k ic, .slice ba k bc, .slice aa (backK k).asked.length ac, i64 (backK k).full] :: sown ba k bc 1 (T.map BE.sl) :: sown aa (backK k).asked.length ac 1 ((backK k).asked.map u64) :: sepL (T.map BE.own) :: R) (fun w hO => hO.front2) ?_
    repeat' (first | refine sg_wo ?_)
    refine sg_append (news := [u64 q]) rfl rfl rfl rfl (u64_one [q]) (rd_blk 1 rfl fun j u hj => by rw [Nat.zero_add]; exact hj) (by simp only [maxLen]; omega) (by omega) fun a' c' => ?_
    repeat' (first | refine sg_wo ?_ | refine sg_ps (ps_move rfl) rfl ?_ | refine sg_region ?_ | refine sg_nil ?_ | refine sg_then ?_ | refine sg_ps (ps_fieldAddr rfl) rfl ?_ | refine sg_ps (ps_nilCheck rfl) rfl ?_ | refine sg_load 2 rfl rfl rfl rfl ?_ | refine sg_ps (ps_add64 rfl rfl (by omega)) rfl ?_ | refine sg_ps (ps_conv rfl) rfl ?_ | refine sg_store [_, _] rfl rfl rfl (of_decide_eq_true rfl) ?_)
    refine sg_drop1 ?_
    generalize hq2 : 97 + q = q2 at hw2
    skip
    rw [hw2]
    refine sg_buildSlice1 (vs := [bv (UInt8.ofNat (98 + k))]) rfl (of_decide_eq_true rfl) rfl rfl rfl (fun b2 => ?_)
    refine sg_own_mk (m := 1) (c := 1) (sz := 1) (xs := [bv (UInt8.ofNat (98 + k))]) (Nat.le_refl _) (by decide) rfl rfl ?_
    repeat' (first | refine sg_wo ?_)
    refine sg_buildSlice1 (vs := [.slice (some ⟨b2, 0, none⟩) 1 1]) rfl (of_decide_eq_true rfl) rfl rfl rfl (fun b3 => ?_)
    refine sg_own (L' := sown ba k bc 1 (T.map BE.sl) :: blk b3 [.slice (some ⟨b2, 0, none⟩) 1 1] :: sown (some ⟨b2, 0, none⟩) 1 1 1 [bv (UInt8.ofNat (98 + k))] :: sown a' (k + 1) c' 1 (((backK k).ent.map fun e => u64 e.1) ++ [u64 q]) :: blk b [.slice a' (k + 1) c', .slice ba k bc, .slice aa (backK k).asked.length ac, i64 (backK k).full] :: sown aa (backK k).asked.length ac 1 ((backK k).asked.map u64) :: sepL (T.map BE.own) :: R) (fun w hO => hO.front4) ?_
    repeat' (first | refine sg_wo ?_)
    refine sg_append (news := [.slice (some ⟨b2, 0, none⟩) 1 1]) rfl rfl rfl rfl (by intro u hu; simp at hu; subst hu; rfl) (rd_blk 1 rfl fun j u hj => by rw [Nat.zero_add]; exact hj) (by simp only [maxLen]; omega) (by omega) fun a2 c2 => ?_
    repeat' (first | refine sg_wo ?_ | refine sg_ps (ps_move rfl) rfl ?_ | refine sg_ps (ps_assign rfl) rfl ?_ | refine sg_region ?_ | refine sg_nil ?_ | refine sg_then ?_ | refine sg_ps (ps_fieldAddr rfl) rfl ?_ | refine sg_ps (ps_nilCheck rfl) rfl ?_ | refine sg_ps (ps_add64 rfl rfl (by omega)) rfl ?_ | refine ex_block_normal ?_ | refine sg_store [_, _, _, _] rfl rfl rfl (of_decide_eq_true rfl) ?_)
    refine ex_mid (k + 1) ⟨by omega, by omega⟩ (.cons rfl (.cons (by rw [← hq]; rfl) .nil)) (fun w hO => ?_)
    have hE : (backK (k + 1)).ent = (backK k).ent ++ [(q, [UInt8.ofNat (98 + k)])] := by rw [← hq]; exact backK_next hk6
    have hn : (backK (k + 1)).ent.length = k + 1 := by rw [hE, List.length_append, hlen]; rfl
    refine BackRep.shut (S := backK (k + 1)) (T := T ++ [⟨q, some ⟨b2, 0, none⟩, 1, [UInt8.ofNat (98 + k)]⟩]) (ia := a') (ic := c') (ba := a2) (bc := c2) (aa := aa) (ac := ac) (by rw [hE, ← hT, List.map_append]; rfl) ?_
    rw [hn, hE, List.map_append, List.map_append]
    have k0 : Own W w (_ :: _ :: _ :: _ :: _ :: _ :: _ :: R) := hO
    have k1 := k0.front1.tail.front5.front2
    rw [← List.append_nil (T.map BE.own)] at k1
    have k4 := (Own.sepIn (p := BE.own ⟨q, some ⟨b2, 0, none⟩, 1, [UInt8.ofNat (98 + k)]⟩) (A := T.map BE.own) (B := []) k1).front4.front2.front3.front4
    have hm : (T ++ [(⟨q, some ⟨b2, 0, none⟩, 1, [UInt8.ofNat (98 + k)]⟩ : BE)]).map BE.own = T.map BE.own ++ [BE.own ⟨q, some ⟨b2, 0, none⟩, 1, [UInt8.ofNat (98 + k)]⟩] := by rw [List.map_append]; rfl
    rw [hm]
    exact k4
  · obtain rfl : k = 6 := by omega
    repeat' (first | refine sg_wo ?_ | refine sg_ps (ps_move rfl) rfl ?_ | refine sg_ps (ps_assign rfl) rfl ?_ | refine sg_seq ?_ | refine sg_region ?_ | refine sg_nil ?_ | refine sg_then ?_ | refine sg_ps (ps_bin rfl rfl inferInstance) rfl ?_ | refine sg_cond_f rfl ?_ | refine sg_ret ?_ | refine sg_exit ?_ | refine ex_then_exit ?_ | refine ex_block_hit ?_)
    exact ex_ret1 rfl rfl b rfl trivial (fun w hO => hO)
end Go.Proofs.Ytclehoaeppbmpaa
