/- Package pool: Drop; the reference's Dirty; same, asked. -/
import Derived.Test.YtclehoaeppbmpaaPR6
namespace Go.Proofs.Ytclehoaeppbmpaa
set_option linter.unusedVariables false
set_option linter.unusedSimpArgs false
set_option linter.unusedSectionVars false
set_option linter.unnecessarySimpa false
open Go Go.Proofs Go.Sort
set_option maxRecDepth 20000
set_option maxHeartbeats 4000000
attribute [local irreducible] SG WC WO W1 WD WK PS Rd Tri Exit.then Exit.inBlock bodyPost calmQ Mid sadd
variable {W : World} {n : Nat} {F : Fr} {L : List HP} {G : Act → World → Prop}
theorem pdrop_tri (p bp : Nat) (S : PlS) (id : Int) (R : List HP) (hl : S.rows.length ≤ 1000000) (hh : S.hand ≤ 1000000) :
    Tri Try.prog W 25 [dp p, u64 id] (PoolRep p bp S :: R) (X := Unit) (fun _ => .tuple #[]) (fun _ => True) (fun _ => PoolRep p bp (dropS S id) :: R) := by
  refine tri_enter2 Try.func25 rfl Try.ntmps25 rfl ?_
  refine PoolRep.open fun T ra rc m clk hT hI => ?_
  have hTl : T.length = S.rows.length := by rw [← hT, List.length_map]
  unfold pcells
  repeat' (first | refine sg_seq ?_)
  refine sg_drawK [blk p [.iface 24 (dp bp), i64 S.most, .slice ra T.length rc, .map (some m), i64 S.hand]] [0, 1, 2, 4, 5, 6, 8, 7, 3, 9, 10, 11] (by kernel_rfl) (by kernel_rfl) (fun w hO => hO.pick [0] (by decide)) ?_
  repeat' (first | refine sk_pure rfl rfl (ps_move rfl) rfl ?_ | refine sk_pure rfl rfl (ps_nilCheck rfl) rfl ?_ | refine sk_pure rfl rfl (ps_fieldAddr rfl) rfl ?_ | refine sk_load 0 rfl rfl rfl rfl rfl ?_ | refine sk_eff rfl rfl ?_)
  refine sg_lookup (k := .u64) (z := .pointer none) 2 Try.underlying63 Try.underlying32 rfl rfl rfl rfl ?_
  refine sk_back (fun w hO => hO.pick [0] (by decide)) ?_
  repeat' (first | refine sk_eff rfl rfl ?_)
  rcases at_cases id S.rows 0 with ⟨A0, r, C0, h1, h2, h3, h4⟩ | ⟨h1, h2⟩
  · have hT0 := hT
    rw [h1] at hT
    obtain ⟨A, e, C, rfl, g1, g2, g3⟩ := split_map hT
    have hA : A.length = A0.length := by rw [← g1, List.length_map]
    have heid : e.pl.id = id := by rw [g2]; exact h2
    have hget : getE ((A ++ e :: C).map PE.me) id = some e.dp := by
      rw [List.map_append, List.map_cons, getE_at (e := e.me) (a := id) heid (by rw [← heid]; exact hI.ne)]; rfl
    have hds : dropS S id = takeS S A.length := by unfold dropS; rw [h4, Nat.zero_add, ← hA]
    have hrow : S.rows[A.length]? = some e.pl := by rw [← hT0, List.map_append, List.map_cons, List.getElem?_append_right (by simp), List.length_map, Nat.sub_self]; rfl
    rw [hget, Option.getD_some, hds]
    refine sg_call (pidx_some A C e ra rc 3 _ (by omega) rfl (rd_sown 1 rfl fun _ _ h => h)) rfl rfl (fun _ _ => ?_)
    refine sk_back (fun w hO => hO.pick [0] (by decide)) ?_
    repeat' (first | refine sk_nil ?_ | refine sk_pure rfl rfl (ps_assign rfl) rfl ?_)
    repeat' (first | refine sg_wo ?_ | refine sg_ps (ps_move rfl) rfl ?_ | refine sg_seq ?_ | refine sg_region ?_ | refine sg_nil ?_ | refine sg_then ?_ | refine sg_ps (ps_bin rfl rfl inferInstance) rfl ?_ | refine sg_cond_t rfl ?_)
    refine sg_own (L' := PoolAt p bp S A.length e.ptr :: R) (fun w hO => PoolAt.shut hT0 hI rfl rfl (Own.plOut hO)) ?_
    refine sg_call (ptake_tri p bp S A.length e.ptr e.pl _ hrow hl hh) rfl rfl (fun y _ => ?_)
    repeat' (first | refine sg_nil ?_)
    exact ex_end0 rfl () rfl trivial (fun w hO => Own.pickA [_, _] hO [0] (by decide))
  · have hget : getE (T.map PE.me) id = none := getE_no fun y hy => by
      obtain ⟨e, he, rfl⟩ := List.mem_map.1 hy
      exact h1 e.pl (by rw [← hT]; exact List.mem_map_of_mem he)
    have hds : dropS S id = S := by unfold dropS; rw [h2]
    have hpi := pidx_none (W := W) (T.map (·.ptr)) ra rc (blk p [.iface 24 (dp bp), i64 S.most, .slice ra T.length rc, .map (some m), i64 S.hand] :: sown ra T.length rc 1 (T.map PE.dp) :: mapc .u64 m (T.map PE.me) clk :: sepL (T.map PE.own) :: R) (by rw [List.length_map]; omega) (by rw [List.map_map]; exact rd_sown 1 rfl fun _ _ h => h)
    rw [List.length_map] at hpi
    rw [hget, Option.getD_none, hds]
    refine sg_call hpi rfl rfl (fun _ _ => ?_)
    refine sk_back (fun w hO => hO.pick [0] (by decide)) ?_
    repeat' (first | refine sk_nil ?_ | refine sk_pure rfl rfl (ps_assign rfl) rfl ?_)
    repeat' (first | refine sg_wo ?_ | refine sg_ps (ps_move rfl) rfl ?_ | refine sg_seq ?_ | refine sg_region ?_ | refine sg_nil ?_ | refine sg_then ?_ | refine sg_ps (ps_bin rfl rfl inferInstance) rfl ?_ | refine sg_cond_f rfl ?_ | refine sg_skip ?_)
    exact ex_end0 rfl () rfl trivial (fun w hO => PoolRep.shut hT hI hO)
theorem same_tri (O : List Int) (a b : Option Addr) (ca cb : Nat) (K : List HP) (hl : O.length ≤ 1000000) (ha : Rd W K a (O.map u64)) (hb : Rd W K b (O.map u64)) :
    Tri Try.prog W 30 [.slice a O.length ca, .slice b O.length cb] K (X := Unit) (fun _ => .bool true) (fun _ => True) (fun _ => K) := by
  refine tri_enter2 Try.func30 rfl Try.ntmps30 rfl ?_
  repeat' (first | refine sg_wo ?_ | refine sg_ps (ps_move rfl) rfl ?_ | refine sg_ps (ps_assign rfl) rfl ?_ | refine sg_seq ?_ | refine sg_region ?_ | refine sg_nil ?_ | refine sg_then ?_ | refine sg_ps (ps_bin rfl rfl inferInstance) rfl ?_ | refine sg_ps (ps_len rfl) rfl ?_ | refine sg_block ?_ | refine sg_skip ?_ | (refine sg_cond_ndec rfl (fun hg => ?_) (fun hg => ?_) <;> first | (exfalso; omega) | (exact absurd rfl hg) | skip))
  refine sg_loop (γ := Nat) (fun i => i ≤ O.length) (fun i => [(0, .slice a O.length ca), (1, .slice b O.length cb), (5, i64 i)]) (fun _ => K) (fun i => O.length - i) 0 (Nat.zero_le _) (.cons rfl (.cons rfl (.cons rfl .nil))) (fun w hO => hO) ?_
  intro i hi
  by_cases hil : i < O.length
  case neg =>
    repeat' (first | refine sg_wo ?_ | refine sg_ps (ps_move rfl) rfl ?_ | refine sg_ps (ps_assign rfl) rfl ?_ | refine sg_seq ?_ | refine sg_region ?_ | refine sg_nil ?_ | refine sg_then ?_ | refine sg_ps (ps_bin rfl rfl inferInstance) rfl ?_ | refine sg_ps (ps_len rfl) rfl ?_ | refine sg_ret ?_ | refine sg_exit ?_ | refine ex_then_exit ?_ | refine ex_block_hit ?_ | (refine sg_cond_dec rfl (fun hg => ?_) (fun hg => ?_) <;> first | (exfalso; omega) | (exact absurd rfl hg) | skip))
    exact ex_ret1 rfl rfl () rfl trivial (fun w hO => hO)
  have hne : O.map u64 ≠ [] := by intro e; have := congrArg List.length e; rw [List.length_map, List.length_nil] at this; omega
  refine sg_rd_some ha hne fun ba oa he => ?_
  subst he
  refine sg_rd_some hb hne fun bb ob he => ?_
  subst he
  have hi3 : (O.map u64)[i]? = some (u64 O[i]) := by rw [List.getElem?_map, List.getElem?_eq_getElem hil]; rfl
  have h1 := ha.get i hi3
  have h2 := hb.get i hi3
  generalize O[i] = x at h1 h2
  repeat' (first | refine sg_wo ?_ | refine sg_ps (ps_move rfl) rfl ?_ | refine sg_seq ?_ | refine sg_region ?_ | refine sg_nil ?_ | refine sg_then ?_ | refine sg_ps (ps_bin rfl rfl inferInstance) rfl ?_ | refine sg_ps (ps_len rfl) rfl ?_ | refine sg_block ?_ | refine sg_skip ?_ | (refine sg_cond_dec rfl (fun hg => ?_) (fun hg => ?_) <;> first | (exfalso; omega) | (exact absurd rfl hg) | skip))
  refine sg_drawK K [0, 1, 2, 4, 5, 6, 3, 7, 8] (by kernel_rfl) (by kernel_rfl) (fun w hO => hO) ?_
  repeat' (first | refine sk_pure rfl rfl (ps_move rfl) rfl ?_ | refine sk_pure rfl rfl (ps_indexAddr rfl rfl rfl (by omega)) rfl ?_)
  refine sk_load_rd rfl rfl h1 rfl ?_
  skip
  refine sk_load_rd rfl rfl h2 rfl ?_
  repeat' (first | refine sk_nil ?_ | refine sk_pure rfl rfl (ps_bin rfl rfl inferInstance) rfl ?_)
  repeat' (first | refine sg_wo ?_ | refine sg_ps (ps_move rfl) rfl ?_ | refine sg_ps (ps_assign rfl) rfl ?_ | refine sg_region ?_ | refine sg_nil ?_ | refine sg_then ?_ | refine sg_ps (ps_add64 rfl rfl (by omega)) rfl ?_ | refine sg_skip ?_ | refine ex_block_normal ?_ | (refine sg_cond_ndec rfl (fun hg => ?_) (fun hg => ?_) <;> first | (exfalso; omega) | (exact absurd rfl hg) | skip))
  exact ex_mid (i + 1) ⟨by omega, by omega⟩ (.cons rfl (.cons rfl (.cons rfl .nil))) (fun w hO => hO)
theorem asked_tri (a b : Nat) (A B : BkS) (K : List HP) (hl : A.asked.length ≤ 1000000) (he : B.asked = A.asked) :
    Tri Try.prog W 32 [dp a, dp b] (BackRep a A :: BackRep b B :: K) (X := Unit) (fun _ => .bool true) (fun _ => True) (fun _ => BackRep a A :: BackRep b B :: K) := by
  refine tri_enter2 Try.func32 rfl Try.ntmps32 rfl ?_
  refine BackRep.open fun T1 ia1 ic1 ba1 bc1 aa1 ac1 hS1 => ?_
  refine sg_own (L' := BackRep b B :: blk a [.slice ia1 A.ent.length ic1, .slice ba1 A.ent.length bc1, .slice aa1 A.asked.length ac1, i64 A.full] :: sown ia1 A.ent.length ic1 1 (A.ent.map fun e : Int × List UInt8 => u64 e.1) :: sown ba1 A.ent.length bc1 1 (T1.map BE.sl) :: sown aa1 A.asked.length ac1 1 (A.asked.map u64) :: sepL (T1.map BE.own) :: K) (fun w hO => Own.pickA [_, _, _, _, _, _] hO [5, 0, 1, 2, 3, 4] (by decide)) ?_
  refine BackRep.open fun T2 ia2 ic2 ba2 bc2 aa2 ac2 hS2 => ?_
  rw [he]
  obtain ⟨I1, hI1⟩ : ∃ X, X = sown ia1 A.ent.length ic1 1 (A.ent.map fun e : Int × List UInt8 => u64 e.1) := ⟨_, rfl⟩
  obtain ⟨B1, hB1⟩ : ∃ X, X = sown ba1 A.ent.length bc1 1 (T1.map BE.sl) := ⟨_, rfl⟩
  obtain ⟨E1, hE1⟩ : ∃ X, X = sepL (T1.map BE.own) := ⟨_, rfl⟩
  obtain ⟨I2, hI2⟩ : ∃ X, X = sown ia2 B.ent.length ic2 1 (B.ent.map fun e : Int × List UInt8 => u64 e.1) := ⟨_, rfl⟩
  obtain ⟨B2, hB2⟩ : ∃ X, X = sown ba2 B.ent.length bc2 1 (T2.map BE.sl) := ⟨_, rfl⟩
  obtain ⟨E2, hE2⟩ : ∃ X, X = sepL (T2.map BE.own) := ⟨_, rfl⟩
  rw [← hI1, ← hB1, ← hE1, ← hI2, ← hB2, ← hE2]
  obtain ⟨LL, hLL⟩ : ∃ LL, LL = blk b [.slice ia2 B.ent.length ic2, .slice ba2 B.ent.length bc2, .slice aa2 A.asked.length ac2, i64 B.full] :: I2 :: B2 :: sown aa2 A.asked.length ac2 1 (A.asked.map u64) :: E2 :: blk a [.slice ia1 A.ent.length ic1, .slice ba1 A.ent.length bc1, .slice aa1 A.asked.length ac1, i64 A.full] :: I1 :: B1 :: sown aa1 A.asked.length ac1 1 (A.asked.map u64) :: E1 :: K := ⟨_, rfl⟩
  have hend : ∀ w, Own W w (blk b [.slice ia2 B.ent.length ic2, .slice ba2 B.ent.length bc2, .slice aa2 A.asked.length ac2, i64 B.full] :: I2 :: B2 :: sown aa2 A.asked.length ac2 1 (A.asked.map u64) :: E2 :: blk a [.slice ia1 A.ent.length ic1, .slice ba1 A.ent.length bc1, .slice aa1 A.asked.length ac1, i64 A.full] :: I1 :: B1 :: sown aa1 A.asked.length ac1 1 (A.asked.map u64) :: E1 :: K) → Own W w (BackRep a A :: BackRep b B :: K) := fun w hO => by
    rw [hI1, hB1, hE1, hI2, hB2, hE2, ← he] at hO
    have k1 : Own W w (BackRep b B :: _) := BackRep.shut hS2 hO
    rw [he] at k1
    exact BackRep.shut hS1 (Own.pickA [_, _, _, _, _, _] k1 [1, 2, 3, 4, 5, 0] (by decide))
  repeat' (first | refine sg_wo ?_ | refine sg_ps (ps_assign rfl) rfl ?_ | refine sg_seq ?_ | refine sg_region ?_ | refine sg_nil ?_ | refine sg_then ?_)
  refine sg_drawK [blk b [.slice ia2 B.ent.length ic2, .slice ba2 B.ent.length bc2, .slice aa2 A.asked.length ac2, i64 B.full], blk a [.slice ia1 A.ent.length ic1, .slice ba1 A.ent.length bc1, .slice aa1 A.asked.length ac1, i64 A.full]] [0, 1, 2, 5, 6, 7, 3, 4, 8, 9, 10] (by kernel_rfl) (by kernel_rfl) (fun w hO => hO.pick [0, 5] (by decide)) ?_
  repeat' (first | refine sk_nil ?_ | refine sk_pure rfl rfl (ps_move rfl) rfl ?_ | refine sk_pure rfl rfl (ps_nilCheck rfl) rfl ?_ | refine sk_pure rfl rfl (ps_fieldAddr rfl) rfl ?_ | refine sk_pure rfl rfl (ps_bin rfl rfl inferInstance) rfl ?_ | refine sk_pure rfl rfl (ps_len rfl) rfl ?_ | refine sk_load 0 rfl rfl rfl rfl rfl ?_ | refine sk_load 1 rfl rfl rfl rfl rfl ?_)
  repeat' (first | refine sg_wo ?_ | refine sg_ps (ps_assign rfl) rfl ?_ | refine sg_seq ?_ | refine sg_region ?_ | refine sg_nil ?_ | refine sg_then ?_ | refine sg_block ?_ | refine sg_skip ?_ | (refine sg_cond_ndec rfl (fun hg => ?_) (fun hg => ?_) <;> first | (exfalso; omega) | (exact absurd rfl hg) | skip))
  refine sg_loop (γ := Nat) (fun i => i ≤ A.asked.length) (fun i => [(0, dp a), (1, dp b), (5, i64 i)]) (fun _ => blk b [.slice ia2 B.ent.length ic2, .slice ba2 B.ent.length bc2, .slice aa2 A.asked.length ac2, i64 B.full] :: I2 :: B2 :: sown aa2 A.asked.length ac2 1 (A.asked.map u64) :: E2 :: blk a [.slice ia1 A.ent.length ic1, .slice ba1 A.ent.length bc1, .slice aa1 A.asked.length ac1, i64 A.full] :: I1 :: B1 :: sown aa1 A.asked.length ac1 1 (A.asked.map u64) :: E1 :: K) (fun i => A.asked.length - i) 0 (Nat.zero_le _) (.cons rfl (.cons rfl (.cons rfl .nil))) (fun w hO => hO) ?_
  intro i hi
  by_cases hil : i < A.asked.length
  case neg =>
    repeat' (first | refine sg_wo ?_ | refine sg_ps (ps_move rfl) rfl ?_ | refine sg_ps (ps_assign rfl) rfl ?_ | refine sg_seq ?_ | refine sg_region ?_ | refine sg_nil ?_ | refine sg_then ?_ | refine sg_ps (ps_fieldAddr rfl) rfl ?_ | refine sg_ps (ps_nilCheck rfl) rfl ?_ | refine sg_load 5 rfl rfl rfl rfl ?_ | refine sg_ps (ps_bin rfl rfl inferInstance) rfl ?_ | refine sg_ps (ps_len rfl) rfl ?_ | refine sg_ret ?_ | refine sg_exit ?_ | refine ex_then_exit ?_ | refine ex_block_hit ?_ | (refine sg_cond_dec rfl (fun hg => ?_) (fun hg => ?_) <;> first | (exfalso; omega) | (exact absurd rfl hg) | skip))
    exact ex_ret1 rfl rfl () rfl trivial hend
  have hne : A.asked.map u64 ≠ [] := by intro e; have := congrArg List.length e; rw [List.length_map, List.length_nil] at this; omega
  have hi3 : (A.asked.map u64)[i]? = some (u64 A.asked[i]) := by rw [List.getElem?_map, List.getElem?_eq_getElem hil]; rfl
  refine sg_rd_some (rd_sown 3 rfl fun _ _ h => h) hne fun ba oa he => ?_
  subst he
  refine sg_rd_some (rd_sown 8 rfl fun _ _ h => h) hne fun bb ob he => ?_
  subst he
  have h2 : Rd W [blk b [.slice ia2 B.ent.length ic2, .slice ba2 B.ent.length bc2, .slice (some ⟨ba, oa, none⟩) A.asked.length ac2, i64 B.full], sown (some ⟨ba, oa, none⟩) A.asked.length ac2 1 (A.asked.map u64), blk a [.slice ia1 A.ent.length ic1, .slice ba1 A.ent.length bc1, .slice (some ⟨bb, ob, none⟩) A.asked.length ac1, i64 A.full], sown (some ⟨bb, ob, none⟩) A.asked.length ac1 1 (A.asked.map u64)] (some ⟨ba, oa + i * 1, none⟩) [u64 A.asked[i]] := (rd_sown 1 rfl fun _ _ h => h).get i hi3
  have h1 : Rd W [blk b [.slice ia2 B.ent.length ic2, .slice ba2 B.ent.length bc2, .slice (some ⟨ba, oa, none⟩) A.asked.length ac2, i64 B.full], sown (some ⟨ba, oa, none⟩) A.asked.length ac2 1 (A.asked.map u64), blk a [.slice ia1 A.ent.length ic1, .slice ba1 A.ent.length bc1, .slice (some ⟨bb, ob, none⟩) A.asked.length ac1, i64 A.full], sown (some ⟨bb, ob, none⟩) A.asked.length ac1 1 (A.asked.map u64)] (some ⟨bb, ob + i * 1, none⟩) [u64 A.asked[i]] := (rd_sown 3 rfl fun _ _ h => h).get i hi3
  generalize A.asked[i] = x at h1 h2
  repeat' (first | refine sg_wo ?_ | refine sg_ps (ps_move rfl) rfl ?_ | refine sg_seq ?_ | refine sg_region ?_ | refine sg_nil ?_ | refine sg_then ?_ | refine sg_ps (ps_fieldAddr rfl) rfl ?_ | refine sg_ps (ps_nilCheck rfl) rfl ?_ | refine sg_load 5 rfl rfl rfl rfl ?_ | refine sg_ps (ps_bin rfl rfl inferInstance) rfl ?_ | refine sg_ps (ps_len rfl) rfl ?_ | refine sg_block ?_ | refine sg_skip ?_ | (refine sg_cond_dec rfl (fun hg => ?_) (fun hg => ?_) <;> first | (exfalso; omega) | (exact absurd rfl hg) | skip))
  refine sg_drawK [blk b [.slice ia2 B.ent.length ic2, .slice ba2 B.ent.length bc2, .slice (some ⟨ba, oa, none⟩) A.asked.length ac2, i64 B.full], sown (some ⟨ba, oa, none⟩) A.asked.length ac2 1 (A.asked.map u64), blk a [.slice ia1 A.ent.length ic1, .slice ba1 A.ent.length bc1, .slice (some ⟨bb, ob, none⟩) A.asked.length ac1, i64 A.full], sown (some ⟨bb, ob, none⟩) A.asked.length ac1 1 (A.asked.map u64)] [0, 1, 2, 4, 7, 8, 9, 11, 3, 5, 6, 10, 12, 13, 14] (by kernel_rfl) (by kernel_rfl) (fun w hO => hO.pick [0, 3, 5, 8] (by decide)) ?_
  repeat' (first | refine sk_pure rfl rfl (ps_move rfl) rfl ?_ | refine sk_pure rfl rfl (ps_nilCheck rfl) rfl ?_ | refine sk_pure rfl rfl (ps_fieldAddr rfl) rfl ?_ | refine sk_pure rfl rfl (ps_indexAddr rfl rfl rfl (by omega)) rfl ?_ | refine sk_load 2 rfl rfl rfl rfl rfl ?_)
  first
    | refine sk_load_rd rfl rfl h1 rfl ?_
    | refine sk_load_rd rfl rfl h2 rfl ?_
  repeat' (first | refine sk_pure rfl rfl (ps_indexAddr rfl rfl rfl (by omega)) rfl ?_ | refine sk_load 0 rfl rfl rfl rfl rfl ?_)
  first
    | refine sk_load_rd rfl rfl h1 rfl ?_
    | refine sk_load_rd rfl rfl h2 rfl ?_
  repeat' (first | refine sk_nil ?_ | refine sk_pure rfl rfl (ps_bin rfl rfl inferInstance) rfl ?_)
  repeat' (first | refine sg_wo ?_ | refine sg_ps (ps_move rfl) rfl ?_ | refine sg_ps (ps_assign rfl) rfl ?_ | refine sg_region ?_ | refine sg_nil ?_ | refine sg_then ?_ | refine sg_ps (ps_add64 rfl rfl (by omega)) rfl ?_ | refine sg_skip ?_ | refine ex_block_normal ?_ | (refine sg_cond_ndec rfl (fun hg => ?_) (fun hg => ?_) <;> first | (exfalso; omega) | (exact absurd rfl hg) | skip))
  exact ex_mid (i + 1) ⟨by omega, by omega⟩ (.cons rfl (.cons rfl (.cons rfl .nil))) (fun w hO => hO)
end Go.Proofs.Ytclehoaeppbmpaa
