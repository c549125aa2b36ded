/- Package pool: Clean. -/
import Derived.Test.YtclehoaeppbmpaaPO18
namespace Go.Proofs.Ytclehoaeppbmpaa
set_option linter.unusedVariables false
set_option linter.unusedSimpArgs false
set_option linter.unusedSectionVars false
set_option linter.unnecessarySimpa false
open Go Go.Proofs
def scrub (r : Pl) : Pl := { r with dirty := false }
def cleanS (S : PlS) (B : BkS) (id : Int) : Int × PlS × BkS := match atP S.rows id 0 with
  | none => (5, S, B)
  | some i => match S.rows[i]? with
    | none => (5, S, B)
    | some r => if r.dirty = true then (if (saveS B id r.bs).1 = 0 then (0, rowSet S i scrub, (saveS B id r.bs).2) else ((saveS B id r.bs).1, S, (saveS B id r.bs).2)) else (0, S, B)
theorem clean_fit {S : PlS} {B : BkS} {N : Nat} {id : Int} (h : Fit S B N) : Fit (cleanS S B id).2.1 (cleanS S B id).2.2 (N + 1) := by
  unfold cleanS
  split
  · exact h.mono (by omega)
  · split
    · exact h.mono (by omega)
    · rename_i i _ _ r hr
      have hs := h.save (id := id) (h.rbs r (List.mem_of_getElem? hr))
      split
      · split
        · exact hs.set i scrub hs.rbs
        · exact hs
      · exact h.mono (by omega)
set_option maxRecDepth 20000
set_option maxHeartbeats 4000000
attribute [local irreducible] SG WC WO W1 WD WK PS Rd Tri Exit.then Exit.inBlock bodyPost calmQ Mid sadd
variable {W : World} {n : Nat} {F : Fr} {L : List HP} {G : Act → World → Prop}
theorem pclean_tri {N : Nat} (p bp : Nat) (S : PlS) (B : BkS) (id : Int) (R : List HP) (hF : Fit S B N) (hN : N ≤ 100000) :
    Tri Try.prog W 20 [dp p, u64 id] (PoolRep p bp S :: BackRep bp B :: R) (X := Unit) (fun _ => i64 (cleanS S B id).1) (fun _ => True) (fun _ => PoolRep p bp (cleanS S B id).2.1 :: BackRep bp (cleanS S B id).2.2 :: R) := by
  refine tri_enter2 Try.func20 rfl Try.ntmps20 rfl ?_
  refine PoolRep.open fun T ra rc m clk hT hI => ?_
  have hTl : T.length = S.rows.length := by rw [← hT, List.length_map]
  unfold pcells
  repeat' (first | refine sg_wo ?_ | refine sg_ps (ps_move rfl) rfl ?_ | refine sg_ps (ps_assign rfl) rfl ?_ | refine sg_seq ?_ | refine sg_region ?_ | refine sg_nil ?_ | refine sg_then ?_ | refine sg_ps (ps_fieldAddr rfl) rfl ?_ | refine sg_ps (ps_nilCheck rfl) rfl ?_ | refine sg_load 0 rfl rfl rfl rfl ?_)
  refine sg_lookup2 (k := .u64) (z := .pointer none) 2 Try.underlying63 Try.underlying32 rfl rfl rfl rfl ?_
  rcases at_cases id S.rows 0 with ⟨A0, r, C0, h1, h2, h3, h4⟩ | ⟨h1, h2⟩
  · have hT0 := hT
    rw [h1] at hT
    obtain ⟨A, e, C, rfl, g1, g2, g3⟩ := split_map hT
    have hA : A.length = A0.length := by rw [← g1, List.length_map]
    have heid : e.pl.id = id := by rw [g2]; exact h2
    have hget : getE ((A ++ e :: C).map PE.me) id = some e.dp := by
      rw [List.map_append, List.map_cons, getE_at (e := e.me) (a := id) heid (by rw [← heid]; exact hI.ne)]; rfl
    have hrow : S.rows[A.length]? = some e.pl := by rw [← hT0, List.map_append, List.map_cons, List.getElem?_append_right (by simp), List.length_map, Nat.sub_self]; rfl
    have hcs : cleanS S B id = if e.pl.dirty = true then (if (saveS B id e.pl.bs).1 = 0 then (0, rowSet S A.length scrub, (saveS B id e.pl.bs).2) else ((saveS B id e.pl.bs).1, S, (saveS B id e.pl.bs).2)) else (0, S, B) := by
      unfold cleanS
      rw [h4, Nat.zero_add, ← hA]
      dsimp only
      rw [hrow]
    rw [hget, Option.getD_some, Option.isSome_some]
    refine sg_own (fun w hO => Own.plOut hO) ?_
    have hbl : e.pl.bs.length ≤ bigB := hF.rbs e.pl (by rw [← hT0]; simp)
    have hshut : ∀ w B', Own W w (blk p (pcells bp S (A ++ e :: C).length ra rc m) :: sown ra (A ++ e :: C).length rc 1 ((A ++ e :: C).map PE.dp) :: mapc .u64 m ((A ++ e :: C).map PE.me) clk :: blk0 e.ptr e.cells :: sown e.a e.pl.bs.length e.c 1 (e.pl.bs.map bv) :: sepL ((A ++ C).map PE.own) :: BackRep bp B' :: R) → Own W w (PoolRep p bp S :: BackRep bp B' :: R) :=
      fun w B' hO => PoolRep.shut hT0 hI hO.plIn
    unfold PE.cells at hshut ⊢
    unfold pcells at hshut
    rw [show e.dp = .pointer (some ⟨e.ptr, 0, none⟩) from rfl]
    cases hdt : e.pl.dirty with
    | false =>
      rw [hdt] at hcs hshut
      rw [if_neg (by decide)] at hcs
      rw [hcs]
      repeat' (first | refine sg_wo ?_ | refine sg_ps (ps_move rfl) rfl ?_ | refine sg_ps (ps_assign rfl) rfl ?_ | refine sg_seq ?_ | refine sg_region ?_ | refine sg_nil ?_ | refine sg_then ?_ | refine sg_ps (ps_fieldAddr rfl) rfl ?_ | refine sg_ps (ps_nilCheck rfl) rfl ?_ | refine sg_ps (ps_not rfl) rfl ?_ | refine sg_cond_f rfl ?_ | refine sg_ps (ps_extract rfl rfl) rfl ?_ | refine sg_skip ?_ | refine sg_ret ?_ | refine sg_load_rd rfl (rd_blk0_one 3 rfl rfl) rfl ?_)
      exact ex_ret1 rfl rfl () rfl trivial (fun w hO => hshut w B hO)
    | true =>
      rw [hdt] at hshut
      rw [hdt, if_pos rfl] at hcs
      repeat' (first | refine sg_wo ?_ | refine sg_ps (ps_move rfl) rfl ?_ | refine sg_ps (ps_assign rfl) rfl ?_ | refine sg_seq ?_ | refine sg_region ?_ | refine sg_nil ?_ | refine sg_then ?_ | refine sg_ps (ps_fieldAddr rfl) rfl ?_ | refine sg_ps (ps_nilCheck rfl) rfl ?_ | refine sg_ps (ps_not rfl) rfl ?_ | refine sg_cond_t rfl ?_ | refine sg_cond_f rfl ?_ | refine sg_ps (ps_extract rfl rfl) rfl ?_ | refine sg_skip ?_ | refine sg_load_rd rfl (rd_blk0_one 3 rfl rfl) rfl ?_)
      refine sg_drawK [blk p [.iface 24 (dp bp), i64 S.most, .slice ra (A ++ e :: C).length rc, .map (some m), i64 S.hand], blk0 e.ptr [u64 e.pl.id, .slice e.a e.pl.bs.length e.c, .bool true, .bool e.pl.used, i64 e.pl.pins]] [0, 1, 2, 4, 5, 6, 7, 3, 9, 10, 8, 11, 12] (by kernel_rfl) (by kernel_rfl) (fun w hO => hO.pick [0, 3] (by decide)) ?_
      repeat' (first | refine sk_pure rfl rfl (ps_move rfl) rfl ?_ | refine sk_pure rfl rfl (ps_nilCheck rfl) rfl ?_ | refine sk_pure rfl rfl (ps_fieldAddr rfl) rfl ?_ | refine sk_load 0 rfl rfl rfl rfl rfl ?_)
      refine sk_pure rfl rfl (ps_nilCheck_if rfl) rfl ?_
      repeat' (first | refine sk_pure rfl rfl (ps_move rfl) rfl ?_ | refine sk_load_rd rfl rfl (rd_blk0_one 1 rfl rfl) rfl ?_ | refine sk_eff rfl rfl ?_)
      refine sg_invoke (t := 24) ((bsave_tri bp B id e.pl.bs e.a e.c (blk p [.iface 24 (dp bp), i64 S.most, .slice ra (A ++ e :: C).length rc, .map (some m), i64 S.hand] :: _) (hF.okB hN).len (hF.okB hN).asked hbl (rd_app 4 rfl)).pre (fun w hO => hO.front6)) rfl rfl rfl (fun _ _ => ?_)
      refine sk_back (fun w hO => hO.pick [1, 4] (by decide)) ?_
      repeat' (first | refine sk_nil ?_ | refine sk_pure rfl rfl (ps_assign rfl) rfl ?_)
      refine sg_then ?_
      by_cases hs0 : (saveS B id e.pl.bs).1 = 0
      · rw [if_pos hs0] at hcs
        rw [hcs, hs0]
        repeat' (first | refine sg_wo ?_ | refine sg_ps (ps_move rfl) rfl ?_ | refine sg_ps (ps_assign rfl) rfl ?_ | refine sg_seq ?_ | refine sg_region ?_ | refine sg_nil ?_ | refine sg_then ?_ | refine sg_ps (ps_fieldAddr rfl) rfl ?_ | refine sg_ps (ps_nilCheck rfl) rfl ?_ | refine sg_ps (ps_bin rfl rfl inferInstance) rfl ?_ | refine sg_cond_f rfl ?_ | refine sg_skip ?_ | refine sg_ret ?_ | refine sg_store0 [_, _, _, _] rfl rfl rfl (of_decide_eq_true rfl) ?_)
        obtain ⟨e', he'⟩ : ∃ e' : PE, e' = ⟨scrub e.pl, e.ptr, e.a, e.c, e.born⟩ := ⟨_, rfl⟩
        have hT2 : (A ++ e' :: C).map (·.pl) = (rowSet S A.length scrub).rows := by rw [he']; exact (modify_at scrub hT0).symm
        have hdp : (A ++ e :: C).map PE.dp = (A ++ e' :: C).map PE.dp := by rw [he', List.map_append, List.map_append]; rfl
        have hme : (A ++ e :: C).map PE.me = (A ++ e' :: C).map PE.me := by rw [he', List.map_append, List.map_append]; rfl
        have hle : (A ++ e :: C).length = (A ++ e' :: C).length := by rw [List.length_append, List.length_append]; rfl
        rw [hdp, hme, hle]
        refine ex_ret1 rfl rfl () rfl trivial (fun w hO => ?_)
        refine PoolRep.shut (S := rowSet S A.length scrub) (T := A ++ e' :: C) (ra := ra) (rc := rc) (m := m) (clk := clk) hT2 (hI.swap (by rw [he']) (by rw [he']; rfl)) (Own.plIn (e := e') ?_)
        subst he'
        exact Own.back6 hO
      · rw [if_neg hs0] at hcs
        rw [hcs]
        repeat' (first | refine sg_wo ?_ | refine sg_ps (ps_move rfl) rfl ?_ | refine sg_ps (ps_assign rfl) rfl ?_ | refine sg_seq ?_ | refine sg_region ?_ | refine sg_nil ?_ | refine sg_then ?_ | refine sg_ps (ps_bin rfl rfl inferInstance) rfl ?_ | refine sg_ret ?_ | refine ex_then_ret ?_ | (refine sg_cond_ndec rfl (fun hg => ?_) (fun hg => ?_) <;> first | (exfalso; omega) | (exact absurd rfl hg) | skip))
        exact ex_ret1 rfl rfl () rfl trivial (fun w hO => hshut w _ (Own.back6 hO))
  · have hget : getE (T.map PE.me) id = none := getE_no fun y hy => by
      obtain ⟨e, he, rfl⟩ := List.mem_map.1 hy
      exact h1 e.pl (by rw [← hT]; exact List.mem_map_of_mem he)
    have hf : cleanS S B id = (5, S, B) := by unfold cleanS; rw [h2]
    rw [hget, hf, Option.getD_none, Option.isSome_none]
    repeat' (first | refine sg_wo ?_ | refine sg_ps (ps_move rfl) rfl ?_ | refine sg_ps (ps_assign rfl) rfl ?_ | refine sg_seq ?_ | refine sg_region ?_ | refine sg_nil ?_ | refine sg_then ?_ | refine sg_ps (ps_not rfl) rfl ?_ | refine sg_cond_t rfl ?_ | refine sg_ps (ps_extract rfl rfl) rfl ?_ | refine sg_ret ?_ | refine ex_then_ret ?_)
    exact ex_ret1 rfl rfl () rfl trivial (fun w hO => PoolRep.shut hT hI hO)
end Go.Proofs.Ytclehoaeppbmpaa
