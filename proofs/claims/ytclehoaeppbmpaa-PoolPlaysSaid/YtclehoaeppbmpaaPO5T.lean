/- Package pool: a place goes out. -/
import Derived.Test.YtclehoaeppbmpaaPO5
namespace Go.Proofs.Ytclehoaeppbmpaa
set_option linter.unusedVariables false
set_option linter.unusedSimpArgs false
set_option linter.unusedSectionVars false
set_option linter.unnecessarySimpa false
open Go Go.Proofs
set_option maxRecDepth 20000
set_option maxHeartbeats 4000000
attribute [local irreducible] SG WC WO W1 WD WK PS Rd Tri Exit.then Exit.inBlock bodyPost calmQ Mid sadd
variable {W : World} {n : Nat} {F : Fr} {L : List HP} {G : Act → World → Prop}
theorem ptake_tri (p bp : Nat) (S : PlS) (i x : Nat) (r : Pl) (R : List HP) (hr : S.rows[i]? = some r) (hl : S.rows.length ≤ 1000000) (hh : S.hand ≤ 1000000) :
    Tri Try.prog W 45 [dp p, i64 i] (PoolAt p bp S i x :: R) (X := Option Addr × Nat) (fun _ => .tuple #[]) (fun _ => True) (fun y => PoolRep p bp (takeS S i) :: blk0 x [u64 r.id, .slice y.1 r.bs.length y.2, .bool r.dirty, .bool r.used, i64 r.pins] :: R) := by
  refine tri_enter2 Try.func45 rfl Try.ntmps45 rfl ?_
  refine PoolAt.open fun A B e ra rc m clk hS hI hA hx => ?_
  have hTl : (A ++ e :: B).length = S.rows.length := by rw [← hS, List.length_map]
  subst hA hx
  have her : e.pl = r := by
    rw [← hS, List.map_append, List.map_cons, List.getElem?_append_right (by simp)] at hr
    simpa using hr
  subst her
  obtain ⟨k, hk⟩ : ∃ k, (A ++ e :: B).length = k + 1 := ⟨A.length + B.length, by simp; omega⟩
  have hrd : Rd W (blk p (pcells bp S (A ++ e :: B).length ra rc m) :: sown ra (A ++ e :: B).length rc 1 ((A ++ e :: B).map PE.dp) :: mapc .u64 m ((A ++ e :: B).map PE.me) clk :: blk0 e.ptr e.cells :: sown e.a e.pl.bs.length e.c 1 (e.pl.bs.map bv) :: sepL ((A ++ B).map PE.own) :: R) ra ((A ++ e :: B).map PE.dp) := rd_sown 1 rfl fun _ _ h => h
  have hAlt : A.length < k + 1 := by rw [← hk]; simp
  refine sg_rd_some hrd (by simp) fun b0 o0 ha => ?_
  subst ha
  rw [hk] at hrd ⊢
  unfold pcells at hrd ⊢
  unfold PE.cells at hrd ⊢
  have hra : Rd W [blk p [.iface 24 (dp bp), i64 S.most, .slice (some ⟨b0, o0, none⟩) (k + 1) rc, .map (some m), i64 S.hand], sown (some ⟨b0, o0, none⟩) (k + 1) rc 1 ((A ++ e :: B).map PE.dp), blk0 e.ptr [u64 e.pl.id, .slice e.a e.pl.bs.length e.c, .bool e.pl.dirty, .bool e.pl.used, i64 e.pl.pins]] (some ⟨b0, o0 + A.length * 1, none⟩) [e.dp] :=
    (rd_sown 1 rfl fun _ _ h => h).at (vs := (A ++ e :: B).map PE.dp) (A.length * 1) (fun q u hq => by
      match q, hq with
      | 0, hq => simp at hq; subst hq; simp)
  repeat' (first | refine sg_seq ?_)
  refine sg_drawK [blk p [.iface 24 (dp bp), i64 S.most, .slice (some ⟨b0, o0, none⟩) (k + 1) rc, .map (some m), i64 S.hand], sown (some ⟨b0, o0, none⟩) (k + 1) rc 1 ((A ++ e :: B).map PE.dp), blk0 e.ptr [u64 e.pl.id, .slice e.a e.pl.bs.length e.c, .bool e.pl.dirty, .bool e.pl.used, i64 e.pl.pins]] [0, 1, 2, 4, 5, 6, 8, 7, 9, 10, 11, 12, 3, 13, 14] (by kernel_rfl) (by kernel_rfl) (fun w hO => hO.pick [0, 1, 3] (by decide)) ?_
  repeat' (first | refine sk_pure rfl rfl (ps_move rfl) rfl ?_ | refine sk_pure rfl rfl (ps_nilCheck rfl) rfl ?_ | refine sk_pure rfl rfl (ps_fieldAddr rfl) rfl ?_ | refine sk_pure rfl rfl (ps_indexAddr rfl rfl rfl (by omega)) rfl ?_ | refine sk_load 0 rfl rfl rfl rfl rfl ?_)
  refine sk_load_rd rfl rfl hra rfl ?_
  unfold PE.dp
  repeat' (first | refine sk_pure rfl rfl (ps_nilCheck rfl) rfl ?_ | refine sk_pure rfl rfl (ps_fieldAddr rfl) rfl ?_ | refine sk_load 0 rfl rfl rfl rfl rfl ?_ | refine sk_load_rd rfl rfl (rd_blk0_one 2 rfl rfl) rfl ?_ | refine sk_eff rfl rfl ?_)
  refine sg_delete (k := .u64) [_, _] Try.underlying63 Try.underlying32 rfl rfl ?_
  have hdel : delE ((A ++ e :: B).map PE.me) e.pl.id = (A ++ B).map PE.me := by
    rw [List.map_append, List.map_cons, delE_at (e := e.me) (a := e.pl.id) rfl hI.ne, List.map_append]
  rw [hdel]
  refine sk_back (fun w hO => hO.pick [0, 1, 3] (by decide)) ?_
  repeat' (first | refine sk_nil ?_)
  refine sg_then ?_
  repeat' (first | refine sg_wo ?_ | refine sg_ps (ps_move rfl) rfl ?_ | refine sg_seq ?_ | refine sg_region ?_ | refine sg_ps (ps_fieldAddr rfl) rfl ?_ | refine sg_ps (ps_nilCheck rfl) rfl ?_ | refine sg_load 0 rfl rfl rfl rfl ?_ | refine sg_ps (ps_add64 rfl rfl (by omega)) rfl ?_)
  have hk2 : (A ++ B).length = k := by
    rw [List.length_append, List.length_cons] at hk
    rw [List.length_append]; omega
  have hk3 : k ≤ 1000000 := by omega
  have hAk : A.length ≤ k := by rw [← hk2, List.length_append]; omega
  have hdrop : ((A ++ e :: B).map PE.dp).take A.length ++ ((A ++ e :: B).map PE.dp).drop (A.length + 1) = (A ++ B).map PE.dp := by
    rw [List.map_append, List.map_cons, List.take_left' (by simp), List.append_cons, List.drop_left' (by simp), List.map_append]
  refine sg_own (L' := sown (some ⟨b0, o0, none⟩) (k + 1) rc 1 ((A ++ e :: B).map PE.dp) :: blk p [.iface 24 (dp bp), i64 S.most, .slice (some ⟨b0, o0, none⟩) (k + 1) rc, .map (some m), i64 S.hand] :: mapc .u64 m ((A ++ B).map PE.me) clk :: sepL ((A ++ B).map PE.own) :: blk0 e.ptr [u64 e.pl.id, .slice e.a e.pl.bs.length e.c, .bool e.pl.dirty, .bool e.pl.used, i64 e.pl.pins] :: R) (fun w hO => ?_) ?_
  · have k0 : Own W w (_ :: _ :: _ :: _ :: _ :: _ :: R) := hO
    exact k0.front4.tail.front3.front4.front4.front3.front4
  refine sg_call (pdel_tri ((A ++ e :: B).map PE.dp) _ k rc A.length _ hAk hk3 (by rw [List.length_map]; exact hk) (fun u hu => by obtain ⟨x, _, rfl⟩ := List.mem_map.1 hu; rfl)) rfl rfl (fun _ _ => ?_)
  rw [hdrop]
  repeat' (first | refine sg_wo ?_ | refine sg_ps (ps_move rfl) rfl ?_ | refine sg_seq ?_ | refine sg_region ?_ | refine sg_nil ?_ | refine sg_then ?_ | refine sg_ps (ps_fieldAddr rfl) rfl ?_ | refine sg_ps (ps_nilCheck rfl) rfl ?_ | refine sg_load 1 rfl rfl rfl rfl ?_ | refine sg_ps (ps_sub64 rfl rfl (by omega)) rfl ?_ | refine sg_ps (ps_bin rfl rfl inferInstance) rfl ?_ | refine sg_skip ?_ | refine sg_store [_] rfl rfl rfl (of_decide_eq_true rfl) ?_ | (refine sg_cond_dec rfl (fun hg => ?_) (fun hg => ?_) <;> first | (exfalso; omega) | (exact absurd rfl hg) | skip))
  all_goals
    refine sg_drawK _ [0, 1, 2, 4, 5, 6, 7, 8, 3, 9] (by kernel_rfl) (by kernel_rfl) (fun w hO => hO) ?_
  all_goals (
    repeat' (first | refine sk_nil ?_ | refine sk_pure rfl rfl (ps_move rfl) rfl ?_ | refine sk_pure rfl rfl (ps_nilCheck rfl) rfl ?_ | refine sk_pure rfl rfl (ps_fieldAddr rfl) rfl ?_ | refine sk_pure rfl rfl (ps_bin rfl rfl inferInstance) rfl ?_ | refine sk_pure rfl rfl (ps_len rfl) rfl ?_ | refine sk_load 1 rfl rfl rfl rfl rfl ?_)
    refine sg_then ?_
    repeat' (first | refine sg_wo ?_ | refine sg_ps (ps_move rfl) rfl ?_ | refine sg_region ?_ | refine sg_nil ?_ | refine sg_ps (ps_fieldAddr rfl) rfl ?_ | refine sg_ps (ps_nilCheck rfl) rfl ?_ | refine sg_skip ?_ | refine sg_store [_] rfl rfl rfl (of_decide_eq_true rfl) ?_ | (refine sg_cond_dec rfl (fun hg => ?_) (fun hg => ?_) <;> first | (exfalso; omega) | (exact absurd rfl hg) | skip))
    skip)
  all_goals
    have hT : (A ++ B).map (·.pl) = (takeS S A.length).rows := by
      unfold takeS
      dsimp only
      rw [← hS, List.map_append, List.map_append, List.map_cons]
      have := erase_app e.pl (B.map (·.pl)) (A.map (·.pl))
      rw [List.length_map] at this
      exact this.symm
    have hrl : S.rows.length - 1 = k := by omega
  · have hv : ((takeS S A.length).hand : Int) = 0 := by unfold takeS; dsimp only; rw [if_pos (by omega : A.length < S.hand), if_pos (by omega)]; rfl
    exact ex_end0 rfl (e.a, e.c) rfl trivial (fun w hO => PoolRep.shut (S := takeS S A.length) hT hI.cut (by unfold pcells; rw [hk2, hv]; exact hO.front1))
  · have hv : ((takeS S A.length).hand : Int) = (S.hand : Int) - 1 := by unfold takeS; dsimp only; rw [if_pos (by omega : A.length < S.hand), if_neg (by omega)]; omega
    exact ex_end0 rfl (e.a, e.c) rfl trivial (fun w hO => PoolRep.shut (S := takeS S A.length) hT hI.cut (by unfold pcells; rw [hk2, hv]; exact hO.front1))
  · have hv : ((takeS S A.length).hand : Int) = 0 := by unfold takeS; dsimp only; rw [if_neg (by omega : ¬ A.length < S.hand), if_pos (by omega)]; rfl
    exact ex_end0 rfl (e.a, e.c) rfl trivial (fun w hO => PoolRep.shut (S := takeS S A.length) hT hI.cut (by unfold pcells; rw [hk2, hv]; exact hO.front1))
  · have hv : ((takeS S A.length).hand : Int) = S.hand := by unfold takeS; dsimp only; rw [if_neg (by omega : ¬ A.length < S.hand), if_neg (by omega)]
    exact ex_end0 rfl (e.a, e.c) rfl trivial (fun w hO => PoolRep.shut (S := takeS S A.length) hT hI.cut (by unfold pcells; rw [hk2, hv]; exact hO.front1))
end Go.Proofs.Ytclehoaeppbmpaa
