/- The reference pool: a place is taken out. -/
import Derived.Test.YtclehoaeppbmpaaPR0
namespace Go.Proofs.Ytclehoaeppbmpaa
set_option linter.unusedVariables false
set_option linter.unusedSimpArgs false
set_option linter.unusedSectionVars false
set_option linter.unnecessarySimpa false
open Go Go.Proofs
theorem er_snoc {α : Type} (T : List α) (k i : Nat) (hk : k < T.length) : (T.take (k + 1)).eraseIdx i = if k = i then (T.take k).eraseIdx i else (T.take k).eraseIdx i ++ [T[k]] := by
  rw [List.take_succ_eq_append_getElem hk]
  have hlk : (T.take k).length = k := by rw [List.length_take]; omega
  by_cases h1 : i < k
  · rw [if_neg (by omega), List.eraseIdx_append_of_lt_length (by omega)]
  · rw [List.eraseIdx_append_of_length_le (by omega), hlk, List.eraseIdx_of_length_le (l := T.take k) (by omega)]
    by_cases h2 : k = i
    · subst h2; simp
    · rw [if_neg h2, List.eraseIdx_of_length_le (by simp only [List.length_singleton]; omega)]
theorem map_erase {α β : Type} (f : α → β) : ∀ (l : List α) (i : Nat), (l.eraseIdx i).map f = (l.map f).eraseIdx i
  | [], _ => rfl
  | _ :: _, 0 => rfl
  | x :: l, i + 1 => by simp only [List.eraseIdx_cons_succ, List.map_cons, map_erase f l i]
theorem er_len {α : Type} (T : List α) (k i : Nat) : ((T.take k).eraseIdx i).length ≤ T.length := by
  refine Nat.le_trans (List.length_eraseIdx_le _ _) ?_
  rw [List.length_take]; omega
set_option maxRecDepth 20000
set_option maxHeartbeats 4000000
attribute [local irreducible] SG WC WO W1 WD WK PS Rd Tri Exit.then Exit.inBlock bodyPost calmQ Mid sadd
variable {W : World} {n : Nat} {F : Fr} {L : List HP} {G : Act → World → Prop}
theorem rout_tri (p bp : Nat) (S : PlS) (i : Nat) (R : List HP) (hi : i < S.rows.length) (hl : S.rows.length ≤ 1000000) (hh : S.hand ≤ 1000000) :
    Tri Try.prog W 46 [dp p, i64 i] (RPool p bp S :: R) (X := Unit) (fun _ => .tuple #[]) (fun _ => True) (fun _ => RPool p bp (takeS S i) :: R) := by
  refine tri_enter2 Try.func46 rfl Try.ntmps46 rfl ?_
  refine RPool.open fun T ra rc hT => ?_
  have hTl : T.length = S.rows.length := by rw [← hT, List.length_map]
  unfold rpc
  repeat' (first | refine sg_wo ?_ | refine sg_ps (ps_assign rfl) rfl ?_ | refine sg_seq ?_ | refine sg_region ?_ | refine sg_nil ?_ | refine sg_then ?_ | refine sg_block ?_)
  refine sg_nil_own 5 ?_
  refine sg_loop (γ := Nat × Option Addr × Nat) (fun g => g.1 ≤ T.length) (fun g => [(0, dp p), (1, i64 i), (4, .slice g.2.1 ((T.take g.1).eraseIdx i).length g.2.2), (5, i64 g.1)])
    (fun g => sown g.2.1 ((T.take g.1).eraseIdx i).length g.2.2 5 (recs ((T.take g.1).eraseIdx i)) :: blk p [dp bp, i64 S.most, .slice ra T.length rc, i64 S.hand] :: sown ra T.length rc 5 (recs T) :: sepL (T.map RE.own) :: R) (fun g => T.length - g.1) (0, none, 0)
    (Nat.zero_le _) (.cons rfl (.cons rfl (.cons rfl (.cons rfl .nil)))) (fun w hO => hO) ?_
  rintro ⟨k, xa, xc⟩ hk
  dsimp only at hk ⊢
  have hlen := er_len T k i
  by_cases hkl : k < T.length
  case neg =>
    have e : T.take k = T := List.take_of_length_le (by omega)
    rw [e]
    have hel : (T.eraseIdx i).length = T.length - 1 := by rw [List.length_eraseIdx, if_pos (by omega)]
    have hT2 : (T.eraseIdx i).map (·.pl) = (takeS S i).rows := by
      show _ = S.rows.eraseIdx i
      rw [← hT, map_erase]
    obtain ⟨A, x, C, rfl, rfl⟩ := re_split (T := T) (i := i) (by omega)
    have hac : (A ++ x :: C).eraseIdx A.length = A ++ C := by rw [List.eraseIdx_append_of_length_le (Nat.le_refl _), Nat.sub_self]; rfl
    rw [hac] at hel hT2 ⊢
    rw [List.map_append, List.map_cons]
    refine sg_own (L' := blk p [dp bp, i64 S.most, .slice ra (A ++ x :: C).length rc, i64 S.hand] :: sown xa (A ++ C).length xc 5 (recs (A ++ C)) :: sepL ((A ++ C).map RE.own) :: R) (fun w hO => by
      have k1 := (Own.front3 hO).sepOut.tail
      rw [← List.map_append] at k1
      exact Own.pickA [_, _, _, _] k1 [2, 1, 0] (by decide)) ?_
    repeat' (first | refine sg_wo ?_ | refine sg_ps (ps_move rfl) rfl ?_ | refine sg_seq ?_ | refine sg_region ?_ | refine sg_nil ?_ | refine sg_then ?_ | refine sg_ps (ps_fieldAddr rfl) rfl ?_ | refine sg_ps (ps_nilCheck rfl) rfl ?_ | refine sg_load 0 rfl rfl rfl rfl ?_ | refine sg_ps (ps_sub64 rfl rfl (by omega)) rfl ?_ | refine sg_ps (ps_bin rfl rfl inferInstance) rfl ?_ | refine sg_ps (ps_len rfl) rfl ?_ | refine sg_skip ?_ | refine sg_exit ?_ | refine ex_then_exit ?_ | refine ex_block_hit ?_ | refine sg_store [] rfl rfl rfl (of_decide_eq_true rfl) ?_ | (refine sg_cond_dec rfl (fun hg => ?_) (fun hg => ?_) <;> first | (exfalso; omega) | (exact absurd rfl hg) | skip))
    all_goals
      refine sg_drawK _ [0, 1, 2, 4, 5, 6, 7, 8, 3, 9] (by kernel_rfl) (by kernel_rfl) (fun w hO => hO) ?_
    all_goals (
      repeat' (first | refine sk_nil ?_ | refine sk_pure rfl rfl (ps_move rfl) rfl ?_ | refine sk_pure rfl rfl (ps_nilCheck rfl) rfl ?_ | refine sk_pure rfl rfl (ps_fieldAddr rfl) rfl ?_ | refine sk_pure rfl rfl (ps_bin rfl rfl inferInstance) rfl ?_ | refine sk_pure rfl rfl (ps_len rfl) rfl ?_ | refine sk_load 0 rfl rfl rfl rfl rfl ?_)
      repeat' (first | refine sg_wo ?_ | refine sg_ps (ps_move rfl) rfl ?_ | refine sg_region ?_ | refine sg_nil ?_ | refine sg_then ?_ | refine sg_ps (ps_fieldAddr rfl) rfl ?_ | refine sg_ps (ps_nilCheck rfl) rfl ?_ | refine sg_skip ?_ | refine sg_store [] rfl rfl rfl (of_decide_eq_true rfl) ?_ | (refine sg_cond_dec rfl (fun hg => ?_) (fun hg => ?_) <;> first | (exfalso; omega) | (exact absurd rfl hg) | skip))
      skip)
    all_goals first
      | (have hv : ((takeS S A.length).hand : Int) = 0 := by unfold takeS; dsimp only; split <;> split <;> omega
         exact ex_end0 rfl () rfl trivial (fun w hO => RPool.shut (S := takeS S A.length) hT2 (by unfold rpc; rw [hv]; exact hO)))
      | (have hv : ((takeS S A.length).hand : Int) = (S.hand : Int) - 1 := by unfold takeS; dsimp only; split <;> split <;> omega
         exact ex_end0 rfl () rfl trivial (fun w hO => RPool.shut (S := takeS S A.length) hT2 (by unfold rpc; rw [hv]; exact hO)))
      | (have hv : ((takeS S A.length).hand : Int) = S.hand := by unfold takeS; dsimp only; split <;> split <;> omega
         exact ex_end0 rfl () rfl trivial (fun w hO => RPool.shut (S := takeS S A.length) hT2 (by unfold rpc; rw [hv]; exact hO)))
  have hsn := er_snoc T k i hkl
  refine sg_rd_some (rd_sown 2 rfl (fun _ _ h => h)) (recs_ne (by omega)) fun zb zo he => ?_
  subst he
  have hx : ∀ (X : HP) (Y : HP), Rd W (X :: Y :: sown (some ⟨zb, zo, none⟩) T.length rc 5 (recs T) :: sepL (T.map RE.own) :: R) (some ⟨zb, zo + k * 5, none⟩) T[k].cells := fun X Y => by
    have h1 : Rd W (X :: Y :: sown (some ⟨zb, zo, none⟩) T.length rc 5 (recs T) :: sepL (T.map RE.own) :: R) (some ⟨zb, zo, none⟩) (recs (T.take k ++ T[k] :: T.drop (k + 1))) := by
      rw [List.getElem_cons_drop, List.take_append_drop]
      exact rd_sown 2 rfl (fun _ _ h => h)
    have h2 := h1.rrow
    rw [List.length_take, Nat.min_eq_left (by omega)] at h2
    exact h2
  generalize T[k] = z at hx hsn
  generalize hE : (T.take k).eraseIdx i = E at hsn hlen ⊢
  by_cases hki : k = i
  · rw [if_pos hki] at hsn
    rw [← hsn]
    repeat' (first | refine sg_wo ?_ | refine sg_ps (ps_move rfl) rfl ?_ | refine sg_ps (ps_assign rfl) rfl ?_ | refine sg_seq ?_ | refine sg_region ?_ | refine sg_nil ?_ | refine sg_then ?_ | refine sg_ps (ps_fieldAddr rfl) rfl ?_ | refine sg_ps (ps_nilCheck rfl) rfl ?_ | refine sg_load 1 rfl rfl rfl rfl ?_ | refine sg_ps (ps_add64 rfl rfl (by omega)) rfl ?_ | refine sg_ps (ps_bin rfl rfl inferInstance) rfl ?_ | refine sg_ps (ps_len rfl) rfl ?_ | refine sg_block ?_ | refine sg_skip ?_ | refine ex_block_normal ?_ | (refine sg_cond_dec rfl (fun hg => ?_) (fun hg => ?_) <;> first | (exfalso; omega) | (exact absurd rfl hg) | skip) | (refine sg_cond_ndec rfl (fun hg => ?_) (fun hg => ?_) <;> first | (exfalso; omega) | (exact absurd rfl hg) | skip))
    exact ex_mid (k + 1, xa, xc) ⟨by omega, by omega⟩ (.cons rfl (.cons rfl (.cons rfl (.cons rfl .nil)))) (fun w hO => hO)
  · rw [if_neg hki] at hsn
    have e1 : E.length + 1 = ((T.take (k + 1)).eraseIdx i).length := by rw [hsn]; simp
    have e2 : recs E ++ recs [z] = recs ((T.take (k + 1)).eraseIdx i) := by rw [hsn, recs_app]
    repeat' (first | refine sg_wo ?_ | refine sg_ps (ps_move rfl) rfl ?_ | refine sg_seq ?_ | refine sg_region ?_ | refine sg_nil ?_ | refine sg_then ?_ | refine sg_ps (ps_fieldAddr rfl) rfl ?_ | refine sg_ps (ps_nilCheck rfl) rfl ?_ | refine sg_load 1 rfl rfl rfl rfl ?_ | refine sg_ps (ps_bin rfl rfl inferInstance) rfl ?_ | refine sg_ps (ps_len rfl) rfl ?_ | refine sg_ps (ps_indexAddr rfl rfl rfl (by omega)) rfl ?_ | refine sg_block ?_ | refine sg_skip ?_ | (refine sg_cond_dec rfl (fun hg => ?_) (fun hg => ?_) <;> first | (exfalso; omega) | (exact absurd rfl hg) | skip) | (refine sg_cond_ndec rfl (fun hg => ?_) (fun hg => ?_) <;> first | (exfalso; omega) | (exact absurd rfl hg) | skip))
    refine sg_load_agg_rd rfl rfl (hx _ _) rfl ?_
    repeat' (first | refine sg_wo ?_)
    refine sg_buildSlice1 (vs := recs [z]) rfl (of_decide_eq_true rfl) rfl rfl rfl (fun b1 => ?_)
    refine sg_front1 ?_
    repeat' (first | refine sg_wo ?_)
    refine sg_append (news := recs [z]) rfl rfl rfl (recs_len [z]) (recs_one [z]) (rd_blk 1 rfl (fun j u hj => by rw [Nat.zero_add]; exact hj)) (by simp only [maxLen]; omega) (by omega) fun a' c' => ?_
    rw [e1, e2]
    repeat' (first | refine sg_wo ?_ | refine sg_ps (ps_move rfl) rfl ?_ | refine sg_ps (ps_assign rfl) rfl ?_ | refine sg_region ?_ | refine sg_nil ?_ | refine sg_then ?_ | refine sg_ps (ps_add64 rfl rfl (by omega)) rfl ?_ | refine ex_block_normal ?_)
    exact ex_mid (k + 1, a', c') ⟨by omega, by omega⟩ (.cons rfl (.cons rfl (.cons rfl (.cons rfl .nil)))) (fun w hO => Own.pickA [_, _, _, _, _] hO [0, 2, 3, 4] (by decide))
end Go.Proofs.Ytclehoaeppbmpaa
