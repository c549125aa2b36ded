/- The reference pool: Drop, Evict, Unpin, Clean, Put. -/
import Derived.Test.YtclehoaeppbmpaaPR3
namespace Go.Proofs.Ytclehoaeppbmpaa
set_option linter.unusedVariables false
set_option linter.unusedSimpArgs false
set_option linter.unusedSectionVars false
set_option linter.unnecessarySimpa false
open Go Go.Proofs
def dropS (S : PlS) (id : Int) : PlS := match atP S.rows id 0 with
  | some i => takeS S i
  | none => S
theorem at_lt {id : Int} {l : List Pl} {i : Nat} (h : atP l id 0 = some i) : i < l.length := by
  rcases at_cases id l 0 with ⟨A, r, C, h1, h2, h3, h4⟩ | ⟨h1, h2⟩
  · rw [h] at h4
    simp only [Option.some.injEq] at h4
    rw [h1, List.length_append, List.length_cons]; omega
  · rw [h] at h2; cases h2
theorem putAt_all {S : PlS} {id : Int} (h : AllR pos0 S) : AllR pos0 (putAt S id).2 := by
  unfold putAt
  split
  · exact h
  · intro r hr
    rcases List.mem_append.1 (show r ∈ S.rows ++ [_] from hr) with hr | hr
    · exact h r hr
    · simp only [List.mem_singleton] at hr
      subst hr; exact Int.le_refl 0
theorem putAt_lt (S : PlS) (id : Int) : (putAt S id).1 < (putAt S id).2.rows.length := by
  unfold putAt
  split
  · rename_i i hi
    exact at_lt hi
  · show _ < (S.rows ++ [_]).length
    rw [List.length_append, List.length_singleton]; omega
theorem re_own_eq {A C : List RE} {e e' : RE} (h : e'.own = e.own) : (A ++ e' :: C).map RE.own = (A ++ e :: C).map RE.own := by
  rw [List.map_append, List.map_append, List.map_cons, List.map_cons, h]
theorem re_len {A C : List RE} (e e' : RE) : (A ++ e' :: C).length = (A ++ e :: C).length := by rw [List.length_append, List.length_append]; rfl
set_option maxRecDepth 20000
set_option maxHeartbeats 4000000
attribute [local irreducible] SG WC WO W1 WD WK PS Rd Tri Exit.then Exit.inBlock bodyPost calmQ Mid sadd
variable {W : World} {n : Nat} {F : Fr} {L : List HP} {G : Act → World → Prop}
theorem rdrop_tri (p bp : Nat) (S : PlS) (id : Int) (R : List HP) (hl : S.rows.length ≤ 1000000) (hh : S.hand ≤ 1000000) :
    Tri Try.prog W 26 [dp p, u64 id] (RPool p bp S :: R) (X := Unit) (fun _ => .tuple #[]) (fun _ => True) (fun _ => RPool p bp (dropS S id) :: R) := by
  refine tri_enter2 Try.func26 rfl Try.ntmps26 rfl ?_
  repeat' (first | refine sg_wo ?_ | refine sg_ps (ps_move rfl) rfl ?_ | refine sg_seq ?_ | refine sg_region ?_)
  refine sg_call (rat_tri p bp S id R hl) rfl rfl (fun _ _ => ?_)
  unfold dropS
  cases ha : atP S.rows id 0 with
  | none =>
    show SG W _ ((7, i64 (-1)) :: _) _ _
    repeat' (first | refine sg_wo ?_ | refine sg_ps (ps_move rfl) rfl ?_ | refine sg_ps (ps_assign rfl) rfl ?_ | refine sg_seq ?_ | refine sg_region ?_ | refine sg_nil ?_ | refine sg_then ?_ | refine sg_ps (ps_bin rfl rfl inferInstance) rfl ?_ | refine sg_cond_f rfl ?_ | refine sg_skip ?_)
    exact ex_end0 rfl () rfl trivial (fun w hO => hO)
  | some i =>
    show SG W _ ((7, i64 (i : Int)) :: _) _ _
    repeat' (first | refine sg_wo ?_ | refine sg_ps (ps_move rfl) rfl ?_ | refine sg_ps (ps_assign rfl) rfl ?_ | refine sg_seq ?_ | refine sg_region ?_ | refine sg_nil ?_ | refine sg_then ?_ | refine sg_ps (ps_bin rfl rfl inferInstance) rfl ?_ | refine sg_cond_t rfl ?_)
    refine sg_call (rout_tri p bp S i R (at_lt ha) hl hh) rfl rfl (fun _ _ => ?_)
    repeat' (first | refine sg_nil ?_)
    exact ex_end0 rfl () rfl trivial (fun w hO => hO)
theorem revict_tri {N : Nat} (p bp : Nat) (S : PlS) (B : BkS) (R : List HP) (hF : Fit S B N) (hN : N ≤ 100000) (hP : AllR pos0 S) :
    Tri Try.prog W 28 [dp p] (RPool p bp S :: BackRep bp B :: R) (X := Unit) (fun _ => .tuple #[u64 (evictS S B).1.1, i64 (evictS S B).1.2]) (fun _ => True) (fun _ => RPool p bp (evictS S B).2.1 :: BackRep bp (evictS S B).2.2 :: R) := by
  refine tri_enter1 Try.func28 rfl Try.ntmps28 rfl ?_
  refine RPool.open fun T ra rc hT => ?_
  have hTl : T.length = S.rows.length := by rw [← hT, List.length_map]
  unfold rpc
  rw [hTl]
  by_cases h0 : S.rows = []
  · have he : evictS S B = ((0, 5), S, B) := by unfold evictS; rw [if_pos h0]
    rw [he]
    have hl0 : S.rows.length = 0 := by rw [h0]; rfl
    rw [hl0]
    repeat' (first | refine sg_wo ?_ | refine sg_ps (ps_move rfl) rfl ?_ | refine sg_ps (ps_assign rfl) rfl ?_ | refine sg_seq ?_ | refine sg_region ?_ | refine sg_nil ?_ | refine sg_then ?_ | refine sg_ps (ps_fieldAddr rfl) rfl ?_ | refine sg_ps (ps_nilCheck rfl) rfl ?_ | refine sg_load 0 rfl rfl rfl rfl ?_ | refine sg_ps (ps_bin rfl rfl inferInstance) rfl ?_ | refine sg_cond_t rfl ?_ | refine sg_ps (ps_len rfl) rfl ?_ | refine sg_ret ?_ | refine ex_then_ret ?_)
    exact ex_ret2 rfl rfl rfl () rfl trivial (fun w hO => RPool.shut (ra := ra) (rc := rc) hT (by unfold rpc; rw [hTl, hl0]; exact hO))
  · have he : evictS S B = goesS S B := by unfold evictS; rw [if_neg h0]
    rw [he]
    have hl0 : 0 < S.rows.length := List.length_pos_iff.2 h0
    repeat' (first | refine sg_wo ?_ | refine sg_ps (ps_move rfl) rfl ?_ | refine sg_ps (ps_assign rfl) rfl ?_ | refine sg_seq ?_ | refine sg_region ?_ | refine sg_nil ?_ | refine sg_then ?_ | refine sg_ps (ps_fieldAddr rfl) rfl ?_ | refine sg_ps (ps_nilCheck rfl) rfl ?_ | refine sg_load 0 rfl rfl rfl rfl ?_ | refine sg_ps (ps_bin rfl rfl inferInstance) rfl ?_ | refine sg_ps (ps_len rfl) rfl ?_ | refine sg_skip ?_ | (refine sg_cond_dec rfl (fun hg => ?_) (fun hg => ?_) <;> first | (exfalso; omega) | (exact absurd rfl hg) | skip))
    refine sg_own (L' := RPool p bp S :: BackRep bp B :: R) (fun w hO => RPool.shut (ra := ra) (rc := rc) hT (by unfold rpc; rw [hTl]; exact hO)) ?_
    refine sg_call (rgoes_tri p bp S B R (hF.ok hN) (hF.okB hN) hP) rfl rfl (fun _ _ => ?_)
    repeat' (first | refine sg_wo ?_ | refine sg_ps (ps_assign rfl) rfl ?_ | refine sg_nil ?_ | refine sg_then ?_ | refine sg_ps (ps_extract rfl rfl) rfl ?_ | refine sg_ret ?_)
    exact ex_ret2 rfl rfl rfl () rfl trivial (fun w hO => hO)
theorem runpin_tri {N : Nat} (p bp : Nat) (S : PlS) (B : BkS) (id : Int) (R : List HP) (hF : Fit S B N) (hN : N ≤ 100000) (hP : AllR pos0 S) (hP2 : ∀ i, AllR pos0 (rowSet S i pin0) ∨ pinsAt S i = 0) :
    Tri Try.prog W 27 [dp p, u64 id] (RPool p bp S :: BackRep bp B :: R) (X := Unit) (fun _ => i64 (unpinS S B id).1) (fun _ => True) (fun _ => RPool p bp (unpinS S B id).2.1 :: BackRep bp (unpinS S B id).2.2 :: R) := by
  have hSl : S.rows.length ≤ 100000 := (hF.ok hN).len
  refine tri_enter2 Try.func27 rfl Try.ntmps27 rfl ?_
  repeat' (first | refine sg_wo ?_ | refine sg_ps (ps_move rfl) rfl ?_ | refine sg_ps (ps_assign rfl) rfl ?_ | refine sg_seq ?_ | refine sg_region ?_ | refine sg_nil ?_ | refine sg_then ?_)
  refine sg_call (rat_tri p bp S id _ (by omega)) rfl rfl (fun _ _ => ?_)
  cases hat : atP S.rows id 0 with
  | none =>
    have hf : unpinS S B id = (5, S, B) := by unfold unpinS; rw [hat]
    rw [hf]
    show SG W _ ((8, i64 (-1)) :: _) _ _
    repeat' (first | refine sg_wo ?_ | refine sg_ps (ps_move rfl) rfl ?_ | refine sg_ps (ps_assign rfl) rfl ?_ | refine sg_seq ?_ | refine sg_region ?_ | refine sg_nil ?_ | refine sg_then ?_ | refine sg_ps (ps_bin rfl rfl inferInstance) rfl ?_ | refine sg_cond_t rfl ?_ | refine sg_guard_nt rfl rfl rfl ?_ | refine sg_ps (ps_pick_t rfl rfl) rfl ?_ | refine sg_ret ?_ | refine ex_then_ret ?_)
    exact ex_ret1 rfl rfl () rfl trivial (fun w hO => hO)
  | some i =>
    have hil := at_lt hat
    show SG W _ ((8, i64 (i : Int)) :: _) _ _
    refine RPool.open fun T ra rc hT => ?_
    have hTl : T.length = S.rows.length := by rw [← hT, List.length_map]
    refine sg_sownSome [_] (by omega) ?_
    rintro g rfl
    rw [List.cons_append, List.nil_append]
    obtain ⟨A, e, C, rfl, hA⟩ := re_split (T := T) (i := i) (by omega)
    have hrr : ∀ (e : RE) (j : Nat) (L : List HP), L[j]? = some (sown (some ⟨g, 0, none⟩) S.rows.length rc 5 (recs (A ++ e :: C))) → Rd W L (some ⟨g, 0 + i * 5, none⟩) e.cells := fun e j L h => by
      rw [← hA]; exact (rd_sown (vs := recs (A ++ e :: C)) j h fun _ _ h => h).rrow
    have hset := fun (e1 e' : RE) (j : Nat) (v : Value) (hj : j < 5) (h : e'.cells = e1.cells.set j v) => (show (recs (A ++ e1 :: C)).set (0 + i * 5 + j) v = recs (A ++ e' :: C) by rw [Nat.zero_add, ← hA]; exact recs_set (A := A) (C := C) (e := e1) (e' := e') j v hj h)
    have hpa : pinsAt S i = e.pl.pins := by
      unfold pinsAt
      rw [← hT, List.map_append, List.map_cons, List.getElem?_append_right (by simp; omega), List.length_map, hA, Nat.sub_self]; rfl
    have hT2 : (A ++ (⟨pin0 e.pl, e.a, e.c⟩ : RE) :: C).map (·.pl) = (rowSet S i pin0).rows := by rw [← hA]; exact (remodify pin0 hT).symm
    unfold rpc
    rw [hTl]
    by_cases hp : e.pl.pins = 0
    · have hf : unpinS S B id = (5, S, B) := by unfold unpinS; rw [hat]; simp only [hpa, hp, if_true]
      rw [hf]
      repeat' (first | refine sg_wo ?_ | refine sg_ps (ps_move rfl) rfl ?_ | refine sg_ps (ps_assign rfl) rfl ?_ | refine sg_seq ?_ | refine sg_region ?_ | refine sg_nil ?_ | refine sg_then ?_ | refine sg_ps (ps_fieldAddr rfl) rfl ?_ | refine sg_ps (ps_nilCheck rfl) rfl ?_ | refine sg_load 0 rfl rfl rfl rfl ?_ | refine sg_ps (ps_bin rfl rfl inferInstance) rfl ?_ | refine sg_guard_yes rfl rfl ?_ | refine sg_ps (ps_indexAddr rfl rfl rfl (by omega)) rfl ?_)
      refine sg_load_rd rfl ((hrr e 1 _ rfl).at (ws := [i64 e.pl.pins]) 3 (fun q u hq => by match q, hq with | 0, hq => exact hq)) rfl ?_
      repeat' (first | refine sg_wo ?_ | refine sg_ps (ps_assign rfl) rfl ?_ | refine sg_seq ?_ | refine sg_region ?_ | refine sg_nil ?_ | refine sg_then ?_ | refine sg_ps (ps_bin rfl rfl inferInstance) rfl ?_ | refine sg_guard_yes rfl rfl ?_ | refine sg_ps (ps_pick_f rfl rfl) rfl ?_ | refine sg_ret ?_ | refine ex_then_ret ?_ | (refine sg_cond_dec rfl (fun hg => ?_) (fun hg => ?_) <;> first | (exfalso; omega) | (exact absurd rfl hg) | skip))
      exact ex_ret1 rfl rfl () rfl trivial (fun w hO => RPool.shut hT (by unfold rpc; rw [hTl]; exact hO))
    · have hf : unpinS S B id = (0, roomS (rowSet S i pin0) B) := by unfold unpinS; rw [hat]; simp only [hpa, if_neg hp]
      rw [hf]
      have hP3 : AllR pos0 (rowSet S i pin0) := by
        rcases hP2 i with h | h
        · exact h
        · exact absurd (hpa.symm.trans h) hp
      repeat' (first | refine sg_wo ?_ | refine sg_ps (ps_move rfl) rfl ?_ | refine sg_ps (ps_assign rfl) rfl ?_ | refine sg_seq ?_ | refine sg_region ?_ | refine sg_nil ?_ | refine sg_then ?_ | refine sg_ps (ps_fieldAddr rfl) rfl ?_ | refine sg_ps (ps_nilCheck rfl) rfl ?_ | refine sg_load 0 rfl rfl rfl rfl ?_ | refine sg_ps (ps_bin rfl rfl inferInstance) rfl ?_ | refine sg_guard_yes rfl rfl ?_ | refine sg_ps (ps_indexAddr rfl rfl rfl (by omega)) rfl ?_)
      refine sg_load_rd rfl ((hrr e 1 _ rfl).at (ws := [i64 e.pl.pins]) 3 (fun q u hq => by match q, hq with | 0, hq => exact hq)) rfl ?_
      repeat' (first | refine sg_wo ?_ | refine sg_ps (ps_move rfl) rfl ?_ | refine sg_seq ?_ | refine sg_region ?_ | refine sg_nil ?_ | refine sg_then ?_ | refine sg_ps (ps_fieldAddr rfl) rfl ?_ | refine sg_ps (ps_nilCheck rfl) rfl ?_ | refine sg_load 0 rfl rfl rfl rfl ?_ | refine sg_ps (ps_bin rfl rfl inferInstance) rfl ?_ | refine sg_guard_yes rfl rfl ?_ | refine sg_ps (ps_pick_f rfl rfl) rfl ?_ | refine sg_ps (ps_indexAddr rfl rfl rfl (by omega)) rfl ?_ | refine sg_skip ?_ | (refine sg_cond_dec rfl (fun hg => ?_) (fun hg => ?_) <;> first | (exfalso; omega) | (exact absurd rfl hg) | skip))
      refine sg_load_rd rfl ((hrr e 1 _ rfl).at (ws := [i64 e.pl.pins]) 3 (fun q u hq => by match q, hq with | 0, hq => exact hq)) rfl ?_
      repeat' (first | refine sg_wo ?_ | refine sg_ps (ps_fieldAddr rfl) rfl ?_ | refine sg_ps (ps_bin rfl rfl inferInstance) rfl ?_ | refine sg_ps (ps_indexAddr rfl rfl rfl (by omega)) rfl ?_)
      refine sg_store_sown [_] rfl rfl rfl (by rw [recs_len, hTl]; omega) ?_
      rw [hset e ⟨pin0 e.pl, e.a, e.c⟩ 3 (.int .i64 (IntKind.i64.wrap (e.pl.pins - 1))) (by decide) rfl]
      repeat' (first | refine sg_wo ?_ | refine sg_ps (ps_move rfl) rfl ?_ | refine sg_seq ?_ | refine sg_region ?_ | refine sg_nil ?_ | refine sg_then ?_)
      refine sg_own (L' := RPool p bp (rowSet S i pin0) :: BackRep bp B :: R) (fun w hO => ?_) ?_
      · refine RPool.shut (S := rowSet S i pin0) (ra := some ⟨g, 0, none⟩) (rc := rc) hT2 ?_
        rw [re_own_eq (e := e) (e' := ⟨pin0 e.pl, e.a, e.c⟩) rfl, re_len e, hTl]
        exact hO
      refine sg_call (rroom_tri p bp (rowSet S i pin0) B _ (hF.set i pin0 hF.rbs) hN hP3) rfl rfl (fun _ _ => ?_)
      repeat' (first | refine sg_wo ?_ | refine sg_ps (ps_assign rfl) rfl ?_ | refine sg_seq ?_ | refine sg_region ?_ | refine sg_nil ?_ | refine sg_then ?_ | refine sg_ret ?_)
      exact ex_ret1 rfl rfl () rfl trivial (fun w hO => hO)
theorem rclean_tri {N : Nat} (p bp : Nat) (S : PlS) (B : BkS) (id : Int) (R : List HP) (hF : Fit S B N) (hN : N ≤ 100000) :
    Tri Try.prog W 29 [dp p, u64 id] (RPool p bp S :: BackRep bp B :: R) (X := Unit) (fun _ => i64 (cleanS S B id).1) (fun _ => True) (fun _ => RPool p bp (cleanS S B id).2.1 :: BackRep bp (cleanS S B id).2.2 :: R) := by
  have hSl : S.rows.length ≤ 100000 := (hF.ok hN).len
  refine tri_enter2 Try.func29 rfl Try.ntmps29 rfl ?_
  repeat' (first | refine sg_wo ?_ | refine sg_ps (ps_move rfl) rfl ?_ | refine sg_ps (ps_assign rfl) rfl ?_ | refine sg_seq ?_ | refine sg_region ?_ | refine sg_nil ?_ | refine sg_then ?_)
  refine sg_call (rat_tri p bp S id _ (by omega)) rfl rfl (fun _ _ => ?_)
  cases hat : atP S.rows id 0 with
  | none =>
    have hf : cleanS S B id = (5, S, B) := by unfold cleanS; rw [hat]
    rw [hf]
    show SG W _ ((9, i64 (-1)) :: _) _ _
    repeat' (first | refine sg_wo ?_ | refine sg_ps (ps_move rfl) rfl ?_ | refine sg_ps (ps_assign rfl) rfl ?_ | refine sg_seq ?_ | refine sg_region ?_ | refine sg_nil ?_ | refine sg_then ?_ | refine sg_ps (ps_bin rfl rfl inferInstance) rfl ?_ | refine sg_cond_t rfl ?_ | refine sg_ret ?_ | refine ex_then_ret ?_)
    exact ex_ret1 rfl rfl () rfl trivial (fun w hO => hO)
  | some i =>
    have hil := at_lt hat
    show SG W _ ((9, i64 (i : Int)) :: _) _ _
    refine RPool.open fun T ra rc hT => ?_
    have hTl : T.length = S.rows.length := by rw [← hT, List.length_map]
    refine sg_sownSome [_] (by omega) ?_
    rintro g rfl
    rw [List.cons_append, List.nil_append]
    obtain ⟨A, e, C, rfl, hA⟩ := re_split (T := T) (i := i) (by omega)
    have how := own_at (A := A) (C := C) (e := e)
    have hrr : ∀ (e : RE) (j : Nat) (L : List HP), L[j]? = some (sown (some ⟨g, 0, none⟩) S.rows.length rc 5 (recs (A ++ e :: C))) → Rd W L (some ⟨g, 0 + i * 5, none⟩) e.cells := fun e j L h => by
      rw [← hA]; exact (rd_sown (vs := recs (A ++ e :: C)) j h fun _ _ h => h).rrow
    have hset := fun (e1 e' : RE) (j : Nat) (v : Value) (hj : j < 5) (h : e'.cells = e1.cells.set j v) => (show (recs (A ++ e1 :: C)).set (0 + i * 5 + j) v = recs (A ++ e' :: C) by rw [Nat.zero_add, ← hA]; exact recs_set (A := A) (C := C) (e := e1) (e' := e') j v hj h)
    have hrow : S.rows[i]? = some e.pl := by rw [← hT, List.map_append, List.map_cons, List.getElem?_append_right (by simp; omega), List.length_map, hA, Nat.sub_self]; rfl
    have hT2 : (A ++ (⟨scrub e.pl, e.a, e.c⟩ : RE) :: C).map (·.pl) = (rowSet S i scrub).rows := by rw [← hA]; exact (remodify scrub hT).symm
    have hcs : cleanS S B id = if e.pl.dirty = true then (if (saveS B id e.pl.bs).1 = 0 then (0, rowSet S i scrub, (saveS B id e.pl.bs).2) else ((saveS B id e.pl.bs).1, S, (saveS B id e.pl.bs).2)) else (0, S, B) := by
      unfold cleanS
      rw [hat]
      dsimp only
      rw [hrow]
    have hbl : e.pl.bs.length ≤ bigB := hF.rbs e.pl (List.mem_of_getElem? hrow)
    unfold rpc
    rw [hTl]
    repeat' (first | refine sg_wo ?_ | refine sg_ps (ps_move rfl) rfl ?_ | refine sg_ps (ps_assign rfl) rfl ?_ | refine sg_seq ?_ | refine sg_region ?_ | refine sg_nil ?_ | refine sg_then ?_ | refine sg_ps (ps_fieldAddr rfl) rfl ?_ | refine sg_ps (ps_nilCheck rfl) rfl ?_ | refine sg_load 0 rfl rfl rfl rfl ?_ | refine sg_ps (ps_bin rfl rfl inferInstance) rfl ?_ | refine sg_cond_f rfl ?_ | refine sg_ps (ps_indexAddr rfl rfl rfl (by omega)) rfl ?_ | refine sg_skip ?_)
    refine sg_load_rd rfl ((hrr e 1 _ rfl).at (ws := [.bool e.pl.dirty]) 2 (fun q u hq => by match q, hq with | 0, hq => exact hq)) rfl ?_
    cases hdt : e.pl.dirty with
    | false =>
      rw [hdt, if_neg (by decide)] at hcs
      rw [hcs]
      repeat' (first | refine sg_wo ?_ | refine sg_ps (ps_assign rfl) rfl ?_ | refine sg_seq ?_ | refine sg_region ?_ | refine sg_nil ?_ | refine sg_then ?_ | refine sg_ps (ps_not rfl) rfl ?_ | refine sg_cond_t rfl ?_ | refine sg_ret ?_ | refine ex_then_ret ?_)
      exact ex_ret1 rfl rfl () rfl trivial (fun w hO => RPool.shut hT (by unfold rpc; rw [hTl]; exact hO))
    | true =>
      rw [hdt, if_pos rfl] at hcs
      repeat' (first | refine sg_wo ?_ | refine sg_seq ?_ | refine sg_nil ?_ | refine sg_then ?_ | refine sg_ps (ps_not rfl) rfl ?_ | refine sg_cond_f rfl ?_ | refine sg_skip ?_)
      refine sg_drawK [blk p [dp bp, i64 S.most, .slice (some ⟨g, 0, none⟩) S.rows.length rc, i64 S.hand], sown (some ⟨g, 0, none⟩) S.rows.length rc 5 (recs (A ++ e :: C))] [0, 1, 2, 4, 5, 6, 7, 9, 3, 8, 10, 11, 12, 13, 14] (by kernel_rfl) (by kernel_rfl) (fun w hO => hO.pick [0, 1] (by decide)) ?_
      repeat' (first | refine sk_pure rfl rfl (ps_move rfl) rfl ?_ | refine sk_pure rfl rfl (ps_nilCheck rfl) rfl ?_ | refine sk_pure rfl rfl (ps_fieldAddr rfl) rfl ?_ | refine sk_pure rfl rfl (ps_indexAddr rfl rfl rfl (by omega)) rfl ?_ | refine sk_load 0 rfl rfl rfl rfl rfl ?_)
      refine sk_load_rd rfl rfl ((hrr e 1 _ rfl).at (ws := [.slice e.a e.pl.bs.length e.c]) 1 (fun q u hq => by match q, hq with | 0, hq => exact hq)) rfl ?_
      repeat' (first | refine sk_eff rfl rfl ?_)
      refine sg_call ((bsave_tri bp B id e.pl.bs e.a e.c (blk p [dp bp, i64 S.most, .slice (some ⟨g, 0, none⟩) S.rows.length rc, i64 S.hand] :: _) (hF.okB hN).len (hF.okB hN).asked hbl (rd_app_sep 2 A.length rfl how)).pre (fun w hO => hO.front3)) rfl rfl (fun _ _ => ?_)
      refine sk_back (fun w hO => hO.pick [1, 2] (by decide)) ?_
      repeat' (first | refine sk_nil ?_ | refine sk_pure rfl rfl (ps_assign rfl) rfl ?_)
      by_cases hs0 : (saveS B id e.pl.bs).1 = 0
      · rw [if_pos hs0] at hcs
        rw [hcs, hs0]
        repeat' (first | refine sg_wo ?_ | refine sg_ps (ps_move rfl) rfl ?_ | refine sg_seq ?_ | refine sg_region ?_ | refine sg_nil ?_ | refine sg_then ?_ | refine sg_ps (ps_fieldAddr rfl) rfl ?_ | refine sg_ps (ps_nilCheck rfl) rfl ?_ | refine sg_load 1 rfl rfl rfl rfl ?_ | refine sg_ps (ps_bin rfl rfl inferInstance) rfl ?_ | refine sg_cond_t rfl ?_ | refine sg_ps (ps_indexAddr rfl rfl rfl (by omega)) rfl ?_)
        refine sg_store_sown [_, _] rfl rfl rfl (by rw [recs_len, hTl]; omega) ?_
        rw [hset e ⟨scrub e.pl, e.a, e.c⟩ 2 (.bool false) (by decide) rfl]
        repeat' (first | refine sg_wo ?_ | refine sg_ps (ps_move rfl) rfl ?_ | refine sg_ps (ps_assign rfl) rfl ?_ | refine sg_seq ?_ | refine sg_region ?_ | refine sg_nil ?_ | refine sg_then ?_ | refine sg_ret ?_)
        refine ex_ret1 rfl rfl () rfl trivial (fun w hO => ?_)
        refine RPool.shut (S := rowSet S i scrub) (ra := some ⟨g, 0, none⟩) (rc := rc) hT2 ?_
        rw [re_own_eq (e := e) (e' := ⟨scrub e.pl, e.a, e.c⟩) rfl, re_len e, hTl]
        exact Own.pickA [_, _, _, _] hO [1, 2, 3, 0] (by decide)
      · rw [if_neg hs0] at hcs
        rw [hcs]
        repeat' (first | refine sg_wo ?_ | refine sg_ps (ps_move rfl) rfl ?_ | refine sg_ps (ps_assign rfl) rfl ?_ | refine sg_seq ?_ | refine sg_region ?_ | refine sg_nil ?_ | refine sg_then ?_ | refine sg_ps (ps_bin rfl rfl inferInstance) rfl ?_ | refine sg_skip ?_ | refine sg_ret ?_ | (refine sg_cond_dec rfl (fun hg => ?_) (fun hg => ?_) <;> first | (exfalso; omega) | (exact absurd rfl hg) | skip))
        exact ex_ret1 rfl rfl () rfl trivial (fun w hO => RPool.shut (ra := some ⟨g, 0, none⟩) (rc := rc) hT (by unfold rpc; rw [hTl]; exact Own.pickA [_, _, _, _] hO [1, 2, 3, 0] (by decide)))
end Go.Proofs.Ytclehoaeppbmpaa
