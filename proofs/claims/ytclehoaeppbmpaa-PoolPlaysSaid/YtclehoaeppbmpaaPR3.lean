/- The reference pool: Room, come, Get. -/
import Derived.Test.YtclehoaeppbmpaaPR2
namespace Go.Proofs.Ytclehoaeppbmpaa
set_option linter.unusedVariables false
set_option linter.unusedSimpArgs false
set_option linter.unusedSectionVars false
set_option linter.unnecessarySimpa false
open Go Go.Proofs
def AllR (Q : Pl → Prop) (S : PlS) : Prop := ∀ r ∈ S.rows, Q r
theorem AllR.set {Q : Pl → Prop} {S : PlS} (h : AllR Q S) (i : Nat) (f : Pl → Pl) (hf : ∀ r, Q r → Q (f r)) : AllR Q (rowSet S i f) := by
  intro r hr
  rcases mem_modify (show r ∈ S.rows.modify i f from hr) with hr | ⟨x, hx, rfl⟩
  · exact h r hr
  · exact hf x (h x hx)
theorem AllR.take {Q : Pl → Prop} {S : PlS} (h : AllR Q S) (i : Nat) : AllR Q (takeS S i) := fun r hr => h r (List.mem_of_mem_eraseIdx hr)
theorem goL_all {Q : Pl → Prop} (hu : ∀ r, Q r → Q (unuse r)) {st : Nat} : ∀ (k : Nat) (S : PlS) (B : BkS), AllR Q S → AllR Q (goL st k S B).2.1
  | 0, S, B, h => h
  | k + 1, S, B, h => by
    unfold goL
    split
    · exact h
    · split
      · exact goL_all hu k (rotS S) B h
      · split
        · exact goL_all hu k _ B (h.set S.hand unuse hu)
        · split
          · split
            · exact h.take _
            · exact h
          · exact h.take _
theorem goes_all {Q : Pl → Prop} (hu : ∀ r, Q r → Q (unuse r)) {S : PlS} (B : BkS) (h : AllR Q S) : AllR Q (goesS S B).2.1 := goL_all hu _ S B h
theorem roomL_all {Q : Pl → Prop} (hu : ∀ r, Q r → Q (unuse r)) : ∀ (k : Nat) (S : PlS) (B : BkS), AllR Q S → AllR Q (roomL k S B).1
  | 0, S, B, h => h
  | k + 1, S, B, h => by
    unfold roomL
    split
    · split
      · exact roomL_all hu k _ _ (goes_all hu B h)
      · exact goes_all hu B h
    · exact h
theorem room_all {Q : Pl → Prop} (hu : ∀ r, Q r → Q (unuse r)) {S : PlS} (B : BkS) (h : AllR Q S) : AllR Q (roomS S B).1 := roomL_all hu _ S B h
abbrev pos0 (r : Pl) : Prop := 0 ≤ r.pins
theorem pos0_unuse : ∀ r, pos0 r → pos0 (unuse r) := fun _ h => h
def comeU (S : PlS) (id : Int) (bs : List UInt8) : PlS := { S with rows := S.rows ++ [⟨id, bs, false, true, 0⟩] }
theorem comeU_use (S : PlS) (id : Int) (bs : List UInt8) : rowSet (comeU S id bs) S.rows.length use = rowSet (comeS S id bs) S.rows.length use := by
  unfold rowSet comeU comeS
  dsimp only
  rw [modify_app, modify_app]
  rfl
theorem at_last {id : Int} {x : Pl} (hx : x.id = id) : ∀ (l : List Pl) (k : Nat), (∀ r ∈ l, r.id ≠ id) → atP (l ++ [x]) id k = some (k + l.length)
  | [], k, _ => by simp [atP, hx]
  | r :: l, k, h => by
    rw [List.cons_append, atP, if_neg (h r (by simp)), at_last hx l (k + 1) (fun y hy => h y (by simp [hy])), List.length_cons]
    congr 1; omega
def rcomeS (S : PlS) (B : BkS) (id : Int) : Int × PlS × BkS := match atP S.rows id 0 with
  | some _ => (0, S, B)
  | none => match getB B.ent id with
    | none => (2, S, askS B (ask0 id))
    | some bs => (0, comeU S id bs, askS B (ask0 id))
/-- come, and then the place is used: find. -/
theorem rcome_find (S : PlS) (B : BkS) (id : Int) : ((findS S B id).1 = none ∧ rcomeS S B id = (2, S, (findS S B id).2)) ∨ ∃ i S', (findS S B id).1 = some (i, S') ∧ (rcomeS S B id).1 = 0 ∧ (rcomeS S B id).2.2 = (findS S B id).2 ∧ atP (rcomeS S B id).2.1.rows id 0 = some i ∧ rowSet (rcomeS S B id).2.1 i use = S' ∧ i < (rcomeS S B id).2.1.rows.length := by
  rcases at_cases id S.rows 0 with ⟨A, r, C, h1, h2, h3, h4⟩ | ⟨h1, h2⟩
  · right
    have hf : findS S B id = (some (0 + A.length, rowSet S (0 + A.length) use), B) := by unfold findS; rw [h4]
    have hc : rcomeS S B id = (0, S, B) := by unfold rcomeS; rw [h4]
    rw [hf, hc]
    exact ⟨_, _, rfl, rfl, rfl, h4, rfl, by dsimp only; rw [h1, List.length_append, List.length_cons]; omega⟩
  · cases hg : getB B.ent id with
    | none =>
      left
      have hf : findS S B id = (none, askS B (ask0 id)) := by unfold findS; rw [h2, hg]
      have hc : rcomeS S B id = (2, S, askS B (ask0 id)) := by unfold rcomeS; rw [h2, hg]
      rw [hf, hc]
      exact ⟨rfl, rfl⟩
    | some bs =>
      right
      have hf : findS S B id = (some (S.rows.length, rowSet (comeS S id bs) S.rows.length use), askS B (ask0 id)) := by unfold findS; rw [h2, hg]
      have hc : rcomeS S B id = (0, comeU S id bs, askS B (ask0 id)) := by unfold rcomeS; rw [h2, hg]
      rw [hf, hc]
      refine ⟨_, _, rfl, rfl, rfl, ?_, comeU_use S id bs, by show _ < (S.rows ++ [_]).length; rw [List.length_append, List.length_singleton]; omega⟩
      have := at_last (id := id) (x := ⟨id, bs, false, true, 0⟩) rfl S.rows 0 h1
      rw [Nat.zero_add] at this
      exact this
set_option maxRecDepth 20000
set_option maxHeartbeats 4000000
attribute [local irreducible] SG WC WO W1 WD WK PS Rd Tri Exit.then Exit.inBlock bodyPost calmQ Mid sadd
variable {W : World} {n : Nat} {F : Fr} {L : List HP} {G : Act → World → Prop}
theorem rroom_tri {N : Nat} (p bp : Nat) (S : PlS) (B : BkS) (R : List HP) (hF : Fit S B N) (hN : N ≤ 100000) (hP : AllR pos0 S) :
    Tri Try.prog W 43 [dp p] (RPool p bp S :: BackRep bp B :: R) (X := Unit) (fun _ => .tuple #[]) (fun _ => True) (fun _ => RPool p bp (roomS S B).1 :: BackRep bp (roomS S B).2 :: R) := by
  refine tri_enter1 Try.func43 rfl Try.ntmps43 rfl ?_
  generalize hr : roomS S B = r
  refine sg_block ?_
  refine sg_loop (γ := Nat × PlS × BkS) (fun g => roomL g.1 g.2.1 g.2.2 = r ∧ Fit g.2.1 g.2.2 N ∧ g.2.1.rows.length < g.1 ∧ AllR pos0 g.2.1) (fun _ => [(0, dp p)]) (fun g => RPool p bp g.2.1 :: BackRep bp g.2.2 :: R) (fun g => g.1) (S.rows.length + 1, S, B) ⟨hr, hF, Nat.lt_succ_self _, hP⟩
    (.cons rfl .nil) (fun w hO => hO) ?_
  rintro ⟨k, S', B'⟩ ⟨hgo, hf, hk, hp⟩
  dsimp only at hgo hf hk hp ⊢
  obtain ⟨k, rfl⟩ : ∃ k', k = k' + 1 := ⟨k - 1, by omega⟩
  rw [roomL] at hgo
  refine RPool.open fun T ra rc hT => ?_
  have hTl : T.length = S'.rows.length := by rw [← hT, List.length_map]
  unfold rpc
  rw [hTl]
  repeat' (first | refine sg_seq ?_)
  refine sg_drawK [blk p [dp bp, i64 S'.most, .slice ra S'.rows.length rc, i64 S'.hand]] [0, 1, 2, 5, 6, 7, 3, 4, 8, 9] (by kernel_rfl) (by kernel_rfl) (fun w hO => hO.pick [0] (by decide)) ?_
  repeat' (first | refine sk_nil ?_ | refine sk_pure rfl rfl (ps_move rfl) rfl ?_ | refine sk_pure rfl rfl (ps_nilCheck rfl) rfl ?_ | refine sk_pure rfl rfl (ps_fieldAddr rfl) rfl ?_ | refine sk_pure rfl rfl (ps_bin rfl rfl inferInstance) rfl ?_ | refine sk_pure rfl rfl (ps_len rfl) rfl ?_ | refine sk_load 0 rfl rfl rfl rfl rfl ?_)
  by_cases hm : S'.most < (S'.rows.length : Int)
  · rw [if_pos hm] at hgo
    refine sg_own (L' := RPool p bp S' :: BackRep bp B' :: R) (fun w hO => RPool.shut (ra := ra) (rc := rc) hT (by unfold rpc; rw [hTl]; exact hO)) ?_
    repeat' (first | refine sg_wo ?_ | refine sg_ps (ps_move rfl) rfl ?_ | refine sg_seq ?_ | refine sg_region ?_ | refine sg_then ?_ | refine sg_block ?_ | refine sg_skip ?_ | (refine sg_cond_dec rfl (fun hg => ?_) (fun hg => ?_) <;> first | (exfalso; omega) | (exact absurd rfl hg) | skip))
    refine sg_call (rgoes_tri p bp S' B' R (hf.ok hN) (hf.okB hN) hp) rfl rfl (fun _ _ => ?_)
    have hgf := goes_fit hf
    have hga := goes_all pos0_unuse B' hp
    generalize goesS S' B' = q at hgo hgf hga
    obtain ⟨⟨id, e⟩, S2, B2⟩ := q
    dsimp only at hgo hgf hga ⊢
    by_cases he : e = 0
    · rw [if_pos he] at hgo
      subst he
      repeat' (first | refine sg_wo ?_ | refine sg_ps (ps_move rfl) rfl ?_ | refine sg_ps (ps_assign rfl) rfl ?_ | refine sg_seq ?_ | refine sg_region ?_ | refine sg_nil ?_ | refine sg_then ?_ | refine sg_ps (ps_bin rfl rfl inferInstance) rfl ?_ | refine sg_cond_f rfl ?_ | refine sg_ps (ps_extract rfl rfl) rfl ?_ | refine sg_skip ?_ | refine ex_block_normal ?_)
      exact ex_mid (k, S2, B2) ⟨by omega, hgo, (hgf.1 rfl).1, by have := (hgf.1 rfl).2; show S2.rows.length < k; omega, hga⟩ (.cons rfl .nil) (fun w hO => hO)
    · rw [if_neg he] at hgo
      repeat' (first | refine sg_wo ?_ | refine sg_ps (ps_move rfl) rfl ?_ | refine sg_ps (ps_assign rfl) rfl ?_ | refine sg_seq ?_ | refine sg_region ?_ | refine sg_nil ?_ | refine sg_then ?_ | refine sg_ps (ps_bin rfl rfl inferInstance) rfl ?_ | refine sg_ps (ps_extract rfl rfl) rfl ?_ | refine sg_ret ?_ | refine ex_then_ret ?_ | refine ex_block_ret ?_ | (refine sg_cond_ndec rfl (fun hg => ?_) (fun hg => ?_) <;> first | (exfalso; omega) | (exact absurd rfl hg) | skip))
      subst hgo
      exact ex_ret0 rfl () rfl trivial (fun w hO => hO)
  · rw [if_neg hm] at hgo
    repeat' (first | refine sg_then ?_ | refine sg_exit ?_ | refine ex_then_exit ?_ | refine ex_block_hit ?_ | (refine sg_cond_dec rfl (fun hg => ?_) (fun hg => ?_) <;> first | (exfalso; omega) | (exact absurd rfl hg) | skip))
    subst hgo
    exact ex_end0 rfl () rfl trivial (fun w hO => RPool.shut (ra := ra) (rc := rc) hT (by unfold rpc; rw [hTl]; exact hO))
theorem rcome_tri {N : Nat} (p bp : Nat) (S : PlS) (B : BkS) (id : Int) (R : List HP) (hF : Fit S B N) (hN : N ≤ 100000) :
    Tri Try.prog W 41 [dp p, u64 id] (RPool p bp S :: BackRep bp B :: R) (X := Unit) (fun _ => i64 (rcomeS S B id).1) (fun _ => True) (fun _ => RPool p bp (rcomeS S B id).2.1 :: BackRep bp (rcomeS S B id).2.2 :: R) := by
  have hSl : S.rows.length ≤ 100000 := (hF.ok hN).len
  refine tri_enter2 Try.func41 rfl Try.ntmps41 rfl ?_
  repeat' (first | refine sg_wo ?_ | refine sg_ps (ps_move rfl) rfl ?_ | refine sg_ps (ps_assign rfl) rfl ?_ | refine sg_seq ?_ | refine sg_region ?_ | refine sg_nil ?_ | refine sg_then ?_)
  refine sg_call (rat_tri p bp S id (BackRep bp B :: R) (by omega)) rfl rfl (fun _ _ => ?_)
  rcases at_cases id S.rows 0 with ⟨A, r, C, h1, h2, h3, h4⟩ | ⟨h1, h2⟩
  · have hc : rcomeS S B id = (0, S, B) := by unfold rcomeS; rw [h4]
    rw [hc, h4, Nat.zero_add]
    show SG W _ ((9, i64 (A.length : Int)) :: _) _ _
    repeat' (first | refine sg_wo ?_ | refine sg_ps (ps_assign rfl) rfl ?_ | refine sg_seq ?_ | refine sg_region ?_ | refine sg_nil ?_ | refine sg_then ?_ | refine sg_ps (ps_bin rfl rfl inferInstance) rfl ?_ | refine sg_cond_t rfl ?_ | refine sg_ret ?_ | refine ex_then_ret ?_)
    exact ex_ret1 rfl rfl () rfl trivial (fun w hO => hO)
  rw [h2]
  show SG W _ ((9, i64 (-1)) :: _) _ _
  refine RPool.open fun T ra rc hT => ?_
  have hTl : T.length = S.rows.length := by rw [← hT, List.length_map]
  unfold rpc
  repeat' (first | refine sg_wo ?_ | refine sg_ps (ps_move rfl) rfl ?_ | refine sg_seq ?_ | refine sg_region ?_ | refine sg_nil ?_ | refine sg_then ?_ | refine sg_ps (ps_fieldAddr rfl) rfl ?_ | refine sg_ps (ps_nilCheck rfl) rfl ?_ | refine sg_load 0 rfl rfl rfl rfl ?_ | refine sg_ps (ps_bin rfl rfl inferInstance) rfl ?_ | refine sg_cond_f rfl ?_ | refine sg_skip ?_)
  refine sg_call ((bload_tri bp B id (blk p [dp bp, i64 S.most, .slice ra T.length rc, i64 S.hand] :: _) (hF.okB hN).len (hF.okB hN).asked hF.ebs).pre (fun w hO => hO.front3)) rfl rfl (fun y hy => ?_)
  cases hg0 : getB B.ent id with
  | none =>
    have hc : rcomeS S B id = (2, S, askS B (ask0 id)) := by unfold rcomeS; rw [h2, hg0]
    rw [hc]
    repeat' (first | refine sg_wo ?_ | refine sg_ps (ps_move rfl) rfl ?_ | refine sg_ps (ps_assign rfl) rfl ?_ | refine sg_seq ?_ | refine sg_region ?_ | refine sg_nil ?_ | refine sg_then ?_ | refine sg_ps (ps_bin rfl rfl inferInstance) rfl ?_ | refine sg_cond_t rfl ?_ | refine sg_ps (ps_extract rfl rfl) rfl ?_ | refine sg_ret ?_ | refine ex_then_ret ?_)
    exact ex_ret1 rfl rfl () rfl trivial (fun w hO => RPool.shut (ra := ra) (rc := rc) hT (by unfold rpc; exact Own.pickA [_, _, _, _, _] hO [2, 3, 4, 1] (by decide)))
  | some bs =>
    have hc : rcomeS S B id = (0, comeU S id bs, askS B (ask0 id)) := by unfold rcomeS; rw [h2, hg0]
    rw [hc]
    obtain ⟨ya, yc⟩ := y
    simp only [Option.getD_some, Option.isSome_some, if_true]
    repeat' (first | refine sg_wo ?_ | refine sg_ps (ps_move rfl) rfl ?_ | refine sg_ps (ps_assign rfl) rfl ?_ | refine sg_seq ?_ | refine sg_region ?_ | refine sg_nil ?_ | refine sg_then ?_ | refine sg_ps (ps_fieldAddr rfl) rfl ?_ | refine sg_ps (ps_nilCheck rfl) rfl ?_ | refine sg_load 2 rfl rfl rfl rfl ?_ | refine sg_ps (ps_bin rfl rfl inferInstance) rfl ?_ | refine sg_cond_f rfl ?_ | refine sg_ps (ps_extract rfl rfl) rfl ?_ | refine sg_ps (ps_build rfl rfl) rfl ?_ | refine sg_skip ?_)
    refine sg_buildSlice1 (vs := recs [⟨⟨id, bs, false, true, 0⟩, ya, yc⟩]) rfl (of_decide_eq_true rfl) rfl rfl rfl (fun b1 => ?_)
    refine sg_front4 ?_
    repeat' (first | refine sg_wo ?_)
    refine sg_append (news := recs [⟨⟨id, bs, false, true, 0⟩, ya, yc⟩]) rfl rfl rfl (recs_len [_]) (recs_one [_]) (rd_blk 1 rfl fun j u hj => by rw [Nat.zero_add]; exact hj) (by simp only [maxLen]; omega) (by omega) fun a' c' => ?_
    repeat' (first | refine sg_wo ?_ | refine sg_ps (ps_assign rfl) rfl ?_ | refine sg_seq ?_ | refine sg_region ?_ | refine sg_nil ?_ | refine sg_then ?_ | refine sg_ps (ps_fieldAddr rfl) rfl ?_ | refine sg_ps (ps_nilCheck rfl) rfl ?_ | refine sg_ret ?_ | refine sg_store [_, _, _, _] rfl rfl rfl (of_decide_eq_true rfl) ?_)
    refine ex_ret1 rfl rfl () rfl trivial (fun w hO => ?_)
    have k1 := Own.pickA [_, _, _, _, _, _] hO [2, 5, 4, 0, 3] (by decide)
    refine RPool.shut (S := comeU S id bs) (T := T ++ [⟨⟨id, bs, false, true, 0⟩, ya, yc⟩]) (ra := a') (rc := c') (by rw [List.map_append, hT]; rfl) ?_
    rw [List.map_append, List.length_append, recs_app]
    rw [← List.append_nil (T.map RE.own)] at k1
    have k2 := Own.sepIn (p := (⟨⟨id, bs, false, true, 0⟩, ya, yc⟩ : RE).own) k1
    exact Own.pickA [_, _, _, _] k2 [1, 2, 0, 3] (by decide)
theorem rcome_all {S : PlS} {B : BkS} {id : Int} (h : AllR pos0 S) : AllR pos0 (rcomeS S B id).2.1 := by
  unfold rcomeS
  split
  · exact h
  · split
    · exact h
    · intro r hr
      rcases List.mem_append.1 (show r ∈ S.rows ++ [_] from hr) with hr | hr
      · exact h r hr
      · simp only [List.mem_singleton] at hr
        subst hr; exact Int.le_refl 0
def pinK (k : Int) (r : Pl) : Pl := { r with pins := IntKind.i64.wrap (r.pins + k) }
def rgetS (S : PlS) (B : BkS) (id pin : Int) : Option (List UInt8) × PlS × BkS := match findS S B id with
  | (none, B') => (none, S, B')
  | (some y, B') => (some (bsAt y.2 y.1), roomS (rowSet y.2 y.1 (pinK pin)) B')
theorem rget_tri {N : Nat} (p bp : Nat) (S : PlS) (B : BkS) (id pin : Int) (R : List HP) (hF : Fit S B N) (hN : N + 2 ≤ 100000) (hP : AllR pos0 S) (hP2 : ∀ y B', findS S B id = (some y, B') → AllR pos0 (rowSet y.2 y.1 (pinK pin))) :
    Tri Try.prog W 21 [dp p, u64 id, i64 pin] (RPool p bp S :: BackRep bp B :: R) (X := Option Addr × Nat) (fun y => .tuple #[.slice y.1 ((rgetS S B id pin).1.getD []).length y.2, i64 (if (rgetS S B id pin).1.isSome then 0 else 2)]) (fun _ => True)
      (fun y => sown y.1 ((rgetS S B id pin).1.getD []).length y.2 1 (((rgetS S B id pin).1.getD []).map bv) :: RPool p bp (rgetS S B id pin).2.1 :: BackRep bp (rgetS S B id pin).2.2 :: R) := by
  refine tri_enter3 Try.func21 rfl Try.ntmps21 rfl ?_
  repeat' (first | refine sg_wo ?_ | refine sg_ps (ps_move rfl) rfl ?_ | refine sg_ps (ps_assign rfl) rfl ?_ | refine sg_seq ?_ | refine sg_region ?_ | refine sg_nil ?_ | refine sg_then ?_)
  refine sg_call (rcome_tri p bp S B id R hF (by omega)) rfl rfl (fun _ _ => ?_)
  have hff := find_fit (id := id) hF
  have hgs : rgetS S B id pin = match findS S B id with
    | (none, B') => (none, S, B')
    | (some y, B') => (some (bsAt y.2 y.1), roomS (rowSet y.2 y.1 (pinK pin)) B') := rfl
  have hrc := rcome_find S B id
  generalize rgetS S B id pin = gg at hgs
  generalize findS S B id = q at hff hgs hrc hP2
  generalize rcomeS S B id = cc at hrc
  obtain ⟨f, B'⟩ := q
  obtain ⟨ce, S1, B1⟩ := cc
  dsimp only at hrc hff
  rcases hrc with ⟨rfl, hrc⟩ | ⟨i, S', rfl, rfl, rfl, hat, hrow, hlt⟩
  · simp only [Prod.mk.injEq] at hrc
    obtain ⟨rfl, rfl, rfl⟩ := hrc
    dsimp only at hgs
    subst hgs
    repeat' (first | refine sg_wo ?_ | refine sg_ps (ps_move rfl) rfl ?_ | refine sg_ps (ps_assign rfl) rfl ?_ | refine sg_seq ?_ | refine sg_region ?_ | refine sg_nil ?_ | refine sg_then ?_ | refine sg_ps (ps_bin rfl rfl inferInstance) rfl ?_ | refine sg_cond_t rfl ?_ | refine sg_ret ?_ | refine ex_then_ret ?_)
    exact ex_ret2 rfl rfl rfl ((none, 0) : Option Addr × Nat) rfl trivial (fun w hO => own_nil hO)
  obtain ⟨hf', hi', _⟩ := hff.2 i S' rfl
  have hP3 := hP2 _ _ rfl
  dsimp only at hgs hP3
  subst hgs
  have hl1 : S1.rows.length ≤ 100000 := by
    have h1 := hf'.asked
    rw [← hrow] at h1
    unfold rowSet at h1
    rw [List.length_modify] at h1
    omega
  dsimp only
  refine RPool.open fun T ra rc hT => ?_
  have hTl : T.length = S1.rows.length := by rw [← hT, List.length_map]
  refine sg_sownSome [_] (by omega) ?_
  rintro g rfl
  rw [List.cons_append, List.nil_append]
  obtain ⟨A, e, C, rfl, hA⟩ := re_split (T := T) (i := i) (by omega)
  have how := own_at (A := A) (C := C) (e := e)
  have hset := fun (e1 e' : RE) (j : Nat) (v : Value) (hj : j < 5) (h : e'.cells = e1.cells.set j v) => (show (recs (A ++ e1 :: C)).set (0 + i * 5 + j) v = recs (A ++ e' :: C) by rw [Nat.zero_add, ← hA]; exact recs_set (A := A) (C := C) (e := e1) (e' := e') j v hj h)
  have hrr : ∀ (e : RE) (j : Nat) (L : List HP), L[j]? = some (sown (some ⟨g, 0, none⟩) S1.rows.length rc 5 (recs (A ++ e :: C))) → Rd W L (some ⟨g, 0 + i * 5, none⟩) e.cells := fun e j L h => by
    rw [← hA]; exact (rd_sown (vs := recs (A ++ e :: C)) j h fun _ _ h => h).rrow
  have hba : bsAt S' i = e.pl.bs := by
    unfold bsAt
    rw [← hrow]
    unfold rowSet
    dsimp only
    rw [← hA, remodify use hT, List.map_append, List.map_cons, List.getElem?_append_right (by simp), List.length_map, Nat.sub_self]; rfl
  rw [hba]
  have hbl : e.pl.bs.length ≤ bigB := by
    refine hf'.rbs (use e.pl) ?_
    rw [← hrow]
    unfold rowSet
    dsimp only
    rw [← hA, remodify use hT]
    simp
  have hT3 : (A ++ (⟨pinK pin (use e.pl), e.a, e.c⟩ : RE) :: C).map (·.pl) = (rowSet S' i (pinK pin)).rows := by
    rw [← hrow]
    unfold rowSet
    dsimp only
    rw [← hA, remodify use hT, remodify (pinK pin) rfl]
  have hro := rato_tri (W := W) p bp S1 id (BackRep bp B1 :: R) (by omega) (A ++ e :: C) (some ⟨g, 0, none⟩) rc hT
  rw [hTl, hat] at hro
  unfold rpc at hro ⊢
  rw [hTl]
  obtain ⟨⟨id2, bs, dt, us, pn⟩, xa, xc⟩ := e
  dsimp only at hT how hbl hT3 hro ⊢
  repeat' (first | refine sg_wo ?_ | refine sg_ps (ps_move rfl) rfl ?_ | refine sg_ps (ps_assign rfl) rfl ?_ | refine sg_seq ?_ | refine sg_region ?_ | refine sg_nil ?_ | refine sg_then ?_ | refine sg_ps (ps_bin rfl rfl inferInstance) rfl ?_ | refine sg_cond_f rfl ?_ | refine sg_skip ?_)
  refine sg_drawK [blk p [dp bp, i64 S1.most, .slice (some ⟨g, 0, none⟩) S1.rows.length rc, i64 S1.hand]] [0, 1, 2, 4, 5, 3, 6, 7, 8] (by kernel_rfl) (by kernel_rfl) (fun w hO => hO.pick [0] (by decide)) ?_
  repeat' (first | refine sk_pure rfl rfl (ps_move rfl) rfl ?_ | refine sk_pure rfl rfl (ps_nilCheck rfl) rfl ?_ | refine sk_pure rfl rfl (ps_fieldAddr rfl) rfl ?_ | refine sk_load 0 rfl rfl rfl rfl rfl ?_ | refine sk_eff rfl rfl ?_)
  refine sg_call hro rfl rfl (fun _ _ => ?_)
  refine sk_back (fun w hO => hO.pick [0] (by decide)) ?_
  show SG W _ ((_, i64 (i : Int)) :: _) _ _
  repeat' (first | refine sk_nil ?_ | refine sk_pure rfl rfl (ps_assign rfl) rfl ?_ | refine sk_pure rfl rfl (ps_indexAddr rfl rfl rfl (by omega)) rfl ?_)
  repeat' (first | refine sg_wo ?_ | refine sg_ps (ps_move rfl) rfl ?_ | refine sg_seq ?_ | refine sg_region ?_ | refine sg_then ?_ | refine sg_ps (ps_fieldAddr rfl) rfl ?_ | refine sg_ps (ps_nilCheck rfl) rfl ?_)
  have hlen : ∀ e : RE, (recs (A ++ e :: C)).length = S1.rows.length * 5 := fun e => by
    rw [recs_len, ← hTl, List.length_append, List.length_append, List.length_cons, List.length_cons]
  refine sg_store_sown [_] rfl rfl rfl (by rw [hlen]; omega) ?_
  rw [hset ⟨⟨id2, bs, dt, us, pn⟩, xa, xc⟩ ⟨⟨id2, bs, dt, true, pn⟩, xa, xc⟩ 4 _ (by decide) rfl]
  repeat' (first | refine sg_wo ?_ | refine sg_ps (ps_move rfl) rfl ?_ | refine sg_seq ?_ | refine sg_region ?_ | refine sg_nil ?_ | refine sg_then ?_ | refine sg_ps (ps_fieldAddr rfl) rfl ?_ | refine sg_ps (ps_nilCheck rfl) rfl ?_)
  refine sg_load_rd rfl ((hrr ⟨⟨id2, bs, dt, true, pn⟩, xa, xc⟩ 1 _ rfl).at (ws := [i64 pn]) 3 (fun q u hq => by match q, hq with | 0, hq => exact hq)) rfl ?_
  repeat' (first | refine sg_wo ?_ | refine sg_ps (ps_move rfl) rfl ?_ | refine sg_ps (ps_fieldAddr rfl) rfl ?_ | refine sg_ps (ps_nilCheck rfl) rfl ?_ | refine sg_ps (ps_bin rfl rfl inferInstance) rfl ?_)
  refine sg_store_sown [_] rfl rfl rfl (by rw [hlen]; omega) ?_
  rw [hset ⟨⟨id2, bs, dt, true, pn⟩, xa, xc⟩ ⟨⟨id2, bs, dt, true, IntKind.i64.wrap (pn + pin)⟩, xa, xc⟩ 3 _ (by decide) rfl]
  repeat' (first | refine sg_wo ?_ | refine sg_ps (ps_move rfl) rfl ?_ | refine sg_seq ?_ | refine sg_region ?_ | refine sg_nil ?_ | refine sg_then ?_ | refine sg_ps (ps_fieldAddr rfl) rfl ?_ | refine sg_ps (ps_nilCheck rfl) rfl ?_)
  refine sg_load_rd rfl ((hrr ⟨⟨id2, bs, dt, true, IntKind.i64.wrap (pn + pin)⟩, xa, xc⟩ 1 _ rfl).at (ws := [.slice xa bs.length xc]) 1 (fun q u hq => by match q, hq with | 0, hq => exact hq)) rfl ?_
  repeat' (first | refine sg_wo ?_)
  refine sg_call (rawCopy_tri bs xa xc hbl _ (rd_sep 2 A.length rfl how)) rfl rfl (fun z _ => ?_)
  repeat' (first | refine sg_wo ?_ | refine sg_ps (ps_move rfl) rfl ?_ | refine sg_ps (ps_assign rfl) rfl ?_ | refine sg_seq ?_ | refine sg_region ?_ | refine sg_nil ?_ | refine sg_then ?_)
  refine sg_own (L' := RPool p bp (rowSet S' i (pinK pin)) :: BackRep bp B1 :: sown z.1 bs.length z.2 1 (bs.map bv) :: R) (fun w hO => ?_) ?_
  · refine RPool.shut (S := rowSet S' i (pinK pin)) (ra := some ⟨g, 0, none⟩) (rc := rc) hT3 ?_
    have hmo : S'.most = S1.most ∧ S'.hand = S1.hand := by rw [← hrow]; exact ⟨rfl, rfl⟩
    have hom : (A ++ (⟨pinK pin (use ⟨id2, bs, dt, us, pn⟩), xa, xc⟩ : RE) :: C).map RE.own = (A ++ (⟨⟨id2, bs, dt, us, pn⟩, xa, xc⟩ : RE) :: C).map RE.own := by rw [List.map_append, List.map_append]; rfl
    unfold rpc
    rw [hom, show (rowSet S' i (pinK pin)).most = S1.most from hmo.1, show (rowSet S' i (pinK pin)).hand = S1.hand from hmo.2, show (A ++ (⟨pinK pin (use ⟨id2, bs, dt, us, pn⟩), xa, xc⟩ : RE) :: C).length = S1.rows.length by rw [← hTl, List.length_append, List.length_append, List.length_cons, List.length_cons]]
    exact Own.pickA [_, _, _, _, _] hO [1, 2, 3, 4, 0] (by decide)
  refine sg_call (rroom_tri p bp (rowSet S' i (pinK pin)) B1 _ (hf'.set i (pinK pin) hf'.rbs) hN hP3) rfl rfl (fun _ _ => ?_)
  repeat' (first | refine sg_wo ?_ | refine sg_ps (ps_move rfl) rfl ?_ | refine sg_ps (ps_assign rfl) rfl ?_ | refine sg_seq ?_ | refine sg_region ?_ | refine sg_nil ?_ | refine sg_then ?_ | refine sg_ret ?_)
  exact ex_ret2 rfl rfl rfl z rfl trivial (fun w hO => hO.front2)
end Go.Proofs.Ytclehoaeppbmpaa
