/- The reference pool: one goes. -/
import Derived.Test.YtclehoaeppbmpaaPR1
namespace Go.Proofs.Ytclehoaeppbmpaa
set_option linter.unusedVariables false
set_option linter.unusedSimpArgs false
set_option linter.unusedSectionVars false
set_option linter.unnecessarySimpa false
open Go Go.Proofs
theorem rd_app_sep {W : World} {R Ls : List HP} {a : Option Addr} {k c sz : Nat} {xs : List Value} (i j : Nat) (h : R[i]? = some (sepL Ls)) (hj : Ls[j]? = some (sown a k c sz xs)) : ∀ L, Rd W (L ++ R) a xs := fun L =>
  rd_sep (L.length + i) j (by rw [List.getElem?_append_right (by omega), Nat.add_sub_cancel_left]; exact h) hj
theorem sg_sownSome {W : World} {n : Nat} {F : Fr} {G : Act → World → Prop} {a : Option Addr} {m c sz : Nat} {xs : List Value} (L1 : List HP) {L2 : List HP} (hm : 0 < m) (h : ∀ g, a = some ⟨g, 0, none⟩ → SG W n F (L1 ++ sown a m c sz xs :: L2) G) : SG W n F (L1 ++ sown a m c sz xs :: L2) G := by
  intro w hO ac ha
  obtain ⟨⟨g, _⟩, ⟨h1, _⟩, _⟩ := own_block hm hO.front
  exact h g h1 w hO ac ha
theorem own_at {A C : List RE} {e : RE} : ((A ++ e :: C).map RE.own)[A.length]? = some (sown e.a e.pl.bs.length e.c 1 (e.pl.bs.map bv)) := by
  rw [List.map_append, List.map_cons, List.getElem?_append_right (by simp), List.length_map, Nat.sub_self]; rfl
theorem remodify {A C : List RE} {e : RE} {rows : List Pl} (f : Pl → Pl) (h : (A ++ e :: C).map (·.pl) = rows) : rows.modify A.length f = (A ++ ⟨f e.pl, e.a, e.c⟩ :: C).map (·.pl) := by
  rw [← h, List.map_append, List.map_cons, List.map_append, List.map_cons]
  have := modify_app f e.pl (C.map (·.pl)) (A.map (·.pl))
  rw [List.length_map] at this
  exact this
set_option maxRecDepth 20000
set_option maxHeartbeats 4000000
attribute [local irreducible] SG WC WO W1 WD WK PS Rd Tri Exit.then Exit.inBlock bodyPost calmQ Mid sadd
variable {W : World} {n : Nat} {F : Fr} {L : List HP} {G : Act → World → Prop}
theorem rgoes_tri (p bp : Nat) (S : PlS) (B : BkS) (R : List HP) (hS : S.Ok) (hB : B.Ok) (hP : ∀ r ∈ S.rows, 0 ≤ r.pins) :
    Tri Try.prog W 47 [dp p] (RPool p bp S :: BackRep bp B :: R) (X := Unit) (fun _ => .tuple #[u64 (goesS S B).1.1, i64 (goesS S B).1.2]) (fun _ => True) (fun _ => RPool p bp (goesS S B).2.1 :: BackRep bp (goesS S B).2.2 :: R) := by
  refine tri_enter1 Try.func47 rfl Try.ntmps47 rfl ?_
  have hn := hS.len
  have hh := hS.hand
  generalize hr : goesS S B = r
  refine RPool.open fun T ra rc hT => ?_
  have hTl : T.length = S.rows.length := by rw [← hT, List.length_map]
  unfold rpc
  rw [hTl]
  repeat' (first | refine sg_wo ?_ | refine sg_ps (ps_move rfl) rfl ?_ | refine sg_ps (ps_assign rfl) rfl ?_ | refine sg_seq ?_ | refine sg_region ?_ | refine sg_nil ?_ | refine sg_then ?_ | refine sg_ps (ps_fieldAddr rfl) rfl ?_ | refine sg_ps (ps_nilCheck rfl) rfl ?_ | refine sg_load 0 rfl rfl rfl rfl ?_ | refine sg_block ?_)
  refine sg_loop (γ := Nat × PlS) (fun g => g.1 ≤ 2 * S.rows.length ∧ goL S.hand (2 * S.rows.length - g.1) g.2 B = r ∧ g.2.rows.length = S.rows.length ∧ (0 < S.rows.length → g.2.hand < S.rows.length) ∧ ∀ x ∈ g.2.rows, x.bs.length ≤ 140737488355328 ∧ 0 ≤ x.pins)
    (fun g => [(0, dp p), (4, i64 S.hand), (5, i64 g.1)]) (fun g => RPool p bp g.2 :: BackRep bp B :: R) (fun g => 2 * S.rows.length - g.1) (0, S) ⟨Nat.zero_le _, hr, rfl, fun h => hh.elim (fun h1 => h1) (fun ⟨h1, h2⟩ => by rw [h1] at h; cases h), fun x hx => ⟨hS.bs x hx, hP x hx⟩⟩
    (.cons rfl (.cons rfl (.cons rfl .nil))) (fun w hO => RPool.shut hT (by unfold rpc; rw [hTl]; exact hO)) ?_
  rintro ⟨j, S'⟩ ⟨hj, hgo, hl', hh', hb'⟩
  dsimp only at hj hgo hl' hh' hb' ⊢
  have htm : ∀ S2 : PlS, S2.rows.length = S.rows.length → ((rotS S2).hand : Int) = Int.tmod ((S2.hand : Int) + 1) (S.rows.length : Int) := fun S2 h2 => by
    unfold rotS
    dsimp only
    rw [h2]
    exact Int.ofNat_tmod (S2.hand + 1) S.rows.length
  refine RPool.open fun T ra rc hT => ?_
  have hTl : T.length = S'.rows.length := by rw [← hT, List.length_map]
  by_cases hjn : j < 2 * S.rows.length
  case neg =>
    obtain rfl : j = 2 * S.rows.length := by omega
    rw [Nat.sub_self] at hgo
    unfold rpc
    repeat' (first | refine sg_wo ?_ | refine sg_ps (ps_move rfl) rfl ?_ | refine sg_ps (ps_assign rfl) rfl ?_ | refine sg_seq ?_ | refine sg_region ?_ | refine sg_nil ?_ | refine sg_then ?_ | refine sg_ps (ps_fieldAddr rfl) rfl ?_ | refine sg_ps (ps_nilCheck rfl) rfl ?_ | refine sg_load 0 rfl rfl rfl rfl ?_ | refine sg_ps (ps_mul64 rfl rfl (by omega)) rfl ?_ | refine sg_ps (ps_bin rfl rfl inferInstance) rfl ?_ | refine sg_ps (ps_len rfl) rfl ?_ | refine sg_ret ?_ | refine sg_exit ?_ | refine ex_then_exit ?_ | refine ex_block_hit ?_ | refine sg_store [] rfl rfl rfl (of_decide_eq_true rfl) ?_ | (refine sg_cond_dec rfl (fun hg => ?_) (fun hg => ?_) <;> first | (exfalso; omega) | (exact absurd rfl hg) | skip))
    rw [goL] at hgo
    subst hgo
    exact ex_ret2 rfl rfl rfl () rfl trivial (fun w hO => RPool.shut (S := { S' with hand := S.hand }) hT hO)
  have hhl : S'.hand < T.length := by rw [hTl, hl']; exact hh' (by omega)
  refine sg_sownSome [_] (by omega) ?_
  rintro g rfl
  rw [List.cons_append, List.nil_append]
  obtain ⟨A, e, C, rfl, hA⟩ := re_split hhl
  have hAC : A.length + C.length + 1 = S.rows.length := by rw [← hl', ← hTl, List.length_append, List.length_cons]; omega
  have hrow : S'.rows[S'.hand]? = some e.pl := by
    rw [← hT, List.map_append, List.map_cons, List.getElem?_append_right (by simp; omega), List.length_map, hA, Nat.sub_self]; rfl
  obtain ⟨k, hk⟩ : ∃ k, 2 * S.rows.length - j = k + 1 := ⟨2 * S.rows.length - j - 1, by omega⟩
  have hk1 : 2 * S.rows.length - (j + 1) = k := by omega
  rw [hk, goL, hrow] at hgo
  dsimp only at hgo
  have how := own_at (A := A) (C := C) (e := e)
  have hrr : ∀ (i : Nat) (L : List HP), L[i]? = some (sown (some ⟨g, 0, none⟩) (A ++ e :: C).length rc 5 (recs (A ++ e :: C))) → Rd W L (some ⟨g, 0 + S'.hand * 5, none⟩) e.cells := fun i L h => by
    rw [← hA]; exact (rd_sown (vs := recs (A ++ e :: C)) i h fun _ _ h => h).rrow
  have hset := fun (e' : RE) (v : Value) (h : e'.cells = e.cells.set 4 v) => recs_set (A := A) (C := C) (e := e) (e' := e') 4 v (by decide) h
  have hb2 := hb' e.pl (List.mem_of_getElem? hrow)
  unfold rpc
  have hTl2 : (A ++ e :: C).length = S.rows.length := by rw [hTl, hl']
  rw [hTl2] at hrr ⊢
  repeat' (first | refine sg_wo ?_ | refine sg_ps (ps_move rfl) rfl ?_ | refine sg_seq ?_ | refine sg_region ?_ | refine sg_nil ?_ | refine sg_then ?_ | refine sg_ps (ps_fieldAddr rfl) rfl ?_ | refine sg_ps (ps_nilCheck rfl) rfl ?_ | refine sg_load 0 rfl rfl rfl rfl ?_ | refine sg_ps (ps_mul64 rfl rfl (by omega)) rfl ?_ | refine sg_ps (ps_bin rfl rfl inferInstance) rfl ?_ | refine sg_ps (ps_len rfl) rfl ?_ | refine sg_block ?_ | refine sg_skip ?_ | (refine sg_cond_dec rfl (fun hg => ?_) (fun hg => ?_) <;> first | (exfalso; omega) | (exact absurd rfl hg) | skip))
  refine sg_drawK [blk p [dp bp, i64 S'.most, .slice (some ⟨g, 0, none⟩) S.rows.length rc, i64 S'.hand]] [0, 1, 2, 4, 5, 6, 3, 7, 8, 9] (by kernel_rfl) (by kernel_rfl) (fun w hO => hO.pick [0] (by decide)) ?_
  repeat' (first | refine sk_nil ?_ | refine sk_pure rfl rfl (ps_move rfl) rfl ?_ | refine sk_pure rfl rfl (ps_assign rfl) rfl ?_ | refine sk_pure rfl rfl (ps_nilCheck rfl) rfl ?_ | refine sk_pure rfl rfl (ps_fieldAddr rfl) rfl ?_ | refine sk_pure rfl rfl (ps_indexAddr rfl rfl rfl (by omega)) rfl ?_ | refine sk_load 0 rfl rfl rfl rfl rfl ?_)
  repeat' (first | refine sg_wo ?_ | refine sg_ps (ps_move rfl) rfl ?_ | refine sg_seq ?_ | refine sg_region ?_ | refine sg_then ?_ | refine sg_ps (ps_fieldAddr rfl) rfl ?_ | refine sg_ps (ps_nilCheck rfl) rfl ?_)
  obtain ⟨⟨id, bs, dt, us, pn⟩, xa, xc⟩ := e
  dsimp only at hgo hT hrow how hb2 ⊢
  obtain ⟨hb3, hb4⟩ := hb2
  have hr0 := fun i L h => (hrr i L h).at (ws := [u64 id]) 0 (fun q u hq => by match q, hq with | 0, hq => exact hq)
  have hr1 := fun i L h => (hrr i L h).at (ws := [.slice xa bs.length xc]) 1 (fun q u hq => by match q, hq with | 0, hq => exact hq)
  have hr2 := fun i L h => (hrr i L h).at (ws := [.bool dt]) 2 (fun q u hq => by match q, hq with | 0, hq => exact hq)
  have hr3 := fun i L h => (hrr i L h).at (ws := [i64 pn]) 3 (fun q u hq => by match q, hq with | 0, hq => exact hq)
  have hr4 := fun i L h => (hrr i L h).at (ws := [.bool us]) 4 (fun q u hq => by match q, hq with | 0, hq => exact hq)
  by_cases hpn : 0 < pn
  · rw [if_pos hpn] at hgo
    refine sg_load_rd rfl (hr3 1 _ rfl) rfl ?_
    repeat' (first | refine sg_wo ?_ | refine sg_ps (ps_move rfl) rfl ?_ | refine sg_seq ?_ | refine sg_region ?_ | refine sg_nil ?_ | refine sg_then ?_ | refine sg_ps (ps_fieldAddr rfl) rfl ?_ | refine sg_ps (ps_nilCheck rfl) rfl ?_ | refine sg_ps (ps_bin rfl rfl inferInstance) rfl ?_ | refine sg_cond_f rfl ?_ | refine sg_guard_nf rfl rfl rfl ?_ | refine sg_ps (ps_pick_f rfl rfl) rfl ?_ | refine sg_skip ?_ | (refine sg_guard_dec rfl rfl (fun hg => ?_) (fun hg => ?_) <;> first | (exfalso; omega) | (exact absurd rfl hg) | skip))
    refine sg_load_rd rfl (hr3 1 _ rfl) rfl ?_
    repeat' (first | refine sg_wo ?_ | refine sg_nil ?_ | refine sg_then ?_ | refine sg_ps (ps_bin rfl rfl inferInstance) rfl ?_ | refine sg_skip ?_ | (refine sg_cond_dec rfl (fun hg => ?_) (fun hg => ?_) <;> first | (exfalso; omega) | (exact absurd rfl hg) | skip))
    refine sg_drawK [blk p [dp bp, i64 S'.most, .slice (some ⟨g, 0, none⟩) S.rows.length rc, i64 S'.hand]] [0, 1, 2, 3, 6, 7, 8, 4, 5, 9, 10, 11, 12, 13, 14] (by kernel_rfl) (by kernel_rfl) (fun w hO => hO.pick [0] (by decide)) ?_
    repeat' (first | refine sk_pure rfl rfl (ps_move rfl) rfl ?_ | refine sk_pure rfl rfl (ps_nilCheck rfl) rfl ?_ | refine sk_pure rfl rfl (ps_fieldAddr rfl) rfl ?_ | refine sk_pure rfl rfl (ps_add64 rfl rfl (by omega)) rfl ?_ | refine sk_pure rfl rfl (ps_len rfl) rfl ?_ | refine sk_load 0 rfl rfl rfl rfl rfl ?_)
    refine sk_pure rfl rfl (ps_rem rfl rfl (by omega)) rfl ?_
    repeat' (first | refine sk_pure rfl rfl (ps_nilCheck rfl) rfl ?_ | refine sk_pure rfl rfl (ps_fieldAddr rfl) rfl ?_ | refine sk_eff rfl rfl ?_ | refine sg_store [] rfl rfl rfl (of_decide_eq_true rfl) ?_)
    refine sk_end (by kernel_rfl) ?_
    repeat' (first | refine sk_nil ?_)
    repeat' (first | refine sg_wo ?_ | refine sg_ps (ps_move rfl) rfl ?_ | refine sg_ps (ps_assign rfl) rfl ?_ | refine sg_region ?_ | refine sg_nil ?_ | refine sg_then ?_ | refine sg_ps (ps_add64 rfl rfl (by omega)) rfl ?_ | refine ex_block_normal ?_)
    exact ex_mid (j + 1, rotS S') ⟨by omega, by omega, by rw [hk1]; exact hgo, hl', fun h => by simp only [rotS, hl']; exact Nat.mod_lt _ h, hb'⟩ (.cons rfl (.cons rfl (.cons rfl .nil)))
      (fun w hO => RPool.shut (S := rotS S') hT (by unfold rpc; rw [hTl2, htm S' hl']; exact hO))
  rw [if_neg hpn] at hgo
  have hp0 : pn = 0 := by omega
  subst hp0
  cases us with
  | true =>
    rw [if_pos rfl] at hgo
    refine sg_load_rd rfl (hr3 1 _ rfl) rfl ?_
    repeat' (first | refine sg_wo ?_ | refine sg_ps (ps_move rfl) rfl ?_ | refine sg_ps (ps_fieldAddr rfl) rfl ?_ | refine sg_ps (ps_nilCheck rfl) rfl ?_ | refine sg_ps (ps_bin rfl rfl inferInstance) rfl ?_ | refine sg_guard_yes rfl rfl ?_)
    refine sg_load_rd rfl (hr4 1 _ rfl) rfl ?_
    repeat' (first | refine sg_wo ?_ | refine sg_ps (ps_move rfl) rfl ?_ | refine sg_seq ?_ | refine sg_region ?_ | refine sg_nil ?_ | refine sg_then ?_ | refine sg_ps (ps_fieldAddr rfl) rfl ?_ | refine sg_ps (ps_nilCheck rfl) rfl ?_ | refine sg_ps (ps_not rfl) rfl ?_ | refine sg_cond_f rfl ?_ | refine sg_guard_yes rfl rfl ?_ | refine sg_ps (ps_pick_t rfl rfl) rfl ?_ | refine sg_skip ?_)
    refine sg_load_rd rfl (hr3 1 _ rfl) rfl ?_
    repeat' (first | refine sg_wo ?_ | refine sg_ps (ps_move rfl) rfl ?_ | refine sg_region ?_ | refine sg_nil ?_ | refine sg_then ?_ | refine sg_ps (ps_fieldAddr rfl) rfl ?_ | refine sg_ps (ps_nilCheck rfl) rfl ?_ | refine sg_ps (ps_bin rfl rfl inferInstance) rfl ?_ | refine sg_cond_t rfl ?_)
    refine sg_store_sown [_] rfl rfl rfl (by rw [recs_len, hTl2]; omega) ?_
    rw [Nat.zero_add, ← hA, hset ⟨⟨id, bs, dt, false, 0⟩, xa, xc⟩ _ rfl, hA]
    repeat' (first | refine sg_nil ?_ | refine sg_then ?_)
    refine sg_drawK [blk p [dp bp, i64 S'.most, .slice (some ⟨g, 0, none⟩) S.rows.length rc, i64 S'.hand]] [0, 1, 2, 3, 6, 7, 8, 4, 5, 9, 10, 11, 12, 13, 14] (by kernel_rfl) (by kernel_rfl) (fun w hO => hO.pick [0] (by decide)) ?_
    repeat' (first | refine sk_pure rfl rfl (ps_move rfl) rfl ?_ | refine sk_pure rfl rfl (ps_nilCheck rfl) rfl ?_ | refine sk_pure rfl rfl (ps_fieldAddr rfl) rfl ?_ | refine sk_pure rfl rfl (ps_add64 rfl rfl (by omega)) rfl ?_ | refine sk_pure rfl rfl (ps_len rfl) rfl ?_ | refine sk_load 0 rfl rfl rfl rfl rfl ?_)
    refine sk_pure rfl rfl (ps_rem rfl rfl (by omega)) rfl ?_
    repeat' (first | refine sk_pure rfl rfl (ps_nilCheck rfl) rfl ?_ | refine sk_pure rfl rfl (ps_fieldAddr rfl) rfl ?_ | refine sk_eff rfl rfl ?_ | refine sg_store [] rfl rfl rfl (of_decide_eq_true rfl) ?_)
    refine sk_end (by kernel_rfl) ?_
    repeat' (first | refine sk_nil ?_)
    repeat' (first | refine sg_wo ?_ | refine sg_ps (ps_move rfl) rfl ?_ | refine sg_ps (ps_assign rfl) rfl ?_ | refine sg_region ?_ | refine sg_nil ?_ | refine sg_then ?_ | refine sg_ps (ps_add64 rfl rfl (by omega)) rfl ?_ | refine ex_block_normal ?_)
    have hT2 : (A ++ (⟨⟨id, bs, dt, false, 0⟩, xa, xc⟩ : RE) :: C).map (·.pl) = (rowSet S' S'.hand unuse).rows := by
      rw [← hA]; exact (remodify unuse hT).symm
    have hl2 : (rowSet S' S'.hand unuse).rows.length = S.rows.length := by unfold rowSet; rw [List.length_modify]; exact hl'
    refine ex_mid (j + 1, rotS (rowSet S' S'.hand unuse)) ⟨by omega, by omega, by rw [hk1]; exact hgo, hl2, fun h => by simp only [rotS, hl2]; exact Nat.mod_lt _ h, fun y hy => ?_⟩ (.cons rfl (.cons rfl (.cons rfl .nil))) (fun w hO => ?_)
    · have hy2 : y ∈ (rowSet S' S'.hand unuse).rows := hy
      rcases mem_modify (show y ∈ S'.rows.modify S'.hand unuse from hy2) with h | ⟨z, hz, rfl⟩
      · exact hb' y h
      · exact hb' z hz
    · refine RPool.shut (S := rotS (rowSet S' S'.hand unuse)) (ra := some ⟨g, 0, none⟩) (rc := rc) hT2 ?_
      unfold rpc
      have hom : (A ++ (⟨⟨id, bs, dt, false, 0⟩, xa, xc⟩ : RE) :: C).map RE.own = (A ++ (⟨⟨id, bs, dt, true, 0⟩, xa, xc⟩ : RE) :: C).map RE.own := by rw [List.map_append, List.map_append]; rfl
      rw [hom, htm (rowSet S' S'.hand unuse) hl2, show (A ++ (⟨⟨id, bs, dt, false, 0⟩, xa, xc⟩ : RE) :: C).length = S.rows.length by rw [← hl2, ← hT2, List.length_map]]
      exact hO
  | false =>
    rw [if_neg (by decide)] at hgo
    refine sg_load_rd rfl (hr3 1 _ rfl) rfl ?_
    repeat' (first | refine sg_wo ?_ | refine sg_ps (ps_move rfl) rfl ?_ | refine sg_ps (ps_fieldAddr rfl) rfl ?_ | refine sg_ps (ps_nilCheck rfl) rfl ?_ | refine sg_ps (ps_bin rfl rfl inferInstance) rfl ?_ | refine sg_guard_yes rfl rfl ?_)
    refine sg_load_rd rfl (hr4 1 _ rfl) rfl ?_
    repeat' (first | refine sg_wo ?_ | refine sg_ps (ps_move rfl) rfl ?_ | refine sg_seq ?_ | refine sg_region ?_ | refine sg_nil ?_ | refine sg_then ?_ | refine sg_ps (ps_fieldAddr rfl) rfl ?_ | refine sg_ps (ps_nilCheck rfl) rfl ?_ | refine sg_ps (ps_not rfl) rfl ?_ | refine sg_cond_t rfl ?_ | refine sg_guard_yes rfl rfl ?_ | refine sg_ps (ps_pick_t rfl rfl) rfl ?_)
    refine sg_load_rd rfl (hr2 1 _ rfl) rfl ?_
    cases dt with
    | false =>
      rw [if_neg (by decide)] at hgo
      repeat' (first | refine sg_wo ?_ | refine sg_ps (ps_move rfl) rfl ?_ | refine sg_seq ?_ | refine sg_region ?_ | refine sg_nil ?_ | refine sg_then ?_ | refine sg_ps (ps_fieldAddr rfl) rfl ?_ | refine sg_ps (ps_nilCheck rfl) rfl ?_ | refine sg_cond_f rfl ?_ | refine sg_skip ?_)
      refine sg_load_rd rfl (hr0 1 _ rfl) rfl ?_
      repeat' (first | refine sg_wo ?_ | refine sg_ps (ps_move rfl) rfl ?_ | refine sg_ps (ps_assign rfl) rfl ?_ | refine sg_seq ?_ | refine sg_region ?_ | refine sg_nil ?_ | refine sg_then ?_ | refine sg_ps (ps_fieldAddr rfl) rfl ?_ | refine sg_ps (ps_nilCheck rfl) rfl ?_ | refine sg_load 0 rfl rfl rfl rfl ?_)
      subst hgo
      refine sg_own (L' := RPool p bp S' :: BackRep bp B :: R) (fun w hO => RPool.shut hT (by unfold rpc; rw [hTl2]; exact hO)) ?_
      refine sg_call (rout_tri p bp S' S'.hand _ (by omega) (by omega) (by omega)) rfl rfl (fun _ _ => ?_)
      repeat' (first | refine sg_wo ?_ | refine sg_ps (ps_move rfl) rfl ?_ | refine sg_ps (ps_assign rfl) rfl ?_ | refine sg_seq ?_ | refine sg_region ?_ | refine sg_nil ?_ | refine sg_then ?_ | refine sg_ret ?_ | refine ex_then_ret ?_ | refine ex_block_ret ?_)
      exact ex_ret2 rfl rfl rfl () rfl trivial (fun w hO => hO)
    | true =>
      rw [if_pos rfl] at hgo
      repeat' (first | refine sg_seq ?_ | refine sg_nil ?_ | refine sg_then ?_ | refine sg_cond_t rfl ?_)
      refine sg_drawK [blk p [dp bp, i64 S'.most, .slice (some ⟨g, 0, none⟩) S.rows.length rc, i64 S'.hand], sown (some ⟨g, 0, none⟩) S.rows.length rc 5 (recs (A ++ ⟨⟨id, bs, true, false, 0⟩, xa, xc⟩ :: C))] [0, 1, 2, 4, 5, 6, 8, 9, 10, 3, 7, 11, 12, 13] (by kernel_rfl) (by kernel_rfl) (fun w hO => hO.pick [0, 1] (by decide)) ?_
      repeat' (first | refine sk_pure rfl rfl (ps_move rfl) rfl ?_ | refine sk_pure rfl rfl (ps_nilCheck rfl) rfl ?_ | refine sk_pure rfl rfl (ps_fieldAddr rfl) rfl ?_ | refine sk_load 0 rfl rfl rfl rfl rfl ?_)
      refine sk_load_rd rfl rfl (hr0 1 _ rfl) rfl ?_
      skip
      refine sk_load_rd rfl rfl (hr1 1 _ rfl) rfl ?_
      repeat' (first | refine sk_eff rfl rfl ?_)
      refine sg_call ((bsave_tri bp B id bs xa xc (blk p [dp bp, i64 S'.most, .slice (some ⟨g, 0, none⟩) S.rows.length rc, i64 S'.hand] :: _) hB.len hB.asked hb3 (rd_app_sep 2 A.length rfl how)).pre (fun w hO => hO.front3)) rfl rfl (fun _ _ => ?_)
      refine sk_back (fun w hO => hO.pick [1, 2] (by decide)) ?_
      repeat' (first | refine sk_nil ?_ | refine sk_pure rfl rfl (ps_assign rfl) rfl ?_)
      by_cases hs0 : (saveS B id bs).1 = 0
      · rw [if_pos hs0] at hgo
        rw [hs0]
        repeat' (first | refine sg_wo ?_ | refine sg_ps (ps_move rfl) rfl ?_ | refine sg_seq ?_ | refine sg_region ?_ | refine sg_nil ?_ | refine sg_then ?_ | refine sg_ps (ps_fieldAddr rfl) rfl ?_ | refine sg_ps (ps_nilCheck rfl) rfl ?_ | refine sg_ps (ps_bin rfl rfl inferInstance) rfl ?_ | refine sg_cond_f rfl ?_ | refine sg_skip ?_)
        refine sg_load_rd rfl (hr0 2 _ rfl) rfl ?_
        repeat' (first | refine sg_wo ?_ | refine sg_ps (ps_move rfl) rfl ?_ | refine sg_ps (ps_assign rfl) rfl ?_ | refine sg_seq ?_ | refine sg_region ?_ | refine sg_nil ?_ | refine sg_then ?_ | refine sg_ps (ps_fieldAddr rfl) rfl ?_ | refine sg_ps (ps_nilCheck rfl) rfl ?_ | refine sg_load 1 rfl rfl rfl rfl ?_)
        subst hgo
        refine sg_own (L' := RPool p bp S' :: BackRep bp (saveS B id bs).2 :: R) (fun w hO => RPool.shut hT (by unfold rpc; rw [hTl2]; exact Own.pickA [_, _, _, _] hO [1, 2, 3, 0] (by decide))) ?_
        refine sg_call (rout_tri p bp S' S'.hand _ (by omega) (by omega) (by omega)) rfl rfl (fun _ _ => ?_)
        repeat' (first | refine sg_wo ?_ | refine sg_ps (ps_move rfl) rfl ?_ | refine sg_ps (ps_assign rfl) rfl ?_ | refine sg_seq ?_ | refine sg_region ?_ | refine sg_nil ?_ | refine sg_then ?_ | refine sg_ret ?_ | refine ex_then_ret ?_ | refine ex_block_ret ?_)
        exact ex_ret2 rfl rfl rfl () rfl trivial (fun w hO => hO)
      · rw [if_neg hs0] at hgo
        repeat' (first | refine sg_wo ?_ | refine sg_ps (ps_move rfl) rfl ?_ | refine sg_ps (ps_assign rfl) rfl ?_ | refine sg_seq ?_ | refine sg_region ?_ | refine sg_nil ?_ | refine sg_then ?_ | refine sg_ps (ps_bin rfl rfl inferInstance) rfl ?_ | refine sg_ret ?_ | refine ex_then_ret ?_ | refine ex_block_ret ?_ | (refine sg_cond_ndec rfl (fun hg => ?_) (fun hg => ?_) <;> first | (exfalso; omega) | (exact absurd rfl hg) | skip))
        subst hgo
        exact ex_ret2 rfl rfl rfl () rfl trivial (fun w hO => RPool.shut hT (by unfold rpc; rw [hTl2]; exact Own.pickA [_, _, _, _] hO [1, 2, 3, 0] (by decide)))
end Go.Proofs.Ytclehoaeppbmpaa
