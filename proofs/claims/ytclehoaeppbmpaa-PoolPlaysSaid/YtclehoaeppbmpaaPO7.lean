/- Package pool: one goes. -/
import Derived.Test.YtclehoaeppbmpaaPO6
namespace Go.Proofs.Ytclehoaeppbmpaa
set_option linter.unusedVariables false
set_option linter.unusedSimpArgs false
set_option linter.unusedSectionVars false
set_option linter.unnecessarySimpa false
open Go Go.Proofs
def rowSet (S : PlS) (i : Nat) (f : Pl → Pl) : PlS := { S with rows := S.rows.modify i f }
def unuse (r : Pl) : Pl := { r with used := false }
def rotS (S : PlS) : PlS := { S with hand := (S.hand + 1) % S.rows.length }
def goL (st : Nat) : Nat → PlS → BkS → (Int × Int) × PlS × BkS
  | 0, S, B => ((0, 9), { S with hand := st }, B)
  | k + 1, S, B => match S.rows[S.hand]? with
    | none => ((0, 9), S, B)
    | some x =>
      if 0 < x.pins then goL st k (rotS S) B
      else if x.used = true then goL st k (rotS (rowSet S S.hand unuse)) B
      else if x.dirty = true then (if (saveS B x.id x.bs).1 = 0 then ((x.id, 0), takeS S S.hand, (saveS B x.id x.bs).2) else ((0, (saveS B x.id x.bs).1), S, (saveS B x.id x.bs).2))
      else ((x.id, 0), takeS S S.hand, B)
def goesS (S : PlS) (B : BkS) : (Int × Int) × PlS × BkS := goL S.hand (2 * S.rows.length) S B
/-- What the pool's functions need. -/
structure PlS.Ok (S : PlS) : Prop where
  len : S.rows.length ≤ 100000
  hand : S.hand < S.rows.length ∨ (S.rows = [] ∧ S.hand = 0)
  bs : ∀ r ∈ S.rows, r.bs.length ≤ 140737488355328
structure BkS.Ok (B : BkS) : Prop where
  len : B.ent.length ≤ 1000000
  asked : B.asked.length ≤ 1000000
  bs : ∀ e ∈ B.ent, e.2.length ≤ 140737488355328
theorem modify_at {A B : List PE} {e : PE} {rows : List Pl} (f : Pl → Pl) (h : (A ++ e :: B).map (·.pl) = rows) : rows.modify A.length f = (A ++ ⟨f e.pl, e.ptr, e.a, e.c, e.born⟩ :: B).map (·.pl) := by
  rw [← h, List.map_append, List.map_cons, List.map_append, List.map_cons]
  have := modify_app f e.pl (B.map (·.pl)) (A.map (·.pl))
  rw [List.length_map] at this
  exact this
theorem PInv.swap {A B : List PE} {e e' : PE} {clk : Nat} (h : PInv (A ++ e :: B) clk) (hb : e'.born = e.born) (ho : e'.pl.id = e.pl.id) : PInv (A ++ e' :: B) clk := by
  refine ⟨fun x hx => ?_, ?_⟩
  · simp only [List.mem_append, List.mem_cons] at hx
    rcases hx with hx | rfl | hx
    · exact h.old x (by simp [hx])
    · rw [hb]; exact h.old e (by simp)
    · exact h.old x (by simp [hx])
  · have := h.no
    rw [List.map_append, List.map_cons] at this ⊢
    rw [ho]; exact this
theorem rd_app {W : World} {R : List HP} {a : Option Addr} {k c sz : Nat} {xs : List Value} (i : Nat) (h : R[i]? = some (sown a k c sz xs)) : ∀ L, Rd W (L ++ R) a xs := fun L =>
  rd_sown (L.length + i) (by rw [List.getElem?_append_right (by omega), Nat.add_sub_cancel_left]; exact h) fun j u hj => hj
section
variable {P : Program} {n : Nat} {F : Fr} {ty : TypeId}
theorem ps_nilCheck_if {x : Operand} {t : TypeId} {v : Value} (hx : ev F x = some (.iface t v)) : PS P n F (.nilCheck x) ty (.iface t v) := by
  intro a ha w dst pos af g
  simp [execOp, ha.ev hx]
end
set_option maxRecDepth 20000
set_option maxHeartbeats 4000000
instance : Cell Try.prog 62 := ⟨⟨_, Try.underlying62, rfl⟩, ex_size (by kernel_rfl)⟩
instance : Meth Try.prog 24 "Save" 19 := ⟨⟨_, _, rfl, rfl, rfl, rfl⟩, ⟨_, rfl⟩⟩
instance : Meth Try.prog 24 "Load" 17 := ⟨⟨_, _, rfl, rfl, rfl, rfl⟩, ⟨_, rfl⟩⟩
attribute [local irreducible] SG WC WO W1 WD WK PS Rd Tri Exit.then Exit.inBlock bodyPost calmQ Mid sadd
variable {W : World} {n : Nat} {F : Fr} {L : List HP} {G : Act → World → Prop}
theorem pgoes_tri (p bp : Nat) (S : PlS) (B : BkS) (R : List HP) (hS : S.Ok) (hB : B.Ok) :
    Tri Try.prog W 36 [dp p] (PoolRep p bp S :: BackRep bp B :: R) (X := Unit) (fun _ => .tuple #[u64 (goesS S B).1.1, i64 (goesS S B).1.2]) (fun _ => True) (fun _ => PoolRep p bp (goesS S B).2.1 :: BackRep bp (goesS S B).2.2 :: R) := by
  refine tri_enter1 Try.func36 rfl Try.ntmps36 rfl ?_
  have hn := hS.len
  have hh := hS.hand
  generalize hr : goesS S B = r
  refine PoolRep.open fun T ra rc m clk hT hI => ?_
  have hTl : T.length = S.rows.length := by rw [← hT, List.length_map]
  unfold pcells
  rw [hTl]
  repeat' (first | refine sg_wo ?_ | refine sg_ps (ps_move rfl) rfl ?_ | refine sg_ps (ps_assign rfl) rfl ?_ | refine sg_seq ?_ | refine sg_region ?_ | refine sg_nil ?_ | refine sg_then ?_ | refine sg_ps (ps_fieldAddr rfl) rfl ?_ | refine sg_ps (ps_nilCheck rfl) rfl ?_ | refine sg_load 0 rfl rfl rfl rfl ?_ | refine sg_ps (ps_mul64 rfl rfl (by omega)) rfl ?_ | refine sg_ps (ps_len rfl) rfl ?_ | refine sg_block ?_)
  refine sg_loop (γ := Nat × PlS) (fun g => g.1 ≤ 2 * S.rows.length ∧ goL S.hand (2 * S.rows.length - g.1) g.2 B = r ∧ g.2.rows.length = S.rows.length ∧ (0 < S.rows.length → g.2.hand < S.rows.length) ∧ ∀ x ∈ g.2.rows, x.bs.length ≤ 140737488355328)
    (fun g => [(0, dp p), (4, i64 S.hand), (16, i64 (2 * (S.rows.length : Int))), (17, i64 g.1)]) (fun g => PoolRep p bp g.2 :: BackRep bp B :: R) (fun g => 2 * S.rows.length - g.1) (0, S) ⟨Nat.zero_le _, hr, rfl, fun h => hh.elim (fun h1 => h1) (fun ⟨h1, h2⟩ => by rw [h1] at h; cases h), hS.bs⟩
    (.cons rfl (.cons rfl (.cons rfl (.cons rfl .nil)))) (fun w hO => PoolRep.shut hT hI (by unfold pcells; rw [hTl]; exact hO)) ?_
  rintro ⟨j, S'⟩ ⟨hj, hgo, hl', hh', hb'⟩
  dsimp only at hj hgo hl' hh' hb' ⊢
  have htm : ∀ S2 : PlS, S2.rows.length = S.rows.length → ((rotS S2).hand : Int) = Int.tmod ((S2.hand : Int) + 1) (S.rows.length : Int) := fun S2 h2 => by
    unfold rotS
    dsimp only
    rw [h2]
    exact Int.ofNat_tmod (S2.hand + 1) S.rows.length
  by_cases hjn : j < 2 * S.rows.length
  · refine PoolRep.open fun T ra rc m clk hT hI => ?_
    have hTl : T.length = S'.rows.length := by rw [← hT, List.length_map]
    have hhl : S'.hand < T.length := by rw [hTl, hl']; exact hh' (by omega)
    obtain ⟨A, e, C, rfl, hA⟩ : ∃ A e C, T = A ++ e :: C ∧ A.length = S'.hand := ⟨T.take S'.hand, T[S'.hand], T.drop (S'.hand + 1), by rw [List.getElem_cons_drop, List.take_append_drop], by rw [List.length_take]; omega⟩
    refine sg_own (fun w hO => Own.plOut hO) ?_
    have hAC : A.length + C.length + 1 = S.rows.length := by rw [← hl', ← hTl, List.length_append, List.length_cons]; omega
    have hrow : S'.rows[S'.hand]? = some e.pl := by
      rw [← hT, List.map_append, List.map_cons, List.getElem?_append_right (by simp; omega), List.length_map, hA, Nat.sub_self]; rfl
    obtain ⟨k, hk⟩ : ∃ k, 2 * S.rows.length - j = k + 1 := ⟨2 * S.rows.length - j - 1, by omega⟩
    have hk1 : 2 * S.rows.length - (j + 1) = k := by omega
    rw [hk, goL, hrow] at hgo
    dsimp only at hgo
    have hrd : Rd W (blk p (pcells bp S' (A ++ e :: C).length ra rc m) :: sown ra (A ++ e :: C).length rc 1 ((A ++ e :: C).map PE.dp) :: mapc .u64 m ((A ++ e :: C).map PE.me) clk :: blk0 e.ptr e.cells :: sown e.a e.pl.bs.length e.c 1 (e.pl.bs.map bv) :: sepL ((A ++ C).map PE.own) :: BackRep bp B :: R) ra ((A ++ e :: C).map PE.dp) := rd_sown 1 rfl fun _ _ h => h
    refine sg_rd_some hrd (by simp) fun b0 o0 ha => ?_
    subst ha
    have hra : Rd W [blk p (pcells bp S' (A ++ e :: C).length (some ⟨b0, o0, none⟩) rc m), sown (some ⟨b0, o0, none⟩) (A ++ e :: C).length rc 1 ((A ++ e :: C).map PE.dp)] (some ⟨b0, o0 + S'.hand * 1, none⟩) [e.dp] :=
      (rd_sown 1 rfl fun _ _ h => h).at (vs := (A ++ e :: C).map PE.dp) (S'.hand * 1) (fun q u hq => by
        match q, hq with
        | 0, hq => rw [← hA]; simp at hq; subst hq; simp)
    rw [hTl, hl'] at hra hhl ⊢
    unfold pcells at hra ⊢
    unfold PE.cells
    repeat' (first | refine sg_wo ?_ | refine sg_seq ?_ | refine sg_region ?_ | refine sg_nil ?_ | refine sg_then ?_ | refine sg_ps (ps_bin rfl rfl inferInstance) rfl ?_ | refine sg_block ?_ | refine sg_skip ?_ | (refine sg_cond_dec rfl (fun hg => ?_) (fun hg => ?_) <;> first | (exfalso; omega) | (exact absurd rfl hg) | skip))
    refine sg_drawK [blk p [.iface 24 (dp bp), i64 S'.most, .slice (some ⟨b0, o0, none⟩) S.rows.length rc, .map (some m), i64 S'.hand], sown (some ⟨b0, o0, none⟩) S.rows.length rc 1 ((A ++ e :: C).map PE.dp)] [0, 1, 2, 4, 5, 6, 3, 7, 8, 9, 10] (by kernel_rfl) (by kernel_rfl) (fun w hO => hO.pick [0, 1] (by decide)) ?_
    repeat' (first | refine sk_pure rfl rfl (ps_move rfl) rfl ?_ | refine sk_pure rfl rfl (ps_nilCheck rfl) rfl ?_ | refine sk_pure rfl rfl (ps_fieldAddr rfl) rfl ?_ | refine sk_pure rfl rfl (ps_indexAddr rfl rfl rfl (by omega)) rfl ?_ | refine sk_load 0 rfl rfl rfl rfl rfl ?_)
    refine sk_load_rd rfl rfl hra rfl ?_
    unfold PE.dp
    repeat' (first | refine sk_nil ?_ | refine sk_pure rfl rfl (ps_assign rfl) rfl ?_)
    refine sg_then ?_
    obtain ⟨⟨id, bs, dt, us, pn⟩, x, xa, xc, born⟩ := e
    dsimp only at hgo hT hI hrow ⊢
    by_cases hpn : 0 < pn
    · rw [if_pos hpn] at hgo
      repeat' (first | refine sg_wo ?_ | refine sg_ps (ps_move rfl) rfl ?_ | refine sg_ps (ps_assign rfl) rfl ?_ | refine sg_seq ?_ | refine sg_region ?_ | refine sg_nil ?_ | refine sg_then ?_ | refine sg_ps (ps_fieldAddr rfl) rfl ?_ | refine sg_ps (ps_nilCheck rfl) rfl ?_ | refine sg_ps (ps_bin rfl rfl inferInstance) rfl ?_ | refine sg_block ?_ | refine sg_skip ?_ | refine ex_block_normal ?_ | (refine sg_cond_dec rfl (fun hg => ?_) (fun hg => ?_) <;> first | (exfalso; omega) | (exact absurd rfl hg) | skip) | refine sg_load_rd rfl (rd_blk0_one 3 rfl rfl) rfl ?_)
      refine sg_drawK [blk p [.iface 24 (dp bp), i64 S'.most, .slice (some ⟨b0, o0, none⟩) S.rows.length rc, .map (some m), i64 S'.hand]] [0, 1, 2, 3, 6, 7, 8, 4, 5, 9, 10, 11, 12, 13, 14] (by kernel_rfl) (by kernel_rfl) (fun w hO => hO.pick [0] (by decide)) ?_
      repeat' (first | refine sk_pure rfl rfl (ps_move rfl) rfl ?_ | refine sk_pure rfl rfl (ps_nilCheck rfl) rfl ?_ | refine sk_pure rfl rfl (ps_fieldAddr rfl) rfl ?_ | refine sk_pure rfl rfl (ps_add64 rfl rfl (by omega)) rfl ?_ | refine sk_pure rfl rfl (ps_len rfl) rfl ?_ | refine sk_load 0 rfl rfl rfl rfl rfl ?_)
      refine sk_pure rfl rfl (ps_rem rfl rfl (by omega)) rfl ?_
      repeat' (first | refine sk_pure rfl rfl (ps_nilCheck rfl) rfl ?_ | refine sk_pure rfl rfl (ps_fieldAddr rfl) rfl ?_ | refine sk_eff rfl rfl ?_ | refine sg_store [] rfl rfl rfl (of_decide_eq_true rfl) ?_)
      refine sk_end (by kernel_rfl) ?_
      repeat' (first | refine sk_nil ?_)
      repeat' (first | refine sg_wo ?_ | refine sg_ps (ps_move rfl) rfl ?_ | refine sg_region ?_ | refine sg_nil ?_ | refine sg_then ?_ | refine sg_ps (ps_add64 rfl rfl (by omega)) rfl ?_ | refine ex_block_normal ?_)
      refine ex_mid (j + 1, rotS S') ⟨by omega, by omega, by rw [hk1]; exact hgo, hl', fun h => by simp only [rotS, hl']; exact Nat.mod_lt _ h, hb'⟩ (.cons rfl (.cons rfl (.cons rfl (.cons rfl .nil)))) (fun w hO => ?_)
      exact PoolRep.shut (S := rotS S') (T := A ++ ⟨⟨id, bs, dt, us, pn⟩, x, xa, xc, born⟩ :: C) hT hI (by unfold pcells; rw [hTl, hl', htm S' hl']; exact Own.plIn (e := ⟨⟨id, bs, dt, us, pn⟩, x, xa, xc, born⟩) hO)
    · rw [if_neg hpn] at hgo
      cases us
      · rw [if_neg (by decide)] at hgo
        cases dt
        · rw [if_neg (by decide)] at hgo
          repeat' (first | refine sg_wo ?_ | refine sg_ps (ps_move rfl) rfl ?_ | refine sg_ps (ps_assign rfl) rfl ?_ | refine sg_seq ?_ | refine sg_region ?_ | refine sg_nil ?_ | refine sg_then ?_ | refine sg_ps (ps_fieldAddr rfl) rfl ?_ | refine sg_ps (ps_nilCheck rfl) rfl ?_ | refine sg_load 0 rfl rfl rfl rfl ?_ | refine sg_ps (ps_bin rfl rfl inferInstance) rfl ?_ | refine sg_cond_f rfl ?_ | refine sg_block ?_ | refine sg_skip ?_ | (refine sg_cond_dec rfl (fun hg => ?_) (fun hg => ?_) <;> first | (exfalso; omega) | (exact absurd rfl hg) | skip) | refine sg_load_rd rfl (rd_blk0_one 3 rfl rfl) rfl ?_)
          subst hgo
          refine sg_own (L' := PoolAt p bp S' S'.hand x :: BackRep bp B :: R) (fun w hO => PoolAt.shut (e := ⟨⟨id, bs, false, false, pn⟩, x, xa, xc, born⟩) hT hI hA rfl (by unfold pcells; rw [hTl, hl']; exact hO)) ?_
          refine sg_call (ptake_tri p bp S' S'.hand x _ _ hrow (by omega) (by omega)) rfl rfl (fun y _ => ?_)
          repeat' (first | refine sg_wo ?_ | refine sg_ps (ps_move rfl) rfl ?_ | refine sg_ps (ps_assign rfl) rfl ?_ | refine sg_seq ?_ | refine sg_region ?_ | refine sg_nil ?_ | refine sg_then ?_ | refine sg_ps (ps_fieldAddr rfl) rfl ?_ | refine sg_ps (ps_nilCheck rfl) rfl ?_ | refine sg_ret ?_ | refine ex_then_ret ?_ | refine ex_block_ret ?_ | refine sg_load_rd rfl (rd_blk0_one 1 rfl rfl) rfl ?_)
          exact ex_ret2 rfl rfl rfl () rfl trivial (fun w hO => hO.front1.tail)
        · rw [if_pos rfl] at hgo
          repeat' (first | refine sg_wo ?_ | refine sg_ps (ps_move rfl) rfl ?_ | refine sg_ps (ps_assign rfl) rfl ?_ | refine sg_seq ?_ | refine sg_region ?_ | refine sg_nil ?_ | refine sg_then ?_ | refine sg_ps (ps_fieldAddr rfl) rfl ?_ | refine sg_ps (ps_nilCheck rfl) rfl ?_ | refine sg_ps (ps_bin rfl rfl inferInstance) rfl ?_ | refine sg_cond_t rfl ?_ | refine sg_cond_f rfl ?_ | refine sg_block ?_ | (refine sg_cond_dec rfl (fun hg => ?_) (fun hg => ?_) <;> first | (exfalso; omega) | (exact absurd rfl hg) | skip) | refine sg_load_rd rfl (rd_blk0_one 3 rfl rfl) rfl ?_)
          refine sg_drawK [blk p [.iface 24 (dp bp), i64 S'.most, .slice (some ⟨b0, o0, none⟩) S.rows.length rc, .map (some m), i64 S'.hand], blk0 x [u64 id, .slice xa bs.length xc, .bool true, .bool false, i64 pn]] [0, 1, 2, 4, 5, 6, 8, 9, 10, 3, 12, 13, 7, 11, 14, 15] (by kernel_rfl) (by kernel_rfl) (fun w hO => hO.pick [0, 3] (by decide)) ?_
          repeat' (first | refine sk_pure rfl rfl (ps_move rfl) rfl ?_ | refine sk_pure rfl rfl (ps_nilCheck rfl) rfl ?_ | refine sk_pure rfl rfl (ps_fieldAddr rfl) rfl ?_ | refine sk_load 0 rfl rfl rfl rfl rfl ?_)
          refine sk_pure rfl rfl (ps_nilCheck_if rfl) rfl ?_
          repeat' (first | refine sk_pure rfl rfl (ps_move rfl) rfl ?_ | refine sk_load_rd rfl rfl (rd_blk0_one 1 rfl rfl) rfl ?_ | refine sk_eff rfl rfl ?_)
          have hbl : bs.length ≤ 140737488355328 := hb' ⟨id, bs, true, false, pn⟩ (by rw [← hT]; simp)
          refine sg_invoke (t := 24) ((bsave_tri bp B id bs xa xc (blk p [.iface 24 (dp bp), i64 S'.most, .slice (some ⟨b0, o0, none⟩) S.rows.length rc, .map (some m), i64 S'.hand] :: _) hB.len hB.asked hbl (rd_app 4 rfl)).pre (fun w hO => hO.front6)) rfl rfl rfl (fun _ _ => ?_)
          refine sk_back (fun w hO => hO.pick [1, 4] (by decide)) ?_
          repeat' (first | refine sk_nil ?_ | refine sk_pure rfl rfl (ps_assign rfl) rfl ?_)
          refine sg_then ?_
          by_cases hs0 : (saveS B id bs).1 = 0
          · rw [if_pos hs0] at hgo
            rw [hs0]
            repeat' (first | refine sg_wo ?_ | refine sg_ps (ps_move rfl) rfl ?_ | refine sg_seq ?_ | refine sg_region ?_ | refine sg_nil ?_ | refine sg_then ?_ | refine sg_ps (ps_fieldAddr rfl) rfl ?_ | refine sg_ps (ps_nilCheck rfl) rfl ?_ | refine sg_load 1 rfl rfl rfl rfl ?_ | refine sg_ps (ps_bin rfl rfl inferInstance) rfl ?_ | refine sg_cond_f rfl ?_ | refine sg_skip ?_)
            subst hgo
            refine sg_own (L' := PoolAt p bp S' S'.hand x :: BackRep bp (saveS B id bs).2 :: R) (fun w hO => PoolAt.shut (e := ⟨⟨id, bs, true, false, pn⟩, x, xa, xc, born⟩) hT hI hA rfl (by unfold pcells; rw [hTl, hl']; exact Own.back6 hO)) ?_
            refine sg_call (ptake_tri p bp S' S'.hand x _ _ hrow (by omega) (by omega)) rfl rfl (fun y _ => ?_)
            repeat' (first | refine sg_wo ?_ | refine sg_ps (ps_move rfl) rfl ?_ | refine sg_ps (ps_assign rfl) rfl ?_ | refine sg_seq ?_ | refine sg_region ?_ | refine sg_nil ?_ | refine sg_then ?_ | refine sg_ps (ps_fieldAddr rfl) rfl ?_ | refine sg_ps (ps_nilCheck rfl) rfl ?_ | refine sg_ret ?_ | refine ex_then_ret ?_ | refine ex_block_ret ?_ | refine sg_load_rd rfl (rd_blk0_one 1 rfl rfl) rfl ?_)
            exact ex_ret2 rfl rfl rfl () rfl trivial (fun w hO => hO.front1.tail)
          · rw [if_neg hs0] at hgo
            repeat' (first | refine sg_wo ?_ | refine sg_ps (ps_move rfl) rfl ?_ | refine sg_ps (ps_assign rfl) rfl ?_ | refine sg_seq ?_ | refine sg_region ?_ | refine sg_nil ?_ | refine sg_then ?_ | refine sg_ps (ps_bin rfl rfl inferInstance) rfl ?_ | refine sg_ret ?_ | refine ex_then_ret ?_ | refine ex_block_ret ?_ | (refine sg_cond_ndec rfl (fun hg => ?_) (fun hg => ?_) <;> first | (exfalso; omega) | (exact absurd rfl hg) | skip))
            subst hgo
            exact ex_ret2 rfl rfl rfl () rfl trivial (fun w hO => PoolRep.shut hT hI (by unfold pcells; rw [hTl, hl']; exact Own.plIn (e := ⟨⟨id, bs, true, false, pn⟩, x, xa, xc, born⟩) (Own.back6 hO)))
      · rw [if_pos rfl] at hgo
        repeat' (first | refine sg_wo ?_ | refine sg_ps (ps_move rfl) rfl ?_ | refine sg_ps (ps_assign rfl) rfl ?_ | refine sg_seq ?_ | refine sg_region ?_ | refine sg_nil ?_ | refine sg_then ?_ | refine sg_ps (ps_fieldAddr rfl) rfl ?_ | refine sg_ps (ps_nilCheck rfl) rfl ?_ | refine sg_ps (ps_bin rfl rfl inferInstance) rfl ?_ | refine sg_cond_t rfl ?_ | refine sg_block ?_ | refine ex_block_normal ?_ | (refine sg_cond_dec rfl (fun hg => ?_) (fun hg => ?_) <;> first | (exfalso; omega) | (exact absurd rfl hg) | skip) | refine sg_load_rd rfl (rd_blk0_one 3 rfl rfl) rfl ?_ | refine sg_store0 [_, _, _] rfl rfl rfl (of_decide_eq_true rfl) ?_)
        refine sg_drawK [blk p [.iface 24 (dp bp), i64 S'.most, .slice (some ⟨b0, o0, none⟩) S.rows.length rc, .map (some m), i64 S'.hand]] [0, 1, 2, 3, 6, 7, 8, 4, 5, 9, 10, 11, 12, 13, 14] (by kernel_rfl) (by kernel_rfl) (fun w hO => hO.pick [0] (by decide)) ?_
        repeat' (first | refine sk_pure rfl rfl (ps_move rfl) rfl ?_ | refine sk_pure rfl rfl (ps_nilCheck rfl) rfl ?_ | refine sk_pure rfl rfl (ps_fieldAddr rfl) rfl ?_ | refine sk_pure rfl rfl (ps_add64 rfl rfl (by omega)) rfl ?_ | refine sk_pure rfl rfl (ps_len rfl) rfl ?_ | refine sk_load 0 rfl rfl rfl rfl rfl ?_)
        refine sk_pure rfl rfl (ps_rem rfl rfl (by omega)) rfl ?_
        repeat' (first | refine sk_pure rfl rfl (ps_nilCheck rfl) rfl ?_ | refine sk_pure rfl rfl (ps_fieldAddr rfl) rfl ?_ | refine sk_eff rfl rfl ?_ | refine sg_store [] rfl rfl rfl (of_decide_eq_true rfl) ?_)
        refine sk_end (by kernel_rfl) ?_
        repeat' (first | refine sk_nil ?_)
        repeat' (first | refine sg_wo ?_ | refine sg_ps (ps_move rfl) rfl ?_ | refine sg_region ?_ | refine sg_nil ?_ | refine sg_then ?_ | refine sg_ps (ps_add64 rfl rfl (by omega)) rfl ?_ | refine ex_block_normal ?_)
        have hT2 : (A ++ ⟨⟨id, bs, dt, false, pn⟩, x, xa, xc, born⟩ :: C).map (·.pl) = (rowSet S' S'.hand unuse).rows := by
          rw [← hA]; exact (modify_at unuse hT).symm
        have hl2 : (rowSet S' S'.hand unuse).rows.length = S.rows.length := by unfold rowSet; rw [List.length_modify]; exact hl'
        refine ex_mid (j + 1, rotS (rowSet S' S'.hand unuse)) ⟨by omega, by omega, by rw [hk1]; exact hgo, hl2, fun h => by simp only [rotS, hl2]; exact Nat.mod_lt _ h, fun y hy => ?_⟩ (.cons rfl (.cons rfl (.cons rfl (.cons rfl .nil)))) (fun w hO => ?_)
        · have hy2 : y ∈ (rowSet S' S'.hand unuse).rows := hy
          rw [← hT2, List.map_append, List.map_cons] at hy2
          rw [← hT, List.map_append, List.map_cons] at hb'
          rcases List.mem_append.1 hy2 with h | h
          · exact hb' y (by simp [h])
          · rcases List.mem_cons.1 h with rfl | h
            · exact hb' ⟨id, bs, dt, true, pn⟩ (by simp)
            · exact hb' y (by simp [h])
        · exact PoolRep.shut (S := rotS (rowSet S' S'.hand unuse)) (T := A ++ ⟨⟨id, bs, dt, false, pn⟩, x, xa, xc, born⟩ :: C) hT2 (hI.swap rfl rfl) (by
            unfold pcells
            rw [htm (rowSet S' S'.hand unuse) hl2, show (A ++ (⟨⟨id, bs, dt, false, pn⟩, x, xa, xc, born⟩ : PE) :: C).length = S.rows.length by rw [← hl2, ← hT2, List.length_map]]
            have hdp : (A ++ (⟨⟨id, bs, dt, false, pn⟩, x, xa, xc, born⟩ : PE) :: C).map PE.dp = (A ++ ⟨⟨id, bs, dt, true, pn⟩, x, xa, xc, born⟩ :: C).map PE.dp := by rw [List.map_append, List.map_append]; rfl
            have hme : (A ++ (⟨⟨id, bs, dt, false, pn⟩, x, xa, xc, born⟩ : PE) :: C).map PE.me = (A ++ ⟨⟨id, bs, dt, true, pn⟩, x, xa, xc, born⟩ :: C).map PE.me := by rw [List.map_append, List.map_append]; rfl
            rw [hdp, hme]
            exact Own.plIn (e := ⟨⟨id, bs, dt, false, pn⟩, x, xa, xc, born⟩) hO)
  · obtain rfl : j = 2 * S.rows.length := by omega
    rw [Nat.sub_self] at hgo
    refine PoolRep.open fun T ra rc m clk hT hI => ?_
    unfold pcells
    repeat' (first | refine sg_wo ?_ | refine sg_ps (ps_move rfl) rfl ?_ | refine sg_ps (ps_assign rfl) rfl ?_ | refine sg_seq ?_ | refine sg_region ?_ | refine sg_nil ?_ | refine sg_then ?_ | refine sg_ps (ps_fieldAddr rfl) rfl ?_ | refine sg_ps (ps_nilCheck rfl) rfl ?_ | refine sg_ps (ps_bin rfl rfl inferInstance) rfl ?_ | refine sg_ret ?_ | refine sg_exit ?_ | refine ex_then_exit ?_ | refine ex_block_hit ?_ | refine sg_store [] rfl rfl rfl (of_decide_eq_true rfl) ?_ | (refine sg_cond_dec rfl (fun hg => ?_) (fun hg => ?_) <;> first | (exfalso; omega) | (exact absurd rfl hg) | skip))
    rw [goL] at hgo
    subst hgo
    exact ex_ret2 rfl rfl rfl () rfl trivial (fun w hO => PoolRep.shut (S := { S' with hand := S.hand }) hT hI hO)
end Go.Proofs.Ytclehoaeppbmpaa
