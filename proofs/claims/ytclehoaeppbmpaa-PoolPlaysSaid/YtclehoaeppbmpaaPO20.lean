/- Package pool: Dirty. -/
import Derived.Test.YtclehoaeppbmpaaPO19
import Derived.Test.YtclehoaeppbmpaaSORT
import Derived.Test.YtclehoaeppbmpaaPV
namespace Go.Proofs.Ytclehoaeppbmpaa
set_option linter.unusedVariables false
set_option linter.unusedSimpArgs false
set_option linter.unusedSectionVars false
set_option linter.unnecessarySimpa false
open Go Go.Proofs Go.Sort
def dirtyR (l : List Pl) : List Int := (l.filter (·.dirty)).map (·.id)
theorem dirtyR_snoc (l : List Pl) (r : Pl) : dirtyR (l ++ [r]) = if r.dirty = true then dirtyR l ++ [r.id] else dirtyR l := by
  unfold dirtyR
  rw [List.filter_append, List.map_append]
  cases h : r.dirty <;> simp [h]
theorem dirtyR_len (l : List Pl) : (dirtyR l).length ≤ l.length := by
  unfold dirtyR
  rw [List.length_map]; exact List.length_filter_le _ _
def dirtyS (S : PlS) : List Int := sortL (dirtyR S.rows)
theorem dirtyS_len (S : PlS) : (dirtyS S).length = (dirtyR S.rows).length := sortL_len _
set_option maxRecDepth 20000
set_option maxHeartbeats 4000000
attribute [local irreducible] SG WC WO W1 WD WK PS Rd Tri Exit.then Exit.inBlock bodyPost calmQ Mid sadd
variable {W : World} {n : Nat} {F : Fr} {L : List HP} {G : Act → World → Prop}
theorem pdirty_tri (p bp : Nat) (S : PlS) (R : List HP) (hl : S.rows.length ≤ bigN) :
    Tri Try.prog W 15 [dp p] (PoolRep p bp S :: R) (X := Option Addr × Nat) (fun x => .slice x.1 (dirtyS S).length x.2) (fun _ => True) (fun x => sown x.1 (dirtyS S).length x.2 1 ((dirtyS S).map u64) :: PoolRep p bp S :: R) := by
  have hl2 := hl
  unfold bigN at hl2
  refine tri_enter1 Try.func15 rfl Try.ntmps15 rfl ?_
  refine PoolRep.open fun T ra rc m clk hT hI => ?_
  have hTl : T.length = S.rows.length := by rw [← hT, List.length_map]
  unfold pcells
  rw [hTl]
  refine sg_seq ?_
  repeat' (first | refine sg_wo ?_ | refine sg_ps (ps_assign rfl) rfl ?_ | refine sg_region ?_ | refine sg_nil ?_ | refine sg_then ?_)
  refine sg_seq ?_
  repeat' (first | refine sg_wo ?_ | refine sg_ps (ps_assign rfl) rfl ?_ | refine sg_region ?_ | refine sg_nil ?_ | refine sg_then ?_)
  refine sg_seq_mid (γ := Option Addr × Nat) (fun _ => True) (fun x => [(3, .slice x.1 (dirtyR S.rows).length x.2)]) (fun x => sown x.1 (dirtyR S.rows).length x.2 1 ((dirtyR S.rows).map u64) :: PoolRep p bp S :: R) ?_ ?_
  · skip
    repeat' (first | refine sg_wo ?_ | refine sg_ps (ps_move rfl) rfl ?_ | refine sg_seq ?_ | refine sg_region ?_ | refine sg_nil ?_ | refine sg_then ?_ | refine sg_ps (ps_fieldAddr rfl) rfl ?_ | refine sg_ps (ps_nilCheck rfl) rfl ?_ | refine sg_load 0 rfl rfl rfl rfl ?_ | refine sg_ps (ps_len rfl) rfl ?_ | refine sg_block ?_)
    refine sg_loop (γ := Nat × Option Addr × Nat) (fun x => x.1 ≤ S.rows.length) (fun x => [(3, .slice x.2.1 (dirtyR (S.rows.take x.1)).length x.2.2), (9, .slice ra S.rows.length rc), (10, i64 S.rows.length), (11, i64 x.1)])
      (fun x => sown x.2.1 (dirtyR (S.rows.take x.1)).length x.2.2 1 ((dirtyR (S.rows.take x.1)).map u64) :: blk p [.iface 24 (dp bp), i64 S.most, .slice ra S.rows.length rc, .map (some m), i64 S.hand] :: sown ra S.rows.length rc 1 (T.map PE.dp) :: mapc .u64 m (T.map PE.me) clk :: sepL (T.map PE.own) :: R)
      (fun x => S.rows.length - x.1) (0, none, 0) (Nat.zero_le _) (.cons rfl (.cons rfl (.cons rfl (.cons rfl .nil)))) (fun w hO => own_nil hO) ?_
    rintro ⟨i, a, c⟩ hi
    dsimp only at hi ⊢
    by_cases hil : i < S.rows.length
    · have hil2 : i < T.length := by omega
      obtain ⟨A, e, C, hTe, hA⟩ : ∃ A e C, T = A ++ e :: C ∧ A.length = i := by
        obtain ⟨A, C, h1, h2⟩ := at_split (List.getElem?_eq_getElem hil2)
        exact ⟨A, T[i], C, h1, h2⟩
      have hrow : S.rows[i] = e.pl := by
        have h1 : S.rows[i]? = some e.pl := by rw [← hT, hTe, List.map_append, List.map_cons, List.getElem?_append_right (by simp; omega), List.length_map, hA, Nat.sub_self]; rfl
        exact (List.getElem?_eq_some_iff.1 h1).2
      have htk : dirtyR (S.rows.take (i + 1)) = if e.pl.dirty = true then dirtyR (S.rows.take i) ++ [e.pl.id] else dirtyR (S.rows.take i) := by
        rw [List.take_add_one, List.getElem?_eq_getElem hil, hrow]
        exact dirtyR_snoc _ _
      have hdl := dirtyR_len (S.rows.take i)
      rw [List.length_take] at hdl
      have hrd : Rd W (sown a (dirtyR (S.rows.take i)).length c 1 ((dirtyR (S.rows.take i)).map u64) :: blk p [.iface 24 (dp bp), i64 S.most, .slice ra S.rows.length rc, .map (some m), i64 S.hand] :: sown ra S.rows.length rc 1 (T.map PE.dp) :: mapc .u64 m (T.map PE.me) clk :: sepL (T.map PE.own) :: R) ra (T.map PE.dp) := rd_sown 2 rfl fun _ _ h => h
      refine sg_rd_some hrd (by rw [hTe]; simp) fun b0 o0 ha => ?_
      subst ha
      have hra := hrd.at (ws := [e.dp]) (i * 1) (fun q u hq => by
        match q, hq with
        | 0, hq => rw [hTe, ← hA]; simp at hq; subst hq; simp)
      repeat' (first | refine sg_wo ?_ | refine sg_seq ?_ | refine sg_region ?_ | refine sg_nil ?_ | refine sg_then ?_ | refine sg_ps (ps_bin rfl rfl inferInstance) rfl ?_ | refine sg_ps (ps_indexAddr rfl rfl rfl (by omega)) rfl ?_ | refine sg_block ?_ | refine sg_skip ?_ | (refine sg_cond_dec rfl (fun hg => ?_) (fun hg => ?_) <;> first | (exfalso; omega) | (exact absurd rfl hg) | skip))
      refine sg_load_rd rfl hra rfl ?_
      rw [show e.dp = .pointer (some ⟨e.ptr, 0, none⟩) from rfl]
      obtain ⟨LA, hLA⟩ : ∃ LA, LA = sown a (dirtyR (S.rows.take i)).length c 1 ((dirtyR (S.rows.take i)).map u64) := ⟨_, rfl⟩
      rw [← hLA]
      refine sg_own (L' := blk p [.iface 24 (dp bp), i64 S.most, .slice (some ⟨b0, o0, none⟩) S.rows.length rc, .map (some m), i64 S.hand] :: sown (some ⟨b0, o0, none⟩) S.rows.length rc 1 (T.map PE.dp) :: mapc .u64 m (T.map PE.me) clk :: blk0 e.ptr e.cells :: sown e.a e.pl.bs.length e.c 1 (e.pl.bs.map bv) :: sepL ((A ++ C).map PE.own) :: LA :: R) (fun w hO => by
        have k0 := Own.pickA [_, _, _, _, _] hO [1, 2, 3, 4, 0] (by decide)
        rw [hTe] at k0 ⊢
        exact Own.plOut k0) ?_
      have hback : ∀ w X, Own W w (blk p [.iface 24 (dp bp), i64 S.most, .slice (some ⟨b0, o0, none⟩) S.rows.length rc, .map (some m), i64 S.hand] :: sown (some ⟨b0, o0, none⟩) S.rows.length rc 1 (T.map PE.dp) :: mapc .u64 m (T.map PE.me) clk :: blk0 e.ptr e.cells :: sown e.a e.pl.bs.length e.c 1 (e.pl.bs.map bv) :: sepL ((A ++ C).map PE.own) :: X :: R) →
          Own W w (X :: blk p [.iface 24 (dp bp), i64 S.most, .slice (some ⟨b0, o0, none⟩) S.rows.length rc, .map (some m), i64 S.hand] :: sown (some ⟨b0, o0, none⟩) S.rows.length rc 1 (T.map PE.dp) :: mapc .u64 m (T.map PE.me) clk :: sepL (T.map PE.own) :: R) := fun w X hO => by
        have k1 := Own.plIn hO
        rw [← hTe] at k1
        exact Own.pickA [_, _, _, _, _] k1 [4, 0, 1, 2, 3] (by decide)
      unfold PE.cells at hback ⊢
      cases hdt : e.pl.dirty with
      | false =>
        rw [hdt, if_neg (by decide)] at htk
        rw [hdt] at hback
        repeat' (first | refine sg_wo ?_ | refine sg_ps (ps_move rfl) rfl ?_ | refine sg_ps (ps_assign rfl) rfl ?_ | refine sg_seq ?_ | refine sg_region ?_ | refine sg_nil ?_ | refine sg_then ?_ | refine sg_ps (ps_fieldAddr rfl) rfl ?_ | refine sg_ps (ps_nilCheck rfl) rfl ?_ | refine sg_ps (ps_add64 rfl rfl (by omega)) rfl ?_ | refine sg_cond_f rfl ?_ | refine sg_skip ?_ | refine ex_block_normal ?_ | refine sg_load_rd rfl (rd_blk0_one 3 rfl rfl) rfl ?_)
        exact ex_mid (i + 1, a, c) ⟨by show S.rows.length - (i + 1) < S.rows.length - i; omega, by show i + 1 ≤ S.rows.length; omega⟩ (.cons (by show some _ = some (Value.slice a (dirtyR (S.rows.take (i + 1))).length c); rw [htk]) (.cons rfl (.cons rfl (.cons rfl .nil)))) (fun w hO => by
          show Own W w (sown a (dirtyR (S.rows.take (i + 1))).length c 1 ((dirtyR (S.rows.take (i + 1))).map u64) :: _)
          rw [htk, ← hLA]; exact hback w LA hO)
      | true =>
        rw [hdt, if_pos rfl] at htk
        rw [hdt] at hback
        repeat' (first | refine sg_wo ?_ | refine sg_ps (ps_move rfl) rfl ?_ | refine sg_ps (ps_assign rfl) rfl ?_ | refine sg_seq ?_ | refine sg_region ?_ | refine sg_nil ?_ | refine sg_then ?_ | refine sg_ps (ps_fieldAddr rfl) rfl ?_ | refine sg_ps (ps_nilCheck rfl) rfl ?_ | refine sg_cond_t rfl ?_ | refine sg_load_rd rfl (rd_blk0_one 3 rfl rfl) rfl ?_)
        refine sg_buildSlice1 (vs := [u64 e.pl.id]) rfl (of_decide_eq_true rfl) rfl rfl rfl (fun b1 => ?_)
        refine sg_own (L' := sown a (dirtyR (S.rows.take i)).length c 1 ((dirtyR (S.rows.take i)).map u64) :: blk b1 [u64 e.pl.id] :: blk p [.iface 24 (dp bp), i64 S.most, .slice (some ⟨b0, o0, none⟩) S.rows.length rc, .map (some m), i64 S.hand] :: sown (some ⟨b0, o0, none⟩) S.rows.length rc 1 (T.map PE.dp) :: mapc .u64 m (T.map PE.me) clk :: blk0 e.ptr [u64 e.pl.id, .slice e.a e.pl.bs.length e.c, .bool true, .bool e.pl.used, i64 e.pl.pins] :: sown e.a e.pl.bs.length e.c 1 (e.pl.bs.map bv) :: sepL ((A ++ C).map PE.own) :: R) (fun w hO => by
          rw [hLA] at hO
          exact Own.pickA [_, _, _, _, _, _, _, _] hO [7, 0, 1, 2, 3, 4, 5, 6] (by decide)) ?_
        repeat' (first | refine sg_wo ?_)
        refine sg_append (news := [u64 e.pl.id]) rfl rfl rfl rfl (u64_one [e.pl.id]) (rd_blk 1 rfl fun j u hj => by rw [Nat.zero_add]; exact hj) (by simp only [maxLen]; omega) (by omega) fun a' c' => ?_
        repeat' (first | refine sg_wo ?_ | refine sg_ps (ps_move rfl) rfl ?_ | refine sg_ps (ps_assign rfl) rfl ?_ | refine sg_region ?_ | refine sg_nil ?_ | refine sg_then ?_ | refine sg_ps (ps_add64 rfl rfl (by omega)) rfl ?_ | refine ex_block_normal ?_)
        have hl3 : (dirtyR (S.rows.take (i + 1))).length = (dirtyR (S.rows.take i)).length + 1 := by rw [htk, List.length_append]; rfl
        exact ex_mid (i + 1, a', c') ⟨by show S.rows.length - (i + 1) < S.rows.length - i; omega, by show i + 1 ≤ S.rows.length; omega⟩ (.cons (by show some _ = some (Value.slice a' (dirtyR (S.rows.take (i + 1))).length c'); rw [hl3]) (.cons rfl (.cons rfl (.cons rfl .nil)))) (fun w hO => by
          show Own W w (sown a' (dirtyR (S.rows.take (i + 1))).length c' 1 ((dirtyR (S.rows.take (i + 1))).map u64) :: _)
          rw [hl3, htk, List.map_append]
          exact hback w _ (Own.pickA [_, _, _, _, _, _, _, _] hO [2, 3, 4, 5, 6, 7, 0] (by decide)))
    · obtain rfl : i = S.rows.length := by omega
      rw [List.take_length]
      repeat' (first | refine sg_wo ?_ | refine sg_seq ?_ | refine sg_region ?_ | refine sg_nil ?_ | refine sg_then ?_ | refine sg_ps (ps_bin rfl rfl inferInstance) rfl ?_ | refine sg_exit ?_ | refine ex_then_exit ?_ | refine ex_block_hit ?_ | (refine sg_cond_dec rfl (fun hg => ?_) (fun hg => ?_) <;> first | (exfalso; omega) | (exact absurd rfl hg) | skip))
      exact ex_mid (a, c) trivial (.cons rfl .nil) (fun w hO => by
        have k1 : Own W w (PoolRep p bp S :: _) := PoolRep.shut hT hI (by unfold pcells; rw [hTl]; exact hO.back4)
        exact k1.front1)
  rintro ⟨a, c⟩ -
  dsimp only
  have hdl := dirtyR_len S.rows
  have hsl : (dirtyS S).length = (dirtyR S.rows).length := dirtyS_len S
  repeat' (first | refine sg_wo ?_ | refine sg_ps (ps_move rfl) rfl ?_ | refine sg_seq ?_ | refine sg_region ?_)
  refine sg_call (sorts_tri a (dirtyR S.rows) c _ (by unfold bigN; omega)) rfl rfl (fun _ _ => ?_)
  repeat' (first | refine sg_wo ?_ | refine sg_ps (ps_move rfl) rfl ?_ | refine sg_ps (ps_assign rfl) rfl ?_ | refine sg_seq ?_ | refine sg_region ?_ | refine sg_nil ?_ | refine sg_then ?_ | refine sg_ret ?_)
  refine ex_ret1 rfl rfl (a, c) ?_ trivial (fun w hO => ?_)
  · show Value.slice a (dirtyR S.rows).length c = Value.slice a (dirtyS S).length c
    rw [hsl]
  · show Own W w (sown a (dirtyS S).length c 1 ((dirtyS S).map u64) :: _)
    rw [hsl]; exact hO
end Go.Proofs.Ytclehoaeppbmpaa
