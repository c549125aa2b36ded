/- The reference pool: Dirty. -/
import Derived.Test.YtclehoaeppbmpaaPR7
namespace Go.Proofs.Ytclehoaeppbmpaa
set_option linter.unusedVariables false
set_option linter.unusedSimpArgs false
set_option linter.unusedSectionVars false
set_option linter.unnecessarySimpa false
open Go Go.Proofs Go.Sort
def hole (D : List Int) (k : Nat) (h : Int) : List Int := D.take k ++ h :: D.drop k
theorem hole_len (D : List Int) (k : Nat) (h : Int) (hk : k ≤ D.length) : (hole D k h).length = D.length + 1 := by
  unfold hole
  rw [List.length_append, List.length_cons, List.length_take, List.length_drop]; omega
theorem hole_set (D : List Int) (k : Nat) (h v : Int) (hk : k ≤ D.length) : ((hole D k h).map u64).set (0 + k * 1) (u64 v) = (hole D k v).map u64 := by
  unfold hole
  have hl : ((D.take k).map u64).length = k := by rw [List.length_map, List.length_take]; omega
  rw [List.map_append, List.map_cons, List.map_append, List.map_cons, List.set_append, if_neg (by omega), show 0 + k * 1 - ((D.take k).map u64).length = 0 by omega]
  rfl
theorem hole_shift (D : List Int) (k : Nat) (hk : k < D.length) : hole D (k + 1) D[k] = hole D k D[k] := by
  unfold hole
  rw [List.take_succ_eq_append_getElem hk, List.append_assoc, List.drop_eq_getElem_cons hk]
  rfl
theorem hole_get (D : List Int) (k : Nat) (h : Int) (hk : k < D.length) : ((hole D (k + 1) h).map u64)[k]? = some (u64 D[k]) := by
  unfold hole
  rw [List.getElem?_map, List.getElem?_append_left (by rw [List.length_take]; omega), List.getElem?_take_of_lt (by omega), List.getElem?_eq_getElem hk]
  rfl
set_option maxRecDepth 20000
set_option maxHeartbeats 4000000
attribute [local irreducible] SG WC WO W1 WD WK PS Rd Tri Exit.then Exit.inBlock bodyPost calmQ Mid sadd
variable {W : World} {n : Nat} {F : Fr} {L : List HP} {G : Act → World → Prop}
theorem rdirty_tri (p bp : Nat) (S : PlS) (R : List HP) (hl : S.rows.length ≤ 100000) (T : List RE) (ra : Option Addr) (rc : Nat) (hT : T.map (·.pl) = S.rows) :
    Tri Try.prog W 31 [dp p] (blk p (rpc bp S T.length ra rc) :: sown ra T.length rc 5 (recs T) :: sepL (T.map RE.own) :: R) (X := Option Addr × Nat) (fun x => .slice x.1 (dirtyS S).length x.2) (fun _ => True) (fun x => sown x.1 (dirtyS S).length x.2 1 ((dirtyS S).map u64) :: blk p (rpc bp S T.length ra rc) :: sown ra T.length rc 5 (recs T) :: sepL (T.map RE.own) :: R) := by
  refine tri_enter1 Try.func31 rfl Try.ntmps31 rfl ?_
  have hTl : T.length = S.rows.length := by rw [← hT, List.length_map]
  unfold rpc
  repeat' (first | refine sg_wo ?_ | refine sg_ps (ps_assign rfl) rfl ?_ | refine sg_seq ?_ | refine sg_region ?_ | refine sg_nil ?_ | refine sg_then ?_ | refine sg_block ?_)
  refine sg_nil_own 1 ?_
  have hz : sortL (dirtyR (S.rows.take 0)) = [] := by rw [List.take_zero]; exact List.eq_nil_of_length_eq_zero (sortL_len _)
  refine sg_loop (γ := Nat × Option Addr × Nat) (fun g => g.1 ≤ T.length) (fun g => [(0, dp p), (3, .slice g.2.1 (sortL (dirtyR (S.rows.take g.1))).length g.2.2), (4, i64 g.1)])
    (fun g => sown g.2.1 (sortL (dirtyR (S.rows.take g.1))).length g.2.2 1 ((sortL (dirtyR (S.rows.take g.1))).map u64) :: blk p [dp bp, i64 S.most, .slice ra T.length rc, i64 S.hand] :: sown ra T.length rc 5 (recs T) :: sepL (T.map RE.own) :: R) (fun g => T.length - g.1) (0, none, 0)
    (Nat.zero_le _) (.cons rfl (.cons (by dsimp only; rw [hz]; rfl) (.cons rfl .nil))) (fun w hO => by dsimp only; rw [hz]; exact hO) ?_
  rintro ⟨i, xa, xc⟩ hi
  dsimp only at hi ⊢
  by_cases hil : i < T.length
  case neg =>
    have e : S.rows.take i = S.rows := List.take_of_length_le (by omega)
    rw [e]
    repeat' (first | refine sg_wo ?_ | refine sg_ps (ps_move rfl) rfl ?_ | refine sg_ps (ps_assign rfl) rfl ?_ | refine sg_seq ?_ | refine sg_region ?_ | refine sg_nil ?_ | refine sg_then ?_ | refine sg_ps (ps_fieldAddr rfl) rfl ?_ | refine sg_ps (ps_nilCheck rfl) rfl ?_ | refine sg_load 1 rfl rfl rfl rfl ?_ | refine sg_ps (ps_bin rfl rfl inferInstance) rfl ?_ | refine sg_ps (ps_len rfl) rfl ?_ | refine sg_ret ?_ | refine sg_exit ?_ | refine ex_then_exit ?_ | refine ex_block_hit ?_ | (refine sg_cond_dec rfl (fun hg => ?_) (fun hg => ?_) <;> first | (exfalso; omega) | (exact absurd rfl hg) | skip))
    exact ex_ret1 rfl rfl (xa, xc) rfl trivial (fun w hO => hO)
  have hDl : (sortL (dirtyR (S.rows.take i))).length ≤ 100000 := by
    rw [sortL_len]
    have := dirtyR_len (S.rows.take i)
    rw [List.length_take] at this
    omega
  obtain ⟨A, e, C, rfl, rfl⟩ := re_split hil
  have htk : dirtyR (S.rows.take (A.length + 1)) = if e.pl.dirty = true then dirtyR (S.rows.take A.length) ++ [e.pl.id] else dirtyR (S.rows.take A.length) := by
    have h1 : S.rows[A.length]? = some e.pl := by rw [← hT, List.map_append, List.map_cons, List.getElem?_append_right (by simp), List.length_map, Nat.sub_self]; rfl
    rw [List.take_add_one, h1]
    exact dirtyR_snoc _ _
  have hins := fun k => sortL_ins (l := dirtyR (S.rows.take A.length)) (x := e.pl.id) (k := k)
  refine sg_sownSome [_, _] (by omega) ?_
  rintro g rfl
  rw [List.cons_append, List.cons_append, List.nil_append]
  have hrr : ∀ (j : Nat) (L : List HP), L[j]? = some (sown (some ⟨g, 0, none⟩) (A ++ e :: C).length rc 5 (recs (A ++ e :: C))) → Rd W L (some ⟨g, 0 + A.length * 5, none⟩) e.cells := fun j L h => (rd_sown (vs := recs (A ++ e :: C)) j h fun _ _ h => h).rrow
  have hr0 := fun j L h => (hrr j L h).at (ws := [u64 e.pl.id]) 0 (fun q u hq => by match q, hq with | 0, hq => exact hq)
  have hr2 := fun j L h => (hrr j L h).at (ws := [.bool e.pl.dirty]) 2 (fun q u hq => by match q, hq with | 0, hq => exact hq)
  repeat' (first | refine sg_wo ?_ | refine sg_ps (ps_move rfl) rfl ?_ | refine sg_seq ?_ | refine sg_region ?_ | refine sg_nil ?_ | refine sg_then ?_ | refine sg_ps (ps_fieldAddr rfl) rfl ?_ | refine sg_ps (ps_nilCheck rfl) rfl ?_ | refine sg_load 1 rfl rfl rfl rfl ?_ | refine sg_ps (ps_bin rfl rfl inferInstance) rfl ?_ | refine sg_ps (ps_len rfl) rfl ?_ | refine sg_ps (ps_indexAddr rfl rfl rfl (by omega)) rfl ?_ | refine sg_block ?_ | refine sg_skip ?_ | (refine sg_cond_dec rfl (fun hg => ?_) (fun hg => ?_) <;> first | (exfalso; omega) | (exact absurd rfl hg) | skip))
  refine sg_load_rd rfl (hr2 2 _ rfl) rfl ?_
  cases hdt : e.pl.dirty with
  | false =>
    rw [hdt, if_neg (by decide)] at htk
    repeat' (first | refine sg_wo ?_ | refine sg_ps (ps_move rfl) rfl ?_ | refine sg_ps (ps_assign rfl) rfl ?_ | refine sg_region ?_ | refine sg_nil ?_ | refine sg_then ?_ | refine sg_ps (ps_add64 rfl rfl (by omega)) rfl ?_ | refine sg_ps (ps_not rfl) rfl ?_ | refine sg_cond_t rfl ?_ | refine sg_exit ?_ | refine ex_then_exit ?_ | refine ex_block_hit ?_)
    exact ex_mid (A.length + 1, xa, xc) ⟨by show _ - _ < _; dsimp only; omega, by dsimp only; omega⟩ (.cons rfl (.cons (by show some _ = some (Value.slice xa (sortL (dirtyR (S.rows.take (A.length + 1)))).length xc); rw [htk]) (.cons rfl .nil))) (fun w hO => by
      show Own W w (sown xa (sortL (dirtyR (S.rows.take (A.length + 1)))).length xc 1 ((sortL (dirtyR (S.rows.take (A.length + 1)))).map u64) :: _)
      rw [htk]; exact hO)
  | true =>
    rw [hdt, if_pos rfl] at htk
    repeat' (first | refine sg_wo ?_ | refine sg_ps (ps_move rfl) rfl ?_ | refine sg_ps (ps_assign rfl) rfl ?_ | refine sg_seq ?_ | refine sg_region ?_ | refine sg_nil ?_ | refine sg_then ?_ | refine sg_ps (ps_not rfl) rfl ?_ | refine sg_cond_f rfl ?_ | refine sg_ps (ps_len rfl) rfl ?_ | refine sg_skip ?_)
    refine sg_buildSlice1 (vs := [u64 0]) rfl (of_decide_eq_true rfl) rfl rfl rfl (fun b1 => ?_)
    refine sg_front1 ?_
    repeat' (first | refine sg_wo ?_)
    refine sg_append (news := [u64 0]) rfl rfl rfl rfl (u64_one [0]) (rd_blk 1 rfl fun j u hj => by rw [Nat.zero_add]; exact hj) (by simp only [maxLen]; omega) (by omega) fun a' c' => ?_
    have hne : (sortL (dirtyR (S.rows.take (A.length + 1)))).length = (sortL (dirtyR (S.rows.take A.length))).length + 1 := by rw [htk, sortL_len, sortL_len, List.length_append]; rfl
    have hres := fun k h1 h2 h3 => (hins k h1 h2 h3).trans (congrArg sortL htk.symm)
    generalize hD2 : sortL (dirtyR (S.rows.take (A.length + 1))) = D2 at hne hres
    generalize sortL (dirtyR (S.rows.take A.length)) = D at hDl hne hres ⊢
    refine sg_sownSome [] (by omega) ?_
    rintro g2 rfl
    rw [List.nil_append]
    repeat' (first | refine sg_wo ?_ | refine sg_ps (ps_assign rfl) rfl ?_ | refine sg_seq ?_ | refine sg_nil ?_ | refine sg_then ?_ | refine sg_block ?_)
    refine sg_loop (γ := Nat × Int) (fun q => q.1 ≤ D.length ∧ ∀ y ∈ D.drop q.1, e.pl.id < y) (fun q => [(0, dp p), (3, .slice (some ⟨g2, 0, none⟩) (D.length + 1) c'), (4, i64 A.length), (5, i64 q.1)])
      (fun q => sown (some ⟨g2, 0, none⟩) (D.length + 1) c' 1 ((hole D q.1 q.2).map u64) :: blk p [dp bp, i64 S.most, .slice (some ⟨g, 0, none⟩) (A ++ e :: C).length rc, i64 S.hand] :: sown (some ⟨g, 0, none⟩) (A ++ e :: C).length rc 5 (recs (A ++ e :: C)) :: sepL ((A ++ e :: C).map RE.own) :: R) (fun q => q.1) (D.length, 0)
      ⟨Nat.le_refl _, by simp⟩ (.cons rfl (.cons rfl (.cons rfl (.cons rfl .nil)))) (fun w hO => ?_) ?_
    · dsimp only
      unfold hole
      rw [List.take_length, List.drop_length, List.map_append]
      exact Own.pickA [_, _] hO [0] (by decide)
    rintro ⟨k, h⟩ ⟨hk, hgt⟩
    dsimp only at hk hgt ⊢
    have hhl := hole_len D k h hk
    have hset := fun v => hole_set D k h v hk
    have hfin : ∀ w v, (k = 0 ∨ ∃ y, D[k - 1]? = some y ∧ y ≤ e.pl.id) → v = e.pl.id → Own W w (sown (some ⟨g2, 0, none⟩) (D.length + 1) c' 1 ((hole D k v).map u64) :: blk p [dp bp, i64 S.most, .slice (some ⟨g, 0, none⟩) (A ++ e :: C).length rc, i64 S.hand] :: sown (some ⟨g, 0, none⟩) (A ++ e :: C).length rc 5 (recs (A ++ e :: C)) :: sepL ((A ++ e :: C).map RE.own) :: R) →
        Own W w (sown (some ⟨g2, 0, none⟩) D2.length c' 1 (D2.map u64) :: blk p [dp bp, i64 S.most, .slice (some ⟨g, 0, none⟩) (A ++ e :: C).length rc, i64 S.hand] :: sown (some ⟨g, 0, none⟩) (A ++ e :: C).length rc 5 (recs (A ++ e :: C)) :: sepL ((A ++ e :: C).map RE.own) :: R) := fun w v h1 hv hO => by
      subst hv
      rw [hne, ← hres k hk h1 hgt]
      exact hO
    rcases k with _ | k
    · skip
      repeat' (first | refine sg_seq ?_)
      refine sg_drawK [blk p [dp bp, i64 S.most, .slice (some ⟨g, 0, none⟩) (A ++ e :: C).length rc, i64 S.hand]] [0, 1, 2, 3, 4, 5, 6, 8, 9, 10, 12, 7, 11, 13, 14, 15, 16, 17] (by kernel_rfl) (by kernel_rfl) (fun w hO => hO.pick [1] (by decide)) ?_
      repeat' (first | refine sk_nil ?_ | refine sk_pure rfl rfl (ps_move rfl) rfl ?_ | refine sk_pure rfl rfl (ps_bin rfl rfl inferInstance) rfl ?_ | refine sk_pure rfl rfl (ps_pick_f rfl rfl) rfl ?_ | refine sk_no rfl rfl rfl rfl rfl ?_)
      repeat' (first | refine sg_wo ?_ | refine sg_ps (ps_move rfl) rfl ?_ | refine sg_region ?_ | refine sg_then ?_ | refine sg_ps (ps_fieldAddr rfl) rfl ?_ | refine sg_ps (ps_nilCheck rfl) rfl ?_ | refine sg_load 1 rfl rfl rfl rfl ?_ | refine sg_cond_f rfl ?_ | refine sg_ps (ps_indexAddr rfl rfl rfl (by omega)) rfl ?_ | refine sg_exit ?_ | refine ex_then_exit ?_ | refine ex_block_hit ?_)
      refine sg_load_rd rfl (hr0 2 _ rfl) rfl ?_
      repeat' (first | refine sg_wo ?_ | refine sg_ps (ps_indexAddr rfl rfl rfl (by omega)) rfl ?_)
      refine sg_store_sown [] rfl rfl rfl (by rw [List.length_map, hhl]; omega) ?_
      rw [hset]
      repeat' (first | refine sg_wo ?_ | refine sg_ps (ps_move rfl) rfl ?_ | refine sg_ps (ps_assign rfl) rfl ?_ | refine sg_region ?_ | refine sg_nil ?_ | refine sg_then ?_ | refine sg_ps (ps_add64 rfl rfl (by omega)) rfl ?_ | refine ex_block_normal ?_)
      exact ex_mid (A.length + 1, some ⟨g2, 0, none⟩, c') ⟨by show _ - _ < _; dsimp only; omega, by dsimp only; omega⟩ (.cons rfl (.cons (by dsimp only; rw [hD2, hne]; rfl) (.cons rfl .nil))) (fun w hO => by dsimp only; rw [hD2]; exact hfin w _ (.inl rfl) rfl hO)
    · have hkD : k < D.length := by omega
      have hget := hole_get D k h hkD
      have hsh := hole_shift D k hkD
      have hk1 : D[k + 1 - 1]? = some D[k] := by rw [Nat.add_sub_cancel, List.getElem?_eq_getElem hkD]
      have hdr : D.drop k = D[k] :: D.drop (k + 1) := List.drop_eq_getElem_cons hkD
      have hy : ∀ (j : Nat) (L : List HP), L[j]? = some (sown (some ⟨g2, 0, none⟩) (D.length + 1) c' 1 ((hole D (k + 1) h).map u64)) → Rd W L (some ⟨g2, 0 + ((((k + 1 : Nat) : Int) - 1).toNat) * 1, none⟩) [u64 D[k]] := fun j L hj => by
        rw [show (((k + 1 : Nat) : Int) - 1).toNat = k by omega]
        exact (rd_sown j hj fun _ _ h => h).get k hget
      generalize D[k] = y at hy hsh hk1 hdr
      repeat' (first | refine sg_seq ?_)
      refine sg_drawK [sown (some ⟨g2, 0, none⟩) (D.length + 1) c' 1 ((hole D (k + 1) h).map u64), blk p [dp bp, i64 S.most, .slice (some ⟨g, 0, none⟩) (A ++ e :: C).length rc, i64 S.hand], sown (some ⟨g, 0, none⟩) (A ++ e :: C).length rc 5 (recs (A ++ e :: C))] [0, 1, 2, 3, 4, 5, 6, 8, 9, 10, 12, 7, 11, 13, 14, 15, 16, 17] (by kernel_rfl) (by kernel_rfl) (fun w hO => hO.pick [0, 1, 2] (by decide)) ?_
      repeat' (first | refine sk_pure rfl rfl (ps_move rfl) rfl ?_ | refine sk_pure rfl rfl (ps_bin rfl rfl inferInstance) rfl ?_ | refine sk_pure_g rfl rfl rfl rfl (ps_move rfl) rfl ?_ | refine sk_pure_g rfl rfl rfl rfl (ps_sub64 rfl rfl (by omega)) rfl ?_ | (refine sk_dec rfl rfl rfl rfl (fun hg => ?_) (fun hg => ?_) <;> first | (exfalso; omega) | (exact absurd rfl hg) | skip))
      refine sk_pure_g rfl rfl rfl rfl (ps_indexAddrI rfl rfl (by omega) (by omega)) rfl ?_
      repeat' (first | refine sk_pure_g rfl rfl rfl rfl (ps_move rfl) rfl ?_ | refine sk_pure_g rfl rfl rfl rfl (ps_nilCheck rfl) rfl ?_ | refine sk_pure_g rfl rfl rfl rfl (ps_fieldAddr rfl) rfl ?_)
      first
        | refine sk_load_rd_g rfl rfl rfl rfl (hy 0 _ rfl) rfl ?_
        | refine sk_load_rd_g rfl rfl rfl rfl (hr0 2 _ rfl) rfl ?_
      repeat' (first | refine sk_pure_g rfl rfl rfl rfl (ps_fieldAddr rfl) rfl ?_ | refine sk_pure_g rfl rfl rfl rfl (ps_indexAddr rfl rfl rfl (by omega)) rfl ?_ | refine sk_load_g 1 rfl rfl rfl rfl rfl rfl rfl ?_)
      first
        | refine sk_load_rd_g rfl rfl rfl rfl (hy 0 _ rfl) rfl ?_
        | refine sk_load_rd_g rfl rfl rfl rfl (hr0 2 _ rfl) rfl ?_
      repeat' (first | refine sk_nil ?_ | refine sk_pure rfl rfl (ps_pick_t rfl rfl) rfl ?_ | refine sk_pure_g rfl rfl rfl rfl (ps_bin rfl rfl inferInstance) rfl ?_)
      repeat' (first | refine sg_wo ?_ | refine sg_ps (ps_move rfl) rfl ?_ | refine sg_seq ?_ | refine sg_region ?_ | refine sg_then ?_ | refine sg_ps (ps_fieldAddr rfl) rfl ?_ | refine sg_ps (ps_nilCheck rfl) rfl ?_ | refine sg_load 1 rfl rfl rfl rfl ?_ | refine sg_ps (ps_sub64 rfl rfl (by omega)) rfl ?_ | refine sg_ps (ps_indexAddr rfl rfl rfl (by omega)) rfl ?_ | refine sg_block ?_ | refine sg_skip ?_ | refine sg_exit ?_ | refine ex_then_exit ?_ | refine ex_block_hit ?_ | (refine sg_cond_dec rfl (fun hg => ?_) (fun hg => ?_) <;> first | (exfalso; omega) | (exact absurd rfl hg) | skip))
      · refine sg_ps (ps_indexAddrI rfl rfl (by omega) (by omega)) rfl ?_
        repeat' (first | refine sg_wo ?_)
        refine sg_load_rd rfl (hy 0 _ rfl) rfl ?_
        repeat' (first | refine sg_wo ?_ | refine sg_ps (ps_indexAddr rfl rfl rfl (by omega)) rfl ?_)
        refine sg_store_sown [] rfl rfl rfl (by rw [List.length_map, hhl]; omega) ?_
        rw [hset, hsh]
        repeat' (first | refine sg_wo ?_ | refine sg_ps (ps_move rfl) rfl ?_ | refine sg_ps (ps_assign rfl) rfl ?_ | refine sg_region ?_ | refine sg_nil ?_ | refine sg_then ?_ | refine sg_ps (ps_sub64 rfl rfl (by omega)) rfl ?_ | refine ex_block_normal ?_)
        exact ex_mid (k, y) ⟨by show k < k + 1; omega, by show k ≤ D.length; omega, fun y' hy' => by
          dsimp only at hy'
          rw [hdr] at hy'
          rcases List.mem_cons.1 hy' with rfl | hy'
          · omega
          · exact hgt y' hy'⟩ (.cons rfl (.cons rfl (.cons rfl (.cons (congrArg (fun z => some (Value.int .i64 z)) (by omega : ((k + 1 : Nat) : Int) - 1 = (k : Int))) .nil)))) (fun w hO => hO)
      · refine sg_load_rd rfl (hr0 2 _ rfl) rfl ?_
        repeat' (first | refine sg_wo ?_ | refine sg_ps (ps_indexAddr rfl rfl rfl (by omega)) rfl ?_)
        refine sg_store_sown [] rfl rfl rfl (by rw [List.length_map, hhl]; omega) ?_
        rw [hset]
        repeat' (first | refine sg_wo ?_ | refine sg_ps (ps_move rfl) rfl ?_ | refine sg_ps (ps_assign rfl) rfl ?_ | refine sg_region ?_ | refine sg_nil ?_ | refine sg_then ?_ | refine sg_ps (ps_add64 rfl rfl (by omega)) rfl ?_ | refine ex_block_normal ?_)
        exact ex_mid (A.length + 1, some ⟨g2, 0, none⟩, c') ⟨by show _ - _ < _; dsimp only; omega, by dsimp only; omega⟩ (.cons rfl (.cons (by dsimp only; rw [hD2, hne]; rfl) (.cons rfl .nil))) (fun w hO => by dsimp only; rw [hD2]; exact hfin w _ (.inr ⟨y, hk1, by omega⟩) rfl hO)
end Go.Proofs.Ytclehoaeppbmpaa
