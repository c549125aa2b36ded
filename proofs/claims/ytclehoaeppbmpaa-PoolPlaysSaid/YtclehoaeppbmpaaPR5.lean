/- The reference pool: Put. -/
import Derived.Test.YtclehoaeppbmpaaPR4
namespace Go.Proofs.Ytclehoaeppbmpaa
set_option linter.unusedVariables false
set_option linter.unusedSimpArgs false
set_option linter.unusedSectionVars false
set_option linter.unnecessarySimpa false
open Go Go.Proofs
set_option maxRecDepth 20000
set_option maxHeartbeats 4000000
attribute [local irreducible] SG WC WO W1 WD WK PS Rd Tri Exit.then Exit.inBlock bodyPost calmQ Mid sadd
variable {W : World} {n : Nat} {F : Fr} {L : List HP} {G : Act → World → Prop}
theorem rput_tri {N : Nat} (p bp : Nat) (S : PlS) (B : BkS) (id : Int) (bs : List UInt8) (xa : Option Addr) (xc : Nat) (R : List HP) (hF : Fit S B N) (hN : N + 1 ≤ 100000) (hbl : bs.length ≤ bigB) (hP : AllR pos0 S) (hr : ∀ L, Rd W (L ++ R) xa (bs.map bv)) :
    Tri Try.prog W 23 [dp p, u64 id, .slice xa bs.length xc] (RPool p bp S :: BackRep bp B :: R) (X := Unit) (fun _ => .tuple #[]) (fun _ => True) (fun _ => RPool p bp (putP S B id bs).1 :: BackRep bp (putP S B id bs).2 :: R) := by
  have hSl : S.rows.length ≤ 100000 := (hF.ok (by omega)).len
  refine tri_enter3 Try.func23 rfl Try.ntmps23 rfl ?_
  have hpf := fill_fit (id := id) (bs := bs) hF hbl
  have hpa := putAt_all (id := id) hP
  have hpl := putAt_lt S id
  have hgoal : putP S B id bs = roomS (rowSet (putAt S id).2 (putAt S id).1 (fill bs)) B := rfl
  obtain ⟨i, S', hput⟩ : ∃ i S', putAt S id = (i, S') := ⟨_, _, rfl⟩
  rw [hgoal]
  rw [hput] at hpf hpa hpl ⊢
  dsimp only at hpf hpa hpl ⊢
  refine sg_seq ?_
  repeat' (first | refine sg_wo ?_ | refine sg_ps (ps_move rfl) rfl ?_ | refine sg_region ?_)
  refine sg_call (rat_tri p bp S id _ (by omega)) rfl rfl (fun _ _ => ?_)
  repeat' (first | refine sg_wo ?_ | refine sg_ps (ps_assign rfl) rfl ?_ | refine sg_nil ?_ | refine sg_then ?_)
  refine sg_seq_mid (γ := Unit) (fun _ => True) (fun _ => [(0, dp p), (2, .slice xa bs.length xc), (6, i64 i)]) (fun _ => RPool p bp S' :: BackRep bp B :: R) ?_ ?_
  · refine sg_seq ?_
    cases hat : atP S.rows id 0 with
    | some k =>
      have hpu : putAt S id = (k, S) := by unfold putAt; rw [hat]
      rw [hput] at hpu
      simp only [Prod.mk.injEq] at hpu
      obtain ⟨rfl, rfl⟩ := hpu
      show SG W _ ((6, i64 (i : Int)) :: _) _ _
      repeat' (first | refine sg_wo ?_ | refine sg_ps (ps_move rfl) rfl ?_ | refine sg_region ?_ | refine sg_nil ?_ | refine sg_then ?_ | refine sg_ps (ps_bin rfl rfl inferInstance) rfl ?_ | refine sg_cond_f rfl ?_ | refine sg_skip ?_)
      exact ex_mid () trivial (.cons rfl (.cons rfl (.cons rfl .nil))) (fun w hO => hO)
    | none =>
      have hpu : putAt S id = (S.rows.length, comeS S id []) := by unfold putAt; rw [hat]
      rw [hput] at hpu
      simp only [Prod.mk.injEq] at hpu
      obtain ⟨rfl, rfl⟩ := hpu
      show SG W _ ((6, i64 (-1)) :: _) _ _
      refine RPool.open fun T ra rc hT => ?_
      have hTl : T.length = S.rows.length := by rw [← hT, List.length_map]
      unfold rpc
      repeat' (first | refine sg_wo ?_ | refine sg_ps (ps_move rfl) rfl ?_ | refine sg_seq ?_ | refine sg_region ?_ | refine sg_nil ?_ | refine sg_then ?_ | refine sg_ps (ps_fieldAddr rfl) rfl ?_ | refine sg_ps (ps_nilCheck rfl) rfl ?_ | refine sg_load 0 rfl rfl rfl rfl ?_ | refine sg_ps (ps_bin rfl rfl inferInstance) rfl ?_ | refine sg_cond_t rfl ?_ | refine sg_ps (ps_build rfl rfl) rfl ?_)
      refine sg_buildSlice1 (vs := recs [⟨⟨id, [], false, false, 0⟩, none, 0⟩]) rfl (of_decide_eq_true rfl) rfl rfl rfl (fun b1 => ?_)
      refine sg_front2 ?_
      repeat' (first | refine sg_wo ?_)
      refine sg_append (news := recs [⟨⟨id, [], false, false, 0⟩, none, 0⟩]) rfl rfl rfl (recs_len [_]) (recs_one [_]) (rd_blk 1 rfl fun j u hj => by rw [Nat.zero_add]; exact hj) (by simp only [maxLen]; omega) (by omega) fun a' c' => ?_
      repeat' (first | refine sg_wo ?_ | refine sg_ps (ps_move rfl) rfl ?_ | refine sg_ps (ps_assign rfl) rfl ?_ | refine sg_region ?_ | refine sg_nil ?_ | refine sg_then ?_ | refine sg_ps (ps_fieldAddr rfl) rfl ?_ | refine sg_ps (ps_nilCheck rfl) rfl ?_ | refine sg_load 2 rfl rfl rfl rfl ?_ | refine sg_ps (ps_sub64 rfl rfl (by omega)) rfl ?_ | refine sg_ps (ps_len rfl) rfl ?_ | refine sg_store [_, _] rfl rfl rfl (of_decide_eq_true rfl) ?_)
      refine ex_mid () trivial (.cons rfl (.cons rfl (.cons (congrArg (fun z => some (Value.int .i64 z)) (by omega : ((T.length + 1 : Nat) : Int) - 1 = (S.rows.length : Int))) .nil))) (fun w hO => ?_)
      have k1 := own_nil (sz := 1) (Own.pickA [_, _, _, _] hO [3, 2, 0] (by decide))
      refine RPool.shut (S := comeS S id []) (T := T ++ [⟨⟨id, [], false, false, 0⟩, none, 0⟩]) (ra := a') (rc := c') (by rw [List.map_append, hT]; rfl) ?_
      rw [List.map_append, List.length_append, recs_app]
      rw [← List.append_nil (T.map RE.own)] at k1
      have k2 := Own.sepIn (p := (⟨⟨id, [], false, false, 0⟩, none, 0⟩ : RE).own) k1
      exact Own.pickA [_, _, _] k2 [1, 2, 0] (by decide)
  rintro - -
  refine RPool.open fun T ra rc hT => ?_
  have hTl : T.length = S'.rows.length := by rw [← hT, List.length_map]
  refine sg_sownSome [_] (by omega) ?_
  rintro g rfl
  rw [List.cons_append, List.nil_append]
  obtain ⟨A, e, C, rfl, hA⟩ := re_split (T := T) (i := i) (by omega)
  have hset := fun (e1 e' : RE) (j : Nat) (v : Value) (hj : j < 5) (h : e'.cells = e1.cells.set j v) => (show (recs (A ++ e1 :: C)).set (0 + i * 5 + j) v = recs (A ++ e' :: C) by rw [Nat.zero_add, ← hA]; exact recs_set (A := A) (C := C) (e := e1) (e' := e') j v hj h)
  have hl2 : ∀ e' : RE, (recs (A ++ e' :: C)).length = S'.rows.length * 5 := fun e' => by rw [recs_len, re_len e, hTl]
  unfold rpc
  rw [hTl]
  repeat' (first | refine sg_seq ?_)
  refine sg_drawK [blk p [dp bp, i64 S'.most, .slice (some ⟨g, 0, none⟩) S'.rows.length rc, i64 S'.hand]] [0, 1, 2, 4, 5, 3, 6, 7, 8, 9] (by kernel_rfl) (by kernel_rfl) (fun w hO => hO.pick [0] (by decide)) ?_
  repeat' (first | refine sk_pure rfl rfl (ps_move rfl) rfl ?_ | refine sk_pure rfl rfl (ps_nilCheck rfl) rfl ?_ | refine sk_pure rfl rfl (ps_fieldAddr rfl) rfl ?_ | refine sk_load 0 rfl rfl rfl rfl rfl ?_ | refine sk_eff rfl rfl ?_)
  refine sg_call (rawCopy_tri bs xa xc hbl _ (hr [_, _, _, _])) rfl rfl (fun z _ => ?_)
  refine sk_back (fun w hO => hO.pick [1] (by decide)) ?_
  repeat' (first | refine sk_pure rfl rfl (ps_fieldAddr rfl) rfl ?_ | refine sk_pure rfl rfl (ps_indexAddr rfl rfl rfl (by omega)) rfl ?_ | refine sk_eff rfl rfl ?_)
  refine sg_store_sown [_, _] rfl rfl rfl (by rw [hl2]; omega) ?_
  rw [hset e ⟨{ e.pl with bs := bs }, z.1, z.2⟩ 1 (.slice z.1 bs.length z.2) (by decide) rfl]
  refine sk_back (fun w hO => hO.pick [1] (by decide)) ?_
  repeat' (first | refine sk_nil ?_)
  repeat' (first | refine sg_wo ?_ | refine sg_ps (ps_move rfl) rfl ?_ | refine sg_seq ?_ | refine sg_region ?_ | refine sg_then ?_ | refine sg_ps (ps_fieldAddr rfl) rfl ?_ | refine sg_ps (ps_nilCheck rfl) rfl ?_ | refine sg_load 1 rfl rfl rfl rfl ?_ | refine sg_ps (ps_indexAddr rfl rfl rfl (by omega)) rfl ?_)
  refine sg_store_sown [_, _] rfl rfl rfl (by rw [hl2]; omega) ?_
  rw [hset ⟨{ e.pl with bs := bs }, z.1, z.2⟩ ⟨{ e.pl with bs := bs, used := true }, z.1, z.2⟩ 4 (.bool true) (by decide) rfl]
  repeat' (first | refine sg_wo ?_ | refine sg_ps (ps_move rfl) rfl ?_ | refine sg_seq ?_ | refine sg_region ?_ | refine sg_nil ?_ | refine sg_then ?_ | refine sg_ps (ps_fieldAddr rfl) rfl ?_ | refine sg_ps (ps_nilCheck rfl) rfl ?_ | refine sg_load 1 rfl rfl rfl rfl ?_ | refine sg_ps (ps_indexAddr rfl rfl rfl (by omega)) rfl ?_)
  refine sg_store_sown [_, _] rfl rfl rfl (by rw [hl2]; omega) ?_
  rw [hset ⟨{ e.pl with bs := bs, used := true }, z.1, z.2⟩ ⟨fill bs e.pl, z.1, z.2⟩ 2 (.bool true) (by decide) rfl]
  repeat' (first | refine sg_wo ?_ | refine sg_ps (ps_move rfl) rfl ?_ | refine sg_region ?_ | refine sg_nil ?_ | refine sg_then ?_)
  have hT2 : (A ++ (⟨fill bs e.pl, z.1, z.2⟩ : RE) :: C).map (·.pl) = (rowSet S' i (fill bs)).rows := by
    have h9 := (remodify (fill bs) hT).symm
    rw [List.map_append, List.map_cons] at h9 ⊢
    rw [← hA]
    exact h9
  refine sg_own (L' := RPool p bp (rowSet S' i (fill bs)) :: BackRep bp B :: R) (fun w hO => ?_) ?_
  · refine RPool.shut (S := rowSet S' i (fill bs)) (ra := some ⟨g, 0, none⟩) (rc := rc) hT2 ?_
    have k1 := Own.pickA [_, _, _, _, _] hO [3, 0, 1, 2, 4] (by decide)
    rw [List.map_append, List.map_cons] at k1
    have k2 := Own.pickA [_, _, _, _, _] k1.sepOut.tail [1, 0, 2, 3, 4] (by decide)
    have k3 := Own.sepIn (p := (⟨fill bs e.pl, z.1, z.2⟩ : RE).own) k2
    rw [re_len e, hTl, List.map_append, List.map_cons]
    exact Own.pickA [_, _, _, _] k3 [1, 2, 0, 3] (by decide)
  refine sg_call (rroom_tri p bp (rowSet S' i (fill bs)) B _ hpf hN (hpa.set i (fill bs) (fun _ h => h))) rfl rfl (fun _ _ => ?_)
  repeat' (first | refine sg_nil ?_)
  exact ex_end0 rfl () rfl trivial (fun w hO => hO)
end Go.Proofs.Ytclehoaeppbmpaa
