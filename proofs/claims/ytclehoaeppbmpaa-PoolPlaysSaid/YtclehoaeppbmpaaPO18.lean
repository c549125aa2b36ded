/- Package pool: Put. -/
import Derived.Test.YtclehoaeppbmpaaPOD
namespace Go.Proofs.Ytclehoaeppbmpaa
set_option linter.unusedVariables false
set_option linter.unusedSimpArgs false
set_option linter.unusedSectionVars false
set_option linter.unnecessarySimpa false
open Go Go.Proofs
theorem Own.pickA {W w : World} (A : List HP) {R : List HP} (hO : Own W w (A ++ R)) (idx : List Nat) (hn : idx.Nodup) : Own W w (Ytclehoaeppbmpaa.pick idx A ++ R) := by
  obtain ⟨K, hK, hs, hp⟩ := hO.sat
  obtain ⟨K1, K2, rfl, h1, h2⟩ := map_append_inv _ _ _ _ hK
  rw [List.pairwise_append] at hp
  obtain ⟨p1, p2, p3⟩ := hp
  refine ⟨hO.os, hO.tape, hO.output, idx.filterMap (fun i => K1[i]?) ++ K2, ?_, ?_, ?_⟩
  · subst h1
    simp only [Ytclehoaeppbmpaa.pick, List.map_append, List.map_filterMap, List.getElem?_map, h2]
  · intro x hx
    rcases List.mem_append.1 hx with hx | hx
    · obtain ⟨i, _, hi⟩ := List.mem_filterMap.1 hx
      exact hs x (List.mem_append_left _ (List.mem_of_getElem? hi))
    · exact hs x (List.mem_append_right _ hx)
  · rw [List.pairwise_append]
    refine ⟨?_, p2, ?_⟩
    · rw [List.pairwise_filterMap]
      refine hn.imp ?_
      intro i j hij x hx y hy
      obtain ⟨hi, rfl⟩ := List.getElem?_eq_some_iff.1 hx
      obtain ⟨hj, rfl⟩ := List.getElem?_eq_some_iff.1 hy
      have hpp := List.pairwise_iff_getElem.1 p1
      rcases Nat.lt_or_gt_of_ne hij with h | h
      · exact hpp i j hi hj h
      · exact (hpp j i hj hi h).symm
    · intro x hx y hy
      obtain ⟨i, _, hi⟩ := List.mem_filterMap.1 hx
      exact p3 x (List.mem_of_getElem? hi) y hy
def fill (bs : List UInt8) (r : Pl) : Pl := { r with bs := bs, used := true, dirty := true }
def putAt (S : PlS) (id : Int) : Nat × PlS := match atP S.rows id 0 with
  | some i => (i, S)
  | none => (S.rows.length, comeS S id [])
def putP (S : PlS) (B : BkS) (id : Int) (bs : List UInt8) : PlS × BkS := roomS (rowSet (putAt S id).2 (putAt S id).1 (fill bs)) B
theorem putAt_fit {S : PlS} {B : BkS} {N : Nat} {id : Int} (h : Fit S B N) : Fit (putAt S id).2 B (N + 1) := by
  unfold putAt
  split
  · exact h.mono (by omega)
  · exact h.come id (by simp)
theorem fill_fit {S : PlS} {B : BkS} {N : Nat} {id : Int} {bs : List UInt8} (h : Fit S B N) (hb : bs.length ≤ bigB) : Fit (rowSet (putAt S id).2 (putAt S id).1 (fill bs)) B (N + 1) := (putAt_fit h).set _ _ (fun _ _ => hb)
theorem put_fit {S : PlS} {B : BkS} {N : Nat} {id : Int} {bs : List UInt8} (h : Fit S B N) (hb : bs.length ≤ bigB) : Fit (putP S B id bs).1 (putP S B id bs).2 (N + 2) := (room_fit (fill_fit h hb)).1
instance (priority := low) instEqNilC (P : Program) (t e sz l c : Nat) [h : SliceT P t e sz] : BinR P .eql t (.slice none l c) (.slice none 0 0) (.bool true) := ⟨fun w _ _ => by
  obtain ⟨i, h1, _⟩ := h.h
  have hu := run_underlying h1
  simp [eqGuard, binOp, Op.equal, Op.maxDepth]; rw [Op.equalIn]; simp [hu]⟩
set_option maxRecDepth 20000
set_option maxHeartbeats 4000000
attribute [local irreducible] SG WC WO W1 WD WK PS Rd Tri Exit.then Exit.inBlock bodyPost calmQ Mid sadd
variable {W : World} {n : Nat} {F : Fr} {L : List HP} {G : Act → World → Prop}
theorem bclone2_tri (bs : List UInt8) (a : Option Addr) (c : Nat) (L : List HP) (hl : bs.length ≤ 140737488355328) (hr : Rd W L a (bs.map bv)) (ha : a = none → bs = []) :
    Tri Try.prog W 35 [.slice a bs.length c] L (X := Option Addr × Nat) (fun x => .slice x.1 bs.length x.2) (fun _ => True) (fun x => sown x.1 bs.length x.2 1 (bs.map bv) :: L) := by
  refine tri_enter1 Try.func35 rfl Try.ntmps35 rfl ?_
  cases a with
  | none =>
    obtain rfl := ha rfl
    rw [List.length_nil]
    repeat' (first | refine sg_wo ?_ | refine sg_ps (ps_move rfl) rfl ?_ | refine sg_ps (ps_assign rfl) rfl ?_ | refine sg_seq ?_ | refine sg_region ?_ | refine sg_nil ?_ | refine sg_then ?_ | refine sg_ps (ps_bin rfl rfl inferInstance) rfl ?_ | refine sg_cond_t rfl ?_ | refine sg_ret ?_ | refine ex_then_ret ?_)
    exact ex_ret1 rfl rfl (none, 0) rfl trivial (fun w hO => own_nil hO)
  | some ad =>
    repeat' (first | refine sg_wo ?_ | refine sg_ps (ps_move rfl) rfl ?_ | refine sg_ps (ps_assign rfl) rfl ?_ | refine sg_seq ?_ | refine sg_region ?_ | refine sg_nil ?_ | refine sg_then ?_ | refine sg_ps (ps_bin rfl rfl inferInstance) rfl ?_ | refine sg_cond_f rfl ?_ | refine sg_skip ?_)
    refine sg_buildSlice (parts := []) (vs := []) (cells := []) rfl (by omega) rfl rfl (fun b => ?_)
    refine sg_own_mk (m := 0) (c := 0) (sz := 1) (xs := []) (Nat.le_refl _) (Nat.zero_le _) rfl rfl ?_
    repeat' (first | refine sg_wo ?_ | refine sg_ps (ps_move rfl) rfl ?_)
    refine sg_append (news := bs.map bv) rfl rfl rfl (by simp) bv_one (Rd.mono hr) (by simp only [maxLen]; omega) (by omega) fun a' c' => ?_
    rw [List.nil_append, Nat.zero_add]
    repeat' (first | refine sg_wo ?_ | refine sg_ps (ps_assign rfl) rfl ?_ | refine sg_nil ?_ | refine sg_then ?_ | refine sg_ret ?_)
    exact ex_ret1 rfl rfl (a', c') rfl trivial (fun w hO => hO)
theorem pput_tri {N : Nat} (p bp : Nat) (S : PlS) (B : BkS) (id : Int) (bs : List UInt8) (xa : Option Addr) (xc : Nat) (R : List HP) (hF : Fit S B N) (hN : N + 1 ≤ 100000) (hbl : bs.length ≤ bigB) (hr : ∀ L, Rd W (L ++ R) xa (bs.map bv)) (hnil : xa = none → bs = []) :
    Tri Try.prog W 16 [dp p, u64 id, .slice xa bs.length xc] (PoolRep p bp S :: BackRep bp B :: R) (X := Unit) (fun _ => .tuple #[]) (fun _ => True) (fun _ => PoolRep p bp (putP S B id bs).1 :: BackRep bp (putP S B id bs).2 :: R) := by
  refine tri_enter3 Try.func16 rfl Try.ntmps16 rfl ?_
  refine sg_seq ?_
  refine PoolRep.open fun T ra rc m clk hT hI => ?_
  have hTl : T.length = S.rows.length := by rw [← hT, List.length_map]
  unfold pcells
  repeat' (first | refine sg_wo ?_ | refine sg_ps (ps_move rfl) rfl ?_ | refine sg_region ?_ | refine sg_ps (ps_fieldAddr rfl) rfl ?_ | refine sg_ps (ps_nilCheck rfl) rfl ?_ | refine sg_load 0 rfl rfl rfl rfl ?_)
  refine sg_lookup2 (k := .u64) (z := .pointer none) 2 Try.underlying63 Try.underlying32 rfl rfl rfl rfl ?_
  obtain ⟨i, S', hput⟩ : ∃ i S', putAt S id = (i, S') := ⟨_, _, rfl⟩
  have hpf := fill_fit (id := id) (bs := bs) hF hbl
  have hgoal : putP S B id bs = roomS (rowSet (putAt S id).2 (putAt S id).1 (fill bs)) B := rfl
  rw [hgoal]
  rw [hput] at hpf ⊢
  dsimp only at hpf ⊢
  have hmid : ∃ v b, .tuple #[(getE (T.map PE.me) id).getD (.pointer none), Value.bool (getE (T.map PE.me) id).isSome] = Value.tuple #[v, .bool b] := ⟨_, _, rfl⟩
  repeat' (first | refine sg_wo ?_ | refine sg_ps (ps_move rfl) rfl ?_ | refine sg_ps (ps_assign rfl) rfl ?_ | refine sg_nil ?_ | refine sg_then ?_ | refine sg_ps (ps_extract rfl rfl) rfl ?_)
  refine sg_seq_mid (γ := Nat) (fun _ => True) (fun x => [(0, dp p), (2, .slice xa bs.length xc), (6, dp x)]) (fun x => PoolAt p bp S' i x :: BackRep bp B :: R) ?_ ?_
  · rcases at_cases id S.rows 0 with ⟨A0, r, C0, h1, h2, h3, h4⟩ | ⟨h1, h2⟩
    · have hT0 := hT
      rw [h1] at hT
      obtain ⟨A, e, C, rfl, g1, g2, g3⟩ := split_map hT
      have hA : A.length = A0.length := by rw [← g1, List.length_map]
      have heid : e.pl.id = id := by rw [g2]; exact h2
      have hget : getE ((A ++ e :: C).map PE.me) id = some e.dp := by
        rw [List.map_append, List.map_cons, getE_at (e := e.me) (a := id) heid (by rw [← heid]; exact hI.ne)]; rfl
      have hpu : putAt S id = (A.length, S) := by unfold putAt; rw [h4, Nat.zero_add, hA]
      rw [hput] at hpu
      simp only [Prod.mk.injEq] at hpu
      obtain ⟨rfl, rfl⟩ := hpu
      rw [hget, Option.getD_some, Option.isSome_some]
      unfold PE.dp
      repeat' (first | refine sg_wo ?_ | refine sg_ps (ps_move rfl) rfl ?_ | refine sg_seq ?_ | refine sg_region ?_ | refine sg_nil ?_ | refine sg_then ?_ | refine sg_ps (ps_not rfl) rfl ?_ | refine sg_cond_f rfl ?_ | refine sg_skip ?_)
      exact ex_mid e.ptr trivial (.cons rfl (.cons rfl (.cons rfl .nil))) (fun w hO => PoolAt.shut hT0 hI rfl rfl (Own.plOut hO))
    · have hget : getE (T.map PE.me) id = none := getE_no fun y hy => by
        obtain ⟨e, he, rfl⟩ := List.mem_map.1 hy
        exact h1 e.pl (by rw [← hT]; exact List.mem_map_of_mem he)
      have hpu : putAt S id = (S.rows.length, comeS S id []) := by unfold putAt; rw [h2]
      rw [hput] at hpu
      simp only [Prod.mk.injEq] at hpu
      obtain ⟨rfl, rfl⟩ := hpu
      rw [hget, Option.getD_none, Option.isSome_none]
      repeat' (first | refine sg_wo ?_ | refine sg_ps (ps_move rfl) rfl ?_ | refine sg_seq ?_ | refine sg_region ?_ | refine sg_nil ?_ | refine sg_then ?_ | refine sg_ps (ps_not rfl) rfl ?_ | refine sg_cond_t rfl ?_)
      refine sg_own (L' := sown none ([] : List UInt8).length 0 1 (([] : List UInt8).map bv) :: PoolRep p bp S :: BackRep bp B :: R) (fun w hO => own_nil (PoolRep.shut hT hI hO)) ?_
      refine sg_call (pcome_tri p bp S id [] none 0 _ h1 (by have := hF.asked; omega)) rfl rfl (fun x _ => ?_)
      repeat' (first | refine sg_wo ?_ | refine sg_ps (ps_assign rfl) rfl ?_ | refine sg_nil ?_)
      exact ex_mid x trivial (.cons rfl (.cons rfl (.cons rfl .nil))) (fun w hO => hO)
  rintro x -
  refine PoolAt.open fun A C e ra rc m clk hT hI hA hx => ?_
  subst hx
  unfold PE.cells
  repeat' (first | refine sg_wo ?_ | refine sg_ps (ps_move rfl) rfl ?_ | refine sg_seq ?_ | refine sg_region ?_)
  refine sg_call (bclone2_tri bs xa xc _ hbl (hr [_, _, _, _, _, _, _]) hnil) rfl rfl (fun z _ => ?_)
  refine sg_front4 ?_
  repeat' (first | refine sg_wo ?_ | refine sg_ps (ps_move rfl) rfl ?_ | refine sg_region ?_ | refine sg_nil ?_ | refine sg_then ?_ | refine sg_ps (ps_fieldAddr rfl) rfl ?_ | refine sg_ps (ps_nilCheck rfl) rfl ?_ | refine sg_store0 [] rfl rfl rfl (of_decide_eq_true rfl) ?_)
  obtain ⟨e', he'⟩ : ∃ e' : PE, e' = ⟨fill bs e.pl, e.ptr, z.1, z.2, e.born⟩ := ⟨_, rfl⟩
  have hT2 : (A ++ e' :: C).map (·.pl) = (rowSet S' i (fill bs)).rows := by
    have h9 := (modify_at (fill bs) hT).symm
    rw [he', ← hA]
    rw [List.map_append, List.map_cons] at h9 ⊢
    exact h9
  have hdp : (A ++ e :: C).map PE.dp = (A ++ e' :: C).map PE.dp := by rw [he', List.map_append, List.map_append]; rfl
  have hme : (A ++ e :: C).map PE.me = (A ++ e' :: C).map PE.me := by rw [he', List.map_append, List.map_append]; rfl
  have hle : (A ++ e :: C).length = (A ++ e' :: C).length := by rw [List.length_append, List.length_append]; rfl
  rw [hdp, hme, hle]
  refine sg_own (L' := PoolRep p bp (rowSet S' i (fill bs)) :: BackRep bp B :: R) (fun w hO => ?_) ?_
  · refine PoolAt.rep (i := i) (x := e.ptr) (PoolAt.shut (S := rowSet S' i (fill bs)) (A := A) (B := C) (e := e') (ra := ra) (rc := rc) (m := m) hT2 (hI.swap (by rw [he']) (by rw [he']; rfl)) hA (by rw [he']) ?_)
    subst he'
    exact Own.pickA [_, _, _, _, _, _, _, _] hO [2, 3, 4, 0, 1, 6, 7] (by decide)
  refine sg_call (proom_tri p bp (rowSet S' i (fill bs)) B _ hpf hN) rfl rfl (fun _ _ => ?_)
  repeat' (first | refine sg_nil ?_)
  exact ex_end0 rfl () rfl trivial (fun w hO => hO)
end Go.Proofs.Ytclehoaeppbmpaa
