/- Package pool: Get. | Package pool: Pin. | Package pool: Unpin. -/
import Derived.Test.YtclehoaeppbmpaaPOC
namespace Go.Proofs.Ytclehoaeppbmpaa
set_option linter.unusedVariables false
set_option linter.unusedSimpArgs false
set_option linter.unusedSectionVars false
set_option linter.unnecessarySimpa false
open Go Go.Proofs
def bsAt (S : PlS) (i : Nat) : List UInt8 := match S.rows[i]? with
  | some r => r.bs
  | none => []
def getS (S : PlS) (B : BkS) (id : Int) : Option (List UInt8) × PlS × BkS := match findS S B id with
  | (none, B') => (none, S, B')
  | (some y, B') => (some (bsAt y.2 y.1), roomS y.2 B')
theorem sg_nilcapN {W : World} {n : Nat} {F : Fr} {G : Act → World → Prop} {a : Option Addr} {k c sz : Nat} {xs : List Value} (L1 : List HP) {L2 : List HP} (h : (a = none → c = 0 ∧ k = 0) → SG W n F (L1 ++ sown a k c sz xs :: L2) G) : SG W n F (L1 ++ sown a k c sz xs :: L2) G := by
  intro w hO ac ha
  obtain ⟨_, ⟨h1, h2, h3⟩ | ⟨g, h1, h2, h3, _⟩⟩ := hO.front.sownCells
  · exact h (fun _ => ⟨h3, h2⟩) w hO ac ha
  · exact h (fun h4 => by rw [h1] at h4; cases h4) w hO ac ha
set_option maxRecDepth 20000
set_option maxHeartbeats 4000000
attribute [local irreducible] SG WC WO W1 WD WK PS Rd Tri Exit.then Exit.inBlock bodyPost calmQ Mid sadd
variable {W : World} {n : Nat} {F : Fr} {L : List HP} {G : Act → World → Prop}
theorem pget_tri {N : Nat} (p bp : Nat) (S : PlS) (B : BkS) (id : Int) (R : List HP) (hF : Fit S B N) (hN : N + 2 ≤ 100000) :
    Tri Try.prog W 11 [dp p, u64 id] (PoolRep p bp S :: BackRep bp B :: R) (X := Option Addr × Nat) (fun y => .tuple #[.slice y.1 ((getS S B id).1.getD []).length y.2, i64 (if (getS S B id).1.isSome then 0 else 2)]) (fun _ => True)
      (fun y => sown y.1 ((getS S B id).1.getD []).length y.2 1 (((getS S B id).1.getD []).map bv) :: PoolRep p bp (getS S B id).2.1 :: BackRep bp (getS S B id).2.2 :: R) := by
  refine tri_enter2 Try.func11 rfl Try.ntmps11 rfl ?_
  repeat' (first | refine sg_wo ?_ | refine sg_ps (ps_move rfl) rfl ?_ | refine sg_ps (ps_assign rfl) rfl ?_ | refine sg_seq ?_ | refine sg_region ?_ | refine sg_nil ?_ | refine sg_then ?_)
  refine sg_call (pfind_tri p bp S B id R hF (by omega)) rfl rfl (fun x _ => ?_)
  have hff := find_fit (id := id) hF
  have hgs : getS S B id = match findS S B id with
    | (none, B') => (none, S, B')
    | (some y, B') => (some (bsAt y.2 y.1), roomS y.2 B') := rfl
  generalize getS S B id = gg at hgs
  generalize findS S B id = q at hff hgs
  obtain ⟨f, B'⟩ := q
  cases f with
  | none =>
    dsimp only at hgs
    subst hgs
    unfold findV FindRep
    repeat' (first | refine sg_wo ?_ | refine sg_ps (ps_move rfl) rfl ?_ | refine sg_ps (ps_assign rfl) rfl ?_ | refine sg_seq ?_ | refine sg_region ?_ | refine sg_nil ?_ | refine sg_then ?_ | refine sg_ps (ps_bin rfl rfl inferInstance) rfl ?_ | refine sg_cond_t rfl ?_ | refine sg_ps (ps_extract rfl rfl) rfl ?_ | refine sg_ret ?_ | refine ex_then_ret ?_)
    exact ex_ret2 rfl rfl rfl ((none, 0) : Option Addr × Nat) rfl trivial (fun w hO => own_nil hO)
  | some y =>
    obtain ⟨i, S'⟩ := y
    dsimp only at hgs
    subst hgs
    obtain ⟨hf', hi', _⟩ := hff.2 i S' rfl
    unfold findV FindRep
    dsimp only
    refine PoolAt.open fun A C e ra rc m clk hT hI hA hx => ?_
    subst hx
    have hbs : bsAt S' i = e.pl.bs := by
      unfold bsAt
      rw [← hT, List.map_append, List.map_cons, List.getElem?_append_right (by simp; omega), List.length_map, hA, Nat.sub_self]; rfl
    rw [hbs]
    have hbl : e.pl.bs.length ≤ bigB := hf'.rbs e.pl (by rw [← hT]; simp)
    unfold PE.cells
    repeat' (first | refine sg_wo ?_ | refine sg_ps (ps_move rfl) rfl ?_ | refine sg_ps (ps_assign rfl) rfl ?_ | refine sg_seq ?_ | refine sg_region ?_ | refine sg_nil ?_ | refine sg_then ?_ | refine sg_ps (ps_fieldAddr rfl) rfl ?_ | refine sg_ps (ps_nilCheck rfl) rfl ?_ | refine sg_ps (ps_bin rfl rfl inferInstance) rfl ?_ | refine sg_cond_f rfl ?_ | refine sg_ps (ps_extract rfl rfl) rfl ?_ | refine sg_skip ?_ | refine sg_load_rd rfl (rd_blk0_one 3 rfl rfl) rfl ?_)
    refine sg_nilcapN [_, _, _, _] fun hnil => ?_
    refine sg_call (bclone_tri e.pl.bs e.a e.c _ hbl (rd_sown 4 rfl fun _ _ h => h) (fun h => ⟨(hnil h).1, List.eq_nil_of_length_eq_zero (hnil h).2⟩)) rfl rfl (fun z _ => ?_)
    refine sg_own (L' := PoolRep p bp S' :: BackRep bp B' :: sown z.1 e.pl.bs.length z.2 1 (e.pl.bs.map bv) :: R) (fun w hO => ?_) ?_
    · have k1 : Own W w (PoolAt p bp S' i e.ptr :: _) := PoolAt.shut hT hI hA rfl (Own.back6 hO)
      exact (PoolAt.rep k1).front1.back2
    repeat' (first | refine sg_wo ?_ | refine sg_ps (ps_move rfl) rfl ?_ | refine sg_ps (ps_assign rfl) rfl ?_ | refine sg_seq ?_ | refine sg_region ?_ | refine sg_nil ?_ | refine sg_then ?_)
    refine sg_call (proom_tri p bp S' B' _ hf' hN) rfl rfl (fun _ _ => ?_)
    repeat' (first | refine sg_wo ?_ | refine sg_ps (ps_move rfl) rfl ?_ | refine sg_ps (ps_assign rfl) rfl ?_ | refine sg_seq ?_ | refine sg_region ?_ | refine sg_nil ?_ | refine sg_then ?_ | refine sg_ret ?_)
    exact ex_ret2 rfl rfl rfl z rfl trivial (fun w hO => hO.front2)
end Go.Proofs.Ytclehoaeppbmpaa
namespace Go.Proofs.Ytclehoaeppbmpaa
set_option linter.unusedVariables false
set_option linter.unusedSimpArgs false
set_option linter.unusedSectionVars false
set_option linter.unnecessarySimpa false
open Go Go.Proofs
def pin1 (r : Pl) : Pl := { r with pins := IntKind.i64.wrap (r.pins + 1) }
def pinS (S : PlS) (B : BkS) (id : Int) : Int × PlS × BkS := match findS S B id with
  | (none, B') => (2, S, B')
  | (some y, B') => (0, roomS (rowSet y.2 y.1 pin1) B')
set_option maxRecDepth 20000
set_option maxHeartbeats 4000000
attribute [local irreducible] SG WC WO W1 WD WK PS Rd Tri Exit.then Exit.inBlock bodyPost calmQ Mid sadd
variable {W : World} {n : Nat} {F : Fr} {L : List HP} {G : Act → World → Prop}
theorem ppin_tri {N : Nat} (p bp : Nat) (S : PlS) (B : BkS) (id : Int) (R : List HP) (hF : Fit S B N) (hN : N + 2 ≤ 100000) :
    Tri Try.prog W 10 [dp p, u64 id] (PoolRep p bp S :: BackRep bp B :: R) (X := Unit) (fun _ => i64 (pinS S B id).1) (fun _ => True) (fun _ => PoolRep p bp (pinS S B id).2.1 :: BackRep bp (pinS S B id).2.2 :: R) := by
  refine tri_enter2 Try.func10 rfl Try.ntmps10 rfl ?_
  repeat' (first | refine sg_wo ?_ | refine sg_ps (ps_move rfl) rfl ?_ | refine sg_ps (ps_assign rfl) rfl ?_ | refine sg_seq ?_ | refine sg_region ?_ | refine sg_nil ?_ | refine sg_then ?_)
  refine sg_call (pfind_tri p bp S B id R hF (by omega)) rfl rfl (fun x _ => ?_)
  have hff := find_fit (id := id) hF
  have hgs : pinS S B id = match findS S B id with
    | (none, B') => (2, S, B')
    | (some y, B') => (0, roomS (rowSet y.2 y.1 pin1) B') := rfl
  generalize pinS S B id = gg at hgs
  generalize findS S B id = q at hff hgs
  obtain ⟨f, B'⟩ := q
  cases f with
  | none =>
    dsimp only at hgs
    subst hgs
    unfold findV FindRep
    repeat' (first | refine sg_wo ?_ | refine sg_ps (ps_move rfl) rfl ?_ | refine sg_ps (ps_assign rfl) rfl ?_ | refine sg_seq ?_ | refine sg_region ?_ | refine sg_nil ?_ | refine sg_then ?_ | refine sg_ps (ps_bin rfl rfl inferInstance) rfl ?_ | refine sg_cond_f rfl ?_ | refine sg_ps (ps_extract rfl rfl) rfl ?_ | refine sg_skip ?_ | refine sg_ret ?_)
    exact ex_ret1 rfl rfl () rfl trivial (fun w hO => hO)
  | some y =>
    obtain ⟨i, S'⟩ := y
    dsimp only at hgs
    subst hgs
    obtain ⟨hf', hi', _⟩ := hff.2 i S' rfl
    unfold findV FindRep
    dsimp only
    refine PoolAt.open fun A C e ra rc m clk hT hI hA hx => ?_
    subst hx
    unfold PE.cells
    repeat' (first | refine sg_wo ?_ | refine sg_ps (ps_move rfl) rfl ?_ | refine sg_ps (ps_assign rfl) rfl ?_ | refine sg_seq ?_ | refine sg_region ?_ | refine sg_nil ?_ | refine sg_then ?_ | refine sg_ps (ps_fieldAddr rfl) rfl ?_ | refine sg_ps (ps_nilCheck rfl) rfl ?_ | refine sg_ps (ps_bin rfl rfl inferInstance) rfl ?_ | refine sg_cond_t rfl ?_ | refine sg_ps (ps_extract rfl rfl) rfl ?_ | refine sg_load_rd rfl (rd_blk0_one 3 rfl rfl) rfl ?_ | refine sg_store0 [_, _, _] rfl rfl rfl (of_decide_eq_true rfl) ?_)
    obtain ⟨e', he'⟩ : ∃ e' : PE, e' = ⟨pin1 e.pl, e.ptr, e.a, e.c, e.born⟩ := ⟨_, rfl⟩
    have hT2 : (A ++ e' :: C).map (·.pl) = (rowSet S' i pin1).rows := by rw [he', ← hA]; exact (modify_at pin1 hT).symm
    have hdp : (A ++ e :: C).map PE.dp = (A ++ e' :: C).map PE.dp := by rw [he', List.map_append, List.map_append]; rfl
    have hme : (A ++ e :: C).map PE.me = (A ++ e' :: C).map PE.me := by rw [he', List.map_append, List.map_append]; rfl
    have hle : (A ++ e :: C).length = (A ++ e' :: C).length := by rw [List.length_append, List.length_append]; rfl
    rw [hdp, hme, hle]
    refine sg_own (L' := PoolRep p bp (rowSet S' i pin1) :: BackRep bp B' :: R) (fun w hO => ?_) ?_
    · refine PoolAt.rep (i := i) (x := e.ptr) (PoolAt.shut (S := rowSet S' i pin1) (A := A) (B := C) (e := e') (ra := ra) (rc := rc) (m := m) hT2 (hI.swap (by rw [he']) (by rw [he']; rfl)) hA (by rw [he']) ?_)
      subst he'
      exact hO
    refine sg_call (proom_tri p bp (rowSet S' i pin1) B' _ (hf'.set i pin1 hf'.rbs) hN) rfl rfl (fun _ _ => ?_)
    repeat' (first | refine sg_wo ?_ | refine sg_ps (ps_move rfl) rfl ?_ | refine sg_ps (ps_assign rfl) rfl ?_ | refine sg_seq ?_ | refine sg_region ?_ | refine sg_nil ?_ | refine sg_then ?_ | refine sg_ret ?_)
    exact ex_ret1 rfl rfl () rfl trivial (fun w hO => hO)
end Go.Proofs.Ytclehoaeppbmpaa
namespace Go.Proofs.Ytclehoaeppbmpaa
set_option linter.unusedVariables false
set_option linter.unusedSimpArgs false
set_option linter.unusedSectionVars false
set_option linter.unnecessarySimpa false
open Go Go.Proofs
def pin0 (r : Pl) : Pl := { r with pins := IntKind.i64.wrap (r.pins - 1) }
def pinsAt (S : PlS) (i : Nat) : Int := match S.rows[i]? with
  | some r => r.pins
  | none => 0
def unpinS (S : PlS) (B : BkS) (id : Int) : Int × PlS × BkS := match atP S.rows id 0 with
  | none => (5, S, B)
  | some i => if pinsAt S i = 0 then (5, S, B) else (0, roomS (rowSet S i pin0) B)
set_option maxRecDepth 20000
set_option maxHeartbeats 4000000
attribute [local irreducible] SG WC WO W1 WD WK PS Rd Tri Exit.then Exit.inBlock bodyPost calmQ Mid sadd
variable {W : World} {n : Nat} {F : Fr} {L : List HP} {G : Act → World → Prop}
theorem punpin_tri {N : Nat} (p bp : Nat) (S : PlS) (B : BkS) (id : Int) (R : List HP) (hF : Fit S B N) (hN : N ≤ 100000) :
    Tri Try.prog W 13 [dp p, u64 id] (PoolRep p bp S :: BackRep bp B :: R) (X := Unit) (fun _ => i64 (unpinS S B id).1) (fun _ => True) (fun _ => PoolRep p bp (unpinS S B id).2.1 :: BackRep bp (unpinS S B id).2.2 :: R) := by
  refine tri_enter2 Try.func13 rfl Try.ntmps13 rfl ?_
  refine PoolRep.open fun T ra rc m clk hT hI => ?_
  unfold pcells
  repeat' (first | refine sg_wo ?_ | refine sg_ps (ps_move rfl) rfl ?_ | refine sg_ps (ps_assign rfl) rfl ?_ | refine sg_seq ?_ | refine sg_region ?_ | refine sg_nil ?_ | refine sg_then ?_ | refine sg_ps (ps_fieldAddr rfl) rfl ?_ | refine sg_ps (ps_nilCheck rfl) rfl ?_ | refine sg_load 0 rfl rfl rfl rfl ?_)
  refine sg_lookup2 (k := .u64) (z := .pointer none) 2 Try.underlying63 Try.underlying32 rfl rfl rfl rfl ?_
  rcases at_cases id S.rows 0 with ⟨A0, r, C0, h1, h2, h3, h4⟩ | ⟨h1, h2⟩
  · have hT0 := hT
    rw [h1] at hT
    obtain ⟨A, e, C, rfl, g1, g2, g3⟩ := split_map hT
    have hA : A.length = A0.length := by rw [← g1, List.length_map]
    have heid : e.pl.id = id := by rw [g2]; exact h2
    have hget : getE ((A ++ e :: C).map PE.me) id = some e.dp := by
      rw [List.map_append, List.map_cons, getE_at (e := e.me) (a := id) heid (by rw [← heid]; exact hI.ne)]; rfl
    have hpa : pinsAt S A.length = e.pl.pins := by
      unfold pinsAt
      rw [← hT0, List.map_append, List.map_cons, List.getElem?_append_right (by simp), List.length_map, Nat.sub_self]; rfl
    rw [hget]
    refine sg_own (fun w hO => Own.plOut hO) ?_
    unfold PE.cells
    rw [Option.getD_some, Option.isSome_some]
    by_cases hp : e.pl.pins = 0
    · have hf : unpinS S B id = (5, S, B) := by unfold unpinS; rw [h4, Nat.zero_add, ← hA]; simp only [hpa, hp, if_true]
      rw [hf]
      repeat' (first | refine sg_wo ?_ | refine sg_ps (ps_move rfl) rfl ?_ | refine sg_ps (ps_assign rfl) rfl ?_ | refine sg_seq ?_ | refine sg_region ?_ | refine sg_nil ?_ | refine sg_then ?_ | refine sg_ps (ps_fieldAddr rfl) rfl ?_ | refine sg_ps (ps_nilCheck rfl) rfl ?_ | refine sg_ps (ps_bin rfl rfl inferInstance) rfl ?_ | refine sg_ps (ps_not rfl) rfl ?_ | refine sg_guard_yes rfl rfl ?_ | refine sg_ps (ps_pick_f rfl rfl) rfl ?_ | refine sg_ps (ps_extract rfl rfl) rfl ?_ | refine sg_ret ?_ | refine ex_then_ret ?_ | (refine sg_cond_dec rfl (fun hg => ?_) (fun hg => ?_) <;> first | (exfalso; omega) | (exact absurd rfl hg) | skip) | refine sg_load_rd rfl (rd_blk0_one 3 rfl rfl) rfl ?_)
      exact ex_ret1 rfl rfl () rfl trivial (fun w hO => PoolRep.shut hT0 hI (Own.plIn (e := e) hO))
    · have hf : unpinS S B id = (0, roomS (rowSet S A.length pin0) B) := by unfold unpinS; rw [h4, Nat.zero_add, ← hA]; simp only [hpa, if_neg hp]
      rw [hf]
      repeat' (first | refine sg_wo ?_ | refine sg_ps (ps_move rfl) rfl ?_ | refine sg_ps (ps_assign rfl) rfl ?_ | refine sg_seq ?_ | refine sg_region ?_ | refine sg_nil ?_ | refine sg_then ?_ | refine sg_ps (ps_fieldAddr rfl) rfl ?_ | refine sg_ps (ps_nilCheck rfl) rfl ?_ | refine sg_ps (ps_bin rfl rfl inferInstance) rfl ?_ | refine sg_ps (ps_not rfl) rfl ?_ | refine sg_guard_yes rfl rfl ?_ | refine sg_ps (ps_pick_f rfl rfl) rfl ?_ | refine sg_ps (ps_extract rfl rfl) rfl ?_ | refine sg_skip ?_ | (refine sg_cond_dec rfl (fun hg => ?_) (fun hg => ?_) <;> first | (exfalso; omega) | (exact absurd rfl hg) | skip) | refine sg_load_rd rfl (rd_blk0_one 3 rfl rfl) rfl ?_ | refine sg_store0 [_, _, _] rfl rfl rfl (of_decide_eq_true rfl) ?_)
      obtain ⟨e', he'⟩ : ∃ e' : PE, e' = ⟨pin0 e.pl, e.ptr, e.a, e.c, e.born⟩ := ⟨_, rfl⟩
      have hT2 : (A ++ e' :: C).map (·.pl) = (rowSet S A.length pin0).rows := by rw [he']; exact (modify_at pin0 hT0).symm
      have hdp : (A ++ e :: C).map PE.dp = (A ++ e' :: C).map PE.dp := by rw [he', List.map_append, List.map_append]; rfl
      have hme : (A ++ e :: C).map PE.me = (A ++ e' :: C).map PE.me := by rw [he', List.map_append, List.map_append]; rfl
      have hle : (A ++ e :: C).length = (A ++ e' :: C).length := by rw [List.length_append, List.length_append]; rfl
      rw [hdp, hme, hle]
      refine sg_own (L' := PoolRep p bp (rowSet S A.length pin0) :: BackRep bp B :: R) (fun w hO => ?_) ?_
      · refine PoolAt.rep (i := A.length) (x := e.ptr) (PoolAt.shut (S := rowSet S A.length pin0) (A := A) (B := C) (e := e') (ra := ra) (rc := rc) (m := m) hT2 (hI.swap (by rw [he']) (by rw [he']; rfl)) rfl (by rw [he']) ?_)
        subst he'
        exact hO
      refine sg_call (proom_tri p bp (rowSet S A.length pin0) B _ (hF.set A.length pin0 hF.rbs) hN) rfl rfl (fun _ _ => ?_)
      repeat' (first | refine sg_wo ?_ | refine sg_ps (ps_assign rfl) rfl ?_ | refine sg_seq ?_ | refine sg_region ?_ | refine sg_nil ?_ | refine sg_then ?_ | refine sg_ret ?_)
      exact ex_ret1 rfl rfl () rfl trivial (fun w hO => hO)
  · have hget : getE (T.map PE.me) id = none := getE_no fun y hy => by
      obtain ⟨e, he, rfl⟩ := List.mem_map.1 hy
      exact h1 e.pl (by rw [← hT]; exact List.mem_map_of_mem he)
    have hf : unpinS S B id = (5, S, B) := by unfold unpinS; rw [h2]
    rw [hget, hf]
    repeat' (first | refine sg_wo ?_ | refine sg_ps (ps_move rfl) rfl ?_ | refine sg_ps (ps_assign rfl) rfl ?_ | refine sg_seq ?_ | refine sg_region ?_ | refine sg_nil ?_ | refine sg_then ?_ | refine sg_ps (ps_not rfl) rfl ?_ | refine sg_cond_t rfl ?_ | refine sg_guard_nt rfl rfl rfl ?_ | refine sg_ps (ps_pick_t rfl rfl) rfl ?_ | refine sg_ps (ps_extract rfl rfl) rfl ?_ | refine sg_ret ?_ | refine ex_then_ret ?_)
    exact ex_ret1 rfl rfl () rfl trivial (fun w hO => PoolRep.shut hT hI hO)
end Go.Proofs.Ytclehoaeppbmpaa
