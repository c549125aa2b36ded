/- Package pool: a thing's place is found, or made. -/
import Derived.Test.YtclehoaeppbmpaaPOB
namespace Go.Proofs.Ytclehoaeppbmpaa
set_option linter.unusedVariables false
set_option linter.unusedSimpArgs false
set_option linter.unusedSectionVars false
set_option linter.unnecessarySimpa false
open Go Go.Proofs
instance : IsFn Try.prog 35 := ⟨_, Try.func35, rfl, rfl⟩
def use (r : Pl) : Pl := { r with used := true }
def atP : List Pl → Int → Nat → Option Nat
  | [], _, _ => none
  | r :: l, id, k => if r.id = id then some k else atP l id (k + 1)
theorem at_cases (id : Int) : ∀ (l : List Pl) (k : Nat), (∃ A r C, l = A ++ r :: C ∧ r.id = id ∧ (∀ x ∈ A, x.id ≠ id) ∧ atP l id k = some (k + A.length)) ∨ ((∀ x ∈ l, x.id ≠ id) ∧ atP l id k = none)
  | [], _ => .inr ⟨by simp, rfl⟩
  | r :: l, k => by
    by_cases h : r.id = id
    · exact .inl ⟨[], r, l, rfl, h, by simp, by simp [atP, h]⟩
    · rcases at_cases id l (k + 1) with ⟨A, x, C, h1, h2, h3, h4⟩ | ⟨h1, h2⟩
      · refine .inl ⟨r :: A, x, C, by rw [h1]; rfl, h2, fun y hy => ?_, by rw [atP, if_neg h, h4, List.length_cons]; congr 1; omega⟩
        rcases List.mem_cons.1 hy with rfl | hy
        · exact h
        · exact h3 y hy
      · refine .inr ⟨fun y hy => ?_, by rw [atP, if_neg h, h2]⟩
        rcases List.mem_cons.1 hy with rfl | hy
        · exact h
        · exact h1 y hy
def ask0 (id : Int) : Int := IntKind.u64.wrap (2 * id)
def findS (S : PlS) (B : BkS) (id : Int) : Option (Nat × PlS) × BkS := match atP S.rows id 0 with
  | some i => (some (i, rowSet S i use), B)
  | none => match getB B.ent id with
    | none => (none, askS B (ask0 id))
    | some bs => (some (S.rows.length, rowSet (comeS S id bs) S.rows.length use), askS B (ask0 id))
def FindRep (p bp : Nat) (S : PlS) (x : Nat) : Option (Nat × PlS) → HP
  | none => PoolRep p bp S
  | some y => PoolAt p bp y.2 y.1 x
def findV (x : Nat) : Option (Nat × PlS) → Value
  | none => .tuple #[.pointer none, i64 2]
  | some _ => .tuple #[dp x, i64 0]
section
variable {W : World} {n : Nat} {F : Fr} {L : List HP} {G : Act → World → Prop}
theorem sg_nilcap {a : Option Addr} {k c sz : Nat} {xs : List Value} (h : (a = none → c = 0 ∧ k = 0) → SG W n F (sown a k c sz xs :: L) G) : SG W n F (sown a k c sz xs :: L) G := by
  intro w hO ac ha
  obtain ⟨_, ⟨h1, h2, h3⟩ | ⟨g, h1, h2, h3, _⟩⟩ := hO.sownCells
  · exact h (fun _ => ⟨h3, h2⟩) w hO ac ha
  · exact h (fun h4 => by rw [h1] at h4; cases h4) w hO ac ha
end
set_option maxRecDepth 20000
set_option maxHeartbeats 4000000
attribute [local irreducible] SG WC WO W1 WD WK PS Rd Tri Exit.then Exit.inBlock bodyPost calmQ Mid sadd
variable {W : World} {n : Nat} {F : Fr} {L : List HP} {G : Act → World → Prop}
theorem pfind_tri {N : Nat} (p bp : Nat) (S : PlS) (B : BkS) (id : Int) (R : List HP) (hF : Fit S B N) (hN : N ≤ 100000) :
    Tri Try.prog W 33 [dp p, u64 id] (PoolRep p bp S :: BackRep bp B :: R) (X := Nat) (fun x => findV x (findS S B id).1) (fun _ => True) (fun x => FindRep p bp S x (findS S B id).1 :: BackRep bp (findS S B id).2 :: R) := by
  refine tri_enter2 Try.func33 rfl Try.ntmps33 rfl ?_
  refine PoolRep.open fun T ra rc m clk hT hI => ?_
  have hTl : T.length = S.rows.length := by rw [← hT, List.length_map]
  unfold pcells
  repeat' (first | refine sg_wo ?_ | refine sg_ps (ps_move rfl) rfl ?_ | refine sg_ps (ps_assign rfl) rfl ?_ | refine sg_seq ?_ | refine sg_region ?_ | refine sg_nil ?_ | refine sg_then ?_ | refine sg_ps (ps_fieldAddr rfl) rfl ?_ | refine sg_ps (ps_nilCheck rfl) rfl ?_ | refine sg_load 0 rfl rfl rfl rfl ?_)
  refine sg_lookup2 (k := .u64) (z := .pointer none) 2 Try.underlying63 Try.underlying32 rfl rfl rfl rfl ?_
  rcases at_cases id S.rows 0 with ⟨A0, r, C0, h1, h2, h3, h4⟩ | ⟨h1, h2⟩
  · rw [h1] at hT
    obtain ⟨A, e, C, rfl, g1, g2, g3⟩ := split_map hT
    have hA : A.length = A0.length := by rw [← g1, List.length_map]
    have hf : findS S B id = (some (A.length, rowSet S A.length use), B) := by unfold findS; rw [h4, Nat.zero_add, hA]
    have heid : e.pl.id = id := by rw [g2]; exact h2
    have hget : getE ((A ++ e :: C).map PE.me) id = some e.dp := by
      rw [List.map_append, List.map_cons, getE_at (e := e.me) (a := id) heid (by rw [← heid]; exact hI.ne)]; rfl
    rw [hget, hf]
    refine sg_own (fun w hO => Own.plOut hO) ?_
    unfold PE.cells
    repeat' (first | refine sg_wo ?_ | refine sg_ps (ps_move rfl) rfl ?_ | refine sg_ps (ps_assign rfl) rfl ?_ | refine sg_seq ?_ | refine sg_region ?_ | refine sg_nil ?_ | refine sg_then ?_ | refine sg_ps (ps_fieldAddr rfl) rfl ?_ | refine sg_ps (ps_nilCheck rfl) rfl ?_ | refine sg_ps (ps_not rfl) rfl ?_ | refine sg_cond_f rfl ?_ | refine sg_ps (ps_extract rfl rfl) rfl ?_ | refine sg_skip ?_ | refine sg_ret ?_ | refine sg_store0 [_, _, _] rfl rfl rfl (of_decide_eq_true rfl) ?_)
    have hT0 : (A ++ e :: C).map (·.pl) = S.rows := by rw [h1]; exact hT
    obtain ⟨e', he'⟩ : ∃ e' : PE, e' = ⟨use e.pl, e.ptr, e.a, e.c, e.born⟩ := ⟨_, rfl⟩
    have hT2 : (A ++ e' :: C).map (·.pl) = (rowSet S A.length use).rows := by rw [he']; exact (modify_at use hT0).symm
    have hdp : (A ++ e :: C).map PE.dp = (A ++ e' :: C).map PE.dp := by rw [he', List.map_append, List.map_append]; rfl
    have hme : (A ++ e :: C).map PE.me = (A ++ e' :: C).map PE.me := by rw [he', List.map_append, List.map_append]; rfl
    have hle : (A ++ e :: C).length = (A ++ e' :: C).length := by rw [List.length_append, List.length_append]; rfl
    refine ex_ret2 rfl rfl rfl e.ptr rfl trivial (fun w hO => ?_)
    rw [hdp, hme, hle] at hO
    refine PoolAt.shut (S := rowSet S A.length use) (A := A) (B := C) (e := e') (ra := ra) (rc := rc) (m := m) hT2 (hI.swap (by rw [he']) (by rw [he']; rfl)) rfl (by rw [he']) ?_
    subst he'
    exact hO
  · have hget : getE (T.map PE.me) id = none := getE_no fun y hy => by
      obtain ⟨e, he, rfl⟩ := List.mem_map.1 hy
      exact h1 e.pl (by rw [← hT]; exact List.mem_map_of_mem he)
    rw [hget]
    repeat' (first | refine sg_wo ?_ | refine sg_ps (ps_move rfl) rfl ?_ | refine sg_ps (ps_assign rfl) rfl ?_ | refine sg_seq ?_ | refine sg_region ?_ | refine sg_nil ?_ | refine sg_then ?_ | refine sg_ps (ps_fieldAddr rfl) rfl ?_ | refine sg_ps (ps_nilCheck rfl) rfl ?_ | refine sg_load 0 rfl rfl rfl rfl ?_ | refine sg_ps (ps_not rfl) rfl ?_ | refine sg_cond_t rfl ?_ | refine sg_ps (ps_extract rfl rfl) rfl ?_)
    refine sg_invoke (t := 24) ((bload_tri bp B id (blk p [.iface 24 (dp bp), i64 S.most, .slice ra T.length rc, .map (some m), i64 S.hand] :: _) (hF.okB hN).len (hF.okB hN).asked hF.ebs).pre (fun w hO => hO.front4)) rfl rfl rfl (fun y hy => ?_)
    cases hg0 : getB B.ent id with
    | none =>
      have hf : findS S B id = (none, askS B (ask0 id)) := by unfold findS; rw [h2, hg0]
      rw [hf]
      obtain rfl := hy hg0
      repeat' (first | refine sg_wo ?_ | refine sg_ps (ps_move rfl) rfl ?_ | refine sg_ps (ps_assign rfl) rfl ?_ | refine sg_seq ?_ | refine sg_region ?_ | refine sg_nil ?_ | refine sg_then ?_ | refine sg_ps (ps_bin rfl rfl inferInstance) rfl ?_ | refine sg_cond_t rfl ?_ | refine sg_ps (ps_extract rfl rfl) rfl ?_ | refine sg_ret ?_ | refine ex_then_ret ?_)
      refine ex_ret2 rfl rfl rfl 0 rfl trivial (fun w hO => ?_)
      have k1 := hO.tail
      exact PoolRep.shut hT hI (by unfold pcells; exact Own.back4 k1)
    | some bs =>
      have hf : findS S B id = (some (S.rows.length, rowSet (comeS S id bs) S.rows.length use), askS B (ask0 id)) := by unfold findS; rw [h2, hg0]
      rw [hf]
      have hbs : bs.length ≤ bigB := by
        rcases idx_cases id B.ent 0 with ⟨A, b2, C, e1, e2, e3, e4, e5⟩ | ⟨e1, e2, e3, e4⟩
        · rw [hg0] at e4
          simp only [Option.some.injEq] at e4
          subst e4
          exact hF.ebs (id, bs) (by rw [e1]; simp)
        · rw [hg0] at e3; cases e3
      refine sg_nilcap fun hnil => ?_
      simp only [Option.getD_some, Option.isSome_some, if_true] at hnil ⊢
      repeat' (first | refine sg_wo ?_ | refine sg_ps (ps_move rfl) rfl ?_ | refine sg_ps (ps_assign rfl) rfl ?_ | refine sg_seq ?_ | refine sg_region ?_ | refine sg_nil ?_ | refine sg_then ?_ | refine sg_ps (ps_bin rfl rfl inferInstance) rfl ?_ | refine sg_cond_f rfl ?_ | refine sg_ps (ps_extract rfl rfl) rfl ?_ | refine sg_skip ?_)
      refine sg_call (bclone_tri bs y.1 y.2 _ hbs (rd_sown 0 rfl fun _ _ h => h) (fun h => ⟨(hnil h).1, List.eq_nil_of_length_eq_zero (hnil h).2⟩)) rfl rfl (fun z _ => ?_)
      refine sg_own (L' := sown z.1 bs.length z.2 1 (bs.map bv) :: PoolRep p bp S :: BackRep bp (askS B (ask0 id)) :: R) (fun w hO => ?_) ?_
      · have k0 := hO.front1.tail
        have k1 : Own W w (PoolRep p bp S :: _) := PoolRep.shut hT hI (by unfold pcells; exact Own.back5 (Own.back5 k0))
        exact k1.front1
      repeat' (first | refine sg_wo ?_)
      refine sg_call (pcome_tri p bp S id bs z.1 z.2 _ h1 (by have := hF.asked; omega)) rfl rfl (fun x _ => ?_)
      refine PoolAt.open fun A C e ra rc m clk hT hI hA hx => ?_
      subst hx
      unfold PE.cells
      repeat' (first | refine sg_wo ?_ | refine sg_ps (ps_move rfl) rfl ?_ | refine sg_ps (ps_assign rfl) rfl ?_ | refine sg_seq ?_ | refine sg_region ?_ | refine sg_nil ?_ | refine sg_then ?_ | refine sg_ps (ps_fieldAddr rfl) rfl ?_ | refine sg_ps (ps_nilCheck rfl) rfl ?_ | refine sg_ret ?_ | refine sg_store0 [_, _, _] rfl rfl rfl (of_decide_eq_true rfl) ?_)
      obtain ⟨e', he'⟩ : ∃ e' : PE, e' = ⟨use e.pl, e.ptr, e.a, e.c, e.born⟩ := ⟨_, rfl⟩
      have hT2 : (A ++ e' :: C).map (·.pl) = (rowSet (comeS S id bs) S.rows.length use).rows := by rw [he', ← hA]; exact (modify_at use hT).symm
      have hdp : (A ++ e :: C).map PE.dp = (A ++ e' :: C).map PE.dp := by rw [he', List.map_append, List.map_append]; rfl
      have hme : (A ++ e :: C).map PE.me = (A ++ e' :: C).map PE.me := by rw [he', List.map_append, List.map_append]; rfl
      have hle : (A ++ e :: C).length = (A ++ e' :: C).length := by rw [List.length_append, List.length_append]; rfl
      refine ex_ret2 rfl rfl rfl e.ptr rfl trivial (fun w hO => ?_)
      rw [hdp, hme, hle] at hO
      refine PoolAt.shut (S := rowSet (comeS S id bs) S.rows.length use) (A := A) (B := C) (e := e') (ra := ra) (rc := rc) (m := m) hT2 (hI.swap (by rw [he']) (by rw [he']; rfl)) hA (by rw [he']) ?_
      subst he'
      exact hO
end Go.Proofs.Ytclehoaeppbmpaa
