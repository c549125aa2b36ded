/- Package pool: Len, Evict, Get. | Package pool, plain: what finding keeps. -/
import Derived.Test.YtclehoaeppbmpaaPO10
namespace Go.Proofs.Ytclehoaeppbmpaa
set_option linter.unusedVariables false
set_option linter.unusedSimpArgs false
set_option linter.unusedSectionVars false
set_option linter.unnecessarySimpa false
open Go Go.Proofs
def evictS (S : PlS) (B : BkS) : (Int × Int) × PlS × BkS := if S.rows = [] then ((0, 5), S, B) else goesS S B
set_option maxRecDepth 20000
set_option maxHeartbeats 4000000
attribute [local irreducible] SG WC WO W1 WD WK PS Rd Tri Exit.then Exit.inBlock bodyPost calmQ Mid sadd
variable {W : World} {n : Nat} {F : Fr} {L : List HP} {G : Act → World → Prop}
theorem plen_tri (p bp : Nat) (S : PlS) (R : List HP) : Tri Try.prog W 14 [dp p] (PoolRep p bp S :: R) (X := Unit) (fun _ => i64 S.rows.length) (fun _ => True) (fun _ => PoolRep p bp S :: R) := by
  refine tri_enter1 Try.func14 rfl Try.ntmps14 rfl ?_
  refine PoolRep.open fun T ra rc m clk hT hI => ?_
  have hTl : T.length = S.rows.length := by rw [← hT, List.length_map]
  unfold pcells
  rw [hTl]
  repeat' (first | refine sg_wo ?_ | refine sg_ps (ps_move rfl) rfl ?_ | refine sg_ps (ps_assign rfl) rfl ?_ | refine sg_seq ?_ | refine sg_region ?_ | refine sg_nil ?_ | refine sg_then ?_ | refine sg_ps (ps_fieldAddr rfl) rfl ?_ | refine sg_ps (ps_nilCheck rfl) rfl ?_ | refine sg_load 0 rfl rfl rfl rfl ?_ | refine sg_ps (ps_len rfl) rfl ?_ | refine sg_ret ?_)
  exact ex_ret1 rfl rfl () rfl trivial (fun w hO => PoolRep.shut hT hI (by unfold pcells; rw [hTl]; exact hO))
theorem pevict_tri {N : Nat} (p bp : Nat) (S : PlS) (B : BkS) (R : List HP) (hF : Fit S B N) (hN : N ≤ 100000) :
    Tri Try.prog W 12 [dp p] (PoolRep p bp S :: BackRep bp B :: R) (X := Unit) (fun _ => .tuple #[u64 (evictS S B).1.1, i64 (evictS S B).1.2]) (fun _ => True) (fun _ => PoolRep p bp (evictS S B).2.1 :: BackRep bp (evictS S B).2.2 :: R) := by
  refine tri_enter1 Try.func12 rfl Try.ntmps12 rfl ?_
  refine PoolRep.open fun T ra rc m clk hT hI => ?_
  have hTl : T.length = S.rows.length := by rw [← hT, List.length_map]
  unfold pcells
  rw [hTl]
  by_cases h0 : S.rows = []
  · have he : evictS S B = ((0, 5), S, B) := by unfold evictS; rw [if_pos h0]
    rw [he]
    have hl0 : S.rows.length = 0 := by rw [h0]; rfl
    rw [hl0]
    repeat' (first | refine sg_wo ?_ | refine sg_ps (ps_move rfl) rfl ?_ | refine sg_ps (ps_assign rfl) rfl ?_ | refine sg_seq ?_ | refine sg_region ?_ | refine sg_nil ?_ | refine sg_then ?_ | refine sg_ps (ps_fieldAddr rfl) rfl ?_ | refine sg_ps (ps_nilCheck rfl) rfl ?_ | refine sg_load 0 rfl rfl rfl rfl ?_ | refine sg_ps (ps_bin rfl rfl inferInstance) rfl ?_ | refine sg_cond_t rfl ?_ | refine sg_ps (ps_len rfl) rfl ?_ | refine sg_ret ?_ | refine ex_then_ret ?_)
    exact ex_ret2 rfl rfl rfl () rfl trivial (fun w hO => PoolRep.shut hT hI (by unfold pcells; rw [hTl, hl0]; exact hO))
  · have he : evictS S B = goesS S B := by unfold evictS; rw [if_neg h0]
    rw [he]
    have hl0 : 0 < S.rows.length := List.length_pos_iff.2 h0
    repeat' (first | refine sg_wo ?_ | refine sg_ps (ps_move rfl) rfl ?_ | refine sg_ps (ps_assign rfl) rfl ?_ | refine sg_seq ?_ | refine sg_region ?_ | refine sg_nil ?_ | refine sg_then ?_ | refine sg_ps (ps_fieldAddr rfl) rfl ?_ | refine sg_ps (ps_nilCheck rfl) rfl ?_ | refine sg_load 0 rfl rfl rfl rfl ?_ | refine sg_ps (ps_bin rfl rfl inferInstance) rfl ?_ | refine sg_ps (ps_len rfl) rfl ?_ | refine sg_skip ?_ | (refine sg_cond_dec rfl (fun hg => ?_) (fun hg => ?_) <;> first | (exfalso; omega) | (exact absurd rfl hg) | skip))
    refine sg_own (L' := PoolRep p bp S :: BackRep bp B :: R) (fun w hO => PoolRep.shut hT hI (by unfold pcells; rw [hTl]; exact hO)) ?_
    refine sg_call (pgoes_tri p bp S B R (hF.ok hN) (hF.okB hN)) rfl rfl (fun _ _ => ?_)
    repeat' (first | refine sg_wo ?_ | refine sg_ps (ps_assign rfl) rfl ?_ | refine sg_nil ?_ | refine sg_then ?_ | refine sg_ps (ps_extract rfl rfl) rfl ?_ | refine sg_ret ?_)
    exact ex_ret2 rfl rfl rfl () rfl trivial (fun w hO => hO)
end Go.Proofs.Ytclehoaeppbmpaa
namespace Go.Proofs.Ytclehoaeppbmpaa
set_option linter.unusedVariables false
set_option linter.unusedSimpArgs false
set_option linter.unusedSectionVars false
set_option linter.unnecessarySimpa false
open Go Go.Proofs
theorem getB_mem {l : EL} {id : Int} {bs : List UInt8} (h : getB l id = some bs) : (id, bs) ∈ l := by
  rcases idx_cases id l 0 with ⟨A, b2, C, e1, e2, e3, e4, e5⟩ | ⟨e1, e2, e3, e4⟩
  · rw [h] at e4
    simp only [Option.some.injEq] at e4
    subst e4
    rw [e1]; simp
  · rw [h] at e3; cases e3
theorem Fit.ask {S : PlS} {B : BkS} {N : Nat} (h : Fit S B N) (q : Int) : Fit S (askS B q) (N + 1) :=
  ⟨h.hand, h.rbs, h.ebs, by have := h.asked; rw [askS_len]; omega, by have := h.ent; show B.ent.length + S.rows.length ≤ _; omega⟩
theorem Fit.come {S : PlS} {B : BkS} {N : Nat} (h : Fit S B N) (id : Int) {bs : List UInt8} (hb : bs.length ≤ bigB) : Fit (comeS S id bs) B (N + 1) := by
  have hl : (comeS S id bs).rows.length = S.rows.length + 1 := by unfold comeS; simp
  refine ⟨?_, fun r hr => ?_, h.ebs, by have := h.asked; omega, by have := h.ent; omega⟩
  · left
    rw [hl]
    show S.hand < _
    rcases h.hand with h1 | ⟨h1, h2⟩ <;> omega
  · rcases List.mem_append.1 (show r ∈ S.rows ++ [⟨id, bs, false, false, 0⟩] from hr) with hr | hr
    · exact h.rbs r hr
    · simp only [List.mem_singleton] at hr
      subst hr; exact hb
theorem find_fit {S : PlS} {B : BkS} {N : Nat} {id : Int} (h : Fit S B N) :
    ((findS S B id).1 = none → Fit S (findS S B id).2 (N + 1)) ∧ ∀ i S', (findS S B id).1 = some (i, S') → Fit S' (findS S B id).2 (N + 2) ∧ i < S'.rows.length ∧ S'.most = S.most := by
  rcases at_cases id S.rows 0 with ⟨A, r, C, h1, h2, h3, h4⟩ | ⟨h1, h2⟩
  · have hf : findS S B id = (some (0 + A.length, rowSet S (0 + A.length) use), B) := by unfold findS; rw [h4]
    rw [hf]
    refine ⟨fun h => (by cases h), fun i S' hi => ?_⟩
    simp only [Option.some.injEq, Prod.mk.injEq] at hi
    obtain ⟨rfl, rfl⟩ := hi
    refine ⟨(h.set _ use h.rbs).mono (by omega), ?_, rfl⟩
    unfold rowSet
    rw [List.length_modify, h1]; simp
  · cases hg : getB B.ent id with
    | none =>
      have hf : findS S B id = (none, askS B (ask0 id)) := by unfold findS; rw [h2, hg]
      rw [hf]
      exact ⟨fun _ => h.ask _, fun i S' hi => by cases hi⟩
    | some bs =>
      have hf : findS S B id = (some (S.rows.length, rowSet (comeS S id bs) S.rows.length use), askS B (ask0 id)) := by unfold findS; rw [h2, hg]
      rw [hf]
      refine ⟨fun h => (by cases h), fun i S' hi => ?_⟩
      simp only [Option.some.injEq, Prod.mk.injEq] at hi
      obtain ⟨rfl, rfl⟩ := hi
      have hb := h.ebs _ (getB_mem hg)
      have hc := (h.ask (ask0 id)).come id hb
      refine ⟨hc.set _ use hc.rbs, ?_, rfl⟩
      unfold rowSet comeS
      rw [List.length_modify, List.length_append]; simp
end Go.Proofs.Ytclehoaeppbmpaa
