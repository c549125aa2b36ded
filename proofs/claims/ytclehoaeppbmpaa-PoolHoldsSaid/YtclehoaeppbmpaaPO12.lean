/- Package pool, plain: what finding keeps. -/
import Derived.Test.YtclehoaeppbmpaaPO11
namespace Go.Proofs.Ytclehoaeppbmpaa
set_option linter.unusedVariables false
set_option linter.unusedSimpArgs false
set_option linter.unusedSectionVars false
set_option linter.unnecessarySimpa false
open Go Go.Proofs
theorem getB_mem {l : EL} {id : Int} {bs : List UInt8} (h : getB l id = some bs) : (id, bs) ∈ l := by
  rcases idx_cases id l 0 with ⟨A, b2, C, e1, e2, e3, e4, e5⟩ | ⟨e1, e2, e3, e4⟩
  · rw [h] at e4
    simp only [Option.some.injEq] at e4
    subst e4
    rw [e1]; simp
  · rw [h] at e3; cases e3
theorem Fit.ask {S : PlS} {B : BkS} {N : Nat} (h : Fit S B N) (q : Int) : Fit S (askS B q) (N + 1) :=
  ⟨h.hand, h.rbs, h.ebs, by have := h.asked; rw [askS_len]; omega, by have := h.ent; show B.ent.length + S.rows.length ≤ _; omega⟩
theorem Fit.come {S : PlS} {B : BkS} {N : Nat} (h : Fit S B N) (id : Int) {bs : List UInt8} (hb : bs.length ≤ bigB) : Fit (comeS S id bs) B (N + 1) := by
  have hl : (comeS S id bs).rows.length = S.rows.length + 1 := by unfold comeS; simp
  refine ⟨?_, fun r hr => ?_, h.ebs, by have := h.asked; omega, by have := h.ent; omega⟩
  · left
    rw [hl]
    show S.hand < _
    rcases h.hand with h1 | ⟨h1, h2⟩ <;> omega
  · rcases List.mem_append.1 (show r ∈ S.rows ++ [⟨id, bs, false, false, 0⟩] from hr) with hr | hr
    · exact h.rbs r hr
    · simp only [List.mem_singleton] at hr
      subst hr; exact hb
theorem find_fit {S : PlS} {B : BkS} {N : Nat} {id : Int} (h : Fit S B N) :
    ((findS S B id).1 = none → Fit S (findS S B id).2 (N + 1)) ∧ ∀ i S', (findS S B id).1 = some (i, S') → Fit S' (findS S B id).2 (N + 2) ∧ i < S'.rows.length ∧ S'.most = S.most := by
  rcases at_cases id S.rows 0 with ⟨A, r, C, h1, h2, h3, h4⟩ | ⟨h1, h2⟩
  · have hf : findS S B id = (some (0 + A.length, rowSet S (0 + A.length) use), B) := by unfold findS; rw [h4]
    rw [hf]
    refine ⟨fun h => (by cases h), fun i S' hi => ?_⟩
    simp only [Option.some.injEq, Prod.mk.injEq] at hi
    obtain ⟨rfl, rfl⟩ := hi
    refine ⟨(h.set _ use h.rbs).mono (by omega), ?_, rfl⟩
    unfold rowSet
    rw [List.length_modify, h1]; simp
  · cases hg : getB B.ent id with
    | none =>
      have hf : findS S B id = (none, askS B (ask0 id)) := by unfold findS; rw [h2, hg]
      rw [hf]
      exact ⟨fun _ => h.ask _, fun i S' hi => by cases hi⟩
    | some bs =>
      have hf : findS S B id = (some (S.rows.length, rowSet (comeS S id bs) S.rows.length use), askS B (ask0 id)) := by unfold findS; rw [h2, hg]
      rw [hf]
      refine ⟨fun h => (by cases h), fun i S' hi => ?_⟩
      simp only [Option.some.injEq, Prod.mk.injEq] at hi
      obtain ⟨rfl, rfl⟩ := hi
      have hb := h.ebs _ (getB_mem hg)
      have hc := (h.ask (ask0 id)).come id hb
      refine ⟨hc.set _ use hc.rbs, ?_, rfl⟩
      unfold rowSet comeS
      rw [List.length_modify, List.length_append]; simp
end Go.Proofs.Ytclehoaeppbmpaa
