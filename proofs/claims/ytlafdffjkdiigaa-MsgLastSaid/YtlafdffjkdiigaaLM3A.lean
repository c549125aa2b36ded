/- Put and Del: plain facts. -/
import Derived.Test.YtlafdffjkdiigaaLM
import Derived.Test.YtlafdffjkdiigaaMGQ
namespace Go.Proofs.Ytlafdffjkdiigaa
set_option linter.unusedVariables false
set_option linter.unusedSimpArgs false
set_option linter.unusedSectionVars false
set_option linter.unnecessarySimpa false
open Go Go.Proofs
set_option maxRecDepth 20000
set_option maxHeartbeats 4000000
attribute [local irreducible] SG WC WO W1 WD WK PS Rd Tri Exit.then Exit.inBlock bodyPost calmQ Mid sadd
variable {W : World} {n : Nat} {F : Fr} {L : List HP} {G : Act → World → Prop}
theorem apply_putdel (e : EN) (m : MS) (s : ST) (h : (m.kind = 1 ∧ s = ⟨true, m.val⟩) ∨ (m.kind = 2 ∧ s = ⟨false, []⟩)) : e.apply m = applyW e m (fun _ => s) := by
  rcases h with ⟨h1, rfl⟩ | ⟨h1, rfl⟩
  · unfold EN.apply; rw [if_pos h1]
  · unfold EN.apply; rw [if_neg (by omega), if_pos h1]
theorem applyW_zero (e : EN) (m : MS) (wk : ST → ST) (hk : m.kind ≠ 4) (h : m.txn = 0) : applyW e m wk = mkE e.key (wk e.old) e.own e.txn := by
  unfold applyW; rw [if_neg hk, if_pos h]
theorem applyW_txn (e : EN) (m : MS) (wk : ST → ST) (hk : m.kind ≠ 4) (h : m.txn ≠ 0) (ht : e.txn = 0 ∨ e.txn = m.txn) : applyW e m wk = mkE e.key e.old (if e.txn = 0 then wk e.old else wk e.own) m.txn := by
  unfold applyW
  rw [if_neg hk, if_neg h]
  by_cases h0 : e.txn = 0
  · rw [if_pos h0, if_pos h0]
  · rw [if_neg h0, if_pos (ht.resolve_left h0), if_neg h0, ht.resolve_left h0]
theorem applyW_other (e : EN) (he : e.neat) (m : MS) (wk : ST → ST) (hk : m.kind ≠ 4) (h : m.txn ≠ 0) (h1 : e.txn ≠ 0) (h2 : e.txn ≠ m.txn) : applyW e m wk = e := by
  unfold applyW
  rw [if_neg hk, if_neg h, if_neg h1, if_neg h2, neat_mkE he]
abbrev putM (e : EN) (t : Int) (val : List UInt8) : MS := ⟨0, 1, e.key, t, val, 0, 0⟩
abbrev delM (e : EN) (t : Int) : MS := ⟨0, 2, e.key, t, [], 0, 0⟩
structure Last (e p d : EN) (t : Int) (val : List UInt8) : Prop where
  vp : p.view t = ⟨true, val⟩
  vd : (d.view t).has = false
  dd : d.apply (delM e t) = d
  pe : t ≠ 0 → p.has = e.has ∧ p.val = e.val ∧ p.txn = t
theorem last_facts (e : EN) (he : e.neat) (t : Int) (val : List UInt8) (hc : (t = 0 ∧ e.txn = 0) ∨ (t ≠ 0 ∧ (e.txn = 0 ∨ e.txn = t))) : Last e (e.apply (putM e t val)) ((e.apply (putM e t val)).apply (delM e t)) t val := by
  have hp := apply_putdel e (putM e t val) ⟨true, val⟩ (.inl ⟨rfl, rfl⟩)
  have hd : ∀ z : EN, z.apply (delM e t) = applyW z (delM e t) (fun _ => ⟨false, []⟩) := fun z => apply_putdel z (delM e t) ⟨false, []⟩ (.inr ⟨rfl, rfl⟩)
  rcases hc with ⟨rfl, h0⟩ | ⟨ht, h0⟩
  · have e1 : e.apply (putM e 0 val) = mkE e.key ⟨true, val⟩ e.own 0 := by rw [hp, applyW_zero _ _ _ (show (1 : Int) ≠ 4 by omega) rfl, h0]
    have e2 : (e.apply (putM e 0 val)).apply (delM e 0) = mkE e.key ⟨false, []⟩ ⟨false, []⟩ 0 := by
      rw [e1, hd, applyW_zero _ _ _ (show (2 : Int) ≠ 4 by omega) rfl]
      exact mkE_congr rfl (fun h => absurd rfl h)
    rw [e2, e1]
    refine ⟨?_, ?_, ?_, fun h => absurd rfl h⟩
    · rw [view_zero, mkE_old]; rfl
    · rw [view_zero, mkE_old]; rfl
    · rw [hd, applyW_zero _ _ _ (show (2 : Int) ≠ 4 by omega) rfl]
      exact mkE_congr rfl (fun h => absurd rfl h)
  · have e1 : e.apply (putM e t val) = mkE e.key e.old ⟨true, val⟩ t := by
      rw [hp, applyW_txn _ _ _ (show (1 : Int) ≠ 4 by omega) ht h0]
      split <;> rfl
    have e2 : (e.apply (putM e t val)).apply (delM e t) = mkE e.key e.old ⟨false, []⟩ t := by
      rw [e1, hd, applyW_txn _ _ _ (show (2 : Int) ≠ 4 by omega) ht (.inr rfl)]
      refine mkE_congr (by rw [mkE_old, nrm_nrm]) (fun _ => ?_)
      split <;> rfl
    rw [e2, e1]
    refine ⟨?_, ?_, ?_, fun _ => ⟨?_, ?_, rfl⟩⟩
    · have : (mkE e.key e.old ⟨true, val⟩ t).view t = (mkE e.key e.old ⟨true, val⟩ t).own := if_pos ⟨ht, rfl⟩
      rw [this, mkE_own _ _ _ ht]; rfl
    · have : (mkE e.key e.old ⟨false, []⟩ t).view t = (mkE e.key e.old ⟨false, []⟩ t).own := if_pos ⟨ht, rfl⟩
      rw [this, mkE_own _ _ _ ht]; rfl
    · rw [hd, applyW_txn _ _ _ (show (2 : Int) ≠ 4 by omega) ht (.inr rfl)]
      refine mkE_congr (by rw [mkE_old, nrm_nrm]) (fun _ => ?_)
      split <;> rfl
    · rfl
    · show (if e.has = true then e.val else []) = e.val
      split
      · rfl
      · rename_i h; exact (he.v (by simpa using h)).symm
end Go.Proofs.Ytlafdffjkdiigaa
