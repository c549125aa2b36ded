/- MsgEnds: Abort leaves nothing, Commit what was made. -/
import Derived.Test.YtlafdffjkdiigaaLM3A
namespace Go.Proofs.Ytlafdffjkdiigaa
set_option linter.unusedVariables false
set_option linter.unusedSimpArgs false
set_option linter.unusedSectionVars false
set_option linter.unnecessarySimpa false
open Go Go.Proofs
set_option maxRecDepth 20000
set_option maxHeartbeats 4000000
attribute [local irreducible] SG WC WO W1 WD WK PS Rd Tri Exit.then Exit.inBlock bodyPost calmQ Mid sadd
variable {W : World} {n : Nat} {F : Fr} {L : List HP} {G : Act → World → Prop}
/-- What a Put, Del or Add makes of a slot. -/
def MS.make (m : MS) (s : ST) : ST := if m.kind = 1 then ⟨true, m.val⟩ else if m.kind = 2 then ⟨false, []⟩ else s.add m
theorem apply_make (e : EN) (m : MS) (h : 1 ≤ m.kind ∧ m.kind ≤ 3 ∧ 0 ≤ m.off) : e.apply m = applyW e m m.make := by
  unfold EN.apply
  by_cases h1 : m.kind = 1
  · rw [if_pos h1]; congr 1; funext s; exact (if_pos h1).symm
  by_cases h2 : m.kind = 2
  · rw [if_neg h1, if_pos h2]; congr 1; funext s; unfold MS.make; rw [if_neg h1, if_pos h2]
  · rw [if_neg h1, if_neg h2, if_pos ⟨by omega, h.2.2⟩]; congr 1; funext s; unfold MS.make; rw [if_neg h1, if_neg h2]
/-- The two entries, and the slot that both have made. -/
structure Pair (k : List UInt8) (eo : ST) (t : Int) (own plain : EN) (s : ST) : Prop where
  ns : nrm s = s
  p : plain = mkE k s ⟨false, []⟩ 0
  o : (own = mkE k eo ⟨false, []⟩ 0 ∧ s = eo) ∨ own = mkE k eo s t
theorem Pair.step {k : List UInt8} {eo : ST} {t : Int} {own plain : EN} {s : ST} (h : Pair k eo t own plain s) (ht : t ≠ 0) (heo : nrm eo = eo) (m m0 : MS) (hm : 1 ≤ m.kind ∧ m.kind ≤ 3 ∧ 0 ≤ m.off) (hmt : m.txn = t)
    (h0 : m0 = { m with txn := 0 }) : Pair k eo t (own.apply m) (plain.apply m0) (nrm (m.make s)) ∧ own.apply m = mkE k eo (nrm (m.make s)) t := by
  have hk : m.kind ≠ 4 := by omega
  have hmk : m0.make = m.make := by subst h0; rfl
  have e1 : plain.apply m0 = mkE k (nrm (m.make s)) ⟨false, []⟩ 0 := by
    rw [apply_make _ m0 (by subst h0; exact hm), applyW_zero _ _ _ (by subst h0; exact hk) (by subst h0; rfl), hmk, h.p, mkE_old, h.ns]
    exact mkE_congr (nrm_nrm _).symm (fun h => absurd rfl h)
  have e2 : own.apply m = mkE k eo (nrm (m.make s)) t := by
    rw [apply_make _ m hm]
    rcases h.o with ⟨ho, hs⟩ | ho
    · rw [applyW_txn _ _ _ hk (by rw [hmt]; exact ht) (.inl (by rw [ho]; rfl)), hmt, ho, if_pos (show (mkE k eo ⟨false, []⟩ 0).txn = 0 from rfl)]
      refine mkE_congr (by rw [mkE_old, nrm_nrm]) (fun _ => ?_)
      rw [mkE_old, heo, nrm_nrm, hs]
    · rw [applyW_txn _ _ _ hk (by rw [hmt]; exact ht) (.inr (by rw [ho, hmt]; rfl)), hmt, ho, if_neg (show (mkE k eo s t).txn ≠ 0 from ht)]
      refine mkE_congr (by rw [mkE_old, nrm_nrm]) (fun _ => ?_)
      rw [mkE_own _ _ _ ht, h.ns, nrm_nrm]
  exact ⟨⟨nrm_nrm _, e1, .inr e2⟩, e2⟩
theorem apply_abort (e : EN) (m : MS) (h : m.kind = 6) : e.apply m = if e.txn ≠ 0 ∧ e.txn = m.txn then mkE e.key e.old e.own 0 else mkE e.key e.old e.own e.txn := by
  unfold EN.apply
  rw [if_neg (by omega), if_neg (by omega), if_neg (by omega), if_neg (by omega)]
  unfold applyN
  rw [if_neg (show ¬ m.kind = 5 by omega), if_pos h]
theorem mkE_again (k : List UInt8) (a b : ST) (t : Int) : mkE k (mkE k a b t).old (mkE k a b t).own t = mkE k a b t := neat_mkE (mkE_neat k a b t)
theorem Pair.abort {k : List UInt8} {eo : ST} {t : Int} {own plain : EN} {s : ST} (h : Pair k eo t own plain s) (ht : t ≠ 0) (m : MS) (hk : m.kind = 6) (hmt : m.txn = t) : own.apply m = mkE k eo ⟨false, []⟩ 0 := by
  rw [apply_abort _ _ hk, hmt]
  rcases h.o with ⟨ho, hs⟩ | ho
  · rw [ho, if_neg (by rintro ⟨h1, _⟩; exact h1 rfl)]
    exact mkE_again k eo ⟨false, []⟩ 0
  · rw [ho, if_pos ⟨ht, rfl⟩]
    exact mkE_congr (by rw [mkE_old, nrm_nrm]) (fun h => absurd rfl h)
theorem Pair.commit {k : List UInt8} {eo : ST} {t : Int} {own plain : EN} {s : ST} (h : Pair k eo t own plain s) (ht : t ≠ 0) (m : MS) (hk : m.kind = 5) (hmt : m.txn = t) : own.apply m = plain := by
  rw [apply_commit _ _ hk, hmt, h.p]
  rcases h.o with ⟨ho, hs⟩ | ho
  · rw [ho, if_neg (by rintro ⟨h1, _⟩; exact h1 rfl), hs]
    exact mkE_again k eo ⟨false, []⟩ 0
  · rw [ho, if_pos ⟨ht, rfl⟩]
    exact mkE_congr (by rw [mkE_own _ _ _ ht, nrm_nrm]) (fun h => absurd rfl h)
theorem Pair.other {k : List UInt8} {eo : ST} {t : Int} {own plain : EN} {s : ST} (h : Pair k eo t own plain s) (m : MS) (hk : m.kind = 5) (hmt : m.txn ≠ t) : own.apply m = own := by
  have hn : own.neat := by rcases h.o with ⟨ho, _⟩ | ho <;> rw [ho] <;> exact mkE_neat _ _ _ _
  rw [apply_commit _ _ hk, if_neg ?_, neat_mkE hn]
  rintro ⟨h1, h2⟩
  rcases h.o with ⟨ho, _⟩ | ho
  · rw [ho] at h1; exact h1 rfl
  · rw [ho] at h2; exact hmt h2.symm
end Go.Proofs.Ytlafdffjkdiigaa
