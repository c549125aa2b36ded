/- A region that draws its order where two effects are free at once: both ways are walked. -/
import Derived.Test.YtgapgpknghnemaaDR2
namespace Go.Proofs.Ytgapgpknghnemaa
set_option linter.unusedVariables false
set_option linter.unusedSimpArgs false
set_option linter.unusedSectionVars false
set_option linter.unnecessarySimpa false
open Go
inductive OT where
  | done (π : List Nat)
  | fork (π : List Nat) (i : Nat) (t : OT) (j : Nat) (u : OT)
/-- What the walk of a fork's first part must end in. -/
def forkQ (Q : Exit → Act → World → Prop) (K : Act → World → Prop) : Exit → Act → World → Prop
  | .normal, a, w => K a w
  | e, a, w => Q e a w
def effQ (P : Program) (ops : Array Oper) (Q : Exit → Act → World → Prop) (R : World → Prop) (i : Nat) (K : (World → Prop) → Act → World → Prop) (a : Act) (w : World) : Prop := match ops[i]? with
  | none => False
  | some o => W1 P ops (calmQ Q) o (fun a' w' => ∃ R' : World → Prop, ((∀ w, R' w → R w) ∨ bar ops i = true) ∧ R' w' ∧ K R' a' w') a w
def WT (P : Program) (ops : Array Oper) (Q : Exit → Act → World → Prop) : OT → (World → Prop) → Act → World → Prop
  | .done π, R => WK P ops Q R π
  | .fork π i t j u, R => WK P ops (forkQ Q fun a w => effQ P ops Q R i (WT P ops Q t) a w ∧ effQ P ops Q R j (WT P ops Q u) a w) R π
def listAll (listed : Array Bool) : List Nat → Array Bool
  | [] => listed
  | i :: π => listAll (listed.setIfInBounds i true) π
def chkPre (ops : Array Oper) : List Nat → Array Bool → Bool
  | [], _ => true
  | i :: π, listed => (match ops[i]? with
    | none => false
    | some o => Nat.ble (kindOf o.op) 1 && (Region.ready .any ops listed).contains i && Region.free .any ops listed i) && chkPre ops π (listed.setIfInBounds i true)
def chkT (ops : Array Oper) : Nat → OT → Array Bool → Bool
  | fuel, .done π, listed => (π.length == fuel) && chkK ops π listed
  | fuel, .fork π i t j u, listed => match fuel - π.length with
    | 0 => false
    | m + 1 => (fuel == π.length + (m + 1)) && chkPre ops π listed && (Region.ready .any ops (listAll listed π) == [i, j] || Region.ready .any ops (listAll listed π) == [j, i]) &&
      chkT ops m t ((listAll listed π).setIfInBounds i true) && chkT ops m u ((listAll listed π).setIfInBounds j true)
section
variable {P : Program} [BS P] {ops : Array Oper} {Q : Exit → Act → World → Prop}
theorem wpAnyK_of_pre (hs : Region.noSelect ops = true) {K : Act → World → Prop} {R : World → Prop} {m : Nat} : ∀ (π : List Nat) (listed : Array Bool) (a : Act) (w : World), chkPre ops π listed = true → Closed ops listed → R w → WK P ops (forkQ Q K) R π a w →
    (∀ a' , Closed ops (listAll listed π) → K a' w → wpAnyK P .any ops (calmQ Q) R m (listAll listed π) a' w) → wpAnyK P .any ops (calmQ Q) R (π.length + m) listed a w
  | [], listed, a, w, _, hcl, _, h, hk => by
    rw [List.length_nil, Nat.zero_add]
    exact hk a hcl h
  | i :: π, listed, a, w, hc, hcl, hR, h, hk => by
    simp only [chkPre, Bool.and_eq_true] at hc
    obtain ⟨hc, hrest⟩ := hc
    rw [show (i :: π).length + m = (π.length + m) + 1 by simp; omega]
    cases ho : ops[i]? with
    | none => simp [ho] at hc
    | some o =>
      simp only [ho, Bool.and_eq_true] at hc
      obtain ⟨⟨hk1, hr⟩, hf⟩ := hc
      have hk1 : kindOf o.op ≤ 1 := Nat.le_of_ble_eq_true hk1
      have hr : i ∈ Region.ready .any ops listed := by simpa using hr
      simp only [WK, ho] at h
      have hQ : ∀ c a w, calmQ Q (.panic c) a w → False := fun c a w h => h
      by_cases h0 : kindOf o.op = 0
      · rw [if_pos h0] at h
        obtain ⟨v, hy, hK⟩ := h
        exact wpAny_firstK (cs := []) ho (Region.noSelect_spec hs) hQ (.inl rfl) _ (by intro w' _ p hp; cases hp) listed a w hcl (Region.free_spec ho hf) hr hy hR (wpAnyK_of_pre hs π _ _ _ hrest (hcl.step hr) hR hK hk)
      · rw [if_neg h0] at h
        have h1 : kindOf o.op = 1 := by omega
        rw [if_pos h1] at h
        obtain ⟨v, cs, hy, hS, hK⟩ := h
        exact wpAny_firstK ho (Region.noSelect_spec hs) hQ (.inr h1) _ hS listed a w hcl (Region.free_spec ho hf) hr hy hR (wpAnyK_of_pre hs π _ _ _ hrest (hcl.step hr) hR hK hk)
theorem wpOp_of_eff {R : World → Prop} {i : Nat} {K : (World → Prop) → Act → World → Prop} {m : Nat} {listed : Array Bool} {a : Act} {w : World} (h : effQ P ops Q R i K a w)
    (hk : ∀ R' a' w', R' w' → K R' a' w' → wpAnyK P .any ops (calmQ Q) R' m (listed.setIfInBounds i true) a' w') :
    wpOp P ops (calmQ Q) i (fun a' w' => ∃ R' : World → Prop, ((∀ w, R' w → R w) ∨ bar ops i = true) ∧ R' w' ∧ wpAnyK P .any ops (calmQ Q) R' m (listed.setIfInBounds i true) a' w') a w := by
  unfold effQ at h
  cases ho : ops[i]? with
  | none => simp [ho] at h
  | some o =>
    simp only [ho] at h
    unfold wpOp
    simp only [ho]
    unfold W1 at h
    split
    · rename_i hw
      rw [if_pos hw] at h
      exact .inl (Oper.wp_mono (fun a' w' ⟨R', hR', h1, h2⟩ => ⟨R', hR', h1, hk R' a' w' h1 h2⟩) h)
    · rename_i hw
      rw [if_neg hw] at h
      obtain ⟨R', hR', h1, h2⟩ := h
      exact ⟨R', hR', h1, hk R' _ w h1 h2⟩
theorem wpAnyK_of_WT (hs : Region.noSelect ops = true) : ∀ (t : OT) (fuel : Nat) (R : World → Prop) (listed : Array Bool) (a : Act) (w : World), chkT ops fuel t listed = true → Closed ops listed → R w → WT P ops Q t R a w → wpAnyK P .any ops (calmQ Q) R fuel listed a w
  | .done π, fuel, R, listed, a, w, hc, hcl, hR, h => by
    simp only [chkT, Bool.and_eq_true, beq_iff_eq] at hc
    obtain ⟨rfl, hc⟩ := hc
    exact wpAnyK_of_WK hs π listed a w hc hcl hR h
  | .fork π i t j u, fuel, R, listed, a, w, hc, hcl, hR, h => by
    unfold chkT at hc
    split at hc
    · cases hc
    · rename_i m hm
      simp only [Bool.and_eq_true, Bool.or_eq_true, beq_iff_eq] at hc
      obtain ⟨⟨⟨⟨rfl, hpre⟩, hrd⟩, ht⟩, hu⟩ := hc
      refine wpAnyK_of_pre hs π listed a w hpre hcl hR h (fun a' hcl' hK => ?_)
      obtain ⟨h1, h2⟩ := hK
      have hij : ∀ k ∈ Region.ready .any ops (listAll listed π), k = i ∨ k = j := by
        intro k hk
        rcases hrd with e | e <;> rw [e] at hk <;> simp at hk <;> omega
      have hi : i ∈ Region.ready .any ops (listAll listed π) := by rcases hrd with e | e <;> rw [e] <;> simp
      have hj : j ∈ Region.ready .any ops (listAll listed π) := by rcases hrd with e | e <;> rw [e] <;> simp
      refine ⟨fun e => (by rw [e] at hi; cases hi), fun k hk => ?_⟩
      rcases hij k hk with rfl | rfl
      · exact wpOp_of_eff h1 (fun R' a2 w2 hr hk2 => wpAnyK_of_WT hs t m R' _ a2 w2 ht (hcl'.step hi) hr hk2)
      · exact wpOp_of_eff h2 (fun R' a2 w2 hr hk2 => wpAnyK_of_WT hs u m R' _ a2 w2 hu (hcl'.step hj) hr hk2)
end
section
variable {P : Program} [BS P] {W : World} {n : Nat} {F : Fr} {L LR : List HP} {Q : Exit → Act → World → Prop} {l : List Oper} {π : List Nat} {i : Nat}
theorem sg_drawT {id : Nat} (LR : List HP) (t : OT) (hm : P.follows .mixedOrders = true) (hB : (Region.noSelect l.toArray && chkT l.toArray l.length t (Array.replicate l.length false)) = true)
    (hL : ∀ w, Own W w L → Own W w LR) (h : SG W n F L (WT P l.toArray Q t (fun w => Own W w LR))) : SG W n F L (WC P (.region id l.toArray true) Q) := by
  intro w hO a ha
  simp only [Bool.and_eq_true] at hB
  have h1 := (wpAnyK_of_WT hB.1 t _ _ _ a w.drew hB.2 (Closed.start _) (hL _ hO.drew) (h w.drew hO.drew a ha)).any
  refine wp_region_any hm ?_
  have h2 := wpAny_monoQ (Q' := Q) (fun e a w he => by cases e <;> first | exact he | exact he.elim) _ _ _ _ h1
  have e1 : l.toArray.size = l.length := by simp
  rw [e1]; exact h2
/-- A meeting point behind what is walked now. -/
theorem sg_then_mid {γ : Type} (φ : γ → Prop) (Fm : γ → Fr) (Lm : γ → List HP) {x : Code} {K : Act → World → Prop} (hx : SG W n F L (WC P x (Exit.then (Mid W n φ Fm Lm) Q))) (hy : ∀ g, φ g → SG W n (Fm g) (Lm g) K) : SG W n F L (WC P x (Exit.then K Q)) := by
  intro w hO a ha
  refine wp_mono (hx w hO a ha) ?_
  intro e a' w' h
  cases e with
  | normal => obtain ⟨g, hg, hF, hL⟩ := h; exact hy g hg w' hL a' hF
  | _ => exact h
theorem st_done {R : World → Prop} (h : SG W n F L (WK P l.toArray Q R π)) : SG W n F L (WT P l.toArray Q (.done π) R) := h
theorem st_pre {R : World → Prop} {t u : OT} {i j : Nat} (h : SG W n F L (WK P l.toArray (forkQ Q fun a w => effQ P l.toArray Q R i (WT P l.toArray Q t) a w ∧ effQ P l.toArray Q R j (WT P l.toArray Q u) a w) R π)) : SG W n F L (WT P l.toArray Q (.fork π i t j u) R) := h
theorem st_fork {R : World → Prop} {K1 K2 : (World → Prop) → Act → World → Prop} {i j : Nat} {oi oj : Oper} (hi : l[i]? = some oi) (hj : l[j]? = some oj)
    (h1 : SG W n F L (W1 P l.toArray (calmQ Q) oi (fun a w => ∃ R' : World → Prop, ((∀ w, R' w → R w) ∨ bar l.toArray i = true) ∧ R' w ∧ K1 R' a w)))
    (h2 : SG W n F L (W1 P l.toArray (calmQ Q) oj (fun a w => ∃ R' : World → Prop, ((∀ w, R' w → R w) ∨ bar l.toArray j = true) ∧ R' w ∧ K2 R' a w))) :
    SG W n F L (forkQ Q (fun a w => effQ P l.toArray Q R i K1 a w ∧ effQ P l.toArray Q R j K2 a w) .normal) := by
  intro w hO a ha
  refine ⟨?_, ?_⟩
  · simp only [effQ, List.getElem?_toArray, hi]; exact h1 w hO a ha
  · simp only [effQ, List.getElem?_toArray, hj]; exact h2 w hO a ha
/-- After an effect of a fork. -/
theorem st_back {R : World → Prop} {t : OT} (LR2 : List HP) (hR : ∀ w, Own W w LR2 → R w) (hL : ∀ w, Own W w L → Own W w LR2) (h : SG W n F L (WT P l.toArray Q t (fun w => Own W w LR2))) :
    SG W n F L (fun a w => ∃ R' : World → Prop, ((∀ w, R' w → R w) ∨ bar l.toArray i = true) ∧ R' w ∧ WT P l.toArray Q t R' a w) := fun w hO a ha => ⟨_, .inl hR, hL w hO, h w hO a ha⟩
end
end Go.Proofs.Ytgapgpknghnemaa
