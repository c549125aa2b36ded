/- The symbolic state: a frame as a list of slots, the memory as a list of chunks; one lemma for each operation. -/
import Derived.Test.YtclehoaeppbmpaaSL
namespace Go.Proofs.Ytclehoaeppbmpaa
set_option linter.unusedVariables false
set_option linter.unusedSimpArgs false
set_option linter.unusedSectionVars false
set_option linter.unnecessarySimpa false
open Go

abbrev Fr := List (Nat × Value)
def look : Fr → Nat → Option Value
  | [], _ => none
  | (j, v) :: F, i => match Nat.beq i j with
    | true => some v
    | false => look F i

structure Rep (a : Act) (n : Nat) (F : Fr) : Prop where
  size : a.tmps.size = n
  defers : a.defers = []
  get : ∀ i v, look F i = some v → a.tmps[i]? = some v

theorem Rep.put {a : Act} {n : Nat} {F : Fr} (h : Rep a n F) {d : Nat} (hd : Nat.blt d n = true) (v : Value) : Rep (a.put (some d) v) n ((d, v) :: F) := by
  have hlt : d < n := by simpa [Nat.blt_eq] using hd
  refine ⟨by simpa [Act.put] using h.size, by simpa [Act.put] using h.defers, ?_⟩
  intro i u hi
  simp only [look] at hi
  simp only [Act.put]
  split at hi
  · rename_i e
    have e' : i = d := Nat.eq_of_beq_eq_true e
    subst e'
    simp only [Option.some.injEq] at hi
    subst hi
    simp [h.size, hlt]
  · rename_i e
    have e' : i ≠ d := Nat.ne_of_beq_eq_false e
    rw [Array.getElem?_setIfInBounds_ne (Ne.symm e')]
    exact h.get i u hi

def SubF (F' F : Fr) : Prop := ∀ i v, look F' i = some v → look F i = some v
theorem SubF.nil {F : Fr} : SubF [] F := fun i v h => by simp [look] at h
theorem SubF.cons {F' F : Fr} {i : Nat} {v : Value} (h : look F i = some v) (hs : SubF F' F) : SubF ((i, v) :: F') F := by
  intro j u hj
  simp only [look] at hj
  split at hj
  · rename_i e
    have := Nat.eq_of_beq_eq_true e
    subst this
    rw [h]; exact hj
  · exact hs j u hj
theorem SubF.rfl' {F : Fr} : SubF F F := fun _ _ h => h
theorem Rep.sub {a : Act} {n : Nat} {F F' : Fr} (h : Rep a n F) (hs : SubF F' F) : Rep a n F' := ⟨h.size, h.defers, fun i v e => h.get i v (hs i v e)⟩

def ev (F : Fr) : Operand → Option Value
  | .tmp t => look F t
  | .const v => some v
  | .global g => some (.pointer (some ⟨g, 0, none⟩))
  | .func f => some (.func (.func f) #[] #[])
def evs (F : Fr) : List Operand → Option (List Value)
  | [] => some []
  | x :: xs => match ev F x with
    | none => none
    | some v => match evs F xs with
      | none => none
      | some vs => some (v :: vs)
theorem Rep.ev {a : Act} {n : Nat} {F : Fr} (h : Rep a n F) {x : Operand} {v : Value} (hx : ev F x = some v) : a.eval x = v := by
  cases x <;> simp only [Ytclehoaeppbmpaa.ev, Option.some.injEq] at hx <;> simp only [Act.eval]
  case tmp t => have := h.get t v hx; simp [this]
  all_goals exact hx
theorem Rep.evs {a : Act} {n : Nat} {F : Fr} (h : Rep a n F) : ∀ {xs : List Operand} {vs : List Value}, evs F xs = some vs → xs.map a.eval = vs
  | [], vs, e => by simp [Ytclehoaeppbmpaa.evs] at e; subst e; rfl
  | x :: xs, vs, e => by
    simp only [Ytclehoaeppbmpaa.evs] at e
    split at e
    · simp at e
    · rename_i v hv
      split at e
      · simp at e
      · rename_i us hus
        simp only [Option.some.injEq] at e
        subst e
        simp [h.ev hv, h.evs hus]

def SG (W : World) (n : Nat) (F : Fr) (L : List HP) (G : Act → World → Prop) : Prop := ∀ w, Own W w L → ∀ a, Rep a n F → G a w
def WC (P : Program) (c : Code) (Q : Exit → Act → World → Prop) : Act → World → Prop := c.wp P Q
def WO (P : Program) (ops : Array Oper) (Q : Exit → Act → World → Prop) (rest : List Oper) : Act → World → Prop := wpList P ops Q rest
section
variable {P : Program} {W : World} {n : Nat} {F : Fr} {L : List HP} {ops : Array Oper} {Q : Exit → Act → World → Prop} {rest : List Oper}

/- structural -/
theorem sg_frame {F' : Fr} {G : Act → World → Prop} (hs : SubF F' F) (h : SG W n F' L G) : SG W n F L G := fun w hO a ha => h w hO a (ha.sub hs)
theorem sg_pick {G : Act → World → Prop} (idx : List Nat) {L' : List HP} (hL : pick idx L = L') (hn : idx.Nodup) (h : SG W n F L' G) : SG W n F L G :=
  fun w hO a ha => h w (hL ▸ hO.pick idx hn) a ha
theorem sg_own {L' : List HP} {G : Act → World → Prop} (hL : ∀ w, Own W w L → Own W w L') (h : SG W n F L' G) : SG W n F L G := fun w hO a ha => h w (hL w hO) a ha
theorem sg_open {X : Type} {L' : X → List HP} {G : Act → World → Prop} {φ : X → Prop} (hL : ∀ w, Own W w L → ∃ x, φ x ∧ Own W w (L' x)) (h : ∀ x, φ x → SG W n F (L' x) G) : SG W n F L G :=
  fun w hO a ha => let ⟨x, hx, hO'⟩ := hL w hO; h x hx w hO' a ha
theorem sg_ex {X : Type} {p : X → HP} {G : Act → World → Prop} (h : ∀ x, SG W n F (p x :: L) G) : SG W n F ((fun k => ∃ x, p x k) :: L) G := by
  intro w hO a ha
  obtain ⟨k, K, ⟨x, hx⟩, hs, hK, hS, hd⟩ := hO.uncons
  exact h x w (.cons hO.os hO.tape hO.output hx hs hK hS hd) a ha
theorem sg_and {φ : Prop} {p : HP} {G : Act → World → Prop} (h : φ → SG W n F (p :: L) G) : SG W n F ((fun k => φ ∧ p k) :: L) G := by
  intro w hO a ha
  obtain ⟨k, K, ⟨hφ, hx⟩, hs, hK, hS, hd⟩ := hO.uncons
  exact h hφ w (.cons hO.os hO.tape hO.output hx hs hK hS hd) a ha
theorem sg_split {L1 : List HP} {G : Act → World → Prop} (h : SG W n F (L1 ++ L) G) : SG W n F (sepL L1 :: L) G := fun w hO a ha => h w hO.split a ha

/- code -/
theorem sg_seq {x y : Code} (h : SG W n F L (WC P x (Exit.then (WC P y Q) Q))) : SG W n F L (WC P (.seq x y) Q) := fun w hO a ha => wp_seq (h w hO a ha)
theorem sg_region {id : Nat} {l : List Oper} (h : SG W n F L (WO P l.toArray Q l)) : SG W n F L (WC P (.region id l.toArray false) Q) := fun w hO a ha => wp_region_lit (h w hO a ha)
theorem sg_nil (h : SG W n F L (Q .normal)) : SG W n F L (WO P ops Q []) := fun w hO a ha => wpList_nil (h w hO a ha)
theorem sg_then {y : Code} {Q' : Exit → Act → World → Prop} (h : SG W n F L (WC P y Q)) : SG W n F L (Exit.then (WC P y Q) Q' .normal) := h
theorem sg_block {id : Nat} {c : Code} (h : SG W n F L (WC P c (Exit.inBlock id Q))) : SG W n F L (WC P (Code.block id c) Q) := fun w hO a ha => wp_block (h w hO a ha)
theorem sg_skip (h : SG W n F L (Q .normal)) : SG W n F L (WC P .skip Q) := fun w hO a ha => wp_skip (h w hO a ha)
theorem sg_ret (h : SG W n F L (Q .ret)) : SG W n F L (WC P .ret Q) := fun w hO a ha => wp_ret (h w hO a ha)
theorem sg_exit {id : Nat} (h : SG W n F L (Q (.exit id))) : SG W n F L (WC P (Code.exit id) Q) := fun w hO a ha => wp_exit (h w hO a ha)
theorem sg_cond {c : Operand} {x y : Code} {b : Bool} (hc : ev F c = some (.bool b)) (ht : b = true → SG W n F L (WC P x Q)) (hf : b = false → SG W n F L (WC P y Q)) : SG W n F L (WC P (Code.cond c x y) Q) := by
  intro w hO a ha
  exact wp_cond_split (ha.ev hc) (fun h => ht h w hO a ha) (fun h => hf h w hO a ha)
theorem sg_cond_t {c : Operand} {x y : Code} (hc : ev F c = some (.bool true)) (ht : SG W n F L (WC P x Q)) : SG W n F L (WC P (Code.cond c x y) Q) := sg_cond hc (fun _ => ht) (fun h => by cases h)
theorem sg_cond_f {c : Operand} {x y : Code} (hc : ev F c = some (.bool false)) (hf : SG W n F L (WC P y Q)) : SG W n F L (WC P (Code.cond c x y) Q) := sg_cond hc (fun h => by cases h) (fun _ => hf)
theorem sg_cond_dec {c : Operand} {x y : Code} {p : Prop} [Decidable p] (hc : ev F c = some (.bool (decide p))) (ht : p → SG W n F L (WC P x Q)) (hf : ¬ p → SG W n F L (WC P y Q)) : SG W n F L (WC P (Code.cond c x y) Q) :=
  sg_cond hc (fun h => ht (of_decide_eq_true h)) (fun h => hf (of_decide_eq_false h))
theorem sg_cond_ndec {c : Operand} {x y : Code} {p : Prop} [Decidable p] (hc : ev F c = some (.bool (!decide p))) (ht : ¬ p → SG W n F L (WC P x Q)) (hf : p → SG W n F L (WC P y Q)) : SG W n F L (WC P (Code.cond c x y) Q) :=
  sg_cond hc (fun h => ht (by simpa using h)) (fun h => hf (by simpa using h))
theorem sg_cond_beq {c : Operand} {x y : Code} {i j : Int} (hc : ev F c = some (.bool (i == j))) (ht : i = j → SG W n F L (WC P x Q)) (hf : i ≠ j → SG W n F L (WC P y Q)) : SG W n F L (WC P (Code.cond c x y) Q) :=
  sg_cond hc (fun h => ht (by simpa using h)) (fun h => hf (by simpa using h))
theorem sg_cond_bne {c : Operand} {x y : Code} {i j : Int} (hc : ev F c = some (.bool (i != j))) (ht : i ≠ j → SG W n F L (WC P x Q)) (hf : i = j → SG W n F L (WC P y Q)) : SG W n F L (WC P (Code.cond c x y) Q) :=
  sg_cond hc (fun h => ht (by simpa using h)) (fun h => hf (by simpa using h))
theorem sg_cond_not {c : Operand} {x y : Code} {b : Bool} (hc : ev F c = some (.bool (!b))) (ht : b = false → SG W n F L (WC P x Q)) (hf : b = true → SG W n F L (WC P y Q)) : SG W n F L (WC P (Code.cond c x y) Q) :=
  sg_cond hc (fun h => ht (by simpa using h)) (fun h => hf (by simpa using h))

/- the ways out -/
theorem ex_then_ret {K : Act → World → Prop} (h : SG W n F L (Q .ret)) : SG W n F L (Exit.then K Q .ret) := h
theorem ex_then_exit {K : Act → World → Prop} {id : Nat} (h : SG W n F L (Q (.exit id))) : SG W n F L (Exit.then K Q (.exit id)) := h
theorem ex_block_ret {id : Nat} (h : SG W n F L (Q .ret)) : SG W n F L (Exit.inBlock id Q .ret) := h
theorem ex_block_normal {id : Nat} (h : SG W n F L (Q .normal)) : SG W n F L (Exit.inBlock id Q .normal) := h
theorem ex_block_hit {id : Nat} (h : SG W n F L (Q .normal)) : SG W n F L (Exit.inBlock id Q (.exit id)) := by
  intro w hO a ha; simp only [Exit.inBlock, if_true]; exact h w hO a ha
theorem ex_block_miss {id id' : Nat} (hne : (id' == id) = false) (h : SG W n F L (Q (.exit id'))) : SG W n F L (Exit.inBlock id Q (.exit id')) := by
  intro w hO a ha
  have : id' ≠ id := by simpa using hne
  simp only [Exit.inBlock, if_neg this]; exact h w hO a ha

/- a meeting point -/
def Mid (W : World) (n : Nat) {γ : Type} (φ : γ → Prop) (Fm : γ → Fr) (Lm : γ → List HP) : Act → World → Prop := fun a w => ∃ g, φ g ∧ Rep a n (Fm g) ∧ Own W w (Lm g)
theorem sg_seq_mid {γ : Type} (φ : γ → Prop) (Fm : γ → Fr) (Lm : γ → List HP) {x y : Code} (hx : SG W n F L (WC P x (Exit.then (Mid W n φ Fm Lm) Q))) (hy : ∀ g, φ g → SG W n (Fm g) (Lm g) (WC P y Q)) : SG W n F L (WC P (.seq x y) Q) := by
  intro w hO a ha
  refine wp_seq (wp_mono (hx w hO a ha) ?_)
  intro e a' w' h
  cases e with
  | normal => obtain ⟨g, hg, hF, hL⟩ := h; exact hy g hg w' hL a' hF
  | _ => exact h
theorem ex_mid {γ : Type} {φ : γ → Prop} {Fm : γ → Fr} {Lm : γ → List HP} (g : γ) (hg : φ g) (hF : SubF (Fm g) F) (hL : ∀ w, Own W w L → Own W w (Lm g)) : SG W n F L (Exit.then (Mid W n φ Fm Lm) Q .normal) :=
  fun w hO a ha => ⟨g, hg, ha.sub hF, hL w hO⟩
theorem sg_loop {γ : Type} (φ : γ → Prop) (Fm : γ → Fr) (Lm : γ → List HP) (μ : γ → Nat) {c : Code} (g : γ) (hg : φ g) (hF : SubF (Fm g) F) (hL : ∀ w, Own W w L → Own W w (Lm g))
    (round : ∀ g, φ g → SG W n (Fm g) (Lm g) (WC P c (Exit.then (Mid W n (fun g' => μ g' < μ g ∧ φ g') Fm Lm) Q))) : SG W n F L (WC P (Code.loop c) Q) := by
  intro w hO a ha
  intro b k cs
  have key : ∀ m g a w, μ g = m → φ g → Rep a n (Fm g) → Own W w (Lm g) →
      ∃ e a' w', Q e a' w' ∧ Arrives P (lone (b.at a (.code c :: .inLoop c :: k)) cs w) b k cs e a' w' := by
    intro m
    induction m using Nat.strongRecOn with
    | _ m ih =>
      intro g a w hm hg ha hO
      obtain ⟨e, a1, w1, hq, harr⟩ := round g hg w hO a ha b (.inLoop c :: k) cs
      cases e with
      | normal =>
        obtain ⟨g', ⟨hlt, hg'⟩, ha', hO'⟩ := hq
        obtain ⟨e2, a2, w2, hq2, harr2⟩ := ih (μ g') (hm ▸ hlt) g' a1 w1 rfl hg' ha' hO'
        exact ⟨e2, a2, w2, hq2, .of_steps (Steps.trans harr (.one step_inLoop)) harr2⟩
      | exit id => exact ⟨_, a1, w1, hq, .pass (x := .inLoop c) rfl (fun _ _ => .inl (by simp)) harr⟩
      | goto l => exact ⟨_, a1, w1, hq, .pass (x := .inLoop c) rfl (fun _ _ => .inl (by simp)) harr⟩
      | ret => exact ⟨_, a1, w1, hq, .pass (x := .inLoop c) rfl (fun _ _ => .inl (by simp)) harr⟩
      | panic ch => exact ⟨_, a1, w1, hq, .pass (x := .inLoop c) rfl (fun _ _ => .inl (by simp)) harr⟩
      | outgrown => exact ⟨_, a1, w1, hq, .pass (x := .inLoop c) rfl (fun _ _ => .inl (by simp)) harr⟩
  obtain ⟨e, a', w', hq, harr⟩ := key _ g a w rfl hg (ha.sub hF) (hL w hO)
  exact ⟨e, a', w', hq, .of_steps (.one step_loop) harr⟩

end
end Go.Proofs.Ytclehoaeppbmpaa
