/- A region that draws its order, where loads may come behind calls: what is loaded stands in chunks that every call gives back. -/
import Derived.Test.YtclehoaeppbmpaaDR
namespace Go.Proofs.Ytclehoaeppbmpaa
set_option linter.unusedVariables false
set_option linter.unusedSimpArgs false
set_option linter.unusedSectionVars false
set_option linter.unnecessarySimpa false
open Go

/-- Is k ahead of j, at once or by one between? -/
def ahead2 (ops : Array Oper) (j k : Nat) : Bool := match ops[j]? with
  | some o => o.after.any fun e => Region.binds .any e && (e.on == k || (match ops[e.on]? with
    | some o' => o'.after.any fun e' => Region.binds .any e' && e'.on == k
    | none => false))
  | none => false
/-- Behind this operation no load is open any more. -/
def bar (ops : Array Oper) (j : Nat) : Bool := (List.range ops.size).all fun k => (match ops[k]? with
  | some o => kindOf o.op != 1
  | none => true) || ahead2 ops j k
/-- What is listed has what it waits for listed too. -/
def Closed (ops : Array Oper) (listed : Array Bool) : Prop := ∀ (k : Nat) (ok : Oper), ops[k]? = some ok → listed.getD k false = true → ∀ e ∈ ok.after, Region.binds .any e = true → listed.getD e.on false = true
theorem Closed.start {ops : Array Oper} (n : Nat) : Closed ops (Array.replicate n false) := by
  intro k ok _ h
  have : (Array.replicate n false).getD k false = false := by
    simp [Array.getD_eq_getD_getElem?, Array.getElem?_replicate]; split <;> rfl
  rw [this] at h; cases h
theorem Closed.step {ops : Array Oper} {listed : Array Bool} {j : Nat} (h : Closed ops listed) (hj : j ∈ Region.ready .any ops listed) : Closed ops (listed.setIfInBounds j true) := by
  intro k ok hk hl e he hb
  refine getD_set_true ?_
  by_cases hjk : j = k
  · subst hjk
    obtain ⟨_, oj, hoj, hall⟩ := mem_ready.1 hj
    rw [hoj] at hk; simp only [Option.some.injEq] at hk; subst hk
    exact hall e he hb
  · rw [getD_set_ne false hjk] at hl
    exact h k ok hk hl e he hb
theorem ahead2_spec {ops : Array Oper} {listed : Array Bool} {j k : Nat} (hc : Closed ops listed) (hj : j ∈ Region.ready .any ops listed) (h : ahead2 ops j k = true) : listed.getD k false = true := by
  obtain ⟨_, oj, hoj, hall⟩ := mem_ready.1 hj
  simp only [ahead2, hoj, Array.any_eq_true, Bool.and_eq_true, Bool.or_eq_true, beq_iff_eq] at h
  obtain ⟨x, hx, h1, h2⟩ := h
  have hl := hall _ (Array.getElem_mem hx) h1
  rcases h2 with h2 | h2
  · rw [← h2]; exact hl
  · cases ho : ops[oj.after[x].on]? with
    | none => simp [ho] at h2
    | some o' =>
      simp only [ho, Array.any_eq_true, Bool.and_eq_true, beq_iff_eq] at h2
      obtain ⟨y, hy, h3, h4⟩ := h2
      rw [← h4]
      exact hc _ o' ho hl _ (Array.getElem_mem hy) h3
theorem bar_spec {ops : Array Oper} {listed : Array Bool} {i j : Nat} {oi : Oper} (hc : Closed ops listed) (hj : j ∈ Region.ready .any ops listed) (h : bar ops j = true) (hi : ops[i]? = some oi) (hk : kindOf oi.op = 1) : listed.getD i false = true := by
  have hlt := (Array.getElem?_eq_some_iff.1 hi).1
  have := List.all_eq_true.1 h i (by simpa using hlt)
  simp only [hi, hk, bne_self_eq_false, Bool.false_or] at this
  exact ahead2_spec hc hj this
/-- As 'wpAny', and what stands behind each operation is told. -/
def wpAnyK (P : Program) (md : Region.Mode) (ops : Array Oper) (Q : Exit → Act → World → Prop) : (World → Prop) → Nat → Array Bool → Act → World → Prop
  | _, 0, listed, a, w => Region.ready md ops listed = [] ∧ Q .normal a w
  | R, fuel + 1, listed, a, w => (Region.ready md ops listed = [] → Q .normal a w) ∧ ∀ i ∈ Region.ready md ops listed, wpOp P ops Q i (fun a' w' => ∃ R' : World → Prop, ((∀ w, R' w → R w) ∨ bar ops i = true) ∧ R' w' ∧ wpAnyK P md ops Q R' fuel (listed.setIfInBounds i true) a' w') a w
theorem wpAnyK.any {P : Program} {md : Region.Mode} {ops : Array Oper} {Q : Exit → Act → World → Prop} : ∀ {R : World → Prop} (fuel : Nat) (listed : Array Bool) (a : Act) (w : World), wpAnyK P md ops Q R fuel listed a w → wpAny P md ops Q fuel listed a w
  | _, 0, _, _, _, h => h
  | _, fuel + 1, _, _, _, h => ⟨h.1, fun i hi => wpOp_mono (fun a w ⟨_, _, _, hk⟩ => wpAnyK.any fuel _ a w hk) (h.2 i hi)⟩
/-- The walk in a chosen order. -/
def WK (P : Program) (ops : Array Oper) (Q : Exit → Act → World → Prop) : (World → Prop) → List Nat → Act → World → Prop
  | _, [], a, w => Q .normal a w
  | R, i :: π, a, w => match ops[i]? with
    | none => False
    | some o =>
      if kindOf o.op = 0 then ∃ v, YieldsC P ops o v [] a ∧ WK P ops Q R π (a.put o.dst v) w
      else if kindOf o.op = 1 then ∃ v cs, YieldsC P ops o v cs a ∧ (∀ w', R w' → ∀ p ∈ cs, w'.cell? p.1 = some p.2) ∧ WK P ops Q R π (a.put o.dst v) w
      else W1 P ops (calmQ Q) o (fun a' w' => ∃ R' : World → Prop, ((∀ w, R' w → R w) ∨ bar ops i = true) ∧ R' w' ∧ WK P ops Q R' π a' w') a w
def chkK (ops : Array Oper) : List Nat → Array Bool → Bool
  | [], listed => (Region.ready .any ops listed).isEmpty
  | i :: π, listed => (match ops[i]? with
    | none => false
    | some o =>
      if kindOf o.op ≤ 1 then (Region.ready .any ops listed).contains i && Region.free .any ops listed i
      else Region.ready .any ops listed == [i]) && chkK ops π (listed.setIfInBounds i true)
section
variable {P : Program} [BS P] {ops : Array Oper} {Q : Exit → Act → World → Prop} {R : World → Prop}
theorem wpOp_putK {j : Nat} {oi oj : Oper} {v : Value} {cs : List (Addr × Value)} (hj : ops[j]? = some oj) (hap : oi.apart ops oj = true)
    (hsi : ∀ cs b, oi.op ≠ .select cs b) (hsj : ∀ cs b, oj.op ≠ .select cs b)
    (hQ : ∀ c a w, Q (.panic c) a w → False) {K : Act → World → Prop} {a : Act} {w : World}
    (hy : YieldsC P ops oi v cs a) (h : wpOp P ops Q j K (a.put oi.dst v) w) :
    wpOp P ops Q j (fun a' w' => YieldsC P ops oi v cs a' ∧ K (a'.put oi.dst v) w') a w := by
  obtain ⟨h1, h2, h3⟩ := Oper.apart_spec hap
  have keep : ∀ (a : Act), YieldsC P ops oi v cs a → ∀ u, YieldsC P ops oi v cs (a.put oj.dst u) := fun a hy u =>
    hy.of_same (execOp_put oi hsi a oj.dst u h3) (wanted_put oi a oj.dst u h3)
  have keepD : ∀ d, YieldsC P ops oi v cs { a with defers := d :: a.defers } := fun d => hy.of_same rfl rfl
  unfold wpOp at *
  simp only [hj] at *
  rw [wanted_put oj a oi.dst v h1] at h
  split
  · rename_i hw
    simp only [hw, if_true] at h
    rcases h with h | ⟨hasks, hlets⟩
    case inr => exact .inr ⟨by unfold Oper.asks at *; rw [execOp_put oj hsj a oi.dst v h1] at hasks; exact hasks, hlets⟩
    refine .inl ?_
    unfold Oper.wp at *
    rw [execOp_put oj hsj a oi.dst v h1] at h
    generalize (execOp a.eval oj).run P w = r at *
    cases r with
    | ok n w' =>
      cases n <;> simp only [Oper.upon] at h ⊢
      case value u => exact ⟨keep a hy u, by rw [← Act.put_comm a v u h2]; exact h⟩
      case skip => exact ⟨keep a hy _, by rw [← Act.put_comm a v undef h2]; exact h⟩
      case defer d =>
        refine ⟨keep _ (keepD d) _, ?_⟩
        rw [← Act.put_comm _ v undef h2, ← Act.put_defers]
        exact h
      case enter f args =>
        refine Calls.mono h fun e w'' he => ?_
        cases e with
        | returned u => exact ⟨keep a hy u, by rw [← Act.put_comm a v u h2]; exact he⟩
        | panicked c => exact (hQ _ _ _ he).elim
        | outgrown => exact he
      case row row args => exact Rows.mono h fun u w'' he => ⟨keep a hy u, by rw [← Act.put_comm a v u h2]; exact he⟩
    | halt x w' =>
      cases x <;> simp only [Oper.upon] at h ⊢
      case panic u => exact (hQ _ _ _ h).elim
  · rename_i hw
    simp only [hw] at h
    exact ⟨keep a hy _, by rw [← Act.put_comm a v undef h2]; exact h⟩
theorem wpAny_firstK {i : Nat} {oi : Oper} {v : Value} {cs : List (Addr × Value)} (hi : ops[i]? = some oi) (hsel : ∀ (j : Nat) (o : Oper) cs b, ops[j]? = some o → o.op ≠ .select cs b)
    (hQ : ∀ c a w, Q (.panic c) a w → False) (hk : cs = [] ∨ kindOf oi.op = 1) :
    ∀ (fuel : Nat) {R : World → Prop} (hcs : ∀ w', R w' → ∀ p ∈ cs, w'.cell? p.1 = some p.2) (listed : Array Bool) (a : Act) (w : World), Closed ops listed →
      (∀ j oj, ops[j]? = some oj → j ≠ i → listed.getD j true = false → (∀ e ∈ oj.after, Region.binds .any e = true → e.on ≠ i) → oi.apart ops oj = true) →
      i ∈ Region.ready .any ops listed → YieldsC P ops oi v cs a → R w →
      wpAnyK P .any ops Q R fuel (listed.setIfInBounds i true) (a.put oi.dst v) w → wpAnyK P .any ops Q R (fuel + 1) listed a w := by
  intro fuel
  induction fuel with
  | zero =>
    intro R hcs listed a w hcl _ hr hy hR H
    refine ⟨fun h => (by rw [h] at hr; cases hr), fun j hj => ?_⟩
    by_cases hji : j = i
    · subst hji; exact hy.wpOp hi (hcs w hR) ⟨R, .inl (fun _ h => h), hR, H⟩
    · have := ready_mono hj hji
      rw [H.1] at this
      cases this
  | succ fuel ih =>
    intro R hcs listed a w hcl hfree hr hy hR H
    refine ⟨fun h => (by rw [h] at hr; cases hr), fun j hj => ?_⟩
    by_cases hji : j = i
    · subst hji; exact hy.wpOp hi (hcs w hR) ⟨R, .inl (fun _ h => h), hR, H⟩
    · have h1 := H.2 j (ready_mono hj hji)
      obtain ⟨hjun, oj, hoj, hall⟩ := mem_ready.1 hj
      have hnot : ∀ e ∈ oj.after, Region.binds .any e = true → e.on ≠ i := fun e he hb heq => by
        have h1 := hall e he hb
        have h0 := (mem_ready.1 hr).1
        rw [heq] at h1
        rcases Nat.lt_or_ge i listed.size with h' | h'
        · simp [h'] at h0 h1; rw [h0] at h1; cases h1
        · simp [Array.getElem?_eq_none h'] at h1
      have h2 := wpOp_putK hoj (hfree j oj hoj hji hjun hnot) (fun cs b => hsel i oi cs b hi) (fun cs b => hsel j oj cs b hoj) hQ hy h1
      have hfree' : ∀ k ok, ops[k]? = some ok → k ≠ i → (listed.setIfInBounds j true).getD k true = false →
          (∀ e ∈ ok.after, Region.binds .any e = true → e.on ≠ i) → oi.apart ops ok = true := fun k ok hk hki hun hno => by
        refine hfree k ok hk hki ?_ hno
        by_cases hjk : j = k
        · subst hjk; exact hjun
        · rw [getD_set_ne true hjk] at hun; exact hun
      refine wpOp_mono (fun a' w' h3 => ?_) h2
      obtain ⟨hy3, R', hR', h4, h5⟩ := h3
      have hcs' : ∀ w', R' w' → ∀ p ∈ cs, w'.cell? p.1 = some p.2 := by
        rcases hR' with hR' | hb
        · exact fun w' hw => hcs w' (hR' w' hw)
        · rcases hk with hk | hk
          · intro w' _ p hp; rw [hk] at hp; cases hp
          · have h9 := bar_spec hcl hj hb hi hk
            have h8 := (mem_ready.1 hr).1
            rcases Nat.lt_or_ge i listed.size with h' | h'
            · simp [h'] at h8 h9; rw [h8] at h9; cases h9
            · simp [Array.getElem?_eq_none h'] at h9
      refine ⟨R', hR', h4, ih hcs' (listed.setIfInBounds j true) a' w' (hcl.step hj) hfree' (ready_mono hr (Ne.symm hji)) hy3 h4 ?_⟩
      rw [Array.setIfInBounds_comm _ _ hji]
      exact h5
theorem wpAnyK_of_WK (hs : Region.noSelect ops = true) : ∀ (π : List Nat) {R : World → Prop} (listed : Array Bool) (a : Act) (w : World), chkK ops π listed = true → Closed ops listed → R w → WK P ops Q R π a w → wpAnyK P .any ops (calmQ Q) R π.length listed a w
  | [], _, listed, a, w, hc, _, _, h => ⟨by simpa [chkK] using hc, h⟩
  | i :: π, R, listed, a, w, hc, hcl, hR, h => by
    simp only [chkK, Bool.and_eq_true] at hc
    obtain ⟨hc, hrest⟩ := hc
    cases ho : ops[i]? with
    | none => simp [ho] at hc
    | some o =>
      simp only [ho] at hc
      simp only [WK, ho] at h
      have hQ : ∀ c a w, calmQ Q (.panic c) a w → False := fun c a w h => h
      by_cases h0 : kindOf o.op = 0
      · rw [if_pos h0] at h
        rw [if_pos (by omega)] at hc
        simp only [Bool.and_eq_true] at hc
        obtain ⟨v, hy, hK⟩ := h
        exact wpAny_firstK (cs := []) ho (Region.noSelect_spec hs) hQ (.inl rfl) π.length (by intro w' _ p hp; cases hp) listed a w hcl (Region.free_spec ho hc.2) (by simpa using hc.1) hy hR (wpAnyK_of_WK hs π _ _ _ hrest (hcl.step (by simpa using hc.1)) hR hK)
      · rw [if_neg h0] at h
        by_cases h1 : kindOf o.op = 1
        · rw [if_pos h1] at h
          rw [if_pos (by omega)] at hc
          simp only [Bool.and_eq_true] at hc
          obtain ⟨v, cs, hy, hS, hK⟩ := h
          exact wpAny_firstK ho (Region.noSelect_spec hs) hQ (.inr h1) π.length hS listed a w hcl (Region.free_spec ho hc.2) (by simpa using hc.1) hy hR (wpAnyK_of_WK hs π _ _ _ hrest (hcl.step (by simpa using hc.1)) hR hK)
        · rw [if_neg h1] at h
          rw [if_neg (by omega)] at hc
          have hc' : Region.ready .any ops listed = [i] := by simpa using hc
          show wpAnyK P .any ops (calmQ Q) R (π.length + 1) listed a w
          refine ⟨fun e => (by rw [hc'] at e; cases e), fun j hj => ?_⟩
          rw [hc'] at hj
          have : j = i := by simpa using hj
          subst this
          unfold wpOp
          simp only [ho]
          unfold W1 at h
          split
          · rename_i hw
            rw [if_pos hw] at h
            exact .inl (Oper.wp_mono (fun a' w' ⟨R', hR', h1, h2⟩ => ⟨R', hR', h1, wpAnyK_of_WK hs π _ _ _ hrest (hcl.step (by rw [hc']; simp)) h1 h2⟩) h)
          · rename_i hw
            rw [if_neg hw] at h
            obtain ⟨R', hR', h1, h2⟩ := h
            exact ⟨R', hR', h1, wpAnyK_of_WK hs π _ _ _ hrest (hcl.step (by rw [hc']; simp)) h1 h2⟩
end
section
variable {P : Program} [BS P] {W : World} {n : Nat} {F : Fr} {L LR : List HP} {Q : Exit → Act → World → Prop} {l : List Oper} {π : List Nat} {i : Nat}
variable {d : Nat} {ty : TypeId} {pos : String} {af : Array Edge}
theorem sg_drawK {id : Nat} (LR : List HP) (π : List Nat) (hm : P.follows .mixedOrders = true) (hB : (Region.noSelect l.toArray && (π.length == l.length) && chkK l.toArray π (Array.replicate l.length false)) = true)
    (hL : ∀ w, Own W w L → Own W w LR) (h : SG W n F L (WK P l.toArray Q (fun w => Own W w LR) π)) : SG W n F L (WC P (.region id l.toArray true) Q) := by
  intro w hO a ha
  simp only [Bool.and_eq_true, beq_iff_eq] at hB
  have h1 := (wpAnyK_of_WK hB.1.1 π _ a w.drew hB.2 (Closed.start _) (hL _ hO.drew) (h w.drew hO.drew a ha)).any
  rw [hB.1.2] at h1
  refine wp_region_any hm ?_
  have h2 := wpAny_monoQ (Q' := Q) (fun e a w he => by cases e <;> first | exact he | exact he.elim) _ _ _ _ h1
  have e1 : l.toArray.size = l.length := by simp
  rw [e1]; exact h2
theorem sk_nil {R : World → Prop} (h : SG W n F L (Q .normal)) : SG W n F L (WK P l.toArray Q R []) := h
theorem sk_pure {R : World → Prop} {op : Op} {v : Value} (hi : l[i]? = some ⟨some d, op, ty, pos, af, none⟩) (hk : kindOf op = 0) (hp : PS P n F op ty v) (hd : Nat.blt d n = true) (h : SG W n ((d, v) :: F) L (WK P l.toArray Q R π)) :
    SG W n F L (WK P l.toArray Q R (i :: π)) := by
  intro w hO a ha
  simp only [WK, List.getElem?_toArray, hi]
  rw [if_pos hk]
  exact ⟨v, .inl ⟨by simp [Region.wanted], fun w _ => hp a ha w _ _ _ _⟩, h w hO _ (ha.put hd v)⟩
theorem sk_pure_g {R : World → Prop} {op : Op} {v : Value} {j t : Nat} {b : Bool} (hi : l[i]? = some ⟨some d, op, ty, pos, af, some (j, b)⟩) (hk : kindOf op = 0) (hj : (l[j]?).bind (·.dst) = some t) (ht : look F t = some (.bool b)) (hp : PS P n F op ty v) (hd : Nat.blt d n = true) (h : SG W n ((d, v) :: F) L (WK P l.toArray Q R π)) :
    SG W n F L (WK P l.toArray Q R (i :: π)) := by
  intro w hO a ha
  simp only [WK, List.getElem?_toArray, hi]
  rw [if_pos hk]
  have hy : yielded l.toArray a.tmps j = some b := by simp [yielded, hj, ha.get t _ ht]
  exact ⟨v, .inl ⟨by simp [Region.wanted, hy], fun w _ => hp a ha w _ _ _ _⟩, h w hO _ (ha.put hd v)⟩
theorem sk_no {R : World → Prop} {op : Op} {j t : Nat} {b : Bool} (hi : l[i]? = some ⟨some d, op, ty, pos, af, some (j, b)⟩) (hk : Nat.blt (kindOf op) 2 = true) (hj : (l[j]?).bind (·.dst) = some t) (ht : look F t = some (.bool (!b))) (hd : Nat.blt d n = true) (h : SG W n ((d, undef) :: F) L (WK P l.toArray Q R π)) :
    SG W n F L (WK P l.toArray Q R (i :: π)) := by
  intro w hO a ha
  simp only [WK, List.getElem?_toArray, hi]
  have hy : yielded l.toArray a.tmps j = some (!b) := by simp [yielded, hj, ha.get t _ ht]
  have hn : Region.wanted ⟨some d, op, ty, pos, af, some (j, b)⟩ (yielded l.toArray a.tmps) = false := by cases b <;> simp [Region.wanted, hy]
  have hk' : kindOf op < 2 := by simpa [Nat.blt_eq] using hk
  by_cases h0 : kindOf op = 0
  · rw [if_pos h0]; exact ⟨undef, .inr ⟨hn, rfl⟩, h w hO _ (ha.put hd _)⟩
  · rw [if_neg h0, if_pos (by omega)]
    exact ⟨undef, [], .inr ⟨hn, rfl⟩, (by intro w' _ p hp; cases hp), h w hO _ (ha.put hd _)⟩
theorem rd_cell {ad : Addr} {v : Value} (hr : Rd W LR (some ad) [v]) (w : World) (hO : Own W w LR) : w.cell? ad = some v := by
  rcases hr w hO with hr2 | ⟨b, o, he, hr2⟩
  · simp at hr2
  · simp only [Option.some.injEq] at he; subst he
    have := hr2 0 v (by simp); simpa using this
theorem sk_load_rd {t : Nat} {x : Operand} {ad : Addr} {v : Value} [Cell P t] (hi : l[i]? = some ⟨some d, .load t x, ty, pos, af, none⟩) (hx : ev F x = some (.pointer (some ad))) (hr : Rd W LR (some ad) [v]) (hd : Nat.blt d n = true) (h : SG W n ((d, v) :: F) L (WK P l.toArray Q (fun w => Own W w LR) π)) :
    SG W n F L (WK P l.toArray Q (fun w => Own W w LR) (i :: π)) := by
  intro w hO a ha
  simp only [WK, List.getElem?_toArray, hi]
  rw [if_neg (by simp [kindOf]), if_pos (by rfl)]
  refine ⟨v, [(ad, v)], .inl ⟨by simp [Region.wanted], fun w hw => ?_⟩, by intro w' hO' p hp; simp at hp; subst hp; exact rd_cell hr w' hO', h w hO _ (ha.put hd v)⟩
  have := hw (ad, v) (by simp)
  simp [execOp, ha.ev hx, Instr.loadAt, Instr.sureAddr, run_load_cell this]
theorem sk_load_rd_g {t j t' : Nat} {gb : Bool} {x : Operand} {ad : Addr} {v : Value} [Cell P t] (hi : l[i]? = some ⟨some d, .load t x, ty, pos, af, some (j, gb)⟩) (hj : (l[j]?).bind (·.dst) = some t') (ht : look F t' = some (.bool gb)) (hx : ev F x = some (.pointer (some ad))) (hr : Rd W LR (some ad) [v]) (hd : Nat.blt d n = true) (h : SG W n ((d, v) :: F) L (WK P l.toArray Q (fun w => Own W w LR) π)) :
    SG W n F L (WK P l.toArray Q (fun w => Own W w LR) (i :: π)) := by
  intro w hO a ha
  simp only [WK, List.getElem?_toArray, hi]
  rw [if_neg (by simp [kindOf]), if_pos (by rfl)]
  have hy : yielded l.toArray a.tmps j = some gb := by simp [yielded, hj, ha.get t' _ ht]
  refine ⟨v, [(ad, v)], .inl ⟨by simp [Region.wanted, hy], fun w hw => ?_⟩, by intro w' hO' p hp; simp at hp; subst hp; exact rd_cell hr w' hO', h w hO _ (ha.put hd v)⟩
  have := hw (ad, v) (by simp)
  simp [execOp, ha.ev hx, Instr.loadAt, Instr.sureAddr, run_load_cell this]
theorem rd_blk_one {W : World} {L : List HP} (k : Nat) {b o : Nat} {cs : List Value} {v : Value} (hL : L[k]? = some (blk b cs)) (hv : cs[o]? = some v) : Rd W L (some ⟨b, o, none⟩) [v] :=
  rd_blk k hL fun j u hj => match j, hj with
    | 0, hj => by simp only [List.getElem?_cons_zero, Option.some.injEq] at hj; rw [← hj]; exact hv
theorem sk_load {t b o : Nat} {x : Operand} {cs : List Value} {v : Value} (k : Nat) [Cell P t] (hi : l[i]? = some ⟨some d, .load t x, ty, pos, af, none⟩) (hL : LR[k]? = some (blk b cs)) (hx : ev F x = some (.pointer (some ⟨b, o, none⟩))) (hv : cs[o]? = some v) (hd : Nat.blt d n = true) (h : SG W n ((d, v) :: F) L (WK P l.toArray Q (fun w => Own W w LR) π)) :
    SG W n F L (WK P l.toArray Q (fun w => Own W w LR) (i :: π)) := sk_load_rd hi hx (rd_blk_one k hL hv) hd h
theorem sk_load_g {t b o j t' : Nat} {gb : Bool} {x : Operand} {cs : List Value} {v : Value} (k : Nat) [Cell P t] (hi : l[i]? = some ⟨some d, .load t x, ty, pos, af, some (j, gb)⟩) (hj : (l[j]?).bind (·.dst) = some t') (ht : look F t' = some (.bool gb)) (hL : LR[k]? = some (blk b cs)) (hx : ev F x = some (.pointer (some ⟨b, o, none⟩))) (hv : cs[o]? = some v) (hd : Nat.blt d n = true) (h : SG W n ((d, v) :: F) L (WK P l.toArray Q (fun w => Own W w LR) π)) :
    SG W n F L (WK P l.toArray Q (fun w => Own W w LR) (i :: π)) := sk_load_rd_g hi hj ht hx (rd_blk_one k hL hv) hd h
theorem sk_eff {R : World → Prop} {o : Oper} (hi : l[i]? = some o) (hk : Nat.ble 2 (kindOf o.op) = true) (h : SG W n F L (W1 P l.toArray (calmQ Q) o (fun a w => ∃ R' : World → Prop, ((∀ w, R' w → R w) ∨ bar l.toArray i = true) ∧ R' w ∧ WK P l.toArray Q R' π a w))) : SG W n F L (WK P l.toArray Q R (i :: π)) := by
  intro w hO a ha
  simp only [WK, List.getElem?_toArray, hi]
  have hk' : 2 ≤ kindOf o.op := by simpa [Nat.ble_eq] using hk
  rw [if_neg (by omega), if_neg (by omega)]
  exact h w hO a ha
/-- After an effect: from here on it is LR2 that every operation gives back. -/
theorem sk_to (LR2 : List HP) {R : World → Prop} (hR : ∀ w, Own W w LR2 → R w) (hL : ∀ w, Own W w L → Own W w LR2) (h : SG W n F L (WK P l.toArray Q (fun w => Own W w LR2) π)) :
    SG W n F L (fun a w => ∃ R' : World → Prop, ((∀ w, R' w → R w) ∨ bar l.toArray i = true) ∧ R' w ∧ WK P l.toArray Q R' π a w) := fun w hO a ha => ⟨_, .inl hR, hL w hO, h w hO a ha⟩
theorem sk_back (hL : ∀ w, Own W w L → Own W w LR) (h : SG W n F L (WK P l.toArray Q (fun w => Own W w LR) π)) :
    SG W n F L (fun a w => ∃ R' : World → Prop, ((∀ w, R' w → Own W w LR) ∨ bar l.toArray i = true) ∧ R' w ∧ WK P l.toArray Q R' π a w) := sk_to LR (fun _ h => h) hL h
/-- After an effect that comes behind all loads: nothing need be kept. -/
theorem sk_end {R : World → Prop} (hb : bar l.toArray i = true) (h : SG W n F L (WK P l.toArray Q (fun w => Own W w []) π)) :
    SG W n F L (fun a w => ∃ R' : World → Prop, ((∀ w, R' w → R w) ∨ bar l.toArray i = true) ∧ R' w ∧ WK P l.toArray Q R' π a w) := fun w hO a ha => ⟨_, .inr hb, hO.pick [] (by decide), h w hO a ha⟩
end
end Go.Proofs.Ytclehoaeppbmpaa
