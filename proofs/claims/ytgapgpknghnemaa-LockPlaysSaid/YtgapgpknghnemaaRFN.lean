/- A range over a function: the loop's record, rounds, the statement. -/
import Derived.Test.YtgapgpknghnemaaMAP
import Derived.RangeFuncRecord
import Derived.RangeFuncIn
namespace Go.Proofs.Ytgapgpknghnemaa
set_option linter.unusedVariables false
set_option linter.unusedSimpArgs false
set_option linter.unusedSectionVars false
set_option linter.unnecessarySimpa false
open Go Go.Proofs
def loopc (l : Nat) (r : Loop) : HP := fun h => h = PH.one l (.loop r)
def defc (D : Nat) : HP := fun h => h = PH.one D (.deferred (some []))
section
variable {W w : World} {L : List HP}
theorem Own.loopAt {l : Nat} {r : Loop} (hO : Own W w (loopc l r :: L)) : w.heap[l]? = some (.loop r) := by
  obtain ⟨h, K, rfl, hs, _⟩ := hO.uncons
  exact PH.sub_one.1 hs
theorem Own.defAt {D : Nat} (hO : Own W w (defc D :: L)) : w.heap[D]? = some (.deferred (some [])) := by
  obtain ⟨h, K, rfl, hs, _⟩ := hO.uncons
  exact PH.sub_one.1 hs
theorem Own.putLoop {l : Nat} {r : Loop} (r' : Loop) (hO : Own W w (loopc l r :: L)) : Own W (w.putObj l (.loop r')) (loopc l r' :: L) := Own.setOne (o' := .loop r') hO (fun h hh => hh) rfl
theorem Own.putDef {D : Nat} (hO : Own W w (defc D :: L)) : Own W (w.putObj D (.deferred none)) L := (Own.setOne (o' := .deferred none) (q := fun h => h = PH.one D (.deferred none)) hO (fun h hh => hh) rfl).tail
end
section
variable {P : Program} {Q : Exit → Act → World → Prop} {a : Act} {next next' : Act → World → Prop} {o : Oper} {l : Nat}
theorem callsIn_round {n : Nat} {f : FuncId} {args : Array Value} {w : World} {R : Ending → World → Prop} (h : Calls P f args w R) : CallsIn (Fence.wide.inRound l) n P f args w R := (callsIn_wide (n := n)).2 h
theorem uponIn_of_upon {r : Result Next} (hn : ∀ a w, next a w → next' a w) (h : o.upon P a next Q r) : o.uponIn (Fence.wide.inRound l) 0 P a next' Q r := by
  cases r with
  | ok x w' =>
    cases x with
    | value v => exact hn _ _ h
    | skip => exact hn _ _ h
    | defer d => exact hn _ _ h
    | enter f args =>
      refine ⟨fun e => (by cases e), CallsIn.mono (callsIn_round h) (fun e w'' he => ?_)⟩
      cases e with
      | returned v => exact hn _ _ he
      | panicked c => exact he
      | outgrown => exact he
    | row row args =>
      refine ⟨fun e => (by cases e), fun c cs _ => ?_⟩
      obtain ⟨v, w'', r, s⟩ := h c cs
      exact ⟨v, w'', hn _ _ r, stepsIn_wide.2 s⟩
    | _ => exact h.elim
  | halt s w' =>
    cases s <;> first | exact h | exact h.elim
theorem wpIn_of_wp {w : World} (hd : ∀ c, o.op ≠ .defer c) (hn : ∀ a w, next a w → next' a w) (h : o.wp P a w next Q) : o.wpIn (Fence.wide.inRound l) 0 P a w next' Q := by
  refine ⟨fun _ _ => trivial, ?_⟩
  rw [Oper.semAt_eq _ _ _ hd]
  exact uponIn_of_upon hn h
theorem wpListIn_of_wpList {ops : Array Oper} (hQ : ¬ LetsOut Q) : ∀ (rest : List Oper) (a : Act) (w : World), (∀ o ∈ rest, ∀ c, o.op ≠ .defer c) → wpList P ops Q rest a w → wpListIn (Fence.wide.inRound l) 0 P ops Q rest a w
  | [], a, w, _, h => h
  | o :: rest, a, w, hd, h => by
    simp only [wpList] at h
    simp only [wpListIn]
    have hrest : ∀ a w, wpList P ops Q rest a w → wpListIn (Fence.wide.inRound l) 0 P ops Q rest a w := fun a w h => wpListIn_of_wpList hQ rest a w (fun o ho => hd o (List.mem_cons_of_mem _ ho)) h
    split at h
    · rename_i hw
      rw [if_pos hw]
      rcases h with h | ⟨_, h⟩
      · exact wpIn_of_wp (hd o (by simp)) hrest h
      · exact absurd h hQ
    · rename_i hw
      rw [if_neg hw]
      exact ⟨fun _ _ => trivial, hrest _ _ h⟩
end
def noDefer : Oper → Bool
  | ⟨_, .defer _, _, _, _, _⟩ => false
  | _ => true
theorem noDefer_of {l : List Oper} (h : l.all noDefer = true) : ∀ o ∈ l, ∀ c, o.op ≠ .defer c := by
  intro o ho c e
  have := List.all_eq_true.1 h o ho
  obtain ⟨d, op, t, p, af, g⟩ := o
  dsimp only at e
  subst e
  cases this
/-- Code in a round's frame. -/
def WR (P : Program) (l : Nat) (c : Code) (Q : Exit → Act → World → Prop) : Act → World → Prop := fun a w => c.wpIn (Fence.wide.inRound l) 0 P Q a w
/-- A region of a frame of one's own, whose calls may ask for rounds. -/
def WI (P : Program) (ops : Array Oper) (Q : Exit → Act → World → Prop) (rest : List Oper) : Act → World → Prop := wpListIn Fence.wide 0 P ops Q rest
section
variable {P : Program} {W : World} {n : Nat} {F : Fr} {L : List HP} {ops : Array Oper} {Q : Exit → Act → World → Prop} {rest : List Oper} {l : Nat}
theorem sgr_region {id : Nat} {os : List Oper} (hd : os.all noDefer = true) (hQ : ¬ LetsOut Q) (h : SG W n F L (WO P os.toArray Q os)) : SG W n F L (WR P l (.region id os.toArray false) Q) :=
  fun w hO a ha => wpIn_region_lit (wpListIn_of_wpList hQ os a w (noDefer_of hd) (h w hO a ha))
theorem sgr_block {id : Nat} {c : Code} (h : SG W n F L (WR P l c (Exit.inBlock id Q))) : SG W n F L (WR P l (.block id c) Q) := fun w hO a ha => wpIn_block (h w hO a ha)
theorem sgi_region {id : Nat} {os : List Oper} (h : SG W n F L (WI P os.toArray Q os)) : SG W n F L (WC P (.region id os.toArray false) Q) :=
  fun w hO a ha => wpIn_wide.1 (wpIn_region_lit (h w hO a ha))
theorem sgi_nil (h : SG W n F L (Q .normal)) : SG W n F L (WI P ops Q []) := h
theorem sgi_ps {d : Nat} {op : Op} {ty : TypeId} {pos : String} {af : Array Edge} {v : Value} (hp : PS P n F op ty v) (hk : noDefer ⟨some d, op, ty, pos, af, none⟩ = true) (hd : Nat.blt d n = true) (h : SG W n ((d, v) :: F) L (WI P ops Q rest)) : SG W n F L (WI P ops Q (⟨some d, op, ty, pos, af, none⟩ :: rest)) := by
  intro w hO a ha
  simp only [WI, wpListIn]
  rw [if_pos (by simp [Region.wanted])]
  refine ⟨fun _ _ => trivial, ?_⟩
  rw [Oper.semAt_eq _ _ _ (noDefer_of (l := [⟨some d, op, ty, pos, af, none⟩]) (by simp [hk]) _ (by simp))]
  rw [hp a ha w (some d) pos af none]
  exact h w hO _ (ha.put hd v)
theorem sgi_yield {d : Nat} {ty : TypeId} {pos : String} {af : Array Edge} {x y : Operand} {ats : Array TypeId} {l : Nat} {v : Value} {X : Type} {L' : X → List HP} (hx : ev F x = some (.func (.yield l) #[] #[])) (hy : ev F y = some v) (hd : Nat.blt d n = true)
    (hY : ∀ w, Own W w L → ∃ fn T asg bd, (Instr.yield l #[v]).run P w = .ok (.round l fn T asg bd) w ∧ RoundIn Fence.wide 0 P l fn T asg bd w (fun e w' => e = .returned (.bool true) ∧ ∃ z, Own W w' (L' z)))
    (h : ∀ z, SG W n ((d, .bool true) :: F) (L' z) (WI P ops Q rest)) :
    SG W n F L (WI P ops Q (⟨some d, .call { callee := .value x, args := #[y], argTypes := ats }, ty, pos, af, none⟩ :: rest)) := by
  intro w hO a ha
  simp only [WI, wpListIn]
  rw [if_pos (by simp [Region.wanted])]
  refine ⟨fun _ _ => trivial, ?_⟩
  rw [Oper.semAt_eq _ _ _ (fun c h => by cases h)]
  obtain ⟨fn, T, asg, bd, h1, h2⟩ := hY w hO
  have hrun : (execOp a.eval ⟨some d, .call { callee := .value x, args := #[y], argTypes := ats }, ty, pos, af, none⟩).run P w = .ok (.round l fn T asg bd) w := by
    simp [execOp, resolve, invoke, ha.ev hx, ha.ev hy, h1, Deferred.ofValue]
  rw [hrun, Oper.uponIn_round]
  refine ⟨fun e => (by cases e), h2.mono ?_⟩
  rintro e w' ⟨rfl, z, hO'⟩
  exact h z w' hO' _ (ha.put hd _)
theorem not_lets_round {P : Program} {l : Nat} {R : Ending → World → Prop} {id : Nat} : ¬ LetsOut (Exit.inBlock id (roundPost P l R)) := by
  rintro ⟨a, w, h⟩
  exact h
/-- A round, from its assignment's and its body's walk. -/
theorem round_of {f : FuncId} {T : Array Value} {asg bd : Code} {w : World} {r : Loop} {R : Ending → World → Prop} {F1 : Fr} (hT : T.size = n) (hF : ∀ i v, look F i = some v → T[i]? = some v) (hO : Own W w (loopc l r :: L)) (hr : r.state = .ready)
    (h1 : ∀ Q, SG W n F1 (loopc l r :: L) (Q .normal) → ¬ LetsOut Q → SG W n F (loopc l r :: L) (WR P l asg Q))
    (h2 : SG W n F1 (loopc l { r with state := .busy } :: L) (WR P l bd (roundPost P l R))) : RoundIn Fence.wide 0 P l f T asg bd w R := by
  refine roundIn_of_wpIn trivial ?_
  refine h1 _ ?_ ?_ w hO _ ⟨hT, rfl, hF⟩
  · intro w1 hO1 a1 ha1
    exact ⟨_, run_beginRound hO1.loopAt hr, h2 _ (hO1.putLoop _) a1 ha1⟩
  · rintro ⟨a, w, h⟩
    exact h
end
section
variable {P : Program} {W : World} {n : Nat} {F : Fr} {L : List HP} {Q : Exit → Act → World → Prop}
theorem sg_rangeFunc {k1 : FuncId} [IsFn P k1] {g : Operand} {ps : Array Tmp} {asg bd : Code} {ds : List Value} {X : Type} {L3 : X → List HP} (hg : ev F g = some (.func (.func k1) #[] ds.toArray))
    (hC : ∀ (fn : FuncId) (T : Array Value) (l D : Nat), T.size = n → (∀ i v, look F i = some v → T[i]? = some v) → ∀ w1, Own W w1 (loopc l ⟨.ready, none, fn, T, ps, asg, bd, D⟩ :: defc D :: L) →
      CallsIn Fence.wide 0 P k1 (Value.func (.yield l) #[] #[] :: ds).toArray w1 (fun e w3 => (∃ v, e = .returned v) ∧ ∃ x, Own W w3 (loopc l ⟨.ready, none, fn, T, ps, asg, bd, D⟩ :: defc D :: L3 x)))
    (hQ : ∀ x D a w, a.tmps.size = n → (∀ i v, look F i = some v → a.tmps[i]? = some v) → a.defers = [{ target := .collected D, args := #[] }] → Own W w (defc D :: L3 x) → Q .normal a w) :
    SG W n F L (WC P (.rangeFunc g ps asg bd) Q) := by
  intro w hO a ha
  refine (wpIn_wide (n := 0)).1 (wpIn_rangeFunc fun fn _ => ?_)
  have hO1 : Own W (w.alloc (.deferred (some []))) (defc w.heap.size :: L) := Own.newOne hO rfl
  have hO2 : Own W ((w.alloc (.deferred (some []))).alloc (.loop ⟨.ready, none, fn, a.tmps, ps, asg, bd, w.heap.size⟩)) (loopc (w.alloc (.deferred (some []))).heap.size ⟨.ready, none, fn, a.tmps, ps, asg, bd, w.heap.size⟩ :: defc w.heap.size :: L) := Own.newOne hO1 rfl
  have hsz : (w.alloc (.deferred (some []))).heap.size = w.heap.size + 1 := by simp
  rw [hsz] at hO2
  obtain ⟨w2, hw2⟩ : ∃ w2, w2 = (w.alloc (.deferred (some []))).alloc (.loop ⟨.ready, none, fn, a.tmps, ps, asg, bd, w.heap.size⟩) := ⟨_, rfl⟩
  have h1 : (Instr.enterLoop fn a.tmps ps asg bd Fence.wide.round).run P w = .ok (w.heap.size + 1, [{ target := .collected w.heap.size, args := #[] }]) w2 := by rw [hw2]; exact run_enterLoop_outer fn a.tmps ps asg bd
  rw [← hw2] at hO2
  have h2 : (resolve a.eval (rangeCall g (w.heap.size + 1)) 0).run P w2 = .ok { target := .fn (.func k1) ds.toArray, args := #[.func (.yield (w.heap.size + 1)) #[] #[]] } w2 := by
    simp [resolve, ha.ev hg, Deferred.ofValue]
    rfl
  have h3 : (invoke (.fn (.func k1) ds.toArray) #[.func (.yield (w.heap.size + 1)) #[] #[]]).run P w2 = .ok (.enter k1 (Value.func (.yield (w.heap.size + 1)) #[] #[] :: ds).toArray) w2 := by
    simp [invoke, run_callFunc]
  refine ⟨_, _, _, _, _, k1, _, _, h1, h2, fun _ _ => trivial, h3, (by intro h; cases h), ?_⟩
  refine CallsIn.mono (hC fn a.tmps (w.heap.size + 1) w.heap.size ha.size ha.get _ hO2) ?_
  rintro e w3 ⟨⟨v, rfl⟩, x, hO3⟩
  refine ⟨_, _, run_endLoop hO3.loopAt (by simp), ?_⟩
  refine hQ x w.heap.size _ _ ha.size ha.get (by simp [ha.defers]) ?_
  exact (hO3.putLoop _).tail
/-- A function with a range over a function: from its body's walk. -/
theorem tri_enterM {f : FuncId} {fn : Func} {c : Code} {args : List Value} {X : Type} {v : X → Value} {φ : X → Prop} {L' : X → List HP} (hf : P.funcs[f]? = some fn) (hb : fn.body = some c) (hn : fn.ntmps = n) (hl : Nat.ble args.length n = true)
    (hF : ∀ i u, look F i = some u → args[i]? = some u) (h : SG W n F L (WC P c (bodyPostM Fence.wide 0 P fn (TriR W v φ L')))) : Tri P W f args L v φ L' := by
  intro w hO
  refine (callsIn_wide (n := 0)).1 (callsIn_of_wp_marks (F := Fence.wide) hf hb trivial ((wpIn_wide (n := 0)).2 ?_))
  subst hn
  have hle : args.length ≤ fn.ntmps := by simpa [Nat.ble_eq] using hl
  refine h w hO _ ⟨by simp; omega, rfl, fun i u hi => ?_⟩
  have := hF i u hi
  have hlt : i < args.length := (List.getElem?_eq_some_iff.1 this).1
  simp only [Array.getElem?_append, List.size_toArray, hlt, if_true, List.getElem?_toArray, this]
/-- What stands behind the loop: a load, an assignment, the return. -/
theorem wp_tail {id d1 d2 x t : Nat} {ty ty2 : TypeId} {pos pos2 : String} {af af2 : Array Edge} {b : Nat} {v : Value} [Cell P t] {a : Act} {w : World} (ht : a.tmps[x]? = some (.pointer (some ⟨b, 0, none⟩))) (hc : w.cell? ⟨b, 0, none⟩ = some v) (hd : d1 < a.tmps.size) (hne : True)
    (hq : Q .ret ((a.put (some d1) v).put (some d2) v) w) :
    (Code.seq (Code.region id #[⟨some d1, .load t (.tmp x), ty, pos, af, none⟩, ⟨some d2, .assign (.tmp d1), ty2, pos2, af2, none⟩] false) .ret).wp P Q a w := by
  refine wp_seq (wp_region_lit (l := [⟨some d1, .load t (.tmp x), ty, pos, af, none⟩, ⟨some d2, .assign (.tmp d1), ty2, pos2, af2, none⟩]) ?_)
  have h1 : (execOp a.eval ⟨some d1, .load t (.tmp x), ty, pos, af, none⟩).run P w = .ok (.value v) w := by
    simp [execOp, Act.eval, ht, Instr.loadAt, Instr.sureAddr, run_load_cell hc]
  have h2 : (execOp (a.put (some d1) v).eval ⟨some d2, .assign (.tmp d1), ty2, pos2, af2, none⟩).run P w = .ok (.value v) w := by
    simp [execOp, Act.eval, Act.put, hd]
  simp only [wpList]
  rw [if_pos (by simp [Region.wanted])]
  left
  simp only [Oper.wp, h1, Oper.upon_value]
  rw [if_pos (by simp [Region.wanted])]
  left
  simp only [h2, Oper.upon_value]
  exact wp_ret hq
end
end Go.Proofs.Ytgapgpknghnemaa
