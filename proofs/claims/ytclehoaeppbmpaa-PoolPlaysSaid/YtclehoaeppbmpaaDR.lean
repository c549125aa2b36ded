/- A region that draws its order: one order serves all. Pure operations may come whenever they are ready; a load may, where whatever can come ahead of it writes nothing that was there; all others where nothing else is ready. -/
import Derived.Test.YtclehoaeppbmpaaMEM2
namespace Go.Proofs.Ytclehoaeppbmpaa
set_option linter.unusedVariables false
set_option linter.unusedSimpArgs false
set_option linter.unusedSectionVars false
set_option linter.unnecessarySimpa false
open Go

/-- Old blocks stay as they were. -/
def Keeps (w w' : World) : Prop := ∀ (b : Nat) (o : Obj), w.heap[b]? = some o → w'.heap[b]? = some o
theorem Keeps.refl (w : World) : Keeps w w := fun _ _ h => h
theorem Keeps.trans {a b c : World} (h : Keeps a b) (k : Keeps b c) : Keeps a c := fun x o e => k x o (h x o e)
theorem Keeps.cell {w w' : World} (h : Keeps w w') {a : Addr} {v : Value} (hc : w.cell? a = some v) : w'.cell? a = some v := by
  unfold World.cell? at hc ⊢
  split at hc
  · rename_i c e f hb; rw [h _ _ hb]; exact hc
  · simp at hc
/-- A computation that writes nothing that was there. -/
def NW (P : Program) {α : Type} (s : Sem α) : Prop := ∀ w a w', s.run P w = .ok a w' → Keeps w w'
section
variable {P : Program} {α β : Type}
theorem nw_pure (a : α) : NW P (pure a : Sem α) := fun w b w' h => by simp at h; rw [← h.2]; exact .refl _
theorem nw_pure' (a : α) : NW P (Sem.pure a : Sem α) := fun w b w' h => by simp at h; rw [← h.2]; exact .refl _
theorem nw_bind {s : Sem α} {f : α → Sem β} (hs : NW P s) (hf : ∀ a, NW P (f a)) : NW P (s >>= f) := by
  intro w b w' h
  rw [Sem.run_bind] at h
  cases hr : s.run P w with
  | ok a w1 => rw [hr] at h; exact (hs w a w1 hr).trans (hf a w1 b w' h)
  | halt x w1 => rw [hr] at h; simp at h
theorem nw_map {s : Sem α} {f : α → β} (hs : NW P s) : NW P (f <$> s) := by
  intro w b w' h
  rw [Sem.run_map] at h
  cases hr : s.run P w with
  | ok a w1 => rw [hr] at h; simp at h; rw [← h.2]; exact hs w a w1 hr
  | halt x w1 => rw [hr] at h; simp at h
theorem nw_ite {c : Prop} [Decidable c] {s t : Sem α} (hs : NW P s) (ht : NW P t) : NW P (if c then s else t) := by split <;> assumption
theorem nw_stuck (why : String) : NW P (stuck why : Sem α) := fun w a w' h => by simp at h
theorem nw_unsup (u : Unsupported) : NW P (unsupported u : Sem α) := fun w a w' h => by simp at h
theorem nw_goPanic (v : Value) : NW P (goPanic v : Sem α) := fun w a w' h => by simp at h
theorem nw_program : NW P program := fun w a w' h => by simp at h; rw [← h.2]; exact .refl _
theorem nw_load (a : Addr) (m : Mode) : NW P (load a m) := by
  intro w v w' h
  rw [run_load] at h
  split at h
  · simp at h; rw [← h.2]; exact .refl _
  · split at h
    · simp at h; rw [← h.2]; exact .refl _
    · simp at h
theorem nw_newObj (o : Obj) : NW P (newObj o) := by
  intro w v w' h
  rw [run_newObj] at h
  simp at h
  rw [← h.2]
  intro b p hb
  show (w.heap.push o)[b]? = _
  rw [Array.getElem?_push, if_neg, hb]
  intro e
  have := (Array.getElem?_eq_some_iff.1 hb).1
  omega
theorem nw_shape (r : Nat) : NW P (shape r) := fun w a w' h => by simp at h; rw [← h.2]; exact .refl _
theorem nw_frozen (r : Addr) : NW P (frozen r) := fun w a w' h => by simp at h; rw [← h.2]; exact .refl _
theorem nw_choose (q : Question) : NW P (choose q) := by
  intro w a w' h
  rw [run_choose] at h
  split at h <;> (simp at h; rw [← h.2]; exact fun _ _ h => h)
theorem nw_mark (m : Mark) : NW P (mark m) := fun w a w' h => by simp at h; rw [← h]; exact .refl _
theorem nw_getObj (r : Nat) : NW P (getObj r) := by
  intro w a w' h
  simp only [getObj, Sem.run] at h
  split at h <;> simp at h
  rw [← h.2]; exact .refl _
theorem nw_mapM {f : α → Sem β} (hf : ∀ a, NW P (f a)) : ∀ l : List α, NW P (l.mapM f)
  | [] => by rw [List.mapM_nil]; exact nw_pure _
  | a :: l => by
    rw [List.mapM_cons]
    exact nw_bind (hf a) fun _ => nw_bind (nw_mapM hf l) fun _ => nw_pure _
theorem nw_typeInfo (t : TypeId) : NW P (typeInfo t) := by
  unfold typeInfo; refine nw_bind nw_program fun p => ?_; (split <;> first | exact nw_pure _ | exact nw_stuck _)
theorem nw_underlying (t : TypeId) : NW P (underlying t) := by
  unfold underlying; refine nw_bind nw_program fun p => ?_; (split <;> first | exact nw_pure _ | exact nw_stuck _)
theorem nw_sizeOf (t : TypeId) : NW P (sizeOf t) := by unfold sizeOf; exact nw_bind (nw_typeInfo t) fun _ => nw_pure _
theorem nw_zeroValue (t : TypeId) : NW P (zeroValue t) := by
  unfold zeroValue; refine nw_bind (nw_typeInfo t) fun i => ?_; (split <;> first | exact nw_pure _ | exact nw_unsup _)
theorem nw_isAgg (t : TypeId) : NW P (isAgg t) := by
  unfold isAgg; refine nw_bind (nw_underlying t) fun i => ?_; split <;> exact nw_pure _
theorem nw_loadCellsFrom (a : Addr) : ∀ (n i : Nat) (acc : Array Value), NW P (loadCellsFrom a i n acc)
  | 0, _, _ => nw_pure _
  | n + 1, i, acc => nw_bind (nw_load _ _) fun _ => nw_loadCellsFrom a n (i + 1) _
theorem nw_loadVar (t : TypeId) (a : Addr) : NW P (loadVar t a) := by
  unfold loadVar
  refine nw_bind (nw_isAgg t) fun b => ?_
  refine nw_ite ?_ (nw_load _ _)
  exact nw_bind (nw_sizeOf t) fun _ => nw_bind (nw_loadCellsFrom _ _ _ _) fun _ => nw_pure _
theorem nw_runtime (e : RuntimeError) : NW P (runtimePanic e : Sem α) := by
  intro w a w' h
  exfalso
  unfold runtimePanic at h
  rw [Sem.run_bind, run_program, Result.andThen_ok] at h
  cases e <;> simp only [Sem.run_bind, run_goPanic] at h <;> first | (simp at h; done) | skip
  all_goals
    generalize hq : (Sem.run P _ w : Result _) = r at h
    cases r with
    | halt => simp at h
    | ok x w1 =>
      simp only [Result.andThen_ok] at h
      generalize hq2 : (Sem.run P _ w1 : Result _) = r2 at h
      cases r2 <;> simp at h
theorem nw_bounds (k : IntKind) (x y : Int) (c : BoundsCode) : NW P (boundsPanic k x y c : Sem α) := by
  unfold boundsPanic
  dsimp only
  split
  · exact nw_bind (nw_map (nw_choose _)) fun _ => nw_runtime _
  · exact nw_bind (nw_pure _) fun _ => nw_runtime _
theorem nw_asIntOf (v : Value) : NW P (asIntOf v) := by unfold asIntOf; split <;> first | exact nw_pure _ | exact nw_unsup _ | exact nw_stuck _
theorem nw_asAgg (v : Value) : NW P (asAgg v) := by unfold asAgg; split <;> first | exact nw_pure _ | exact nw_unsup _ | exact nw_stuck _
theorem nw_asBool (v : Value) : NW P (asBool v) := by unfold asBool; split <;> first | exact nw_pure _ | exact nw_unsup _ | exact nw_stuck _
theorem nw_asAddr (v : Value) : NW P (asAddr v) := by unfold asAddr; split <;> first | exact nw_pure _ | exact nw_runtime _ | exact nw_stuck _
theorem nw_sureAddr (v : Value) : NW P (Instr.sureAddr v) := by unfold Instr.sureAddr; split <;> first | exact nw_pure _ | exact nw_unsup _ | exact nw_stuck _
theorem nw_part (t : TypeId) (cs : Array Value) (o : Nat) : NW P (part t cs o) := by
  unfold part
  refine nw_bind (nw_isAgg t) fun b => nw_ite (nw_bind (nw_sizeOf t) fun _ => nw_pure _) ?_
  (split <;> first | exact nw_pure _ | exact nw_stuck _)
theorem nw_index (t : TypeId) (x i : Value) : NW P (Instr.index t x i) := by
  unfold Instr.index
  refine nw_bind (nw_asIntOf i) fun ⟨k, i⟩ => nw_bind (nw_underlying t) fun d => ?_
  split
  · exact nw_ite (nw_bind (nw_sizeOf _) fun _ => nw_part _ _ _) (nw_bounds _ _ _ _)
  · (split <;> first | exact nw_pure _ | exact nw_bounds _ _ _ _)
  · exact nw_stuck _
theorem nw_field (t : TypeId) (x : Value) (f : Nat) : NW P (Instr.field t x f) := by
  unfold Instr.field
  refine nw_bind (nw_underlying t) fun d => ?_
  split
  · split
    · exact nw_bind (nw_asAgg _) fun _ => nw_part _ _ _
    · exact nw_stuck _
  · exact nw_stuck _
theorem nw_indexAt (t : TypeId) (x i : Value) : NW P (Instr.indexAt t x i) := by
  unfold Instr.indexAt
  dsimp only
  repeat' (first | exact nw_pure _ | exact nw_stuck _ | exact nw_unsup _ | exact nw_runtime _ | exact nw_bounds _ _ _ _ | exact nw_choose _ | exact nw_sizeOf _ | exact nw_underlying _ | exact nw_program | exact nw_shape _ | exact nw_newObj _ | exact nw_zeroValue _ | exact nw_sureAddr _ | exact nw_asIntOf _ | exact nw_asAgg _ | exact nw_part _ _ _ | exact nw_viewAt _ | refine nw_bind ?_ (fun _ => ?_) | refine nw_map ?_ | refine nw_ite ?_ ?_ | split)
theorem nw_viewAt (r : Nat) : NW P (viewAt r) := by
  unfold viewAt
  refine nw_bind (nw_shape r) fun s => ?_
  split
  · exact nw_pure _
  · refine nw_bind (nw_getObj r) fun o => ?_
    split <;> exact nw_pure _
theorem nw_byteOf (a : Addr) : NW P (byteOf a) := by
  unfold byteOf noView
  dsimp only
  repeat' (first | exact nw_pure _ | exact nw_stuck _ | exact nw_unsup _ | exact nw_runtime _ | exact nw_bounds _ _ _ _ | exact nw_choose _ | exact nw_sizeOf _ | exact nw_underlying _ | exact nw_program | exact nw_shape _ | exact nw_newObj _ | exact nw_zeroValue _ | exact nw_sureAddr _ | exact nw_asIntOf _ | exact nw_asAgg _ | exact nw_part _ _ _ | exact nw_viewAt _ | refine nw_bind ?_ (fun _ => ?_) | refine nw_map ?_ | refine nw_ite ?_ ?_ | split)
theorem nw_fieldPlace (a : Addr) (f : Field) : NW P (fieldPlace a f) := by
  unfold fieldPlace
  refine nw_bind (nw_sizeOf _) fun s => nw_ite ?_ (nw_pure _)
  unfold partAt
  exact nw_bind (nw_byteOf _) fun _ => nw_bind (nw_byteOf _) fun _ => nw_pure _
theorem nw_fieldAt (s : TypeId) (x : Value) (f : Nat) : NW P (Instr.fieldAt s x f) := by
  unfold Instr.fieldAt
  refine nw_bind (nw_underlying s) fun d => ?_
  split
  · split
    · exact nw_bind (nw_sureAddr _) fun _ => nw_bind (nw_fieldPlace _ _) fun _ => nw_pure _
    · exact nw_stuck _
  · exact nw_stuck _
theorem nw_newVar (t : TypeId) (v : Value) : NW P (newVar t v) := by
  unfold newVar newRow; exact nw_bind (nw_newObj _) fun _ => nw_pure _
theorem nw_buildSlice (t : TypeId) (len : Nat) (ps : Array (Nat × Value)) : NW P (Instr.buildSlice t len ps) := by
  unfold Instr.buildSlice newRow
  dsimp only
  repeat' (first | exact nw_pure _ | exact nw_stuck _ | exact nw_unsup _ | exact nw_runtime _ | exact nw_bounds _ _ _ _ | exact nw_choose _ | exact nw_sizeOf _ | exact nw_underlying _ | exact nw_program | exact nw_shape _ | exact nw_newObj _ | exact nw_zeroValue _ | exact nw_sureAddr _ | exact nw_asIntOf _ | exact nw_asAgg _ | exact nw_part _ _ _ | exact nw_viewAt _ | refine nw_bind ?_ (fun _ => ?_) | refine nw_map ?_ | refine nw_ite ?_ ?_ | split)
theorem nw_build (t : TypeId) (ps : Array (Nat × Value)) : NW P (Instr.build t ps) := by
  unfold Instr.build
  refine nw_bind (nw_zeroValue t) fun z => nw_bind (nw_underlying t) fun d => ?_
  split
  · refine nw_bind ?_ fun _ => ?_
    · rw [Array.mapM_eq_mapM_toList]
      exact nw_map (nw_mapM (fun f => nw_bind (nw_sizeOf _) fun _ => nw_pure _) _)
    · (split <;> first | exact nw_pure _ | exact nw_stuck _)
  · refine nw_bind (nw_sizeOf _) fun _ => ?_
    (split <;> first | exact nw_pure _ | exact nw_stuck _)
  · exact nw_stuck _
end
/-- 0: pure; 1: a load; 2: makes new memory, or reads, and writes nothing; 3: any other. -/
def kindOf : Op → Nat
  | .move _ => 0
  | .assign _ => 0
  | .pick _ _ _ => 0
  | .nilCheck _ => 0
  | .fieldAddr _ _ _ => 0
  | .indexAddr _ _ _ => 0
  | .field _ _ _ => 0
  | .index _ _ _ => 0
  | .extract _ _ => 0
  | .unOp _ _ _ => 0
  | .binOp _ _ _ _ _ => 0
  | .convert s t _ => if s == 37 then (if t == 9 then 1 else 3) else if t == 37 then 3 else 0
  | .slice _ _ _ _ _ => 0
  | .load _ _ => 1
  | .call { callee := .builtin .len, .. } => 0
  | .call { callee := .builtin .cap, .. } => 0
  | .call { callee := .builtin .min, .. } => 0
  | .call { callee := .builtin .max, .. } => 0
  | .makeInterface _ _ => 0
  | .makeFunc _ _ _ => 0
  | .build _ _ => 0
  | .alloc _ => 2
  | .box _ _ => 2
  | .buildSlice _ _ _ => 2
  | _ => 3
/-- Those of which it is proved here that they write nothing that was there. -/
def calmOp : Op → Bool
  | .move _ => true
  | .assign _ => true
  | .pick _ _ _ => true
  | .fieldAddr _ _ _ => true
  | .indexAddr _ _ _ => true
  | .field _ _ _ => true
  | .index _ _ _ => true
  | .load _ _ => true
  | .alloc _ => true
  | .box _ _ => true
  | .build _ _ => true
  | .buildSlice _ _ _ => true
  | .convert s t _ => s == 37 && t == 9
  | _ => false
/-- The program's bytes and strings bear these numbers. -/
class BS (P : Program) : Prop where
  h : P.underlying 37 = some (.slice 5) ∧ P.underlying 5 = some (.int .u8) ∧ P.underlying 9 = some .string
theorem nw_forIn {P : Program} {α β : Type} (f : α → β → Sem (ForInStep β)) (hf : ∀ a b, NW P (f a b)) : ∀ (l : List α) (b : β), NW P (forIn l b f)
  | [], b => by rw [List.forIn_nil]; exact nw_pure _
  | a :: l, b => by
    rw [List.forIn_cons]
    refine nw_bind (hf a b) fun r => ?_
    split
    · exact nw_pure _
    · exact nw_forIn f hf l _
theorem nw_bytesToString {P : Program} (x : Value) : NW P (Conv.bytesToString x) := by
  unfold Conv.bytesToString
  split
  · exact nw_pure _
  · refine nw_bind (nw_loadCellsFrom _ _ _ _) fun cs => nw_bind ?_ fun _ => nw_pure _
    rw [← Array.forIn_toList]
    refine nw_forIn _ (fun c s => ?_) _ _
    split
    · exact nw_pure _
    · exact nw_stuck _
  · exact nw_stuck _
theorem nw_convert {P : Program} [hb : BS P] (x : Value) : NW P (convert 37 9 x) := by
  intro w v w' h
  unfold convert at h
  simp only [Sem.run_bind, run_underlying hb.h.1, run_underlying hb.h.2.2, Result.andThen_ok] at h
  cases x <;> simp only [Sem.run_bind, run_underlying hb.h.2.1, Result.andThen_ok] at h <;> first
    | exact nw_bytesToString _ w v w' h
    | (simp [Conv.intToString] at h; rw [← h.2]; exact .refl _)
    | (simp at h; rw [← h.2]; exact .refl _)
theorem calm_spec {P : Program} [BS P] {o : Oper} (h : calmOp o.op = true) (ρ : Operand → Value) (w : World) (x : Next) (w' : World) (hr : (execOp ρ o).run P w = .ok x w') :
    (∃ v, x = .value v) ∧ Keeps w w' := by
  have key : ∀ (s : Sem Value), NW P s → (do pure (.value (← s)) : Sem Next).run P w = .ok x w' → (∃ v, x = .value v) ∧ Keeps w w' := by
    intro s hs hr
    rw [Sem.run_bind] at hr
    cases h1 : s.run P w with
    | ok a w1 => rw [h1] at hr; simp at hr; exact ⟨⟨a, hr.1.symm⟩, by rw [← hr.2]; exact hs w a w1 h1⟩
    | halt y w1 => rw [h1] at hr; simp at hr
  obtain ⟨dst, op, ty, pos, af, g⟩ := o
  cases op <;> simp only [calmOp] at h <;> try (cases h; done)
  case move x0 => simp [execOp] at hr; exact ⟨⟨_, hr.1.symm⟩, by rw [← hr.2]; exact .refl _⟩
  case assign x0 => simp [execOp] at hr; exact ⟨⟨_, hr.1.symm⟩, by rw [← hr.2]; exact .refl _⟩
  case pick c a b => exact key (do let q ← asBool (ρ c); pure (if q then ρ a else ρ b)) (nw_bind (nw_asBool _) fun _ => nw_pure _) (by simpa [execOp] using hr)
  case alloc e => exact key _ (by unfold Instr.alloc; refine nw_bind (nw_zeroValue _) fun z => ?_; simp only []; exact nw_bind (nw_newVar _ _) fun _ => nw_pure _) hr
  case box e v => exact key _ (by unfold Instr.box; exact nw_bind (nw_newVar _ _) fun _ => nw_pure _) hr
  case build t ps => exact key _ (nw_build _ _) hr
  case buildSlice t l ps => exact key _ (nw_buildSlice _ _ _) hr
  case load t a => exact key _ (by unfold Instr.loadAt; exact nw_bind (nw_sureAddr _) fun _ => nw_loadVar _ _) hr
  case fieldAddr s x0 f => exact key _ (nw_fieldAt _ _ _) hr
  case field t x0 f => exact key _ (nw_field _ _ _) hr
  case indexAddr t x0 i => exact key _ (nw_indexAt _ _ _) hr
  case index t x0 i => exact key _ (nw_index _ _ _) hr
  case convert s t x0 =>
    simp only [Bool.and_eq_true, beq_iff_eq] at h
    obtain ⟨rfl, rfl⟩ := h
    exact key _ (nw_convert _) (by simpa [execOp] using hr)

/-- In state 'a', wherever these cells hold these values, the operation yields v and does nothing else (or it is not wanted). -/
def YieldsC (P : Program) (ops : Array Oper) (o : Oper) (v : Value) (cs : List (Addr × Value)) (a : Act) : Prop :=
  (Region.wanted o (yielded ops a.tmps) = true ∧ ∀ w, (∀ p ∈ cs, w.cell? p.1 = some p.2) → (execOp a.eval o).run P w = .ok (.value v) w) ∨
  (Region.wanted o (yielded ops a.tmps) = false ∧ v = undef)
/-- The ways out but for a panic. -/
def calmQ (Q : Exit → Act → World → Prop) : Exit → Act → World → Prop
  | .panic _, _, _ => False
  | e, a, w => Q e a w
/-- The walk in a chosen order. -/
def WD (P : Program) (ops : Array Oper) (Q : Exit → Act → World → Prop) : List Nat → Act → World → Prop
  | [], a, w => Q .normal a w
  | i :: π, a, w => match ops[i]? with
    | none => False
    | some o =>
      if kindOf o.op = 0 then ∃ v, YieldsC P ops o v [] a ∧ WD P ops Q π (a.put o.dst v) w
      else if kindOf o.op = 1 then ∃ v cs, YieldsC P ops o v cs a ∧ (∀ p ∈ cs, w.cell? p.1 = some p.2) ∧ WD P ops Q π (a.put o.dst v) w
      else W1 P ops (calmQ Q) o (WD P ops Q π) a w
/-- What may come ahead of i: found in one pass. -/
def aheadOf (ops : Array Oper) (listed : Array Bool) (i : Nat) : Array Bool :=
  (List.range ops.size).foldl (fun X j => if j != i && !listed.getD j true && ((ops[j]?).map (·.after.all fun e => !Region.binds .any e || listed.getD e.on false || X.getD e.on false)).getD false then X.setIfInBounds j true else X) (Array.replicate ops.size false)
/-- Whatever is ready, but i, lies in X; and what X makes ready lies in X. -/
def aheadOk (ops : Array Oper) (listed X : Array Bool) (i : Nat) : Bool :=
  !X.getD i false && (List.range ops.size).all fun j => j == i || listed.getD j true ||
    (X.getD j false && ((ops[j]?).map (calmOp ·.op)).getD false) ||
    ((ops[j]?).map (·.after.any fun e => Region.binds .any e && !listed.getD e.on false && !X.getD e.on false)).getD true
def chkOrder (ops : Array Oper) : List Nat → Array Bool → Bool
  | [], listed => (Region.ready .any ops listed).isEmpty
  | i :: π, listed => (match ops[i]? with
    | none => false
    | some o =>
      if kindOf o.op = 0 then (Region.ready .any ops listed).contains i && Region.free .any ops listed i
      else if kindOf o.op = 1 then (Region.ready .any ops listed).contains i && Region.free .any ops listed i && aheadOk ops listed (aheadOf ops listed i) i
      else Region.ready .any ops listed == [i]) && chkOrder ops π (listed.setIfInBounds i true)

section
variable {P : Program} [BS P] {ops : Array Oper} {Q : Exit → Act → World → Prop}
theorem YieldsC.of_same {o : Oper} {v : Value} {cs : List (Addr × Value)} {a a' : Act} (hy : YieldsC P ops o v cs a) (he : execOp a'.eval o = execOp a.eval o)
    (hw : Region.wanted o (yielded ops a'.tmps) = Region.wanted o (yielded ops a.tmps)) : YieldsC P ops o v cs a' := by
  unfold YieldsC at *
  rw [he, hw]
  exact hy
theorem YieldsC.wpOp {i : Nat} {o : Oper} {v : Value} {cs : List (Addr × Value)} {a : Act} (hi : ops[i]? = some o) (hy : YieldsC P ops o v cs a)
    {K : Act → World → Prop} {w : World} (hS : ∀ p ∈ cs, w.cell? p.1 = some p.2) (h : K (a.put o.dst v) w) : wpOp P ops Q i K a w := by
  unfold Go.wpOp
  simp only [hi]
  rcases hy with ⟨hw, hv⟩ | ⟨hw, rfl⟩
  · simp only [hw, if_true, Oper.wp, hv w hS, Oper.upon]; exact .inl h
  · simp only [hw, Bool.false_eq_true, if_false]; exact h
theorem wpOp_putC {j : Nat} {oi oj : Oper} {v : Value} {cs : List (Addr × Value)} (hj : ops[j]? = some oj) (hap : oi.apart ops oj = true)
    (hsi : ∀ cs b, oi.op ≠ .select cs b) (hsj : ∀ cs b, oj.op ≠ .select cs b) (hcalm : calmOp oj.op = true ∨ cs = [])
    (hQ : ∀ c a w, Q (.panic c) a w → False) {K : Act → World → Prop} {a : Act} {w : World} (hS : ∀ p ∈ cs, w.cell? p.1 = some p.2)
    (hy : YieldsC P ops oi v cs a) (h : wpOp P ops Q j K (a.put oi.dst v) w) :
    wpOp P ops Q j (fun a' w' => (∀ p ∈ cs, w'.cell? p.1 = some p.2) ∧ YieldsC P ops oi v cs a' ∧ K (a'.put oi.dst v) w') a w := by
  obtain ⟨h1, h2, h3⟩ := Oper.apart_spec hap
  have keep : ∀ (a : Act), YieldsC P ops oi v cs a → ∀ u, YieldsC P ops oi v cs (a.put oj.dst u) := fun a hy u =>
    hy.of_same (execOp_put oi hsi a oj.dst u h3) (wanted_put oi a oj.dst u h3)
  have keepD : ∀ d, YieldsC P ops oi v cs { a with defers := d :: a.defers } := fun d => hy.of_same rfl rfl
  unfold wpOp at *
  simp only [hj] at *
  rw [wanted_put oj a oi.dst v h1] at h
  split
  · rename_i hw
    simp only [hw, if_true] at h
    rcases h with h | ⟨hasks, hlets⟩
    case inr => exact .inr ⟨by unfold Oper.asks at *; rw [execOp_put oj hsj a oi.dst v h1] at hasks; exact hasks, hlets⟩
    refine .inl ?_
    unfold Oper.wp at *
    rw [execOp_put oj hsj a oi.dst v h1] at h
    have hkeep : ∀ n w', (execOp a.eval oj).run P w = .ok n w' → (cs = [] ∨ ((∃ u, n = .value u) ∧ ∀ p ∈ cs, w'.cell? p.1 = some p.2)) := by
      intro n w' hr
      rcases hcalm with hc | hc
      · obtain ⟨hv, hk⟩ := calm_spec hc a.eval w n w' hr
        exact .inr ⟨hv, fun p hp => hk.cell (hS p hp)⟩
      · exact .inl hc
    generalize (execOp a.eval oj).run P w = r at *
    cases r with
    | ok n w' =>
      have hk := hkeep n w' rfl
      have hall : cs = [] → ∀ w'' : World, ∀ p ∈ cs, w''.cell? p.1 = some p.2 := by rintro rfl w'' p hp; cases hp
      cases n <;> simp only [Oper.upon] at h ⊢
      case value u => exact ⟨hk.elim (fun e => hall e _) (·.2), keep a hy u, by rw [← Act.put_comm a v u h2]; exact h⟩
      case skip =>
        rcases hk with hk | ⟨⟨u, hu⟩, _⟩
        · exact ⟨hall hk _, keep a hy _, by rw [← Act.put_comm a v undef h2]; exact h⟩
        · cases hu
      case defer d =>
        rcases hk with hk | ⟨⟨u, hu⟩, _⟩
        · refine ⟨hall hk _, keep _ (keepD d) _, ?_⟩
          rw [← Act.put_comm _ v undef h2, ← Act.put_defers]
          exact h
        · cases hu
      case enter f args =>
        rcases hk with hk | ⟨⟨u, hu⟩, _⟩
        · refine Calls.mono h fun e w'' he => ?_
          cases e with
          | returned u => exact ⟨hall hk _, keep a hy u, by rw [← Act.put_comm a v u h2]; exact he⟩
          | panicked c => exact (hQ _ _ _ he).elim
          | outgrown => exact he
        · cases hu
      case row row args =>
        rcases hk with hk | ⟨⟨u, hu⟩, _⟩
        · exact Rows.mono h fun u w'' he => ⟨hall hk _, keep a hy u, by rw [← Act.put_comm a v u h2]; exact he⟩
        · cases hu
    | halt x w' =>
      cases x <;> simp only [Oper.upon] at h ⊢
      case panic u => exact (hQ _ _ _ h).elim
  · rename_i hw
    simp only [hw] at h
    exact ⟨hS, keep a hy _, by rw [← Act.put_comm a v undef h2]; exact h⟩
theorem wpAny_firstC {i : Nat} {oi : Oper} {v : Value} {cs : List (Addr × Value)} (hi : ops[i]? = some oi) (hsel : ∀ (j : Nat) (o : Oper) cs b, ops[j]? = some o → o.op ≠ .select cs b)
    (hQ : ∀ c a w, Q (.panic c) a w → False) (X : Array Bool) :
    ∀ (fuel : Nat) (listed : Array Bool) (a : Act) (w : World),
      (∀ j oj, ops[j]? = some oj → j ≠ i → listed.getD j true = false → (∀ e ∈ oj.after, Region.binds .any e = true → e.on ≠ i) → oi.apart ops oj = true) →
      (cs ≠ [] → X.getD i false = false ∧ ∀ j oj, ops[j]? = some oj → j ≠ i → listed.getD j true = false → (X.getD j false = true ∧ calmOp oj.op = true) ∨ ∃ e ∈ oj.after, Region.binds .any e = true ∧ listed.getD e.on false = false ∧ X.getD e.on false = false) →
      i ∈ Region.ready .any ops listed → YieldsC P ops oi v cs a → (∀ p ∈ cs, w.cell? p.1 = some p.2) →
      wpAny P .any ops Q fuel (listed.setIfInBounds i true) (a.put oi.dst v) w → wpAny P .any ops Q (fuel + 1) listed a w := by
  intro fuel
  induction fuel with
  | zero =>
    intro listed a w _ _ hr hy hS H
    refine ⟨fun h => (by rw [h] at hr; cases hr), fun j hj => ?_⟩
    by_cases hji : j = i
    · subst hji; exact hy.wpOp hi hS H
    · have := ready_mono hj hji
      rw [H.1] at this
      cases this
  | succ fuel ih =>
    intro listed a w hfree hX hr hy hS H
    refine ⟨fun h => (by rw [h] at hr; cases hr), fun j hj => ?_⟩
    by_cases hji : j = i
    · subst hji; exact hy.wpOp hi hS H
    · have h1 := H.2 j (ready_mono hj hji)
      obtain ⟨hjun, oj, hoj, hall⟩ := mem_ready.1 hj
      have hnot : ∀ e ∈ oj.after, Region.binds .any e = true → e.on ≠ i := fun e he hb heq => by
        have h1 := hall e he hb
        have h0 := (mem_ready.1 hr).1
        rw [heq] at h1
        rcases Nat.lt_or_ge i listed.size with h' | h'
        · simp [h'] at h0 h1; rw [h0] at h1; cases h1
        · simp [Array.getElem?_eq_none h'] at h1
      have hcalm : calmOp oj.op = true ∨ cs = [] := by
        by_cases hcs : cs = []
        · exact .inr hcs
        · left
          rcases (hX hcs).2 j oj hoj hji hjun with h | ⟨e, he, hb, hl, _⟩
          · exact h.2
          · have := hall e he hb; rw [hl] at this; cases this
      have hXj : cs ≠ [] → X.getD j false = true := by
        intro hcs
        rcases (hX hcs).2 j oj hoj hji hjun with h | ⟨e, he, hb, hl, _⟩
        · exact h.1
        · have := hall e he hb; rw [hl] at this; cases this
      have h2 := wpOp_putC hoj (hfree j oj hoj hji hjun hnot) (fun cs b => hsel i oi cs b hi) (fun cs b => hsel j oj cs b hoj) hcalm hQ hS hy h1
      have hfree' : ∀ k ok, ops[k]? = some ok → k ≠ i → (listed.setIfInBounds j true).getD k true = false →
          (∀ e ∈ ok.after, Region.binds .any e = true → e.on ≠ i) → oi.apart ops ok = true := fun k ok hk hki hun hno => by
        refine hfree k ok hk hki ?_ hno
        by_cases hjk : j = k
        · subst hjk; exact hjun
        · rw [getD_set_ne true hjk] at hun; exact hun
      have hX' : cs ≠ [] → X.getD i false = false ∧ ∀ k ok, ops[k]? = some ok → k ≠ i → (listed.setIfInBounds j true).getD k true = false → (X.getD k false = true ∧ calmOp ok.op = true) ∨ ∃ e ∈ ok.after, Region.binds .any e = true ∧ (listed.setIfInBounds j true).getD e.on false = false ∧ X.getD e.on false = false := by
        intro hcs
        refine ⟨(hX hcs).1, fun k ok hk hki hun => ?_⟩
        have hun' : listed.getD k true = false := by
          by_cases hjk : j = k
          · subst hjk; exact hjun
          · rw [getD_set_ne true hjk] at hun; exact hun
        rcases (hX hcs).2 k ok hk hki hun' with h | ⟨e, he, hb, hl, hx⟩
        · exact .inl h
        · refine .inr ⟨e, he, hb, ?_, hx⟩
          have hej : j ≠ e.on := by rintro rfl; rw [hXj hcs] at hx; cases hx
          rw [getD_set_ne false hej]; exact hl
      refine wpOp_mono (fun a' w' h3 => ih (listed.setIfInBounds j true) a' w' hfree' hX' (ready_mono hr (Ne.symm hji)) h3.2.1 h3.1 ?_) h2
      rw [Array.setIfInBounds_comm _ _ hji]
      exact h3.2.2
theorem aheadOk_spec {listed X : Array Bool} {i : Nat} (h : aheadOk ops listed X i = true) : X.getD i false = false ∧ ∀ j oj, ops[j]? = some oj → j ≠ i → listed.getD j true = false → (X.getD j false = true ∧ calmOp oj.op = true) ∨ ∃ e ∈ oj.after, Region.binds .any e = true ∧ listed.getD e.on false = false ∧ X.getD e.on false = false := by
  simp only [aheadOk, Bool.and_eq_true, Bool.not_eq_true', List.all_eq_true, List.mem_range] at h
  refine ⟨h.1, fun j oj hj hji hun => ?_⟩
  have h1 := h.2 j (Array.getElem?_eq_some_iff.1 hj).1
  simp only [hj, Option.map_some, Option.getD_some, hun, Bool.or_eq_true, beq_iff_eq, hji, false_or, Bool.false_eq_true, Bool.and_eq_true, or_false] at h1
  rcases h1 with h1 | h1
  · exact .inl h1
  · obtain ⟨e, he, hb⟩ := Array.any_eq_true'.1 h1
    simp only [Bool.and_eq_true, Bool.not_eq_true'] at hb
    exact .inr ⟨e, he, hb.1.1, hb.1.2, hb.2⟩
theorem wpAny_of_WD (hs : Region.noSelect ops = true) : ∀ (π : List Nat) (listed : Array Bool) (a : Act) (w : World), chkOrder ops π listed = true → WD P ops Q π a w → wpAny P .any ops (calmQ Q) π.length listed a w
  | [], listed, a, w, hc, h => ⟨by simpa [chkOrder] using hc, h⟩
  | i :: π, listed, a, w, hc, h => by
    simp only [chkOrder, Bool.and_eq_true] at hc
    obtain ⟨hc, hrest⟩ := hc
    cases ho : ops[i]? with
    | none => simp [ho] at hc
    | some o =>
      simp only [ho] at hc
      simp only [WD, ho] at h
      have hQ : ∀ c a w, calmQ Q (.panic c) a w → False := fun c a w h => h
      by_cases h0 : kindOf o.op = 0
      · rw [if_pos h0] at hc h
        simp only [Bool.and_eq_true] at hc
        obtain ⟨v, hy, hK⟩ := h
        exact wpAny_firstC (cs := []) ho (Region.noSelect_spec hs) hQ #[] π.length listed a w (Region.free_spec ho hc.2) (fun e => absurd rfl e) (by simpa using hc.1) hy (by intro p hp; cases hp) (wpAny_of_WD hs π _ _ _ hrest hK)
      · rw [if_neg h0] at hc h
        by_cases h1 : kindOf o.op = 1
        · rw [if_pos h1] at hc h
          simp only [Bool.and_eq_true] at hc
          obtain ⟨v, cs, hy, hS, hK⟩ := h
          exact wpAny_firstC ho (Region.noSelect_spec hs) hQ _ π.length listed a w (Region.free_spec ho hc.1.2) (fun _ => aheadOk_spec hc.2) (by simpa using hc.1.1) hy hS (wpAny_of_WD hs π _ _ _ hrest hK)
        · rw [if_neg h1] at hc h
          have hc' : Region.ready .any ops listed = [i] := by simpa using hc
          refine wpAny_all hc' (by simp) fun j hj => ?_
          have : j = i := by simpa using hj
          subst this
          unfold wpOp
          simp only [ho]
          unfold W1 at h
          split
          · rename_i hw
            rw [if_pos hw] at h
            exact .inl (Oper.wp_mono (fun a' w' h' => wpAny_of_WD hs π _ _ _ hrest h') h)
          · rename_i hw
            rw [if_neg hw] at h
            exact wpAny_of_WD hs π _ _ _ hrest h
end
theorem wpAny_monoQ {P : Program} {md : Region.Mode} {ops : Array Oper} {Q Q' : Exit → Act → World → Prop} (hQ : ∀ e a w, Q e a w → Q' e a w) : ∀ (f : Nat) (listed : Array Bool) (a : Act) (w : World), wpAny P md ops Q f listed a w → wpAny P md ops Q' f listed a w
  | 0, _, _, _, h => ⟨h.1, hQ _ _ _ h.2⟩
  | f + 1, listed, a, w, h => by
    refine ⟨fun h0 => hQ _ _ _ (h.1 h0), fun i hi => ?_⟩
    have h1 := h.2 i hi
    have hm : ∀ a' w', wpAny P md ops Q f (listed.setIfInBounds i true) a' w' → wpAny P md ops Q' f (listed.setIfInBounds i true) a' w' := fun a' w' h' => wpAny_monoQ hQ f _ a' w' h'
    unfold wpOp at h1 ⊢
    split
    · rename_i ho; simp only [ho] at h1; exact hm _ _ h1
    · rename_i o ho
      simp only [ho] at h1
      split
      · rename_i hw
        simp only [hw, if_true] at h1
        rcases h1 with h1 | ⟨h1, a0, w0, h2⟩
        · left
          unfold Oper.wp at *
          generalize (execOp a.eval o).run P w = r at *
          cases r with
          | ok n w' =>
            cases n <;> simp only [Oper.upon] at h1 ⊢ <;>
              first
                | exact hm _ _ h1
                | exact Calls.mono h1 (fun e w'' he => by cases e <;> first | exact hm _ _ he | exact hQ _ _ _ he | exact ⟨he.choose, he.choose_spec.choose, hQ _ _ _ he.choose_spec.choose_spec⟩)
                | exact Rows.mono h1 (fun _ _ he => hm _ _ he)
          | halt x w' => cases x <;> simp only [Oper.upon] at h1 ⊢ <;> first | exact h1 | exact hQ _ _ _ h1
        · exact .inr ⟨h1, a0, w0, hQ _ _ _ h2⟩
      · rename_i hw; simp only [hw] at h1; exact hm _ _ h1

section
variable {P : Program} [BS P] {W : World} {n : Nat} {F : Fr} {L : List HP} {Q : Exit → Act → World → Prop} {l : List Oper} {π : List Nat} {i : Nat}
variable {d : Nat} {ty : TypeId} {pos : String} {af : Array Edge}
theorem sg_draw {id : Nat} (π : List Nat) (hm : P.follows .mixedOrders = true) (hB : (Region.noSelect l.toArray && (π.length == l.length) && chkOrder l.toArray π (Array.replicate l.length false)) = true)
    (h : SG W n F L (WD P l.toArray Q π)) : SG W n F L (WC P (.region id l.toArray true) Q) := by
  intro w hO a ha
  simp only [Bool.and_eq_true, beq_iff_eq] at hB
  have h1 := wpAny_of_WD hB.1.1 π _ a w.drew hB.2 (h w.drew hO.drew a ha)
  rw [hB.1.2] at h1
  refine wp_region_any hm ?_
  have h2 := wpAny_monoQ (Q' := Q) (fun e a w he => by cases e <;> first | exact he | exact he.elim) _ _ _ _ h1
  have e1 : l.toArray.size = l.length := by simp
  rw [e1]; exact h2
theorem sd_nil (h : SG W n F L (Q .normal)) : SG W n F L (WD P l.toArray Q []) := h
theorem sd_pure {op : Op} {v : Value} (hi : l[i]? = some ⟨some d, op, ty, pos, af, none⟩) (hk : kindOf op = 0) (hp : PS P n F op ty v) (hd : Nat.blt d n = true) (h : SG W n ((d, v) :: F) L (WD P l.toArray Q π)) :
    SG W n F L (WD P l.toArray Q (i :: π)) := by
  intro w hO a ha
  simp only [WD, List.getElem?_toArray, hi]
  rw [if_pos hk]
  exact ⟨v, .inl ⟨by simp [Region.wanted], fun w _ => hp a ha w _ _ _ _⟩, h w hO _ (ha.put hd v)⟩
theorem sd_pure_g {op : Op} {v : Value} {j t : Nat} {b : Bool} (hi : l[i]? = some ⟨some d, op, ty, pos, af, some (j, b)⟩) (hk : kindOf op = 0) (hj : (l[j]?).bind (·.dst) = some t) (ht : look F t = some (.bool b)) (hp : PS P n F op ty v) (hd : Nat.blt d n = true) (h : SG W n ((d, v) :: F) L (WD P l.toArray Q π)) :
    SG W n F L (WD P l.toArray Q (i :: π)) := by
  intro w hO a ha
  simp only [WD, List.getElem?_toArray, hi]
  rw [if_pos hk]
  have hy : yielded l.toArray a.tmps j = some b := by simp [yielded, hj, ha.get t _ ht]
  exact ⟨v, .inl ⟨by simp [Region.wanted, hy], fun w _ => hp a ha w _ _ _ _⟩, h w hO _ (ha.put hd v)⟩
theorem sd_no {op : Op} {j t : Nat} {b : Bool} (hi : l[i]? = some ⟨some d, op, ty, pos, af, some (j, b)⟩) (hk : Nat.blt (kindOf op) 2 = true) (hj : (l[j]?).bind (·.dst) = some t) (ht : look F t = some (.bool (!b))) (hd : Nat.blt d n = true) (h : SG W n ((d, undef) :: F) L (WD P l.toArray Q π)) :
    SG W n F L (WD P l.toArray Q (i :: π)) := by
  intro w hO a ha
  simp only [WD, List.getElem?_toArray, hi]
  have hy : yielded l.toArray a.tmps j = some (!b) := by simp [yielded, hj, ha.get t _ ht]
  have hn : Region.wanted ⟨some d, op, ty, pos, af, some (j, b)⟩ (yielded l.toArray a.tmps) = false := by cases b <;> simp [Region.wanted, hy]
  have hk' : kindOf op < 2 := by simpa [Nat.blt_eq] using hk
  by_cases h0 : kindOf op = 0
  · rw [if_pos h0]; exact ⟨undef, .inr ⟨hn, rfl⟩, h w hO _ (ha.put hd _)⟩
  · rw [if_neg h0, if_pos (by omega)]
    exact ⟨undef, [], .inr ⟨hn, rfl⟩, (by intro p hp; cases hp), h w hO _ (ha.put hd _)⟩
/-- A load of one cell. -/
theorem sd_load_rd {t : Nat} {x : Operand} {ad : Addr} {v : Value} [Cell P t] (hi : l[i]? = some ⟨some d, .load t x, ty, pos, af, none⟩) (hx : ev F x = some (.pointer (some ad))) (hr : Rd W L (some ad) [v]) (hd : Nat.blt d n = true) (h : SG W n ((d, v) :: F) L (WD P l.toArray Q π)) :
    SG W n F L (WD P l.toArray Q (i :: π)) := by
  intro w hO a ha
  simp only [WD, List.getElem?_toArray, hi]
  rw [if_neg (by simp [kindOf]), if_pos (by rfl)]
  have hc : w.cell? ad = some v := by
    rcases hr w hO with hr2 | ⟨b, o, he, hr2⟩
    · simp at hr2
    · simp only [Option.some.injEq] at he; subst he
      have := hr2 0 v (by simp); simpa using this
  refine ⟨v, [(ad, v)], .inl ⟨by simp [Region.wanted], fun w hw => ?_⟩, by intro p hp; simp at hp; subst hp; exact hc, h w hO _ (ha.put hd v)⟩
  have := hw (ad, v) (by simp)
  simp [execOp, ha.ev hx, Instr.loadAt, Instr.sureAddr, run_load_cell this]
theorem sd_load {t b o : Nat} {x : Operand} {cs : List Value} {v : Value} (k : Nat) [Cell P t] (hi : l[i]? = some ⟨some d, .load t x, ty, pos, af, none⟩) (hL : L[k]? = some (blk b cs)) (hx : ev F x = some (.pointer (some ⟨b, o, none⟩))) (hv : cs[o]? = some v) (hd : Nat.blt d n = true) (h : SG W n ((d, v) :: F) L (WD P l.toArray Q π)) :
    SG W n F L (WD P l.toArray Q (i :: π)) :=
  sd_load_rd hi hx (rd_blk k hL (by intro j u hj; match j, hj with | 0, hj => simp at hj; subst hj; simpa using hv)) hd h
theorem sd_load_agg {t sz : Nat} {x : Operand} {ad : Addr} {vs : List Value} [Agg P t sz] (hi : l[i]? = some ⟨some d, .load t x, ty, pos, af, none⟩) (hx : ev F x = some (.pointer (some ad))) (hl : vs.length = sz) (hr : Rd W L (some ad) vs) (hd : Nat.blt d n = true) (h : SG W n ((d, .agg vs.toArray) :: F) L (WD P l.toArray Q π)) :
    SG W n F L (WD P l.toArray Q (i :: π)) := by
  intro w hO a ha
  simp only [WD, List.getElem?_toArray, hi]
  rw [if_neg (by simp [kindOf]), if_pos (by rfl)]
  have hc : ∀ j u, vs[j]? = some u → w.cell? (ad.add j) = some u := by
    rcases hr w hO with hr2 | ⟨b, o, he, hr2⟩
    · intro j u hj; rw [hr2] at hj; simp at hj
    · simp only [Option.some.injEq] at he; subst he; intro j u hj; rw [addr_add]; exact hr2 j u hj
  refine ⟨.agg vs.toArray, vs.zipIdx.map (fun p => (ad.add p.2, p.1)), .inl ⟨by simp [Region.wanted], fun w hw => ?_⟩, ?_, h w hO _ (ha.put hd _)⟩
  · have hcw : ∀ j u, vs[j]? = some u → w.cell? (ad.add j) = some u := by
      intro j u hj
      have := hw (ad.add j, u) (by rw [List.mem_map]; exact ⟨(u, j), by rw [List.mem_zipIdx_iff_getElem?]; exact hj, rfl⟩)
      exact this
    simp [execOp, ha.ev hx, Instr.loadAt, Instr.sureAddr, run_load_agg (P := P) (t := t) hl hcw]
  · intro p hp
    rw [List.mem_map] at hp
    obtain ⟨⟨u, j⟩, hq, rfl⟩ := hp
    exact hc j u (by simpa [List.mem_zipIdx_iff_getElem?] using hq)
theorem YieldsC.guard {op : Op} {g : Option (Nat × Bool)} {v : Value} {cs : List (Addr × Value)} {a : Act} (hw : Region.wanted ⟨some d, op, ty, pos, af, g⟩ (yielded l.toArray a.tmps) = true)
    (h : ∀ w, (∀ p ∈ cs, w.cell? p.1 = some p.2) → (execOp a.eval ⟨some d, op, ty, pos, af, g⟩).run P w = .ok (.value v) w) : YieldsC P l.toArray ⟨some d, op, ty, pos, af, g⟩ v cs a := .inl ⟨hw, h⟩
theorem sd_load_rd_g {t j t' : Nat} {gb : Bool} {x : Operand} {ad : Addr} {v : Value} [Cell P t] (hi : l[i]? = some ⟨some d, .load t x, ty, pos, af, some (j, gb)⟩) (hj : (l[j]?).bind (·.dst) = some t') (ht : look F t' = some (.bool gb)) (hx : ev F x = some (.pointer (some ad))) (hr : Rd W L (some ad) [v]) (hd : Nat.blt d n = true) (h : SG W n ((d, v) :: F) L (WD P l.toArray Q π)) :
    SG W n F L (WD P l.toArray Q (i :: π)) := by
  intro w hO a ha
  simp only [WD, List.getElem?_toArray, hi]
  rw [if_neg (by simp [kindOf]), if_pos (by rfl)]
  have hc : w.cell? ad = some v := by
    rcases hr w hO with hr2 | ⟨b, o, he, hr2⟩
    · simp at hr2
    · simp only [Option.some.injEq] at he; subst he
      have := hr2 0 v (by simp); simpa using this
  have hy : yielded l.toArray a.tmps j = some gb := by simp [yielded, hj, ha.get t' _ ht]
  refine ⟨v, [(ad, v)], .inl ⟨by simp [Region.wanted, hy], fun w hw => ?_⟩, by intro p hp; simp at hp; subst hp; exact hc, h w hO _ (ha.put hd v)⟩
  have := hw (ad, v) (by simp)
  simp [execOp, ha.ev hx, Instr.loadAt, Instr.sureAddr, run_load_cell this]
theorem str_yields [hb : BS P] {a0 : Option Addr} {len cap : Nat} {bs : List UInt8} (hl : bs.length = len) (cs : List (Addr × Value))
    (w : World) (hc : ∀ p ∈ cs, w.cell? p.1 = some p.2) (h0 : a0 = none → bs = []) (h1 : ∀ ad, a0 = some ad → ∀ j u, (bs.map fun b => Value.int .u8 (b.toNat : Int))[j]? = some u → (ad.add j, u) ∈ cs) :
    (convert 37 9 (.slice a0 len cap)).run P w = .ok (.string (strOf bs)) w := by
  rw [run_convert_bytes_string w _ _ _ _ len cap hb.h.1 hb.h.2.1 hb.h.2.2]
  cases a0 with
  | none =>
    have : bs = [] := h0 rfl
    subst this; simp [Conv.bytesToString]; rfl
  | some ad =>
    have hc : ∀ j u, (bs.map fun b => Value.int .u8 (b.toNat : Int))[j]? = some u → w.cell? (ad.add j) = some u := fun j u hj => hc (ad.add j, u) (h1 ad rfl j u hj)
    have hlc := run_loadCells_list (P := P) w ad _ hc
    simp only [List.length_map, hl] at hlc
    have hm : (bs.map fun b => Value.int .u8 (b.toNat : Int)) = (bs.map fun b => (b.toNat : Int)).map (Value.int .u8) := by simp
    rw [hm] at hlc
    rw [run_bytesToString w ad len cap (bs.map fun b => (b.toNat : Int)) hlc, foldl_push_bytes]
    simp only [List.map_map]
    have hid : (bs.map ((fun n : Int => UInt8.ofNat n.toNat) ∘ fun b => (b.toNat : Int))) = bs := by rw [List.map_congr_left (g := id)]; simp; intro b _; simp
    rw [hid]
    simp [strOf, ByteArray.empty, ByteArray.emptyWithCapacity]
    rfl
/-- Bytes to a string; 'g': whatever guard, as long as it is wanted. -/
theorem sd_str_w {g : Option (Nat × Bool)} {x : Operand} {a0 : Option Addr} {len cap : Nat} {bs : List UInt8} (hi : l[i]? = some ⟨some d, .convert 37 9 x, ty, pos, af, g⟩)
    (hw : ∀ a, Rep a n F → Region.wanted ⟨some d, .convert 37 9 x, ty, pos, af, g⟩ (yielded l.toArray a.tmps) = true)
    (hx : ev F x = some (.slice a0 len cap)) (hd : Nat.blt d n = true)
    (hl : bs.length = len) (hr : Rd W L a0 (bs.map fun b => .int .u8 (b.toNat : Int))) (h : SG W n ((d, .string (strOf bs)) :: F) L (WD P l.toArray Q π)) :
    SG W n F L (WD P l.toArray Q (i :: π)) := by
  intro w hO a ha
  simp only [WD, List.getElem?_toArray, hi]
  rw [if_neg (by simp [kindOf]), if_pos (by rfl)]
  rcases hr w hO with hb | ⟨b, o, hb, hc⟩
  · have hb' : bs = [] := by simpa using hb
    refine ⟨_, [], .inl ⟨hw a ha, fun w _ => ?_⟩, by simp, h w hO _ (ha.put hd _)⟩
    have := str_yields (P := P) (a0 := a0) (cap := cap) hl [] w (by simp) (fun _ => hb') (by rw [hb]; simp)
    simp [execOp, ha.ev hx, this]
  · refine ⟨_, (bs.map fun b => Value.int .u8 (b.toNat : Int)).zipIdx.map (fun p => ((⟨b, o, none⟩ : Addr).add p.2, p.1)), .inl ⟨hw a ha, fun w hcs => ?_⟩, ?_, h w hO _ (ha.put hd _)⟩
    · have := str_yields (P := P) (a0 := a0) (cap := cap) hl _ w hcs (by rw [hb]; simp) (by
        intro ad had j u hj
        rw [hb] at had; simp only [Option.some.injEq] at had; subst had
        rw [List.mem_map]; exact ⟨(u, j), by rw [List.mem_zipIdx_iff_getElem?]; exact hj, rfl⟩)
      simp [execOp, ha.ev hx, this]
    · intro p hp
      rw [List.mem_map] at hp
      obtain ⟨⟨u, j⟩, hq, rfl⟩ := hp
      rw [addr_add]
      exact hc j u (by simpa [List.mem_zipIdx_iff_getElem?] using hq)
theorem sd_str {x : Operand} {a0 : Option Addr} {len cap : Nat} {bs : List UInt8} (hi : l[i]? = some ⟨some d, .convert 37 9 x, ty, pos, af, none⟩) (hx : ev F x = some (.slice a0 len cap)) (hd : Nat.blt d n = true)
    (hl : bs.length = len) (hr : Rd W L a0 (bs.map fun b => .int .u8 (b.toNat : Int))) (h : SG W n ((d, .string (strOf bs)) :: F) L (WD P l.toArray Q π)) :
    SG W n F L (WD P l.toArray Q (i :: π)) := sd_str_w hi (fun a _ => by simp [Region.wanted]) hx hd hl hr h
theorem sd_str_g {x : Operand} {j t' : Nat} {gb : Bool} {a0 : Option Addr} {len cap : Nat} {bs : List UInt8} (hi : l[i]? = some ⟨some d, .convert 37 9 x, ty, pos, af, some (j, gb)⟩) (hj : (l[j]?).bind (·.dst) = some t') (ht : look F t' = some (.bool gb)) (hx : ev F x = some (.slice a0 len cap)) (hd : Nat.blt d n = true)
    (hl : bs.length = len) (hr : Rd W L a0 (bs.map fun b => .int .u8 (b.toNat : Int))) (h : SG W n ((d, .string (strOf bs)) :: F) L (WD P l.toArray Q π)) :
    SG W n F L (WD P l.toArray Q (i :: π)) := sd_str_w hi (fun a ha => by
      have hy : yielded l.toArray a.tmps j = some gb := by simp [yielded, hj, ha.get t' _ ht]
      simp [Region.wanted, hy]) hx hd hl hr h
theorem sd_eff {o : Oper} (hi : l[i]? = some o) (hk : Nat.ble 2 (kindOf o.op) = true) (h : SG W n F L (W1 P l.toArray (calmQ Q) o (WD P l.toArray Q π))) : SG W n F L (WD P l.toArray Q (i :: π)) := by
  intro w hO a ha
  simp only [WD, List.getElem?_toArray, hi]
  have hk' : 2 ≤ kindOf o.op := by simpa [Nat.ble_eq] using hk
  rw [if_neg (by omega), if_neg (by omega)]
  exact h w hO a ha
end
end Go.Proofs.Ytclehoaeppbmpaa
