/- One lemma for each kind of operation, over the symbolic state. Facts on types come in by classes. -/
import Derived.Test.YtclehoaeppbmpaaST
namespace Go.Proofs.Ytclehoaeppbmpaa
set_option linter.unusedVariables false
set_option linter.unusedSimpArgs false
set_option linter.unusedSectionVars false
set_option linter.unnecessarySimpa false
open Go

/- facts on types and functions, met by instance search on the numbers -/
def aggD : TypeDesc → Bool
  | .struct _ => true
  | .array _ _ => true
  | _ => false
class Cell (P : Program) (t : TypeId) : Prop where
  h : ∃ d, P.underlying t = some d ∧ aggD d = false
  s : ∃ i, P.info? t = some i ∧ i.size = 1
class Agg (P : Program) (t : TypeId) (sz : outParam Nat) : Prop where
  h : ∃ d, P.underlying t = some d ∧ aggD d = true
  s : ∃ i, P.info? t = some i ∧ i.size = sz
class Zero (P : Program) (t : TypeId) (z : outParam Value) (sz by_ : outParam Nat) : Prop where
  h : ∃ i, P.info? t = some i ∧ i.zero = some z ∧ i.size = sz ∧ i.bytes = by_ ∧ z.cells.size = sz
class FieldOff (P : Program) (s : TypeId) (f : Nat) (off : outParam Nat) : Prop where
  h : ∃ fs fd i, P.underlying s = some (.struct fs) ∧ fs[f]? = some fd ∧ fd.offset = off ∧ P.info? fd.type = some i ∧ i.size ≠ 0
class FieldCell (P : Program) (s : TypeId) (f : Nat) (off : outParam Nat) : Prop where
  h : ∃ fs fd d, P.underlying s = some (.struct fs) ∧ fs[f]? = some fd ∧ fd.offset = off ∧ P.underlying fd.type = some d ∧ aggD d = false
class FieldAgg (P : Program) (s : TypeId) (f : Nat) (off sz : outParam Nat) : Prop where
  h : ∃ fs fd d i, P.underlying s = some (.struct fs) ∧ fs[f]? = some fd ∧ fd.offset = off ∧ P.underlying fd.type = some d ∧ aggD d = true ∧ P.info? fd.type = some i ∧ i.size = sz
class SliceT (P : Program) (t : TypeId) (e : outParam TypeId) (sz : outParam Nat) : Prop where
  h : ∃ i, P.underlying t = some (.slice e) ∧ P.info? e = some i ∧ i.size = sz
class ArrayT (P : Program) (t : TypeId) (len : outParam Nat) (e : outParam TypeId) (sz : outParam Nat) : Prop where
  h : ∃ i, P.underlying t = some (.array len e) ∧ P.info? e = some i ∧ i.size = sz
class IsT (P : Program) (t : TypeId) (d : outParam TypeDesc) : Prop where
  h : P.underlying t = some d
def W1 (P : Program) (ops : Array Oper) (Q : Exit → Act → World → Prop) (o : Oper) (K : Act → World → Prop) (a : Act) (w : World) : Prop :=
  if Region.wanted o (yielded ops a.tmps) then o.wp P a w K Q else K (a.put o.dst undef) w
class IsFn (P : Program) (f : FuncId) : Prop where
  h : ∃ fn, P.funcs[f]? = some fn ∧ (fn.name == "runtime.NumGoroutine") = false ∧ fn.body.isNone = false

section
variable {P : Program} {W : World} {n : Nat} {F : Fr} {L : List HP} {ops : Array Oper} {Q : Exit → Act → World → Prop} {rest : List Oper} {K : Act → World → Prop}
variable {d : Nat} {ty : TypeId} {pos : String} {af : Array Edge}

theorem sg_wo {o : Oper} (h : SG W n F L (W1 P ops Q o (WO P ops Q rest))) : SG W n F L (WO P ops Q (o :: rest)) := by
  intro w hO a ha
  have h1 := h w hO a ha
  simp only [WO, wpList, W1] at h1 ⊢
  split
  · rename_i hw; rw [if_pos hw] at h1; exact .inl h1
  · rename_i hw; rw [if_neg hw] at h1; exact h1
theorem sg_value {X : Type} {op : Op} (val : X → Value) (L' : X → List HP) (φ : X → Prop) (hd : Nat.blt d n = true)
    (H : ∀ w, Own W w L → ∀ a, Rep a n F → ∃ x w', (execOp a.eval ⟨some d, op, ty, pos, af, none⟩).run P w = .ok (.value (val x)) w' ∧ φ x ∧ Own W w' (L' x))
    (h : ∀ x, φ x → SG W n ((d, val x) :: F) (L' x) K) : SG W n F L (W1 P ops Q ⟨some d, op, ty, pos, af, none⟩ K) := by
  intro w hO a ha
  obtain ⟨x, w', hr, hx, hO'⟩ := H w hO a ha
  simp only [W1]
  rw [if_pos (by simp [Region.wanted])]
  simp only [Oper.wp, hr, Oper.upon_value]
  exact h x hx w' hO' _ (ha.put hd _)
theorem sg_pure {op : Op} (v : Value) (hd : Nat.blt d n = true)
    (H : ∀ w, Own W w L → ∀ a, Rep a n F → (execOp a.eval ⟨some d, op, ty, pos, af, none⟩).run P w = .ok (.value v) w)
    (h : SG W n ((d, v) :: F) L K) : SG W n F L (W1 P ops Q ⟨some d, op, ty, pos, af, none⟩ K) :=
  sg_value (X := Unit) (fun _ => v) (fun _ => L) (fun _ => True) hd (fun w hO a ha => ⟨(), w, H w hO a ha, trivial, hO⟩) (fun _ _ => h)
theorem sg_unit {op : Op} (L' : List HP)
    (H : ∀ w, Own W w L → ∀ a, Rep a n F → ∃ w', (execOp a.eval ⟨none, op, ty, pos, af, none⟩).run P w = .ok .skip w' ∧ Own W w' L')
    (h : SG W n F L' K) : SG W n F L (W1 P ops Q ⟨none, op, ty, pos, af, none⟩ K) := by
  intro w hO a ha
  obtain ⟨w', hr, hO'⟩ := H w hO a ha
  simp only [W1]
  rw [if_pos (by simp [Region.wanted])]
  simp only [Oper.wp, hr, Oper.upon_skip]
  exact h w' hO' _ ha
/-- What an operation yields in whatever world, and does nothing else. -/
def PS (P : Program) (n : Nat) (F : Fr) (op : Op) (ty : TypeId) (v : Value) : Prop :=
  ∀ a, Rep a n F → ∀ w dst pos af g, (execOp a.eval ⟨dst, op, ty, pos, af, g⟩).run P w = .ok (.value v) w
theorem sg_ps {op : Op} {v : Value} (hp : PS P n F op ty v) (hd : Nat.blt d n = true) (h : SG W n ((d, v) :: F) L K) : SG W n F L (W1 P ops Q ⟨some d, op, ty, pos, af, none⟩ K) :=
  sg_pure v hd (fun w _ a ha => hp a ha w _ _ _ _) h

/- guards -/
theorem sg_guard_yes {dst : Option Nat} {op : Op} {j : Nat} {b : Bool} {t : Nat} (hj : (ops[j]?).bind (·.dst) = some t) (ht : look F t = some (.bool b))
    (h : SG W n F L (W1 P ops Q ⟨dst, op, ty, pos, af, none⟩ K)) : SG W n F L (W1 P ops Q ⟨dst, op, ty, pos, af, some (j, b)⟩ K) := by
  intro w hO a ha
  have h1 := h w hO a ha
  simp only [W1] at h1 ⊢
  have hy : yielded ops a.tmps j = some b := by simp [yielded, hj, ha.get t _ ht]
  have hw : Region.wanted ⟨dst, op, ty, pos, af, some (j, b)⟩ (yielded ops a.tmps) = true := by simp [Region.wanted, hy]
  rw [if_pos hw]
  rw [if_pos (by simp [Region.wanted])] at h1
  exact h1
theorem sg_guard_no {op : Op} {j : Nat} {b : Bool} {t : Nat} (hd : Nat.blt d n = true) (hj : (ops[j]?).bind (·.dst) = some t) (ht : look F t = some (.bool (!b)))
    (h : SG W n ((d, undef) :: F) L K) : SG W n F L (W1 P ops Q ⟨some d, op, ty, pos, af, some (j, b)⟩ K) := by
  intro w hO a ha
  simp only [W1]
  have hy : yielded ops a.tmps j = some (!b) := by simp [yielded, hj, ha.get t _ ht]
  have hw : Region.wanted ⟨some d, op, ty, pos, af, some (j, b)⟩ (yielded ops a.tmps) = false := by cases b <;> simp [Region.wanted, hy]
  rw [if_neg (by simp [hw])]
  exact h w hO _ (ha.put hd _)
theorem sg_guard_nf {op : Op} {j : Nat} {t : Nat} (hd : Nat.blt d n = true) (hj : (ops[j]?).bind (·.dst) = some t) (ht : look F t = some (.bool false))
    (h : SG W n ((d, undef) :: F) L K) : SG W n F L (W1 P ops Q ⟨some d, op, ty, pos, af, some (j, true)⟩ K) := sg_guard_no hd hj ht h
theorem sg_guard_nt {op : Op} {j : Nat} {t : Nat} (hd : Nat.blt d n = true) (hj : (ops[j]?).bind (·.dst) = some t) (ht : look F t = some (.bool true))
    (h : SG W n ((d, undef) :: F) L K) : SG W n F L (W1 P ops Q ⟨some d, op, ty, pos, af, some (j, false)⟩ K) := sg_guard_no hd hj ht h
theorem sg_guard_nu {op : Op} {j : Nat} {b : Bool} {t : Nat} (hd : Nat.blt d n = true) (hj : (ops[j]?).bind (·.dst) = some t) (ht : look F t = some undef)
    (h : SG W n ((d, undef) :: F) L K) : SG W n F L (W1 P ops Q ⟨some d, op, ty, pos, af, some (j, b)⟩ K) := by
  intro w hO a ha
  simp only [W1]
  have hy : yielded ops a.tmps j = none := by simp [yielded, hj, ha.get t _ ht, undef]
  have hw : Region.wanted ⟨some d, op, ty, pos, af, some (j, b)⟩ (yielded ops a.tmps) = false := by cases b <;> simp [Region.wanted, hy]
  rw [if_neg (by simp [hw])]
  exact h w hO _ (ha.put hd _)
/-- The guard's Bool is not known: both ways, the Bool written out in each. -/
theorem sg_know {G : Act → World → Prop} {c : Bool} (t : Nat) (ht : look F t = some (.bool c)) (h1 : c = true → SG W n ((t, .bool true) :: F) L G) (h2 : c = false → SG W n ((t, .bool false) :: F) L G) : SG W n F L G := by
  have key : ∀ {c'}, look F t = some (.bool c') → SubF ((t, .bool c') :: F) F := fun h => .cons h .rfl'
  cases c with
  | true => exact sg_frame (key ht) (h1 rfl)
  | false => exact sg_frame (key ht) (h2 rfl)
theorem sg_guard_dec {dst : Option Nat} {op : Op} {j : Nat} {b : Bool} {p : Prop} [Decidable p] {t : Nat} (hj : (ops[j]?).bind (·.dst) = some t) (ht : look F t = some (.bool (decide p)))
    (h1 : p → SG W n ((t, .bool true) :: F) L (W1 P ops Q ⟨dst, op, ty, pos, af, some (j, b)⟩ K))
    (h2 : ¬ p → SG W n ((t, .bool false) :: F) L (W1 P ops Q ⟨dst, op, ty, pos, af, some (j, b)⟩ K)) :
    SG W n F L (W1 P ops Q ⟨dst, op, ty, pos, af, some (j, b)⟩ K) := sg_know t ht (fun h => h1 (of_decide_eq_true h)) (fun h => h2 (of_decide_eq_false h))
theorem sg_guard_ndec {dst : Option Nat} {op : Op} {j : Nat} {b : Bool} {p : Prop} [Decidable p] {t : Nat} (hj : (ops[j]?).bind (·.dst) = some t) (ht : look F t = some (.bool (!decide p)))
    (h1 : ¬ p → SG W n ((t, .bool true) :: F) L (W1 P ops Q ⟨dst, op, ty, pos, af, some (j, b)⟩ K))
    (h2 : p → SG W n ((t, .bool false) :: F) L (W1 P ops Q ⟨dst, op, ty, pos, af, some (j, b)⟩ K)) :
    SG W n F L (W1 P ops Q ⟨dst, op, ty, pos, af, some (j, b)⟩ K) := sg_know t ht (fun h => h1 (by simpa using h)) (fun h => h2 (by simpa using h))

/- operations without memory -/
theorem ps_move {x : Operand} {v : Value} (hx : ev F x = some v)  :
    PS P n F (.move x) ty (v) :=
  fun a ha w dst pos af g => by simp only [execOp, ha.ev hx]; rfl
theorem ps_assign {x : Operand} {v : Value} (hx : ev F x = some v)  :
    PS P n F (.assign x) ty (v) :=
  fun a ha w dst pos af g => by simp only [execOp, ha.ev hx]; rfl
theorem ps_pick_t {c x y : Operand} {v : Value} (hc : ev F c = some (.bool true)) (hx : ev F x = some v)  :
    PS P n F (.pick c x y) ty (v) :=
  fun a ha w dst pos af g => by simp [execOp, ha.ev hx, ha.ev hc, asBool]
theorem ps_pick_f {c x y : Operand} {v : Value} (hc : ev F c = some (.bool false)) (hx : ev F y = some v)  :
    PS P n F (.pick c x y) ty (v) :=
  fun a ha w dst pos af g => by simp [execOp, ha.ev hx, ha.ev hc, asBool]
theorem ps_nilCheck {x : Operand} {ad : Addr} (hx : ev F x = some (.pointer (some ad)))  :
    PS P n F (.nilCheck x) ty (.pointer (some ad)) :=
  fun a ha w dst pos af g => by simp [execOp, ha.ev hx]
theorem ps_nilCheck_fn {x : Operand} {f : FuncId} {cs ds : Array Value} (hx : ev F x = some (.func (.func f) cs ds))  :
    PS P n F (.nilCheck x) ty (.func (.func f) cs ds) :=
  fun a ha w dst pos af g => by simp [execOp, ha.ev hx]
theorem addr_add (b o k : Nat) : (⟨b, o, none⟩ : Addr).add k = ⟨b, o + k, none⟩ := by unfold Addr.add; split <;> simp_all
theorem ps_fieldAddr {x : Operand} {s f b o off : Nat} [hf : FieldOff P s f off] (hx : ev F x = some (.pointer (some ⟨b, o, none⟩)))  :
    PS P n F (.fieldAddr s x f) ty (.pointer (some ⟨b, o + off, none⟩)) := by
  obtain ⟨fs, fd, i, h1, h2, h3, h4, h5⟩ := hf.h
  intro a ha w dst pos af g
  have hfs : f < fs.size := (Array.getElem?_eq_some_iff.1 h2).1
  have he : fs[f] = fd := (Array.getElem?_eq_some_iff.1 h2).2
  simp [execOp, ha.ev hx, Instr.fieldAt, run_underlying h1, Instr.sureAddr, fieldPlace, sizeOf, typeInfo, h4, h5, h3, addr_add, hfs, he]
theorem ps_indexAddr {x ix : Operand} {t e sz b o len cap j : Nat} {k : IntKind} {i : Int} [hs : SliceT P t e sz] (hx : ev F x = some (.slice (some ⟨b, o, none⟩) len cap)) (hi : ev F ix = some (.int k i))
     (hj : i = (j : Int)) (hlt : j < len) :
    PS P n F (.indexAddr t x ix) ty (.pointer (some ⟨b, o + j * sz, none⟩)) := by
  subst hj
  obtain ⟨i0, h1, h2, h3⟩ := hs.h
  intro a ha w dst pos af g
  simp [execOp, ha.ev hx, ha.ev hi, Instr.indexAt, asIntOf, run_underlying h1, sizeOf, typeInfo, h2, h3, addr_add, hlt]
theorem ps_indexAddr1 {x ix : Operand} {t e b o len cap j : Nat} {k : IntKind} {i : Int} [hs : SliceT P t e 1] (hx : ev F x = some (.slice (some ⟨b, o, none⟩) len cap)) (hi : ev F ix = some (.int k i))
    (hj : i = (j : Int)) (hlt : j < len) : PS P n F (.indexAddr t x ix) ty (.pointer (some ⟨b, o + j, none⟩)) := by
  have := ps_indexAddr (P := P) (n := n) (t := t) (ty := ty) hx hi hj hlt
  rwa [Nat.mul_one] at this
theorem ps_indexAddr_arr {x ix : Operand} {t e sz b o len j : Nat} {k : IntKind} {i : Int} [hs : ArrayT P t len e sz] (hx : ev F x = some (.pointer (some ⟨b, o, none⟩))) (hi : ev F ix = some (.int k i))
     (hj : i = (j : Int)) (hlt : j < len) :
    PS P n F (.indexAddr t x ix) ty (.pointer (some ⟨b, o + j * sz, none⟩)) := by
  subst hj
  obtain ⟨i0, h1, h2, h3⟩ := hs.h
  intro a ha w dst pos af g
  simp [execOp, ha.ev hx, ha.ev hi, Instr.indexAt, Instr.sureAddr, asIntOf, run_underlying h1, sizeOf, typeInfo, h2, h3, addr_add, hlt]
theorem ps_index_str {x ix : Operand} {t j : Nat} {k : IntKind} {i : Int} {s : ByteArray} [hs : IsT P t .string] (hx : ev F x = some (.string s)) (hi : ev F ix = some (.int k i))
     (hj : i = (j : Int)) (hlt : j < s.size) :
    PS P n F (.index t x ix) ty (.int .u8 (s[j].toNat : Int)) := by
  subst hj
  intro a ha w dst pos af g
  simp [execOp, ha.ev hx, ha.ev hi, Instr.index, asIntOf, run_underlying hs.h, hlt]
theorem ps_extract {x : Operand} {vs : List Value} {i : Nat} {v : Value} (hx : ev F x = some (.tuple vs.toArray)) (hi : vs[i]? = some v)  :
    PS P n F (.extract x i) ty (v) := by
  intro a ha w dst pos af g
  have hlt : i < vs.length := (List.getElem?_eq_some_iff.1 hi).1
  have he : vs[i] = v := (List.getElem?_eq_some_iff.1 hi).2
  simp [execOp, ha.ev hx, Instr.extract, hlt, he]
theorem ps_field {x : Operand} {t f off : Nat} {cs : List Value} {v : Value} [hf : FieldCell P t f off] (hx : ev F x = some (.agg cs.toArray)) (hv : cs[off]? = some v)  :
    PS P n F (.field t x f) ty (v) := by
  obtain ⟨fs, fd, dd, h1, h2, h3, h4, h5⟩ := hf.h
  intro a ha w dst pos af g
  have hfs : f < fs.size := (Array.getElem?_eq_some_iff.1 h2).1
  have he : fs[f] = fd := (Array.getElem?_eq_some_iff.1 h2).2
  have hlt : off < cs.length := (List.getElem?_eq_some_iff.1 hv).1
  have hev : cs[off] = v := (List.getElem?_eq_some_iff.1 hv).2
  have hagg : (isAgg fd.type).run P w = .ok false w := by
    unfold isAgg; rw [Sem.run_bind, run_underlying h4 w]; cases dd <;> simp_all [aggD]
  simp [execOp, ha.ev hx, Instr.field, run_underlying h1, asAgg, hfs, he, part, hagg, h3, hlt, hev]

/- arithmetic -/
class BinR (P : Program) (op : BinOp) (t : TypeId) (x y : Value) (r : outParam Value) : Prop where
  run : ∀ w (ox oy : Operand), (do eqGuard op t ox oy x y; binOp op t x y : Sem Value).run P w = .ok r w
instance instAdd (k : IntKind) (t : TypeId) (a b : Int) : BinR P .add t (.int k a) (.int k b) (.int k (k.wrap (a + b))) := ⟨fun w _ _ => by simp [eqGuard, binOp, Op.intArith]⟩
instance instSub (k : IntKind) (t : TypeId) (a b : Int) : BinR P .sub t (.int k a) (.int k b) (.int k (k.wrap (a - b))) := ⟨fun w _ _ => by simp [eqGuard, binOp, Op.intArith]⟩
instance instMul (k : IntKind) (t : TypeId) (a b : Int) : BinR P .mul t (.int k a) (.int k b) (.int k (k.wrap (a * b))) := ⟨fun w _ _ => by simp [eqGuard, binOp, Op.intArith]⟩
instance (k : IntKind) (t : TypeId) (a b : Int) : BinR P .lss t (.int k a) (.int k b) (.bool (decide (a < b))) := ⟨fun w _ _ => by simp [eqGuard, binOp, Op.intCmp]⟩
instance (k : IntKind) (t : TypeId) (a b : Int) : BinR P .leq t (.int k a) (.int k b) (.bool (decide (a ≤ b))) := ⟨fun w _ _ => by simp [eqGuard, binOp, Op.intCmp]⟩
instance (k : IntKind) (t : TypeId) (a b : Int) : BinR P .gtr t (.int k a) (.int k b) (.bool (decide (a > b))) := ⟨fun w _ _ => by simp [eqGuard, binOp, Op.intCmp]⟩
instance (k : IntKind) (t : TypeId) (a b : Int) : BinR P .geq t (.int k a) (.int k b) (.bool (decide (a ≥ b))) := ⟨fun w _ _ => by simp [eqGuard, binOp, Op.intCmp]⟩
instance (k : IntKind) (t : TypeId) (a b : Int) : BinR P .eql t (.int k a) (.int k b) (.bool (decide (a = b))) := ⟨fun w _ _ => by simp [eqGuard, binOp, Op.intCmp]; rfl⟩
instance (k : IntKind) (t : TypeId) (a b : Int) : BinR P .neq t (.int k a) (.int k b) (.bool (!decide (a = b))) := ⟨fun w _ _ => by simp [eqGuard, binOp, Op.intCmp]; rfl⟩
instance (k : IntKind) (t : TypeId) (a b : Int) : BinR P .and t (.int k a) (.int k b) (.int k (k.wrap (BitVec.ofInt k.bits a &&& BitVec.ofInt k.bits b).toNat)) := ⟨fun w _ _ => by simp [eqGuard, binOp, Op.intBits]⟩
instance (k : IntKind) (t : TypeId) (a b : Int) : BinR P .or t (.int k a) (.int k b) (.int k (k.wrap (BitVec.ofInt k.bits a ||| BitVec.ofInt k.bits b).toNat)) := ⟨fun w _ _ => by simp [eqGuard, binOp, Op.intBits]⟩
instance (k : IntKind) (t : TypeId) (a b : Int) : BinR P .xor t (.int k a) (.int k b) (.int k (k.wrap (BitVec.ofInt k.bits a ^^^ BitVec.ofInt k.bits b).toNat)) := ⟨fun w _ _ => by simp [eqGuard, binOp, Op.intBits]⟩
instance (t : TypeId) (a b : ByteArray) : BinR P .eql t (.string a) (.string b) (.bool (decide (a.toList = b.toList))) := ⟨fun w _ _ => by simp [eqGuard, binOp, Op.stringOp]; rw [Bool.eq_iff_iff]; simp⟩
instance (t : TypeId) (a b : ByteArray) : BinR P .neq t (.string a) (.string b) (.bool (!decide (a.toList = b.toList))) := ⟨fun w _ _ => by simp [eqGuard, binOp, Op.stringOp]; rw [Bool.eq_iff_iff]; simp⟩
instance (t : TypeId) (a b : ByteArray) : BinR P .lss t (.string a) (.string b) (.bool (Op.bytesLess a.toList b.toList)) := ⟨fun w _ _ => by simp [eqGuard, binOp, Op.stringOp]⟩
instance (t : TypeId) (a b : ByteArray) : BinR P .geq t (.string a) (.string b) (.bool (!Op.bytesLess a.toList b.toList)) := ⟨fun w _ _ => by simp [eqGuard, binOp, Op.stringOp]⟩
instance (t : TypeId) (a b : Bool) [h : IsT P t .bool] : BinR P .eql t (.bool a) (.bool b) (.bool (a == b)) := ⟨fun w _ _ => by
  have hu := run_underlying h.h
  simp [eqGuard, binOp, Op.equal, Op.maxDepth]; rw [Op.equalIn]; simp [hu]⟩
instance (t : TypeId) (a b : Bool) [h : IsT P t .bool] : BinR P .neq t (.bool a) (.bool b) (.bool (!(a == b))) := ⟨fun w _ _ => by
  have hu := run_underlying h.h
  simp [eqGuard, binOp, Op.equal, Op.maxDepth]; rw [Op.equalIn]; simp [hu]⟩
instance (t e : TypeId) (a : Addr) [h : IsT P t (.pointer e)] : BinR P .eql t (.pointer (some a)) (.pointer none) (.bool false) := ⟨fun w _ _ => by
  have hu := run_underlying h.h
  simp [eqGuard, binOp, Op.equal, Op.maxDepth]; rw [Op.equalIn]; simp [hu]⟩
instance (t e : TypeId) (a : Addr) [h : IsT P t (.pointer e)] : BinR P .neq t (.pointer (some a)) (.pointer none) (.bool true) := ⟨fun w _ _ => by
  have hu := run_underlying h.h
  simp [eqGuard, binOp, Op.equal, Op.maxDepth]; rw [Op.equalIn]; simp [hu]⟩
instance (t e : TypeId) [h : IsT P t (.pointer e)] : BinR P .eql t (.pointer none) (.pointer none) (.bool true) := ⟨fun w _ _ => by
  have hu := run_underlying h.h
  simp [eqGuard, binOp, Op.equal, Op.maxDepth]; rw [Op.equalIn]; simp [hu]⟩
instance (t e : TypeId) [h : IsT P t (.pointer e)] : BinR P .neq t (.pointer none) (.pointer none) (.bool false) := ⟨fun w _ _ => by
  have hu := run_underlying h.h
  simp [eqGuard, binOp, Op.equal, Op.maxDepth]; rw [Op.equalIn]; simp [hu]⟩

theorem ps_bin {op : BinOp} {t yt : TypeId} {x y : Operand} {vx vy r : Value} (hx : ev F x = some vx) (hy : ev F y = some vy) (hr : BinR P op t vx vy r)  :
    PS P n F (.binOp op t x y yt) ty (r) := by
  intro a ha w dst pos af g
  have := hr.run w x y
  simp only [execOp, ha.ev hx, ha.ev hy, Sem.run_bind, this, Result.andThen_ok, Sem.run_pure]
theorem ps_add64 {t yt : TypeId} {x y : Operand} {i j : Int} (hx : ev F x = some (.int .i64 i)) (hy : ev F y = some (.int .i64 j))
    (hr : -9223372036854775808 ≤ i + j ∧ i + j ≤ 9223372036854775807) : PS P n F (.binOp .add t x y yt) ty (.int .i64 (i + j)) := by
  have := ps_bin (P := P) (n := n) (ty := ty) (t := t) (yt := yt) hx hy (instAdd .i64 t i j)
  rwa [IntWalk.i64_in _ hr] at this
theorem ps_sub64 {t yt : TypeId} {x y : Operand} {i j : Int} (hx : ev F x = some (.int .i64 i)) (hy : ev F y = some (.int .i64 j))
    (hr : -9223372036854775808 ≤ i - j ∧ i - j ≤ 9223372036854775807) : PS P n F (.binOp .sub t x y yt) ty (.int .i64 (i - j)) := by
  have := ps_bin (P := P) (n := n) (ty := ty) (t := t) (yt := yt) hx hy (instSub .i64 t i j)
  rwa [IntWalk.i64_in _ hr] at this
theorem ps_mul64 {t yt : TypeId} {x y : Operand} {i j : Int} (hx : ev F x = some (.int .i64 i)) (hy : ev F y = some (.int .i64 j))
    (hr : -9223372036854775808 ≤ i * j ∧ i * j ≤ 9223372036854775807) : PS P n F (.binOp .mul t x y yt) ty (.int .i64 (i * j)) := by
  have := ps_bin (P := P) (n := n) (ty := ty) (t := t) (yt := yt) hx hy (instMul .i64 t i j)
  rwa [IntWalk.i64_in _ hr] at this
theorem ps_rem {t yt : TypeId} {x y : Operand} {k : IntKind} {i j : Int} (hx : ev F x = some (.int k i)) (hy : ev F y = some (.int k j)) (hr : j ≠ 0) : PS P n F (.binOp .rem t x y yt) ty (.int k (i.tmod j)) := by
  intro a ha w dst pos af g
  simp [execOp, ha.ev hx, ha.ev hy, eqGuard, binOp, Op.intDiv, hr]
theorem ps_quo64 {t yt : TypeId} {x y : Operand} {i j : Int} (hx : ev F x = some (.int .i64 i)) (hy : ev F y = some (.int .i64 j)) (hr : 0 < j) (hi : 0 ≤ i ∧ i ≤ 9223372036854775807) : PS P n F (.binOp .quo t x y yt) ty (.int .i64 (i / j)) := by
  intro a ha w dst pos af g
  have h0 : j ≠ 0 := by omega
  have := IntWalk.i64_quo i j ⟨hi.1, hi.2, by omega⟩
  simp [execOp, ha.ev hx, ha.ev hy, eqGuard, binOp, Op.intDiv, h0, this]
theorem ps_not {t : TypeId} {x : Operand} {b : Bool} (hx : ev F x = some (.bool b))  :
    PS P n F (.unOp .not t x) ty (.bool (!b)) :=
  fun a ha w dst pos af g => by simp [execOp, ha.ev hx, Op.unary]
theorem ps_conv {s t : TypeId} {x : Operand} {k k' : IntKind} {i : Int} [hs : IsT P s (.int k')] [ht : IsT P t (.int k)] (hx : ev F x = some (.int k' i))  :
    PS P n F (.convert s t x) ty (.int k (k.wrap i)) := by
  have h1 := run_underlying hs.h
  have h2 := run_underlying ht.h
  exact fun a ha w dst pos af g => by simp [execOp, ha.ev hx, convert, h1, h2, Conv.intToInt]
end
end Go.Proofs.Ytclehoaeppbmpaa
