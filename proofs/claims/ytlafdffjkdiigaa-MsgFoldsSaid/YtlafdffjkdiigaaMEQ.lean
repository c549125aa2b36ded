/- Package msg: are two entries the same? -/
import Derived.Test.YtlafdffjkdiigaaMG
import Derived.DeepKeys
namespace Go.Proofs.Ytlafdffjkdiigaa
set_option linter.unusedVariables false
set_option linter.unusedSimpArgs false
set_option linter.unusedSectionVars false
set_option linter.unnecessarySimpa false
open Go Go.Proofs
set_option maxRecDepth 20000
set_option maxHeartbeats 4000000
variable {W : World} {n : Nat} {F : Fr} {L : List HP} {G : Act → World → Prop}
theorem EN.ext' {a b : EN} : a = b ↔ (a.key = b.key ∧ a.has = b.has ∧ a.val = b.val ∧ a.txn = b.txn ∧ a.new = b.new ∧ a.nval = b.nval) := by
  cases a; cases b; simp
instance : DecidableEq EN := fun a b => decidable_of_iff _ EN.ext'.symm
/-- Sizes as the memory has them. -/
structure EN.ok (e : EN) : Prop where
  k : e.key.length ≤ 140737488355328
  v : e.val.length ≤ 140737488355328
  nv : e.nval.length ≤ 140737488355328
  t : 0 ≤ e.txn ∧ e.txn ≤ 18446744073709551615
def EN.lits (e : EN) : List Lit := [.string e.key, .bool e.has, .string e.val, .int .u64 e.txn, .bool e.new, .string e.nval]
theorem wf_u64' {a : Int} (h : 0 ≤ a ∧ a ≤ 18446744073709551615) : (Lit.int .u64 a).wf = true := by
  have h1 : IntKind.min .u64 = 0 := by decide
  have h2 : IntKind.max .u64 = 18446744073709551615 := by decide
  simp [Lit.wf, h1, h2, h.1, h.2]
theorem entry_under : ∃ fs : Array Field, Try.prog.underlying 26 = some (.struct fs) ∧ (fs.toList.map fun f => (f.type, f.offset)) = [(9, 0), (4, 1), (9, 2), (22, 3), (4, 4), (9, 5)] ∧ fs.all (·.name != "_") = true := ⟨_, Try.underlying26, by kernel_rfl, by kernel_rfl⟩
theorem cells_entry : Try.prog.cellsOf 26 = 6 := by kernel_rfl
theorem cells_string : Try.prog.cellsOf 9 = 1 := by kernel_rfl
theorem cells_bool : Try.prog.cellsOf 4 = 1 := by kernel_rfl
theorem cells_uint64 : Try.prog.cellsOf 22 = 1 := by kernel_rfl
theorem lits_str (d : Nat) (s : List UInt8) (h : s.length ≤ 140737488355328) : Try.prog.keyLits (d + 1) 9 [str s] = some [.string s] := by
  unfold Program.keyLits
  rw [Try.underlying9]
  have : (strOf s).size ≤ maxLen := by rw [strOf_size]; simp only [maxLen]; omega
  show (if (strOf s).size ≤ maxLen then some [Lit.string (strOf s).data.toList] else none) = _
  rw [if_pos this]; rfl
theorem lits_bool (d : Nat) (b : Bool) : Try.prog.keyLits (d + 1) 4 [.bool b] = some [.bool b] := by
  unfold Program.keyLits
  rw [Try.underlying4]
theorem lits_u64 (d : Nat) (a : Int) (h : 0 ≤ a ∧ a ≤ 18446744073709551615) : Try.prog.keyLits (d + 1) 22 [u64 a] = some [.int .u64 a] := by
  unfold Program.keyLits
  rw [Try.underlying22]
  simp [wf_u64' h]
theorem lits_entry (e : EN) (h : e.ok) : Try.prog.keyLits 2 26 e.cells = some e.lits := by
  obtain ⟨fs, h1, h2, h3⟩ := entry_under
  unfold Program.keyLits
  rw [h1]
  have hm : fs.toList.mapM (fun f => Try.prog.keyLits 1 f.type ((e.cells.drop f.offset).take (Try.prog.cellsOf f.type))) = (fs.toList.map fun f => (f.type, f.offset)).mapM (fun p => Try.prog.keyLits 1 p.1 ((e.cells.drop p.2).take (Try.prog.cellsOf p.1))) := by
    rw [List.mapM_map]; rfl
  simp only [hm, h2]
  rw [if_pos ⟨by rw [cells_entry]; rfl, h3⟩]
  have s0 := lits_str 0 e.key h.k
  have s1 := lits_bool 0 e.has
  have s2 := lits_str 0 e.val h.v
  have s3 := lits_u64 0 e.txn h.t
  have s4 := lits_bool 0 e.new
  have s5 := lits_str 0 e.nval h.nv
  simp only [Nat.zero_add] at s0 s1 s2 s3 s4 s5
  simp [EN.cells, cells_string, cells_bool, cells_uint64, s0, s1, s2, s3, s4, s5, EN.lits]
theorem lits_inj (a b : EN) : a.lits = b.lits ↔ a = b := by
  rw [EN.ext']; simp [EN.lits]
theorem run_eqE (e e' : EN) (h : e.ok) (h' : e'.ok) (w : World) : (Op.equal 26 e.v e'.v).run Try.prog w = .ok (decide (e = e')) w := by
  have hk : Try.prog.keyTypeAt 2 26 = true := by kernel_rfl
  obtain ⟨d, hd⟩ : ∃ d, Op.maxDepth = d + 2 := ⟨Op.maxDepth - 2, by decide⟩
  have f1 : ∀ x : EN, x.v.formed Try.prog 26 = true := by
    intro x
    obtain ⟨fs, h1, _⟩ := entry_under
    simp [Value.formed, h1, cells_entry, EN.cells]
  obtain ⟨r, hr, hi⟩ := run_equalIn_deep d 2 26 hk w 2 2 e.v e'.v e.lits e'.lits (f1 e) (f1 e') (lits_entry e h) (lits_entry e' h')
  have hr2 : r = decide (e = e') := by
    rw [Bool.eq_iff_iff, hi, lits_inj]; simp
  unfold Op.equal
  rw [hd, hr, hr2]
theorem ps_eqE {x y : Operand} {yt ty : TypeId} {e e' : EN} (h : e.ok) (h' : e'.ok) (hx : ev F x = some e.v) (hy : ev F y = some e'.v) :
    PS Try.prog n F (.binOp .eql 26 x y yt) ty (.bool (decide (e = e'))) := by
  intro a ha w dst pos af g
  have hg : Try.prog.eqGuardType Try.prog.depth 26 = false := by kernel_rfl
  have he := run_eqE e e' h h' w
  simp only [execOp, ha.ev hx, ha.ev hy]
  simp [eqGuard, binOp, hg, he]
theorem ps_neE {x y : Operand} {yt ty : TypeId} {e e' : EN} (h : e.ok) (h' : e'.ok) (hx : ev F x = some e.v) (hy : ev F y = some e'.v) :
    PS Try.prog n F (.binOp .neq 26 x y yt) ty (.bool (!decide (e = e'))) := by
  intro a ha w dst pos af g
  have hg : Try.prog.eqGuardType Try.prog.depth 26 = false := by kernel_rfl
  have he := run_eqE e e' h h' w
  simp only [execOp, ha.ev hx, ha.ev hy]
  simp [eqGuard, binOp, hg, he]
end Go.Proofs.Ytlafdffjkdiigaa
