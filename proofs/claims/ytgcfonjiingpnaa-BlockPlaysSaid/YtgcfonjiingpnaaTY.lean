/- The seat's types and functions as instances: written by wip/tygen.py. -/
import Derived.Test.YtgcfonjiingpnaaK2
import Derived.Test.YtgcfonjiingpnaaOP2
import Derived.Test.YtgcfonjiingpnaaDR2
import Derived.Test.YtgcfonjiingpnaaProg
import Derived.KernelRfl
namespace Go.Proofs.Ytgcfonjiingpnaa
set_option linter.unusedVariables false
set_option linter.unusedSectionVars false
open Go Go.Proofs
section
variable {P : Program} {t s f e sz by_ off len : Nat}
theorem mk_info {z : Value} (h : (P.info? t).map (fun i => (i.zero, i.size, i.bytes)) = some (some z, sz, by_)) (hz : z.cells.size = sz) : Zero P t z sz by_ := by
  cases hi : P.info? t with
  | none => simp [hi] at h
  | some i => simp [hi] at h; exact ⟨i, hi, h.1, h.2.1, h.2.2, hz⟩
theorem ex_size (h : (P.info? t).map (·.size) = some sz) : ∃ i, P.info? t = some i ∧ i.size = sz := by
  cases hi : P.info? t with
  | none => simp [hi] at h
  | some i => simp [hi] at h; exact ⟨i, rfl, h⟩
theorem mk_fieldOff {fs : Array Field} {fd : Field} {k : Nat} (h1 : P.underlying s = some (.struct fs)) (h2 : fs[f]? = some fd) (h3 : fd.offset = off) (h4 : (P.info? fd.type).map (·.size) = some k) (hk : Nat.ble 1 k = true) : FieldOff P s f off := by
  obtain ⟨i, h5, h6⟩ := ex_size h4
  exact ⟨fs, fd, i, h1, h2, h3, h5, by rw [h6]; have : 1 ≤ k := Nat.le_of_ble_eq_true hk; omega⟩
theorem mk_slice (h1 : P.underlying t = some (.slice e)) (h2 : (P.info? e).map (·.size) = some sz) : SliceT P t e sz := by
  obtain ⟨i, h5, h6⟩ := ex_size h2
  exact ⟨i, h1, h5, h6⟩
theorem mk_array (h1 : P.underlying t = some (.array len e)) (h2 : (P.info? e).map (·.size) = some sz) : ArrayT P t len e sz := by
  obtain ⟨i, h5, h6⟩ := ex_size h2
  exact ⟨i, h1, h5, h6⟩
theorem mk_struct {z : Value} {fs : Array Field} {places : List (Nat × Nat)} {zs : List Value} (h1 : (P.info? t).map (·.zero) = some (some z)) (h2 : z.cells.toList = zs) (h3 : P.underlying t = some (.struct fs)) (h4 : fs.toList.mapM (fun f => (P.info? f.type).map fun i => (f.offset, i.size)) = some places) : StructT P t places zs := by
  cases hi : P.info? t with
  | none => simp [hi] at h1
  | some it => simp [hi] at h1; exact ⟨it, z, fs, hi, h1, h2, h3, h4⟩
theorem mk_fieldAgg {fs : Array Field} {fd : Field} {d : TypeDesc} (h1 : P.underlying s = some (.struct fs)) (h2 : fs[f]? = some fd) (h3 : fd.offset = off) (h4 : P.underlying fd.type = some d) (h5 : aggD d = true) (h6 : (P.info? fd.type).map (·.size) = some sz) : FieldAgg P s f off sz := by
  obtain ⟨i, h7, h8⟩ := ex_size h6
  exact ⟨fs, fd, d, i, h1, h2, h3, h4, h5, h7, h8⟩
end
instance : Cell Try.prog 2 := ⟨⟨_, Try.underlying2, rfl⟩, ex_size (by kernel_rfl)⟩
instance : IsT Try.prog 2 (.int .i64) := ⟨Try.underlying2⟩
instance : Zero Try.prog 2 (.int .i64 0) 1 8 := mk_info (by kernel_rfl) (by rfl)
instance : Cell Try.prog 3 := ⟨⟨_, Try.underlying3, rfl⟩, ex_size (by kernel_rfl)⟩
instance : IsT Try.prog 3 (.int .i64) := ⟨Try.underlying3⟩
instance : Zero Try.prog 3 (.int .i64 0) 1 8 := mk_info (by kernel_rfl) (by rfl)
instance : Cell Try.prog 4 := ⟨⟨_, Try.underlying4, rfl⟩, ex_size (by kernel_rfl)⟩
instance : IsT Try.prog 4 (.bool) := ⟨Try.underlying4⟩
instance : Zero Try.prog 4 (.bool false) 1 1 := mk_info (by kernel_rfl) (by rfl)
instance : Cell Try.prog 5 := ⟨⟨_, Try.underlying5, rfl⟩, ex_size (by kernel_rfl)⟩
instance : IsT Try.prog 5 (.int .u8) := ⟨Try.underlying5⟩
instance : Zero Try.prog 5 (.int .u8 0) 1 1 := mk_info (by kernel_rfl) (by rfl)
instance : Cell Try.prog 9 := ⟨⟨_, Try.underlying9, rfl⟩, ex_size (by kernel_rfl)⟩
instance : IsT Try.prog 9 (.string) := ⟨Try.underlying9⟩
instance : Zero Try.prog 9 (.string ByteArray.empty) 1 16 := mk_info (by kernel_rfl) (by rfl)
instance : Cell Try.prog 12 := ⟨⟨_, Try.underlying12, rfl⟩, ex_size (by kernel_rfl)⟩
instance : IsT Try.prog 12 (.int .u64) := ⟨Try.underlying12⟩
instance : Zero Try.prog 12 (.int .u64 0) 1 8 := mk_info (by kernel_rfl) (by rfl)
instance : Agg Try.prog 13 2 := ⟨⟨_, Try.underlying13, rfl⟩, ex_size (by kernel_rfl)⟩
instance : StructT Try.prog 13 [(0, 1), (1, 1)] (([.string ByteArray.empty, .int .u64 0] : List Value)) := mk_struct (z := .agg (([.string ByteArray.empty, .int .u64 0] : List Value)).toArray) (by kernel_rfl) rfl Try.underlying13 (by kernel_rfl)
instance : FieldOff Try.prog 13 0 0 := mk_fieldOff (k := 1) Try.underlying13 rfl rfl (by kernel_rfl) rfl
instance : FieldCell Try.prog 13 0 0 := ⟨_, _, _, Try.underlying13, rfl, rfl, Try.underlying9, rfl⟩
instance : FieldOff Try.prog 13 1 1 := mk_fieldOff (k := 1) Try.underlying13 rfl rfl (by kernel_rfl) rfl
instance : FieldCell Try.prog 13 1 1 := ⟨_, _, _, Try.underlying13, rfl, rfl, Try.underlying12, rfl⟩
instance : Zero Try.prog 13 (.agg (([.string ByteArray.empty, .int .u64 0] : List Value)).toArray) 2 24 := mk_info (by kernel_rfl) (by rfl)
instance : Cell Try.prog 21 := ⟨⟨_, Try.underlying21, rfl⟩, ex_size (by kernel_rfl)⟩
instance : IsT Try.prog 21 (.int .i32) := ⟨Try.underlying21⟩
instance : Zero Try.prog 21 (.int .i32 0) 1 4 := mk_info (by kernel_rfl) (by rfl)
instance : Cell Try.prog 22 := ⟨⟨_, Try.underlying22, rfl⟩, ex_size (by kernel_rfl)⟩
instance : IsT Try.prog 22 (.slice 5) := ⟨Try.underlying22⟩
instance : SliceT Try.prog 22 5 1 := mk_slice Try.underlying22 (by kernel_rfl)
instance : Zero Try.prog 22 (.slice none 0 0) 1 24 := mk_info (by kernel_rfl) (by rfl)
instance : Cell Try.prog 24 := ⟨⟨_, Try.underlying24, rfl⟩, ex_size (by kernel_rfl)⟩
instance : IsT Try.prog 24 (.pointer 62) := ⟨Try.underlying24⟩
instance : Zero Try.prog 24 (.pointer none) 1 8 := mk_info (by kernel_rfl) (by rfl)
instance : Cell Try.prog 25 := ⟨⟨_, Try.underlying25, rfl⟩, ex_size (by kernel_rfl)⟩
instance : IsT Try.prog 25 (.int .i64) := ⟨Try.underlying25⟩
instance : Zero Try.prog 25 (.int .i64 0) 1 8 := mk_info (by kernel_rfl) (by rfl)
instance : Cell Try.prog 30 := ⟨⟨_, Try.underlying30, rfl⟩, ex_size (by kernel_rfl)⟩
instance : IsT Try.prog 30 (.int .u64) := ⟨Try.underlying30⟩
instance : Zero Try.prog 30 (.int .u64 0) 1 8 := mk_info (by kernel_rfl) (by rfl)
instance : Cell Try.prog 39 := ⟨⟨_, Try.underlying39, rfl⟩, ex_size (by kernel_rfl)⟩
instance : IsT Try.prog 39 (.slice 45) := ⟨Try.underlying39⟩
instance : SliceT Try.prog 39 45 5 := mk_slice Try.underlying39 (by kernel_rfl)
instance : Zero Try.prog 39 (.slice none 0 0) 1 24 := mk_info (by kernel_rfl) (by rfl)
instance : Cell Try.prog 40 := ⟨⟨_, Try.underlying40, rfl⟩, ex_size (by kernel_rfl)⟩
instance : IsT Try.prog 40 (.pointer 55) := ⟨Try.underlying40⟩
instance : Zero Try.prog 40 (.pointer none) 1 8 := mk_info (by kernel_rfl) (by rfl)
instance : Cell Try.prog 43 := ⟨⟨_, Try.underlying43, rfl⟩, ex_size (by kernel_rfl)⟩
instance : IsT Try.prog 43 (.slice 3) := ⟨Try.underlying43⟩
instance : SliceT Try.prog 43 3 1 := mk_slice Try.underlying43 (by kernel_rfl)
instance : Zero Try.prog 43 (.slice none 0 0) 1 24 := mk_info (by kernel_rfl) (by rfl)
instance : Agg Try.prog 44 5 := ⟨⟨_, Try.underlying44, rfl⟩, ex_size (by kernel_rfl)⟩
instance : StructT Try.prog 44 [(0, 1), (1, 1), (2, 1), (3, 1), (4, 1)] (([.int .i64 0, .int .i64 0, .int .u64 0, .slice none 0 0, .slice none 0 0] : List Value)) := mk_struct (z := .agg (([.int .i64 0, .int .i64 0, .int .u64 0, .slice none 0 0, .slice none 0 0] : List Value)).toArray) (by kernel_rfl) rfl Try.underlying44 (by kernel_rfl)
instance : FieldOff Try.prog 44 0 0 := mk_fieldOff (k := 1) Try.underlying44 rfl rfl (by kernel_rfl) rfl
instance : FieldCell Try.prog 44 0 0 := ⟨_, _, _, Try.underlying44, rfl, rfl, Try.underlying3, rfl⟩
instance : FieldOff Try.prog 44 1 1 := mk_fieldOff (k := 1) Try.underlying44 rfl rfl (by kernel_rfl) rfl
instance : FieldCell Try.prog 44 1 1 := ⟨_, _, _, Try.underlying44, rfl, rfl, Try.underlying3, rfl⟩
instance : FieldOff Try.prog 44 2 2 := mk_fieldOff (k := 1) Try.underlying44 rfl rfl (by kernel_rfl) rfl
instance : FieldCell Try.prog 44 2 2 := ⟨_, _, _, Try.underlying44, rfl, rfl, Try.underlying30, rfl⟩
instance : FieldOff Try.prog 44 3 3 := mk_fieldOff (k := 1) Try.underlying44 rfl rfl (by kernel_rfl) rfl
instance : FieldCell Try.prog 44 3 3 := ⟨_, _, _, Try.underlying44, rfl, rfl, Try.underlying22, rfl⟩
instance : FieldOff Try.prog 44 4 4 := mk_fieldOff (k := 1) Try.underlying44 rfl rfl (by kernel_rfl) rfl
instance : FieldCell Try.prog 44 4 4 := ⟨_, _, _, Try.underlying44, rfl, rfl, Try.underlying43, rfl⟩
instance : Zero Try.prog 44 (.agg (([.int .i64 0, .int .i64 0, .int .u64 0, .slice none 0 0, .slice none 0 0] : List Value)).toArray) 5 72 := mk_info (by kernel_rfl) (by rfl)
instance : Agg Try.prog 45 5 := ⟨⟨_, Try.underlying45, rfl⟩, ex_size (by kernel_rfl)⟩
instance : StructT Try.prog 45 [(0, 1), (1, 1), (2, 1), (3, 1), (4, 1)] (([.int .i64 0, .int .i64 0, .int .u64 0, .slice none 0 0, .slice none 0 0] : List Value)) := mk_struct (z := .agg (([.int .i64 0, .int .i64 0, .int .u64 0, .slice none 0 0, .slice none 0 0] : List Value)).toArray) (by kernel_rfl) rfl Try.underlying45 (by kernel_rfl)
instance : FieldOff Try.prog 45 0 0 := mk_fieldOff (k := 1) Try.underlying45 rfl rfl (by kernel_rfl) rfl
instance : FieldCell Try.prog 45 0 0 := ⟨_, _, _, Try.underlying45, rfl, rfl, Try.underlying3, rfl⟩
instance : FieldOff Try.prog 45 1 1 := mk_fieldOff (k := 1) Try.underlying45 rfl rfl (by kernel_rfl) rfl
instance : FieldCell Try.prog 45 1 1 := ⟨_, _, _, Try.underlying45, rfl, rfl, Try.underlying3, rfl⟩
instance : FieldOff Try.prog 45 2 2 := mk_fieldOff (k := 1) Try.underlying45 rfl rfl (by kernel_rfl) rfl
instance : FieldCell Try.prog 45 2 2 := ⟨_, _, _, Try.underlying45, rfl, rfl, Try.underlying30, rfl⟩
instance : FieldOff Try.prog 45 3 3 := mk_fieldOff (k := 1) Try.underlying45 rfl rfl (by kernel_rfl) rfl
instance : FieldCell Try.prog 45 3 3 := ⟨_, _, _, Try.underlying45, rfl, rfl, Try.underlying22, rfl⟩
instance : FieldOff Try.prog 45 4 4 := mk_fieldOff (k := 1) Try.underlying45 rfl rfl (by kernel_rfl) rfl
instance : FieldCell Try.prog 45 4 4 := ⟨_, _, _, Try.underlying45, rfl, rfl, Try.underlying43, rfl⟩
instance : Zero Try.prog 45 (.agg (([.int .i64 0, .int .i64 0, .int .u64 0, .slice none 0 0, .slice none 0 0] : List Value)).toArray) 5 72 := mk_info (by kernel_rfl) (by rfl)
instance : Cell Try.prog 52 := ⟨⟨_, Try.underlying52, rfl⟩, ex_size (by kernel_rfl)⟩
instance : IsT Try.prog 52 (.slice 22) := ⟨Try.underlying52⟩
instance : SliceT Try.prog 52 22 1 := mk_slice Try.underlying52 (by kernel_rfl)
instance : Zero Try.prog 52 (.slice none 0 0) 1 24 := mk_info (by kernel_rfl) (by rfl)
instance : Cell Try.prog 53 := ⟨⟨_, Try.underlying53, rfl⟩, ex_size (by kernel_rfl)⟩
instance : IsT Try.prog 53 (.slice 82) := ⟨Try.underlying53⟩
instance : SliceT Try.prog 53 82 2 := mk_slice Try.underlying53 (by kernel_rfl)
instance : Zero Try.prog 53 (.slice none 0 0) 1 24 := mk_info (by kernel_rfl) (by rfl)
instance : Agg Try.prog 54 7 := ⟨⟨_, Try.underlying54, rfl⟩, ex_size (by kernel_rfl)⟩
instance : StructT Try.prog 54 [(0, 1), (1, 1), (2, 1), (3, 1), (4, 1), (5, 1), (6, 1)] (([.slice none 0 0, .slice none 0 0, .slice none 0 0, .int .i64 0, .bool false, .int .i64 0, .int .i64 0] : List Value)) := mk_struct (z := .agg (([.slice none 0 0, .slice none 0 0, .slice none 0 0, .int .i64 0, .bool false, .int .i64 0, .int .i64 0] : List Value)).toArray) (by kernel_rfl) rfl Try.underlying54 (by kernel_rfl)
instance : FieldOff Try.prog 54 0 0 := mk_fieldOff (k := 1) Try.underlying54 rfl rfl (by kernel_rfl) rfl
instance : FieldCell Try.prog 54 0 0 := ⟨_, _, _, Try.underlying54, rfl, rfl, Try.underlying52, rfl⟩
instance : FieldOff Try.prog 54 1 1 := mk_fieldOff (k := 1) Try.underlying54 rfl rfl (by kernel_rfl) rfl
instance : FieldCell Try.prog 54 1 1 := ⟨_, _, _, Try.underlying54, rfl, rfl, Try.underlying52, rfl⟩
instance : FieldOff Try.prog 54 2 2 := mk_fieldOff (k := 1) Try.underlying54 rfl rfl (by kernel_rfl) rfl
instance : FieldCell Try.prog 54 2 2 := ⟨_, _, _, Try.underlying54, rfl, rfl, Try.underlying53, rfl⟩
instance : FieldOff Try.prog 54 3 3 := mk_fieldOff (k := 1) Try.underlying54 rfl rfl (by kernel_rfl) rfl
instance : FieldCell Try.prog 54 3 3 := ⟨_, _, _, Try.underlying54, rfl, rfl, Try.underlying3, rfl⟩
instance : FieldOff Try.prog 54 4 4 := mk_fieldOff (k := 1) Try.underlying54 rfl rfl (by kernel_rfl) rfl
instance : FieldCell Try.prog 54 4 4 := ⟨_, _, _, Try.underlying54, rfl, rfl, Try.underlying4, rfl⟩
instance : FieldOff Try.prog 54 5 5 := mk_fieldOff (k := 1) Try.underlying54 rfl rfl (by kernel_rfl) rfl
instance : FieldCell Try.prog 54 5 5 := ⟨_, _, _, Try.underlying54, rfl, rfl, Try.underlying3, rfl⟩
instance : FieldOff Try.prog 54 6 6 := mk_fieldOff (k := 1) Try.underlying54 rfl rfl (by kernel_rfl) rfl
instance : FieldCell Try.prog 54 6 6 := ⟨_, _, _, Try.underlying54, rfl, rfl, Try.underlying3, rfl⟩
instance : Zero Try.prog 54 (.agg (([.slice none 0 0, .slice none 0 0, .slice none 0 0, .int .i64 0, .bool false, .int .i64 0, .int .i64 0] : List Value)).toArray) 7 104 := mk_info (by kernel_rfl) (by rfl)
instance : Agg Try.prog 55 7 := ⟨⟨_, Try.underlying55, rfl⟩, ex_size (by kernel_rfl)⟩
instance : StructT Try.prog 55 [(0, 1), (1, 1), (2, 1), (3, 1), (4, 1), (5, 1), (6, 1)] (([.slice none 0 0, .slice none 0 0, .slice none 0 0, .int .i64 0, .bool false, .int .i64 0, .int .i64 0] : List Value)) := mk_struct (z := .agg (([.slice none 0 0, .slice none 0 0, .slice none 0 0, .int .i64 0, .bool false, .int .i64 0, .int .i64 0] : List Value)).toArray) (by kernel_rfl) rfl Try.underlying55 (by kernel_rfl)
instance : FieldOff Try.prog 55 0 0 := mk_fieldOff (k := 1) Try.underlying55 rfl rfl (by kernel_rfl) rfl
instance : FieldCell Try.prog 55 0 0 := ⟨_, _, _, Try.underlying55, rfl, rfl, Try.underlying52, rfl⟩
instance : FieldOff Try.prog 55 1 1 := mk_fieldOff (k := 1) Try.underlying55 rfl rfl (by kernel_rfl) rfl
instance : FieldCell Try.prog 55 1 1 := ⟨_, _, _, Try.underlying55, rfl, rfl, Try.underlying52, rfl⟩
instance : FieldOff Try.prog 55 2 2 := mk_fieldOff (k := 1) Try.underlying55 rfl rfl (by kernel_rfl) rfl
instance : FieldCell Try.prog 55 2 2 := ⟨_, _, _, Try.underlying55, rfl, rfl, Try.underlying53, rfl⟩
instance : FieldOff Try.prog 55 3 3 := mk_fieldOff (k := 1) Try.underlying55 rfl rfl (by kernel_rfl) rfl
instance : FieldCell Try.prog 55 3 3 := ⟨_, _, _, Try.underlying55, rfl, rfl, Try.underlying3, rfl⟩
instance : FieldOff Try.prog 55 4 4 := mk_fieldOff (k := 1) Try.underlying55 rfl rfl (by kernel_rfl) rfl
instance : FieldCell Try.prog 55 4 4 := ⟨_, _, _, Try.underlying55, rfl, rfl, Try.underlying4, rfl⟩
instance : FieldOff Try.prog 55 5 5 := mk_fieldOff (k := 1) Try.underlying55 rfl rfl (by kernel_rfl) rfl
instance : FieldCell Try.prog 55 5 5 := ⟨_, _, _, Try.underlying55, rfl, rfl, Try.underlying3, rfl⟩
instance : FieldOff Try.prog 55 6 6 := mk_fieldOff (k := 1) Try.underlying55 rfl rfl (by kernel_rfl) rfl
instance : FieldCell Try.prog 55 6 6 := ⟨_, _, _, Try.underlying55, rfl, rfl, Try.underlying3, rfl⟩
instance : Zero Try.prog 55 (.agg (([.slice none 0 0, .slice none 0 0, .slice none 0 0, .int .i64 0, .bool false, .int .i64 0, .int .i64 0] : List Value)).toArray) 7 104 := mk_info (by kernel_rfl) (by rfl)
instance : Cell Try.prog 59 := ⟨⟨_, Try.underlying59, rfl⟩, ex_size (by kernel_rfl)⟩
instance : IsT Try.prog 59 (.slice 78) := ⟨Try.underlying59⟩
instance : SliceT Try.prog 59 78 64 := mk_slice Try.underlying59 (by kernel_rfl)
instance : Zero Try.prog 59 (.slice none 0 0) 1 24 := mk_info (by kernel_rfl) (by rfl)
instance : Cell Try.prog 60 := ⟨⟨_, Try.underlying60, rfl⟩, ex_size (by kernel_rfl)⟩
instance : IsT Try.prog 60 (.slice 80) := ⟨Try.underlying60⟩
instance : SliceT Try.prog 60 80 129 := mk_slice Try.underlying60 (by kernel_rfl)
instance : Zero Try.prog 60 (.slice none 0 0) 1 24 := mk_info (by kernel_rfl) (by rfl)
instance : Agg Try.prog 61 6 := ⟨⟨_, Try.underlying61, rfl⟩, ex_size (by kernel_rfl)⟩
instance : StructT Try.prog 61 [(0, 1), (1, 1), (2, 1), (3, 1), (4, 1), (5, 1)] (([.slice none 0 0, .slice none 0 0, .int .i64 0, .bool false, .int .i64 0, .int .i64 0] : List Value)) := mk_struct (z := .agg (([.slice none 0 0, .slice none 0 0, .int .i64 0, .bool false, .int .i64 0, .int .i64 0] : List Value)).toArray) (by kernel_rfl) rfl Try.underlying61 (by kernel_rfl)
instance : FieldOff Try.prog 61 0 0 := mk_fieldOff (k := 1) Try.underlying61 rfl rfl (by kernel_rfl) rfl
instance : FieldCell Try.prog 61 0 0 := ⟨_, _, _, Try.underlying61, rfl, rfl, Try.underlying59, rfl⟩
instance : FieldOff Try.prog 61 1 1 := mk_fieldOff (k := 1) Try.underlying61 rfl rfl (by kernel_rfl) rfl
instance : FieldCell Try.prog 61 1 1 := ⟨_, _, _, Try.underlying61, rfl, rfl, Try.underlying60, rfl⟩
instance : FieldOff Try.prog 61 2 2 := mk_fieldOff (k := 1) Try.underlying61 rfl rfl (by kernel_rfl) rfl
instance : FieldCell Try.prog 61 2 2 := ⟨_, _, _, Try.underlying61, rfl, rfl, Try.underlying3, rfl⟩
instance : FieldOff Try.prog 61 3 3 := mk_fieldOff (k := 1) Try.underlying61 rfl rfl (by kernel_rfl) rfl
instance : FieldCell Try.prog 61 3 3 := ⟨_, _, _, Try.underlying61, rfl, rfl, Try.underlying4, rfl⟩
instance : FieldOff Try.prog 61 4 4 := mk_fieldOff (k := 1) Try.underlying61 rfl rfl (by kernel_rfl) rfl
instance : FieldCell Try.prog 61 4 4 := ⟨_, _, _, Try.underlying61, rfl, rfl, Try.underlying3, rfl⟩
instance : FieldOff Try.prog 61 5 5 := mk_fieldOff (k := 1) Try.underlying61 rfl rfl (by kernel_rfl) rfl
instance : FieldCell Try.prog 61 5 5 := ⟨_, _, _, Try.underlying61, rfl, rfl, Try.underlying3, rfl⟩
instance : Zero Try.prog 61 (.agg (([.slice none 0 0, .slice none 0 0, .int .i64 0, .bool false, .int .i64 0, .int .i64 0] : List Value)).toArray) 6 80 := mk_info (by kernel_rfl) (by rfl)
instance : Agg Try.prog 62 6 := ⟨⟨_, Try.underlying62, rfl⟩, ex_size (by kernel_rfl)⟩
instance : StructT Try.prog 62 [(0, 1), (1, 1), (2, 1), (3, 1), (4, 1), (5, 1)] (([.slice none 0 0, .slice none 0 0, .int .i64 0, .bool false, .int .i64 0, .int .i64 0] : List Value)) := mk_struct (z := .agg (([.slice none 0 0, .slice none 0 0, .int .i64 0, .bool false, .int .i64 0, .int .i64 0] : List Value)).toArray) (by kernel_rfl) rfl Try.underlying62 (by kernel_rfl)
instance : FieldOff Try.prog 62 0 0 := mk_fieldOff (k := 1) Try.underlying62 rfl rfl (by kernel_rfl) rfl
instance : FieldCell Try.prog 62 0 0 := ⟨_, _, _, Try.underlying62, rfl, rfl, Try.underlying59, rfl⟩
instance : FieldOff Try.prog 62 1 1 := mk_fieldOff (k := 1) Try.underlying62 rfl rfl (by kernel_rfl) rfl
instance : FieldCell Try.prog 62 1 1 := ⟨_, _, _, Try.underlying62, rfl, rfl, Try.underlying60, rfl⟩
instance : FieldOff Try.prog 62 2 2 := mk_fieldOff (k := 1) Try.underlying62 rfl rfl (by kernel_rfl) rfl
instance : FieldCell Try.prog 62 2 2 := ⟨_, _, _, Try.underlying62, rfl, rfl, Try.underlying3, rfl⟩
instance : FieldOff Try.prog 62 3 3 := mk_fieldOff (k := 1) Try.underlying62 rfl rfl (by kernel_rfl) rfl
instance : FieldCell Try.prog 62 3 3 := ⟨_, _, _, Try.underlying62, rfl, rfl, Try.underlying4, rfl⟩
instance : FieldOff Try.prog 62 4 4 := mk_fieldOff (k := 1) Try.underlying62 rfl rfl (by kernel_rfl) rfl
instance : FieldCell Try.prog 62 4 4 := ⟨_, _, _, Try.underlying62, rfl, rfl, Try.underlying3, rfl⟩
instance : FieldOff Try.prog 62 5 5 := mk_fieldOff (k := 1) Try.underlying62 rfl rfl (by kernel_rfl) rfl
instance : FieldCell Try.prog 62 5 5 := ⟨_, _, _, Try.underlying62, rfl, rfl, Try.underlying3, rfl⟩
instance : Zero Try.prog 62 (.agg (([.slice none 0 0, .slice none 0 0, .int .i64 0, .bool false, .int .i64 0, .int .i64 0] : List Value)).toArray) 6 80 := mk_info (by kernel_rfl) (by rfl)
instance : Agg Try.prog 63 1 := ⟨⟨_, Try.underlying63, rfl⟩, ex_size (by kernel_rfl)⟩
instance : StructT Try.prog 63 [(0, 1)] (([.slice none 0 0] : List Value)) := mk_struct (z := .agg (([.slice none 0 0] : List Value)).toArray) (by kernel_rfl) rfl Try.underlying63 (by kernel_rfl)
instance : FieldOff Try.prog 63 0 0 := mk_fieldOff (k := 1) Try.underlying63 rfl rfl (by kernel_rfl) rfl
instance : FieldCell Try.prog 63 0 0 := ⟨_, _, _, Try.underlying63, rfl, rfl, Try.underlying22, rfl⟩
instance : Zero Try.prog 63 (.agg (([.slice none 0 0] : List Value)).toArray) 1 24 := mk_info (by kernel_rfl) (by rfl)
instance : Agg Try.prog 64 1 := ⟨⟨_, Try.underlying64, rfl⟩, ex_size (by kernel_rfl)⟩
instance : StructT Try.prog 64 [(0, 1)] (([.slice none 0 0] : List Value)) := mk_struct (z := .agg (([.slice none 0 0] : List Value)).toArray) (by kernel_rfl) rfl Try.underlying64 (by kernel_rfl)
instance : FieldOff Try.prog 64 0 0 := mk_fieldOff (k := 1) Try.underlying64 rfl rfl (by kernel_rfl) rfl
instance : FieldCell Try.prog 64 0 0 := ⟨_, _, _, Try.underlying64, rfl, rfl, Try.underlying22, rfl⟩
instance : Zero Try.prog 64 (.agg (([.slice none 0 0] : List Value)).toArray) 1 24 := mk_info (by kernel_rfl) (by rfl)
instance : Cell Try.prog 67 := ⟨⟨_, Try.underlying67, rfl⟩, ex_size (by kernel_rfl)⟩
instance : IsT Try.prog 67 (.int .u16) := ⟨Try.underlying67⟩
instance : Zero Try.prog 67 (.int .u16 0) 1 2 := mk_info (by kernel_rfl) (by rfl)
instance : Cell Try.prog 73 := ⟨⟨_, Try.underlying73, rfl⟩, ex_size (by kernel_rfl)⟩
instance : IsT Try.prog 73 (.pointer 75) := ⟨Try.underlying73⟩
instance : Zero Try.prog 73 (.pointer none) 1 8 := mk_info (by kernel_rfl) (by rfl)
instance : Agg Try.prog 74 3 := ⟨⟨_, Try.underlying74, rfl⟩, ex_size (by kernel_rfl)⟩
instance : StructT Try.prog 74 [(0, 1), (1, 1), (2, 1)] (([.slice none 0 0, .int .i64 0, .bool false] : List Value)) := mk_struct (z := .agg (([.slice none 0 0, .int .i64 0, .bool false] : List Value)).toArray) (by kernel_rfl) rfl Try.underlying74 (by kernel_rfl)
instance : FieldOff Try.prog 74 0 0 := mk_fieldOff (k := 1) Try.underlying74 rfl rfl (by kernel_rfl) rfl
instance : FieldCell Try.prog 74 0 0 := ⟨_, _, _, Try.underlying74, rfl, rfl, Try.underlying22, rfl⟩
instance : FieldOff Try.prog 74 1 1 := mk_fieldOff (k := 1) Try.underlying74 rfl rfl (by kernel_rfl) rfl
instance : FieldCell Try.prog 74 1 1 := ⟨_, _, _, Try.underlying74, rfl, rfl, Try.underlying3, rfl⟩
instance : FieldOff Try.prog 74 2 2 := mk_fieldOff (k := 1) Try.underlying74 rfl rfl (by kernel_rfl) rfl
instance : FieldCell Try.prog 74 2 2 := ⟨_, _, _, Try.underlying74, rfl, rfl, Try.underlying4, rfl⟩
instance : Zero Try.prog 74 (.agg (([.slice none 0 0, .int .i64 0, .bool false] : List Value)).toArray) 3 40 := mk_info (by kernel_rfl) (by rfl)
instance : Agg Try.prog 75 3 := ⟨⟨_, Try.underlying75, rfl⟩, ex_size (by kernel_rfl)⟩
instance : StructT Try.prog 75 [(0, 1), (1, 1), (2, 1)] (([.slice none 0 0, .int .i64 0, .bool false] : List Value)) := mk_struct (z := .agg (([.slice none 0 0, .int .i64 0, .bool false] : List Value)).toArray) (by kernel_rfl) rfl Try.underlying75 (by kernel_rfl)
instance : FieldOff Try.prog 75 0 0 := mk_fieldOff (k := 1) Try.underlying75 rfl rfl (by kernel_rfl) rfl
instance : FieldCell Try.prog 75 0 0 := ⟨_, _, _, Try.underlying75, rfl, rfl, Try.underlying22, rfl⟩
instance : FieldOff Try.prog 75 1 1 := mk_fieldOff (k := 1) Try.underlying75 rfl rfl (by kernel_rfl) rfl
instance : FieldCell Try.prog 75 1 1 := ⟨_, _, _, Try.underlying75, rfl, rfl, Try.underlying3, rfl⟩
instance : FieldOff Try.prog 75 2 2 := mk_fieldOff (k := 1) Try.underlying75 rfl rfl (by kernel_rfl) rfl
instance : FieldCell Try.prog 75 2 2 := ⟨_, _, _, Try.underlying75, rfl, rfl, Try.underlying4, rfl⟩
instance : Zero Try.prog 75 (.agg (([.slice none 0 0, .int .i64 0, .bool false] : List Value)).toArray) 3 40 := mk_info (by kernel_rfl) (by rfl)
instance : Agg Try.prog 77 64 := ⟨⟨_, Try.underlying77, rfl⟩, ex_size (by kernel_rfl)⟩
instance : ArrayT Try.prog 77 64 5 1 := mk_array Try.underlying77 (by kernel_rfl)
instance : Zero Try.prog 77 (.agg (List.replicate 64 (Value.int .u8 0)).toArray) 64 64 := mk_info (by kernel_rfl) (by rfl)
instance : Agg Try.prog 78 64 := ⟨⟨_, Try.underlying78, rfl⟩, ex_size (by kernel_rfl)⟩
instance : ArrayT Try.prog 78 64 5 1 := mk_array Try.underlying78 (by kernel_rfl)
instance : Zero Try.prog 78 (.agg (List.replicate 64 (Value.int .u8 0)).toArray) 64 64 := mk_info (by kernel_rfl) (by rfl)
instance : Agg Try.prog 79 129 := ⟨⟨_, Try.underlying79, rfl⟩, ex_size (by kernel_rfl)⟩
instance : StructT Try.prog 79 [(0, 1), (1, 64), (65, 64)] (([.int .i64 0] : List Value) ++ List.replicate 128 (Value.int .u8 0)) := mk_struct (z := .agg (([.int .i64 0] : List Value) ++ List.replicate 128 (Value.int .u8 0)).toArray) (by kernel_rfl) rfl Try.underlying79 (by kernel_rfl)
instance : FieldOff Try.prog 79 0 0 := mk_fieldOff (k := 1) Try.underlying79 rfl rfl (by kernel_rfl) rfl
instance : FieldCell Try.prog 79 0 0 := ⟨_, _, _, Try.underlying79, rfl, rfl, Try.underlying3, rfl⟩
instance : FieldOff Try.prog 79 1 1 := mk_fieldOff (k := 64) Try.underlying79 rfl rfl (by kernel_rfl) rfl
instance : FieldAgg Try.prog 79 1 1 64 := mk_fieldAgg Try.underlying79 rfl rfl Try.underlying78 rfl (by kernel_rfl)
instance : FieldOff Try.prog 79 2 65 := mk_fieldOff (k := 64) Try.underlying79 rfl rfl (by kernel_rfl) rfl
instance : FieldAgg Try.prog 79 2 65 64 := mk_fieldAgg Try.underlying79 rfl rfl Try.underlying78 rfl (by kernel_rfl)
instance : Zero Try.prog 79 (.agg (([.int .i64 0] : List Value) ++ List.replicate 128 (Value.int .u8 0)).toArray) 129 136 := mk_info (by kernel_rfl) (by rfl)
instance : Agg Try.prog 80 129 := ⟨⟨_, Try.underlying80, rfl⟩, ex_size (by kernel_rfl)⟩
instance : StructT Try.prog 80 [(0, 1), (1, 64), (65, 64)] (([.int .i64 0] : List Value) ++ List.replicate 128 (Value.int .u8 0)) := mk_struct (z := .agg (([.int .i64 0] : List Value) ++ List.replicate 128 (Value.int .u8 0)).toArray) (by kernel_rfl) rfl Try.underlying80 (by kernel_rfl)
instance : FieldOff Try.prog 80 0 0 := mk_fieldOff (k := 1) Try.underlying80 rfl rfl (by kernel_rfl) rfl
instance : FieldCell Try.prog 80 0 0 := ⟨_, _, _, Try.underlying80, rfl, rfl, Try.underlying3, rfl⟩
instance : FieldOff Try.prog 80 1 1 := mk_fieldOff (k := 64) Try.underlying80 rfl rfl (by kernel_rfl) rfl
instance : FieldAgg Try.prog 80 1 1 64 := mk_fieldAgg Try.underlying80 rfl rfl Try.underlying78 rfl (by kernel_rfl)
instance : FieldOff Try.prog 80 2 65 := mk_fieldOff (k := 64) Try.underlying80 rfl rfl (by kernel_rfl) rfl
instance : FieldAgg Try.prog 80 2 65 64 := mk_fieldAgg Try.underlying80 rfl rfl Try.underlying78 rfl (by kernel_rfl)
instance : Zero Try.prog 80 (.agg (([.int .i64 0] : List Value) ++ List.replicate 128 (Value.int .u8 0)).toArray) 129 136 := mk_info (by kernel_rfl) (by rfl)
instance : Agg Try.prog 81 2 := ⟨⟨_, Try.underlying81, rfl⟩, ex_size (by kernel_rfl)⟩
instance : StructT Try.prog 81 [(0, 1), (1, 1)] (([.int .i64 0, .slice none 0 0] : List Value)) := mk_struct (z := .agg (([.int .i64 0, .slice none 0 0] : List Value)).toArray) (by kernel_rfl) rfl Try.underlying81 (by kernel_rfl)
instance : FieldOff Try.prog 81 0 0 := mk_fieldOff (k := 1) Try.underlying81 rfl rfl (by kernel_rfl) rfl
instance : FieldCell Try.prog 81 0 0 := ⟨_, _, _, Try.underlying81, rfl, rfl, Try.underlying3, rfl⟩
instance : FieldOff Try.prog 81 1 1 := mk_fieldOff (k := 1) Try.underlying81 rfl rfl (by kernel_rfl) rfl
instance : FieldCell Try.prog 81 1 1 := ⟨_, _, _, Try.underlying81, rfl, rfl, Try.underlying22, rfl⟩
instance : Zero Try.prog 81 (.agg (([.int .i64 0, .slice none 0 0] : List Value)).toArray) 2 32 := mk_info (by kernel_rfl) (by rfl)
instance : Agg Try.prog 82 2 := ⟨⟨_, Try.underlying82, rfl⟩, ex_size (by kernel_rfl)⟩
instance : StructT Try.prog 82 [(0, 1), (1, 1)] (([.int .i64 0, .slice none 0 0] : List Value)) := mk_struct (z := .agg (([.int .i64 0, .slice none 0 0] : List Value)).toArray) (by kernel_rfl) rfl Try.underlying82 (by kernel_rfl)
instance : FieldOff Try.prog 82 0 0 := mk_fieldOff (k := 1) Try.underlying82 rfl rfl (by kernel_rfl) rfl
instance : FieldCell Try.prog 82 0 0 := ⟨_, _, _, Try.underlying82, rfl, rfl, Try.underlying3, rfl⟩
instance : FieldOff Try.prog 82 1 1 := mk_fieldOff (k := 1) Try.underlying82 rfl rfl (by kernel_rfl) rfl
instance : FieldCell Try.prog 82 1 1 := ⟨_, _, _, Try.underlying82, rfl, rfl, Try.underlying22, rfl⟩
instance : Zero Try.prog 82 (.agg (([.int .i64 0, .slice none 0 0] : List Value)).toArray) 2 32 := mk_info (by kernel_rfl) (by rfl)
instance : Cell Try.prog 83 := ⟨⟨_, Try.underlying83, rfl⟩, ex_size (by kernel_rfl)⟩
instance : IsT Try.prog 83 (.pointer 64) := ⟨Try.underlying83⟩
instance : Zero Try.prog 83 (.pointer none) 1 8 := mk_info (by kernel_rfl) (by rfl)
instance : Cell Try.prog 85 := ⟨⟨_, Try.underlying85, rfl⟩, ex_size (by kernel_rfl)⟩
instance : IsT Try.prog 85 (.int .u32) := ⟨Try.underlying85⟩
instance : Zero Try.prog 85 (.int .u32 0) 1 4 := mk_info (by kernel_rfl) (by rfl)
instance : Cell Try.prog 86 := ⟨⟨_, Try.underlying86, rfl⟩, ex_size (by kernel_rfl)⟩
instance : IsT Try.prog 86 (.int .u64) := ⟨Try.underlying86⟩
instance : Zero Try.prog 86 (.int .u64 0) 1 8 := mk_info (by kernel_rfl) (by rfl)
instance : Cell Try.prog 88 := ⟨⟨_, Try.underlying88, rfl⟩, ex_size (by kernel_rfl)⟩
instance : IsT Try.prog 88 (.pointer 99) := ⟨Try.underlying88⟩
instance : Zero Try.prog 88 (.pointer none) 1 8 := mk_info (by kernel_rfl) (by rfl)
instance : Cell Try.prog 94 := ⟨⟨_, Try.underlying94, rfl⟩, ex_size (by kernel_rfl)⟩
instance : IsT Try.prog 94 (.pointer 96) := ⟨Try.underlying94⟩
instance : Zero Try.prog 94 (.pointer none) 1 8 := mk_info (by kernel_rfl) (by rfl)
instance : Agg Try.prog 95 1 := ⟨⟨_, Try.underlying95, rfl⟩, ex_size (by kernel_rfl)⟩
instance : StructT Try.prog 95 [(0, 1)] (([.slice none 0 0] : List Value)) := mk_struct (z := .agg (([.slice none 0 0] : List Value)).toArray) (by kernel_rfl) rfl Try.underlying95 (by kernel_rfl)
instance : FieldOff Try.prog 95 0 0 := mk_fieldOff (k := 1) Try.underlying95 rfl rfl (by kernel_rfl) rfl
instance : FieldCell Try.prog 95 0 0 := ⟨_, _, _, Try.underlying95, rfl, rfl, Try.underlying22, rfl⟩
instance : Zero Try.prog 95 (.agg (([.slice none 0 0] : List Value)).toArray) 1 24 := mk_info (by kernel_rfl) (by rfl)
instance : Agg Try.prog 96 1 := ⟨⟨_, Try.underlying96, rfl⟩, ex_size (by kernel_rfl)⟩
instance : StructT Try.prog 96 [(0, 1)] (([.slice none 0 0] : List Value)) := mk_struct (z := .agg (([.slice none 0 0] : List Value)).toArray) (by kernel_rfl) rfl Try.underlying96 (by kernel_rfl)
instance : FieldOff Try.prog 96 0 0 := mk_fieldOff (k := 1) Try.underlying96 rfl rfl (by kernel_rfl) rfl
instance : FieldCell Try.prog 96 0 0 := ⟨_, _, _, Try.underlying96, rfl, rfl, Try.underlying22, rfl⟩
instance : Zero Try.prog 96 (.agg (([.slice none 0 0] : List Value)).toArray) 1 24 := mk_info (by kernel_rfl) (by rfl)
instance : Agg Try.prog 98 2 := ⟨⟨_, Try.underlying98, rfl⟩, ex_size (by kernel_rfl)⟩
instance : StructT Try.prog 98 [(0, 1), (1, 1)] (([.slice none 0 0, .bool false] : List Value)) := mk_struct (z := .agg (([.slice none 0 0, .bool false] : List Value)).toArray) (by kernel_rfl) rfl Try.underlying98 (by kernel_rfl)
instance : FieldOff Try.prog 98 0 0 := mk_fieldOff (k := 1) Try.underlying98 rfl rfl (by kernel_rfl) rfl
instance : FieldCell Try.prog 98 0 0 := ⟨_, _, _, Try.underlying98, rfl, rfl, Try.underlying22, rfl⟩
instance : FieldOff Try.prog 98 1 1 := mk_fieldOff (k := 1) Try.underlying98 rfl rfl (by kernel_rfl) rfl
instance : FieldCell Try.prog 98 1 1 := ⟨_, _, _, Try.underlying98, rfl, rfl, Try.underlying4, rfl⟩
instance : Zero Try.prog 98 (.agg (([.slice none 0 0, .bool false] : List Value)).toArray) 2 32 := mk_info (by kernel_rfl) (by rfl)
instance : Agg Try.prog 99 2 := ⟨⟨_, Try.underlying99, rfl⟩, ex_size (by kernel_rfl)⟩
instance : StructT Try.prog 99 [(0, 1), (1, 1)] (([.slice none 0 0, .bool false] : List Value)) := mk_struct (z := .agg (([.slice none 0 0, .bool false] : List Value)).toArray) (by kernel_rfl) rfl Try.underlying99 (by kernel_rfl)
instance : FieldOff Try.prog 99 0 0 := mk_fieldOff (k := 1) Try.underlying99 rfl rfl (by kernel_rfl) rfl
instance : FieldCell Try.prog 99 0 0 := ⟨_, _, _, Try.underlying99, rfl, rfl, Try.underlying22, rfl⟩
instance : FieldOff Try.prog 99 1 1 := mk_fieldOff (k := 1) Try.underlying99 rfl rfl (by kernel_rfl) rfl
instance : FieldCell Try.prog 99 1 1 := ⟨_, _, _, Try.underlying99, rfl, rfl, Try.underlying4, rfl⟩
instance : Zero Try.prog 99 (.agg (([.slice none 0 0, .bool false] : List Value)).toArray) 2 32 := mk_info (by kernel_rfl) (by rfl)
instance : Cell Try.prog 109 := ⟨⟨_, Try.underlying109, rfl⟩, ex_size (by kernel_rfl)⟩
instance : IsT Try.prog 109 (.pointer 5) := ⟨Try.underlying109⟩
instance : Zero Try.prog 109 (.pointer none) 1 8 := mk_info (by kernel_rfl) (by rfl)
instance : IsFn Try.prog 3 := ⟨_, Try.func3, rfl, rfl⟩
instance : IsFn Try.prog 4 := ⟨_, Try.func4, rfl, rfl⟩
instance : IsFn Try.prog 5 := ⟨_, Try.func5, rfl, rfl⟩
instance : IsFn Try.prog 6 := ⟨_, Try.func6, rfl, rfl⟩
instance : IsFn Try.prog 7 := ⟨_, Try.func7, rfl, rfl⟩
instance : IsFn Try.prog 8 := ⟨_, Try.func8, rfl, rfl⟩
instance : IsFn Try.prog 9 := ⟨_, Try.func9, rfl, rfl⟩
instance : IsFn Try.prog 10 := ⟨_, Try.func10, rfl, rfl⟩
instance : IsFn Try.prog 11 := ⟨_, Try.func11, rfl, rfl⟩
instance : IsFn Try.prog 12 := ⟨_, Try.func12, rfl, rfl⟩
instance : IsFn Try.prog 13 := ⟨_, Try.func13, rfl, rfl⟩
instance : IsFn Try.prog 14 := ⟨_, Try.func14, rfl, rfl⟩
instance : IsFn Try.prog 15 := ⟨_, Try.func15, rfl, rfl⟩
instance : IsFn Try.prog 16 := ⟨_, Try.func16, rfl, rfl⟩
instance : IsFn Try.prog 17 := ⟨_, Try.func17, rfl, rfl⟩
instance : IsFn Try.prog 18 := ⟨_, Try.func18, rfl, rfl⟩
instance : IsFn Try.prog 19 := ⟨_, Try.func19, rfl, rfl⟩
instance : IsFn Try.prog 20 := ⟨_, Try.func20, rfl, rfl⟩
instance : IsFn Try.prog 21 := ⟨_, Try.func21, rfl, rfl⟩
instance : IsFn Try.prog 22 := ⟨_, Try.func22, rfl, rfl⟩
instance : IsFn Try.prog 23 := ⟨_, Try.func23, rfl, rfl⟩
instance : IsFn Try.prog 24 := ⟨_, Try.func24, rfl, rfl⟩
instance : IsFn Try.prog 25 := ⟨_, Try.func25, rfl, rfl⟩
instance : IsFn Try.prog 26 := ⟨_, Try.func26, rfl, rfl⟩
instance : IsFn Try.prog 27 := ⟨_, Try.func27, rfl, rfl⟩
instance : IsFn Try.prog 28 := ⟨_, Try.func28, rfl, rfl⟩
instance : IsFn Try.prog 29 := ⟨_, Try.func29, rfl, rfl⟩
instance : IsFn Try.prog 30 := ⟨_, Try.func30, rfl, rfl⟩
instance : IsFn Try.prog 31 := ⟨_, Try.func31, rfl, rfl⟩
instance : IsFn Try.prog 32 := ⟨_, Try.func32, rfl, rfl⟩
instance : IsFn Try.prog 33 := ⟨_, Try.func33, rfl, rfl⟩
instance : IsFn Try.prog 34 := ⟨_, Try.func34, rfl, rfl⟩
instance : IsFn Try.prog 35 := ⟨_, Try.func35, rfl, rfl⟩
instance : IsFn Try.prog 36 := ⟨_, Try.func36, rfl, rfl⟩
instance : IsFn Try.prog 37 := ⟨_, Try.func37, rfl, rfl⟩
instance : IsFn Try.prog 38 := ⟨_, Try.func38, rfl, rfl⟩
instance : IsFn Try.prog 39 := ⟨_, Try.func39, rfl, rfl⟩
instance : IsFn Try.prog 40 := ⟨_, Try.func40, rfl, rfl⟩
instance : IsFn Try.prog 41 := ⟨_, Try.func41, rfl, rfl⟩
instance : IsFn Try.prog 42 := ⟨_, Try.func42, rfl, rfl⟩
instance : IsFn Try.prog 43 := ⟨_, Try.func43, rfl, rfl⟩
instance : IsFn Try.prog 44 := ⟨_, Try.func44, rfl, rfl⟩
instance : IsFn Try.prog 45 := ⟨_, Try.func45, rfl, rfl⟩
instance : IsFn Try.prog 46 := ⟨_, Try.func46, rfl, rfl⟩
instance : IsFn Try.prog 47 := ⟨_, Try.func47, rfl, rfl⟩
instance : IsFn Try.prog 48 := ⟨_, Try.func48, rfl, rfl⟩
instance : IsFn Try.prog 49 := ⟨_, Try.func49, rfl, rfl⟩
instance : IsFn Try.prog 50 := ⟨_, Try.func50, rfl, rfl⟩
instance : IsFn Try.prog 51 := ⟨_, Try.func51, rfl, rfl⟩
instance : IsFn Try.prog 52 := ⟨_, Try.func52, rfl, rfl⟩
instance : BS Try.prog := ⟨Try.underlying22, Try.underlying5, Try.underlying9⟩
end Go.Proofs.Ytgcfonjiingpnaa
