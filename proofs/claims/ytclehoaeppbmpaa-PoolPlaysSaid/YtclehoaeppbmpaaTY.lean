/- The seat's types and functions as instances: written by wip/tygen.py. -/
import Derived.Test.YtclehoaeppbmpaaK2
import Derived.Test.YtclehoaeppbmpaaOP2
import Derived.Test.YtclehoaeppbmpaaDR2
import Derived.Test.YtclehoaeppbmpaaProg
import Derived.KernelRfl
namespace Go.Proofs.Ytclehoaeppbmpaa
set_option linter.unusedVariables false
set_option linter.unusedSectionVars false
open Go Go.Proofs
section
variable {P : Program} {t s f e sz by_ off len : Nat}
theorem mk_info {z : Value} (h : (P.info? t).map (fun i => (i.zero, i.size, i.bytes)) = some (some z, sz, by_)) (hz : z.cells.size = sz) : Zero P t z sz by_ := by
  cases hi : P.info? t with
  | none => simp [hi] at h
  | some i => simp [hi] at h; exact ⟨i, hi, h.1, h.2.1, h.2.2, hz⟩
theorem ex_size (h : (P.info? t).map (·.size) = some sz) : ∃ i, P.info? t = some i ∧ i.size = sz := by
  cases hi : P.info? t with
  | none => simp [hi] at h
  | some i => simp [hi] at h; exact ⟨i, rfl, h⟩
theorem mk_fieldOff {fs : Array Field} {fd : Field} {k : Nat} (h1 : P.underlying s = some (.struct fs)) (h2 : fs[f]? = some fd) (h3 : fd.offset = off) (h4 : (P.info? fd.type).map (·.size) = some k) (hk : Nat.ble 1 k = true) : FieldOff P s f off := by
  obtain ⟨i, h5, h6⟩ := ex_size h4
  exact ⟨fs, fd, i, h1, h2, h3, h5, by rw [h6]; have : 1 ≤ k := Nat.le_of_ble_eq_true hk; omega⟩
theorem mk_slice (h1 : P.underlying t = some (.slice e)) (h2 : (P.info? e).map (·.size) = some sz) : SliceT P t e sz := by
  obtain ⟨i, h5, h6⟩ := ex_size h2
  exact ⟨i, h1, h5, h6⟩
theorem mk_array (h1 : P.underlying t = some (.array len e)) (h2 : (P.info? e).map (·.size) = some sz) : ArrayT P t len e sz := by
  obtain ⟨i, h5, h6⟩ := ex_size h2
  exact ⟨i, h1, h5, h6⟩
theorem mk_struct {z : Value} {fs : Array Field} {places : List (Nat × Nat)} {zs : List Value} (h1 : (P.info? t).map (·.zero) = some (some z)) (h2 : z.cells.toList = zs) (h3 : P.underlying t = some (.struct fs)) (h4 : fs.toList.mapM (fun f => (P.info? f.type).map fun i => (f.offset, i.size)) = some places) : StructT P t places zs := by
  cases hi : P.info? t with
  | none => simp [hi] at h1
  | some it => simp [hi] at h1; exact ⟨it, z, fs, hi, h1, h2, h3, h4⟩
theorem mk_fieldAgg {fs : Array Field} {fd : Field} {d : TypeDesc} (h1 : P.underlying s = some (.struct fs)) (h2 : fs[f]? = some fd) (h3 : fd.offset = off) (h4 : P.underlying fd.type = some d) (h5 : aggD d = true) (h6 : (P.info? fd.type).map (·.size) = some sz) : FieldAgg P s f off sz := by
  obtain ⟨i, h7, h8⟩ := ex_size h6
  exact ⟨fs, fd, d, i, h1, h2, h3, h4, h5, h7, h8⟩
end
instance : Cell Try.prog 2 := ⟨⟨_, Try.underlying2, rfl⟩, ex_size (by kernel_rfl)⟩
instance : IsT Try.prog 2 (.int .i64) := ⟨Try.underlying2⟩
instance : Zero Try.prog 2 (.int .i64 0) 1 8 := mk_info (by kernel_rfl) (by rfl)
instance : Cell Try.prog 3 := ⟨⟨_, Try.underlying3, rfl⟩, ex_size (by kernel_rfl)⟩
instance : IsT Try.prog 3 (.int .i64) := ⟨Try.underlying3⟩
instance : Zero Try.prog 3 (.int .i64 0) 1 8 := mk_info (by kernel_rfl) (by rfl)
instance : Cell Try.prog 4 := ⟨⟨_, Try.underlying4, rfl⟩, ex_size (by kernel_rfl)⟩
instance : IsT Try.prog 4 (.bool) := ⟨Try.underlying4⟩
instance : Zero Try.prog 4 (.bool false) 1 1 := mk_info (by kernel_rfl) (by rfl)
instance : Cell Try.prog 5 := ⟨⟨_, Try.underlying5, rfl⟩, ex_size (by kernel_rfl)⟩
instance : IsT Try.prog 5 (.int .u8) := ⟨Try.underlying5⟩
instance : Zero Try.prog 5 (.int .u8 0) 1 1 := mk_info (by kernel_rfl) (by rfl)
instance : Cell Try.prog 9 := ⟨⟨_, Try.underlying9, rfl⟩, ex_size (by kernel_rfl)⟩
instance : IsT Try.prog 9 (.string) := ⟨Try.underlying9⟩
instance : Zero Try.prog 9 (.string ByteArray.empty) 1 16 := mk_info (by kernel_rfl) (by rfl)
instance : Cell Try.prog 12 := ⟨⟨_, Try.underlying12, rfl⟩, ex_size (by kernel_rfl)⟩
instance : IsT Try.prog 12 (.int .u64) := ⟨Try.underlying12⟩
instance : Zero Try.prog 12 (.int .u64 0) 1 8 := mk_info (by kernel_rfl) (by rfl)
instance : Agg Try.prog 13 2 := ⟨⟨_, Try.underlying13, rfl⟩, ex_size (by kernel_rfl)⟩
instance : StructT Try.prog 13 [(0, 1), (1, 1)] (([.string ByteArray.empty, .int .u64 0] : List Value)) := mk_struct (z := .agg (([.string ByteArray.empty, .int .u64 0] : List Value)).toArray) (by kernel_rfl) rfl Try.underlying13 (by kernel_rfl)
instance : FieldOff Try.prog 13 0 0 := mk_fieldOff (k := 1) Try.underlying13 rfl rfl (by kernel_rfl) rfl
instance : FieldCell Try.prog 13 0 0 := ⟨_, _, _, Try.underlying13, rfl, rfl, Try.underlying9, rfl⟩
instance : FieldOff Try.prog 13 1 1 := mk_fieldOff (k := 1) Try.underlying13 rfl rfl (by kernel_rfl) rfl
instance : FieldCell Try.prog 13 1 1 := ⟨_, _, _, Try.underlying13, rfl, rfl, Try.underlying12, rfl⟩
instance : Zero Try.prog 13 (.agg (([.string ByteArray.empty, .int .u64 0] : List Value)).toArray) 2 24 := mk_info (by kernel_rfl) (by rfl)
instance : Cell Try.prog 21 := ⟨⟨_, Try.underlying21, rfl⟩, ex_size (by kernel_rfl)⟩
instance : IsT Try.prog 21 (.int .i32) := ⟨Try.underlying21⟩
instance : Zero Try.prog 21 (.int .i32 0) 1 4 := mk_info (by kernel_rfl) (by rfl)
instance : Cell Try.prog 22 := ⟨⟨_, Try.underlying22, rfl⟩, ex_size (by kernel_rfl)⟩
instance : IsT Try.prog 22 (.slice 3) := ⟨Try.underlying22⟩
instance : SliceT Try.prog 22 3 1 := mk_slice Try.underlying22 (by kernel_rfl)
instance : Zero Try.prog 22 (.slice none 0 0) 1 24 := mk_info (by kernel_rfl) (by rfl)
instance : Cell Try.prog 24 := ⟨⟨_, Try.underlying24, rfl⟩, ex_size (by kernel_rfl)⟩
instance : IsT Try.prog 24 (.pointer 36) := ⟨Try.underlying24⟩
instance : Zero Try.prog 24 (.pointer none) 1 8 := mk_info (by kernel_rfl) (by rfl)
instance : Cell Try.prog 26 := ⟨⟨_, Try.underlying26, rfl⟩, ex_size (by kernel_rfl)⟩
instance : IsT Try.prog 26 (.pointer 66) := ⟨Try.underlying26⟩
instance : Zero Try.prog 26 (.pointer none) 1 8 := mk_info (by kernel_rfl) (by rfl)
instance : Cell Try.prog 27 := ⟨⟨_, Try.underlying27, rfl⟩, ex_size (by kernel_rfl)⟩
instance : IsT Try.prog 27 (.int .i64) := ⟨Try.underlying27⟩
instance : Zero Try.prog 27 (.int .i64 0) 1 8 := mk_info (by kernel_rfl) (by rfl)
instance : Agg Try.prog 30 7 := ⟨⟨_, Try.underlying30, rfl⟩, ex_size (by kernel_rfl)⟩
instance : ArrayT Try.prog 30 7 3 1 := mk_array Try.underlying30 (by kernel_rfl)
instance : Zero Try.prog 30 (.agg (([.int .i64 0, .int .i64 0, .int .i64 0, .int .i64 0, .int .i64 0, .int .i64 0, .int .i64 0] : List Value)).toArray) 7 56 := mk_info (by kernel_rfl) (by rfl)
instance : Cell Try.prog 32 := ⟨⟨_, Try.underlying32, rfl⟩, ex_size (by kernel_rfl)⟩
instance : IsT Try.prog 32 (.int .u64) := ⟨Try.underlying32⟩
instance : Zero Try.prog 32 (.int .u64 0) 1 8 := mk_info (by kernel_rfl) (by rfl)
instance : Cell Try.prog 33 := ⟨⟨_, Try.underlying33, rfl⟩, ex_size (by kernel_rfl)⟩
instance : IsT Try.prog 33 (.slice 32) := ⟨Try.underlying33⟩
instance : SliceT Try.prog 33 32 1 := mk_slice Try.underlying33 (by kernel_rfl)
instance : Zero Try.prog 33 (.slice none 0 0) 1 24 := mk_info (by kernel_rfl) (by rfl)
instance : Cell Try.prog 34 := ⟨⟨_, Try.underlying34, rfl⟩, ex_size (by kernel_rfl)⟩
instance : IsT Try.prog 34 (.slice 37) := ⟨Try.underlying34⟩
instance : SliceT Try.prog 34 37 1 := mk_slice Try.underlying34 (by kernel_rfl)
instance : Zero Try.prog 34 (.slice none 0 0) 1 24 := mk_info (by kernel_rfl) (by rfl)
instance : Agg Try.prog 35 4 := ⟨⟨_, Try.underlying35, rfl⟩, ex_size (by kernel_rfl)⟩
instance : StructT Try.prog 35 [(0, 1), (1, 1), (2, 1), (3, 1)] (([.slice none 0 0, .slice none 0 0, .slice none 0 0, .int .i64 0] : List Value)) := mk_struct (z := .agg (([.slice none 0 0, .slice none 0 0, .slice none 0 0, .int .i64 0] : List Value)).toArray) (by kernel_rfl) rfl Try.underlying35 (by kernel_rfl)
instance : FieldOff Try.prog 35 0 0 := mk_fieldOff (k := 1) Try.underlying35 rfl rfl (by kernel_rfl) rfl
instance : FieldCell Try.prog 35 0 0 := ⟨_, _, _, Try.underlying35, rfl, rfl, Try.underlying33, rfl⟩
instance : FieldOff Try.prog 35 1 1 := mk_fieldOff (k := 1) Try.underlying35 rfl rfl (by kernel_rfl) rfl
instance : FieldCell Try.prog 35 1 1 := ⟨_, _, _, Try.underlying35, rfl, rfl, Try.underlying34, rfl⟩
instance : FieldOff Try.prog 35 2 2 := mk_fieldOff (k := 1) Try.underlying35 rfl rfl (by kernel_rfl) rfl
instance : FieldCell Try.prog 35 2 2 := ⟨_, _, _, Try.underlying35, rfl, rfl, Try.underlying33, rfl⟩
instance : FieldOff Try.prog 35 3 3 := mk_fieldOff (k := 1) Try.underlying35 rfl rfl (by kernel_rfl) rfl
instance : FieldCell Try.prog 35 3 3 := ⟨_, _, _, Try.underlying35, rfl, rfl, Try.underlying3, rfl⟩
instance : Zero Try.prog 35 (.agg (([.slice none 0 0, .slice none 0 0, .slice none 0 0, .int .i64 0] : List Value)).toArray) 4 80 := mk_info (by kernel_rfl) (by rfl)
instance : Agg Try.prog 36 4 := ⟨⟨_, Try.underlying36, rfl⟩, ex_size (by kernel_rfl)⟩
instance : StructT Try.prog 36 [(0, 1), (1, 1), (2, 1), (3, 1)] (([.slice none 0 0, .slice none 0 0, .slice none 0 0, .int .i64 0] : List Value)) := mk_struct (z := .agg (([.slice none 0 0, .slice none 0 0, .slice none 0 0, .int .i64 0] : List Value)).toArray) (by kernel_rfl) rfl Try.underlying36 (by kernel_rfl)
instance : FieldOff Try.prog 36 0 0 := mk_fieldOff (k := 1) Try.underlying36 rfl rfl (by kernel_rfl) rfl
instance : FieldCell Try.prog 36 0 0 := ⟨_, _, _, Try.underlying36, rfl, rfl, Try.underlying33, rfl⟩
instance : FieldOff Try.prog 36 1 1 := mk_fieldOff (k := 1) Try.underlying36 rfl rfl (by kernel_rfl) rfl
instance : FieldCell Try.prog 36 1 1 := ⟨_, _, _, Try.underlying36, rfl, rfl, Try.underlying34, rfl⟩
instance : FieldOff Try.prog 36 2 2 := mk_fieldOff (k := 1) Try.underlying36 rfl rfl (by kernel_rfl) rfl
instance : FieldCell Try.prog 36 2 2 := ⟨_, _, _, Try.underlying36, rfl, rfl, Try.underlying33, rfl⟩
instance : FieldOff Try.prog 36 3 3 := mk_fieldOff (k := 1) Try.underlying36 rfl rfl (by kernel_rfl) rfl
instance : FieldCell Try.prog 36 3 3 := ⟨_, _, _, Try.underlying36, rfl, rfl, Try.underlying3, rfl⟩
instance : Zero Try.prog 36 (.agg (([.slice none 0 0, .slice none 0 0, .slice none 0 0, .int .i64 0] : List Value)).toArray) 4 80 := mk_info (by kernel_rfl) (by rfl)
instance : Cell Try.prog 37 := ⟨⟨_, Try.underlying37, rfl⟩, ex_size (by kernel_rfl)⟩
instance : IsT Try.prog 37 (.slice 5) := ⟨Try.underlying37⟩
instance : SliceT Try.prog 37 5 1 := mk_slice Try.underlying37 (by kernel_rfl)
instance : Zero Try.prog 37 (.slice none 0 0) 1 24 := mk_info (by kernel_rfl) (by rfl)
instance : Cell Try.prog 44 := ⟨⟨_, Try.underlying44, rfl⟩, ex_size (by kernel_rfl)⟩
instance : IsT Try.prog 44 (.slice 46) := ⟨Try.underlying44⟩
instance : SliceT Try.prog 44 46 4 := mk_slice Try.underlying44 (by kernel_rfl)
instance : Zero Try.prog 44 (.slice none 0 0) 1 24 := mk_info (by kernel_rfl) (by rfl)
instance : Agg Try.prog 45 4 := ⟨⟨_, Try.underlying45, rfl⟩, ex_size (by kernel_rfl)⟩
instance : StructT Try.prog 45 [(0, 1), (1, 1), (2, 1), (3, 1)] (([.int .i64 0, .int .i64 0, .int .u64 0, .slice none 0 0] : List Value)) := mk_struct (z := .agg (([.int .i64 0, .int .i64 0, .int .u64 0, .slice none 0 0] : List Value)).toArray) (by kernel_rfl) rfl Try.underlying45 (by kernel_rfl)
instance : FieldOff Try.prog 45 0 0 := mk_fieldOff (k := 1) Try.underlying45 rfl rfl (by kernel_rfl) rfl
instance : FieldCell Try.prog 45 0 0 := ⟨_, _, _, Try.underlying45, rfl, rfl, Try.underlying3, rfl⟩
instance : FieldOff Try.prog 45 1 1 := mk_fieldOff (k := 1) Try.underlying45 rfl rfl (by kernel_rfl) rfl
instance : FieldCell Try.prog 45 1 1 := ⟨_, _, _, Try.underlying45, rfl, rfl, Try.underlying3, rfl⟩
instance : FieldOff Try.prog 45 2 2 := mk_fieldOff (k := 1) Try.underlying45 rfl rfl (by kernel_rfl) rfl
instance : FieldCell Try.prog 45 2 2 := ⟨_, _, _, Try.underlying45, rfl, rfl, Try.underlying32, rfl⟩
instance : FieldOff Try.prog 45 3 3 := mk_fieldOff (k := 1) Try.underlying45 rfl rfl (by kernel_rfl) rfl
instance : FieldCell Try.prog 45 3 3 := ⟨_, _, _, Try.underlying45, rfl, rfl, Try.underlying37, rfl⟩
instance : Zero Try.prog 45 (.agg (([.int .i64 0, .int .i64 0, .int .u64 0, .slice none 0 0] : List Value)).toArray) 4 48 := mk_info (by kernel_rfl) (by rfl)
instance : Agg Try.prog 46 4 := ⟨⟨_, Try.underlying46, rfl⟩, ex_size (by kernel_rfl)⟩
instance : StructT Try.prog 46 [(0, 1), (1, 1), (2, 1), (3, 1)] (([.int .i64 0, .int .i64 0, .int .u64 0, .slice none 0 0] : List Value)) := mk_struct (z := .agg (([.int .i64 0, .int .i64 0, .int .u64 0, .slice none 0 0] : List Value)).toArray) (by kernel_rfl) rfl Try.underlying46 (by kernel_rfl)
instance : FieldOff Try.prog 46 0 0 := mk_fieldOff (k := 1) Try.underlying46 rfl rfl (by kernel_rfl) rfl
instance : FieldCell Try.prog 46 0 0 := ⟨_, _, _, Try.underlying46, rfl, rfl, Try.underlying3, rfl⟩
instance : FieldOff Try.prog 46 1 1 := mk_fieldOff (k := 1) Try.underlying46 rfl rfl (by kernel_rfl) rfl
instance : FieldCell Try.prog 46 1 1 := ⟨_, _, _, Try.underlying46, rfl, rfl, Try.underlying3, rfl⟩
instance : FieldOff Try.prog 46 2 2 := mk_fieldOff (k := 1) Try.underlying46 rfl rfl (by kernel_rfl) rfl
instance : FieldCell Try.prog 46 2 2 := ⟨_, _, _, Try.underlying46, rfl, rfl, Try.underlying32, rfl⟩
instance : FieldOff Try.prog 46 3 3 := mk_fieldOff (k := 1) Try.underlying46 rfl rfl (by kernel_rfl) rfl
instance : FieldCell Try.prog 46 3 3 := ⟨_, _, _, Try.underlying46, rfl, rfl, Try.underlying37, rfl⟩
instance : Zero Try.prog 46 (.agg (([.int .i64 0, .int .i64 0, .int .u64 0, .slice none 0 0] : List Value)).toArray) 4 48 := mk_info (by kernel_rfl) (by rfl)
instance : Cell Try.prog 52 := ⟨⟨_, Try.underlying52, rfl⟩, ex_size (by kernel_rfl)⟩
instance : IsT Try.prog 52 (.pointer 55) := ⟨Try.underlying52⟩
instance : Zero Try.prog 52 (.pointer none) 1 8 := mk_info (by kernel_rfl) (by rfl)
instance : Cell Try.prog 53 := ⟨⟨_, Try.underlying53, rfl⟩, ex_size (by kernel_rfl)⟩
instance : IsT Try.prog 53 (.slice 78) := ⟨Try.underlying53⟩
instance : SliceT Try.prog 53 78 5 := mk_slice Try.underlying53 (by kernel_rfl)
instance : Zero Try.prog 53 (.slice none 0 0) 1 24 := mk_info (by kernel_rfl) (by rfl)
instance : Agg Try.prog 54 4 := ⟨⟨_, Try.underlying54, rfl⟩, ex_size (by kernel_rfl)⟩
instance : StructT Try.prog 54 [(0, 1), (1, 1), (2, 1), (3, 1)] (([.pointer none, .int .i64 0, .slice none 0 0, .int .i64 0] : List Value)) := mk_struct (z := .agg (([.pointer none, .int .i64 0, .slice none 0 0, .int .i64 0] : List Value)).toArray) (by kernel_rfl) rfl Try.underlying54 (by kernel_rfl)
instance : FieldOff Try.prog 54 0 0 := mk_fieldOff (k := 1) Try.underlying54 rfl rfl (by kernel_rfl) rfl
instance : FieldCell Try.prog 54 0 0 := ⟨_, _, _, Try.underlying54, rfl, rfl, Try.underlying24, rfl⟩
instance : FieldOff Try.prog 54 1 1 := mk_fieldOff (k := 1) Try.underlying54 rfl rfl (by kernel_rfl) rfl
instance : FieldCell Try.prog 54 1 1 := ⟨_, _, _, Try.underlying54, rfl, rfl, Try.underlying3, rfl⟩
instance : FieldOff Try.prog 54 2 2 := mk_fieldOff (k := 1) Try.underlying54 rfl rfl (by kernel_rfl) rfl
instance : FieldCell Try.prog 54 2 2 := ⟨_, _, _, Try.underlying54, rfl, rfl, Try.underlying53, rfl⟩
instance : FieldOff Try.prog 54 3 3 := mk_fieldOff (k := 1) Try.underlying54 rfl rfl (by kernel_rfl) rfl
instance : FieldCell Try.prog 54 3 3 := ⟨_, _, _, Try.underlying54, rfl, rfl, Try.underlying3, rfl⟩
instance : Zero Try.prog 54 (.agg (([.pointer none, .int .i64 0, .slice none 0 0, .int .i64 0] : List Value)).toArray) 4 48 := mk_info (by kernel_rfl) (by rfl)
instance : Agg Try.prog 55 4 := ⟨⟨_, Try.underlying55, rfl⟩, ex_size (by kernel_rfl)⟩
instance : StructT Try.prog 55 [(0, 1), (1, 1), (2, 1), (3, 1)] (([.pointer none, .int .i64 0, .slice none 0 0, .int .i64 0] : List Value)) := mk_struct (z := .agg (([.pointer none, .int .i64 0, .slice none 0 0, .int .i64 0] : List Value)).toArray) (by kernel_rfl) rfl Try.underlying55 (by kernel_rfl)
instance : FieldOff Try.prog 55 0 0 := mk_fieldOff (k := 1) Try.underlying55 rfl rfl (by kernel_rfl) rfl
instance : FieldCell Try.prog 55 0 0 := ⟨_, _, _, Try.underlying55, rfl, rfl, Try.underlying24, rfl⟩
instance : FieldOff Try.prog 55 1 1 := mk_fieldOff (k := 1) Try.underlying55 rfl rfl (by kernel_rfl) rfl
instance : FieldCell Try.prog 55 1 1 := ⟨_, _, _, Try.underlying55, rfl, rfl, Try.underlying3, rfl⟩
instance : FieldOff Try.prog 55 2 2 := mk_fieldOff (k := 1) Try.underlying55 rfl rfl (by kernel_rfl) rfl
instance : FieldCell Try.prog 55 2 2 := ⟨_, _, _, Try.underlying55, rfl, rfl, Try.underlying53, rfl⟩
instance : FieldOff Try.prog 55 3 3 := mk_fieldOff (k := 1) Try.underlying55 rfl rfl (by kernel_rfl) rfl
instance : FieldCell Try.prog 55 3 3 := ⟨_, _, _, Try.underlying55, rfl, rfl, Try.underlying3, rfl⟩
instance : Zero Try.prog 55 (.agg (([.pointer none, .int .i64 0, .slice none 0 0, .int .i64 0] : List Value)).toArray) 4 48 := mk_info (by kernel_rfl) (by rfl)
instance : Cell Try.prog 63 := ⟨⟨_, Try.underlying63, rfl⟩, ex_size (by kernel_rfl)⟩
instance : IsT Try.prog 63 (.map 32 67) := ⟨Try.underlying63⟩
instance : Zero Try.prog 63 (.map none) 1 8 := mk_info (by kernel_rfl) (by rfl)
instance : Cell Try.prog 64 := ⟨⟨_, Try.underlying64, rfl⟩, ex_size (by kernel_rfl)⟩
instance : IsT Try.prog 64 (.slice 67) := ⟨Try.underlying64⟩
instance : SliceT Try.prog 64 67 1 := mk_slice Try.underlying64 (by kernel_rfl)
instance : Zero Try.prog 64 (.slice none 0 0) 1 24 := mk_info (by kernel_rfl) (by rfl)
instance : Agg Try.prog 65 5 := ⟨⟨_, Try.underlying65, rfl⟩, ex_size (by kernel_rfl)⟩
instance : StructT Try.prog 65 [(0, 1), (1, 1), (2, 1), (3, 1), (4, 1)] (([.nilIface, .int .i64 0, .slice none 0 0, .map none, .int .i64 0] : List Value)) := mk_struct (z := .agg (([.nilIface, .int .i64 0, .slice none 0 0, .map none, .int .i64 0] : List Value)).toArray) (by kernel_rfl) rfl Try.underlying65 (by kernel_rfl)
instance : FieldOff Try.prog 65 0 0 := mk_fieldOff (k := 1) Try.underlying65 rfl rfl (by kernel_rfl) rfl
instance : FieldCell Try.prog 65 0 0 := ⟨_, _, _, Try.underlying65, rfl, rfl, Try.underlying62, rfl⟩
instance : FieldOff Try.prog 65 1 1 := mk_fieldOff (k := 1) Try.underlying65 rfl rfl (by kernel_rfl) rfl
instance : FieldCell Try.prog 65 1 1 := ⟨_, _, _, Try.underlying65, rfl, rfl, Try.underlying3, rfl⟩
instance : FieldOff Try.prog 65 2 2 := mk_fieldOff (k := 1) Try.underlying65 rfl rfl (by kernel_rfl) rfl
instance : FieldCell Try.prog 65 2 2 := ⟨_, _, _, Try.underlying65, rfl, rfl, Try.underlying64, rfl⟩
instance : FieldOff Try.prog 65 3 3 := mk_fieldOff (k := 1) Try.underlying65 rfl rfl (by kernel_rfl) rfl
instance : FieldCell Try.prog 65 3 3 := ⟨_, _, _, Try.underlying65, rfl, rfl, Try.underlying63, rfl⟩
instance : FieldOff Try.prog 65 4 4 := mk_fieldOff (k := 1) Try.underlying65 rfl rfl (by kernel_rfl) rfl
instance : FieldCell Try.prog 65 4 4 := ⟨_, _, _, Try.underlying65, rfl, rfl, Try.underlying3, rfl⟩
instance : Zero Try.prog 65 (.agg (([.nilIface, .int .i64 0, .slice none 0 0, .map none, .int .i64 0] : List Value)).toArray) 5 64 := mk_info (by kernel_rfl) (by rfl)
instance : Agg Try.prog 66 5 := ⟨⟨_, Try.underlying66, rfl⟩, ex_size (by kernel_rfl)⟩
instance : StructT Try.prog 66 [(0, 1), (1, 1), (2, 1), (3, 1), (4, 1)] (([.nilIface, .int .i64 0, .slice none 0 0, .map none, .int .i64 0] : List Value)) := mk_struct (z := .agg (([.nilIface, .int .i64 0, .slice none 0 0, .map none, .int .i64 0] : List Value)).toArray) (by kernel_rfl) rfl Try.underlying66 (by kernel_rfl)
instance : FieldOff Try.prog 66 0 0 := mk_fieldOff (k := 1) Try.underlying66 rfl rfl (by kernel_rfl) rfl
instance : FieldCell Try.prog 66 0 0 := ⟨_, _, _, Try.underlying66, rfl, rfl, Try.underlying62, rfl⟩
instance : FieldOff Try.prog 66 1 1 := mk_fieldOff (k := 1) Try.underlying66 rfl rfl (by kernel_rfl) rfl
instance : FieldCell Try.prog 66 1 1 := ⟨_, _, _, Try.underlying66, rfl, rfl, Try.underlying3, rfl⟩
instance : FieldOff Try.prog 66 2 2 := mk_fieldOff (k := 1) Try.underlying66 rfl rfl (by kernel_rfl) rfl
instance : FieldCell Try.prog 66 2 2 := ⟨_, _, _, Try.underlying66, rfl, rfl, Try.underlying64, rfl⟩
instance : FieldOff Try.prog 66 3 3 := mk_fieldOff (k := 1) Try.underlying66 rfl rfl (by kernel_rfl) rfl
instance : FieldCell Try.prog 66 3 3 := ⟨_, _, _, Try.underlying66, rfl, rfl, Try.underlying63, rfl⟩
instance : FieldOff Try.prog 66 4 4 := mk_fieldOff (k := 1) Try.underlying66 rfl rfl (by kernel_rfl) rfl
instance : FieldCell Try.prog 66 4 4 := ⟨_, _, _, Try.underlying66, rfl, rfl, Try.underlying3, rfl⟩
instance : Zero Try.prog 66 (.agg (([.nilIface, .int .i64 0, .slice none 0 0, .map none, .int .i64 0] : List Value)).toArray) 5 64 := mk_info (by kernel_rfl) (by rfl)
instance : Cell Try.prog 67 := ⟨⟨_, Try.underlying67, rfl⟩, ex_size (by kernel_rfl)⟩
instance : IsT Try.prog 67 (.pointer 71) := ⟨Try.underlying67⟩
instance : Zero Try.prog 67 (.pointer none) 1 8 := mk_info (by kernel_rfl) (by rfl)
instance : Agg Try.prog 70 5 := ⟨⟨_, Try.underlying70, rfl⟩, ex_size (by kernel_rfl)⟩
instance : StructT Try.prog 70 [(0, 1), (1, 1), (2, 1), (3, 1), (4, 1)] (([.int .u64 0, .slice none 0 0, .bool false, .bool false, .int .i64 0] : List Value)) := mk_struct (z := .agg (([.int .u64 0, .slice none 0 0, .bool false, .bool false, .int .i64 0] : List Value)).toArray) (by kernel_rfl) rfl Try.underlying70 (by kernel_rfl)
instance : FieldOff Try.prog 70 0 0 := mk_fieldOff (k := 1) Try.underlying70 rfl rfl (by kernel_rfl) rfl
instance : FieldCell Try.prog 70 0 0 := ⟨_, _, _, Try.underlying70, rfl, rfl, Try.underlying32, rfl⟩
instance : FieldOff Try.prog 70 1 1 := mk_fieldOff (k := 1) Try.underlying70 rfl rfl (by kernel_rfl) rfl
instance : FieldCell Try.prog 70 1 1 := ⟨_, _, _, Try.underlying70, rfl, rfl, Try.underlying37, rfl⟩
instance : FieldOff Try.prog 70 2 2 := mk_fieldOff (k := 1) Try.underlying70 rfl rfl (by kernel_rfl) rfl
instance : FieldCell Try.prog 70 2 2 := ⟨_, _, _, Try.underlying70, rfl, rfl, Try.underlying4, rfl⟩
instance : FieldOff Try.prog 70 3 3 := mk_fieldOff (k := 1) Try.underlying70 rfl rfl (by kernel_rfl) rfl
instance : FieldCell Try.prog 70 3 3 := ⟨_, _, _, Try.underlying70, rfl, rfl, Try.underlying4, rfl⟩
instance : FieldOff Try.prog 70 4 4 := mk_fieldOff (k := 1) Try.underlying70 rfl rfl (by kernel_rfl) rfl
instance : FieldCell Try.prog 70 4 4 := ⟨_, _, _, Try.underlying70, rfl, rfl, Try.underlying3, rfl⟩
instance : Zero Try.prog 70 (.agg (([.int .u64 0, .slice none 0 0, .bool false, .bool false, .int .i64 0] : List Value)).toArray) 5 48 := mk_info (by kernel_rfl) (by rfl)
instance : Agg Try.prog 71 5 := ⟨⟨_, Try.underlying71, rfl⟩, ex_size (by kernel_rfl)⟩
instance : StructT Try.prog 71 [(0, 1), (1, 1), (2, 1), (3, 1), (4, 1)] (([.int .u64 0, .slice none 0 0, .bool false, .bool false, .int .i64 0] : List Value)) := mk_struct (z := .agg (([.int .u64 0, .slice none 0 0, .bool false, .bool false, .int .i64 0] : List Value)).toArray) (by kernel_rfl) rfl Try.underlying71 (by kernel_rfl)
instance : FieldOff Try.prog 71 0 0 := mk_fieldOff (k := 1) Try.underlying71 rfl rfl (by kernel_rfl) rfl
instance : FieldCell Try.prog 71 0 0 := ⟨_, _, _, Try.underlying71, rfl, rfl, Try.underlying32, rfl⟩
instance : FieldOff Try.prog 71 1 1 := mk_fieldOff (k := 1) Try.underlying71 rfl rfl (by kernel_rfl) rfl
instance : FieldCell Try.prog 71 1 1 := ⟨_, _, _, Try.underlying71, rfl, rfl, Try.underlying37, rfl⟩
instance : FieldOff Try.prog 71 2 2 := mk_fieldOff (k := 1) Try.underlying71 rfl rfl (by kernel_rfl) rfl
instance : FieldCell Try.prog 71 2 2 := ⟨_, _, _, Try.underlying71, rfl, rfl, Try.underlying4, rfl⟩
instance : FieldOff Try.prog 71 3 3 := mk_fieldOff (k := 1) Try.underlying71 rfl rfl (by kernel_rfl) rfl
instance : FieldCell Try.prog 71 3 3 := ⟨_, _, _, Try.underlying71, rfl, rfl, Try.underlying4, rfl⟩
instance : FieldOff Try.prog 71 4 4 := mk_fieldOff (k := 1) Try.underlying71 rfl rfl (by kernel_rfl) rfl
instance : FieldCell Try.prog 71 4 4 := ⟨_, _, _, Try.underlying71, rfl, rfl, Try.underlying3, rfl⟩
instance : Zero Try.prog 71 (.agg (([.int .u64 0, .slice none 0 0, .bool false, .bool false, .int .i64 0] : List Value)).toArray) 5 48 := mk_info (by kernel_rfl) (by rfl)
instance : Cell Try.prog 76 := ⟨⟨_, Try.underlying76, rfl⟩, ex_size (by kernel_rfl)⟩
instance : IsT Try.prog 76 (.pointer 78) := ⟨Try.underlying76⟩
instance : Zero Try.prog 76 (.pointer none) 1 8 := mk_info (by kernel_rfl) (by rfl)
instance : Agg Try.prog 77 5 := ⟨⟨_, Try.underlying77, rfl⟩, ex_size (by kernel_rfl)⟩
instance : StructT Try.prog 77 [(0, 1), (1, 1), (2, 1), (3, 1), (4, 1)] (([.int .u64 0, .slice none 0 0, .bool false, .int .i64 0, .bool false] : List Value)) := mk_struct (z := .agg (([.int .u64 0, .slice none 0 0, .bool false, .int .i64 0, .bool false] : List Value)).toArray) (by kernel_rfl) rfl Try.underlying77 (by kernel_rfl)
instance : FieldOff Try.prog 77 0 0 := mk_fieldOff (k := 1) Try.underlying77 rfl rfl (by kernel_rfl) rfl
instance : FieldCell Try.prog 77 0 0 := ⟨_, _, _, Try.underlying77, rfl, rfl, Try.underlying32, rfl⟩
instance : FieldOff Try.prog 77 1 1 := mk_fieldOff (k := 1) Try.underlying77 rfl rfl (by kernel_rfl) rfl
instance : FieldCell Try.prog 77 1 1 := ⟨_, _, _, Try.underlying77, rfl, rfl, Try.underlying37, rfl⟩
instance : FieldOff Try.prog 77 2 2 := mk_fieldOff (k := 1) Try.underlying77 rfl rfl (by kernel_rfl) rfl
instance : FieldCell Try.prog 77 2 2 := ⟨_, _, _, Try.underlying77, rfl, rfl, Try.underlying4, rfl⟩
instance : FieldOff Try.prog 77 3 3 := mk_fieldOff (k := 1) Try.underlying77 rfl rfl (by kernel_rfl) rfl
instance : FieldCell Try.prog 77 3 3 := ⟨_, _, _, Try.underlying77, rfl, rfl, Try.underlying3, rfl⟩
instance : FieldOff Try.prog 77 4 4 := mk_fieldOff (k := 1) Try.underlying77 rfl rfl (by kernel_rfl) rfl
instance : FieldCell Try.prog 77 4 4 := ⟨_, _, _, Try.underlying77, rfl, rfl, Try.underlying4, rfl⟩
instance : Zero Try.prog 77 (.agg (([.int .u64 0, .slice none 0 0, .bool false, .int .i64 0, .bool false] : List Value)).toArray) 5 56 := mk_info (by kernel_rfl) (by rfl)
instance : Agg Try.prog 78 5 := ⟨⟨_, Try.underlying78, rfl⟩, ex_size (by kernel_rfl)⟩
instance : StructT Try.prog 78 [(0, 1), (1, 1), (2, 1), (3, 1), (4, 1)] (([.int .u64 0, .slice none 0 0, .bool false, .int .i64 0, .bool false] : List Value)) := mk_struct (z := .agg (([.int .u64 0, .slice none 0 0, .bool false, .int .i64 0, .bool false] : List Value)).toArray) (by kernel_rfl) rfl Try.underlying78 (by kernel_rfl)
instance : FieldOff Try.prog 78 0 0 := mk_fieldOff (k := 1) Try.underlying78 rfl rfl (by kernel_rfl) rfl
instance : FieldCell Try.prog 78 0 0 := ⟨_, _, _, Try.underlying78, rfl, rfl, Try.underlying32, rfl⟩
instance : FieldOff Try.prog 78 1 1 := mk_fieldOff (k := 1) Try.underlying78 rfl rfl (by kernel_rfl) rfl
instance : FieldCell Try.prog 78 1 1 := ⟨_, _, _, Try.underlying78, rfl, rfl, Try.underlying37, rfl⟩
instance : FieldOff Try.prog 78 2 2 := mk_fieldOff (k := 1) Try.underlying78 rfl rfl (by kernel_rfl) rfl
instance : FieldCell Try.prog 78 2 2 := ⟨_, _, _, Try.underlying78, rfl, rfl, Try.underlying4, rfl⟩
instance : FieldOff Try.prog 78 3 3 := mk_fieldOff (k := 1) Try.underlying78 rfl rfl (by kernel_rfl) rfl
instance : FieldCell Try.prog 78 3 3 := ⟨_, _, _, Try.underlying78, rfl, rfl, Try.underlying3, rfl⟩
instance : FieldOff Try.prog 78 4 4 := mk_fieldOff (k := 1) Try.underlying78 rfl rfl (by kernel_rfl) rfl
instance : FieldCell Try.prog 78 4 4 := ⟨_, _, _, Try.underlying78, rfl, rfl, Try.underlying4, rfl⟩
instance : Zero Try.prog 78 (.agg (([.int .u64 0, .slice none 0 0, .bool false, .int .i64 0, .bool false] : List Value)).toArray) 5 56 := mk_info (by kernel_rfl) (by rfl)
instance : Cell Try.prog 83 := ⟨⟨_, Try.underlying83, rfl⟩, ex_size (by kernel_rfl)⟩
instance : IsT Try.prog 83 (.int .u64) := ⟨Try.underlying83⟩
instance : Zero Try.prog 83 (.int .u64 0) 1 8 := mk_info (by kernel_rfl) (by rfl)
instance : Cell Try.prog 86 := ⟨⟨_, Try.underlying86, rfl⟩, ex_size (by kernel_rfl)⟩
instance : IsT Try.prog 86 (.int .i64) := ⟨Try.underlying86⟩
instance : Zero Try.prog 86 (.int .i64 0) 1 8 := mk_info (by kernel_rfl) (by rfl)
instance : Cell Try.prog 95 := ⟨⟨_, Try.underlying95, rfl⟩, ex_size (by kernel_rfl)⟩
instance : IsT Try.prog 95 (.int .u32) := ⟨Try.underlying95⟩
instance : Zero Try.prog 95 (.int .u32 0) 1 4 := mk_info (by kernel_rfl) (by rfl)
instance : Cell Try.prog 96 := ⟨⟨_, Try.underlying96, rfl⟩, ex_size (by kernel_rfl)⟩
instance : IsT Try.prog 96 (.int .u64) := ⟨Try.underlying96⟩
instance : Zero Try.prog 96 (.int .u64 0) 1 8 := mk_info (by kernel_rfl) (by rfl)
instance : Cell Try.prog 100 := ⟨⟨_, Try.underlying100, rfl⟩, ex_size (by kernel_rfl)⟩
instance : IsT Try.prog 100 (.pointer 3) := ⟨Try.underlying100⟩
instance : Zero Try.prog 100 (.pointer none) 1 8 := mk_info (by kernel_rfl) (by rfl)
instance : Cell Try.prog 103 := ⟨⟨_, Try.underlying103, rfl⟩, ex_size (by kernel_rfl)⟩
instance : IsT Try.prog 103 (.pointer 96) := ⟨Try.underlying103⟩
instance : Zero Try.prog 103 (.pointer none) 1 8 := mk_info (by kernel_rfl) (by rfl)
instance : Cell Try.prog 115 := ⟨⟨_, Try.underlying115, rfl⟩, ex_size (by kernel_rfl)⟩
instance : IsT Try.prog 115 (.pointer 5) := ⟨Try.underlying115⟩
instance : Zero Try.prog 115 (.pointer none) 1 8 := mk_info (by kernel_rfl) (by rfl)
instance : IsFn Try.prog 3 := ⟨_, Try.func3, rfl, rfl⟩
instance : IsFn Try.prog 4 := ⟨_, Try.func4, rfl, rfl⟩
instance : IsFn Try.prog 5 := ⟨_, Try.func5, rfl, rfl⟩
instance : IsFn Try.prog 6 := ⟨_, Try.func6, rfl, rfl⟩
instance : IsFn Try.prog 7 := ⟨_, Try.func7, rfl, rfl⟩
instance : IsFn Try.prog 8 := ⟨_, Try.func8, rfl, rfl⟩
instance : IsFn Try.prog 9 := ⟨_, Try.func9, rfl, rfl⟩
instance : IsFn Try.prog 10 := ⟨_, Try.func10, rfl, rfl⟩
instance : IsFn Try.prog 11 := ⟨_, Try.func11, rfl, rfl⟩
instance : IsFn Try.prog 12 := ⟨_, Try.func12, rfl, rfl⟩
instance : IsFn Try.prog 13 := ⟨_, Try.func13, rfl, rfl⟩
instance : IsFn Try.prog 14 := ⟨_, Try.func14, rfl, rfl⟩
instance : IsFn Try.prog 15 := ⟨_, Try.func15, rfl, rfl⟩
instance : IsFn Try.prog 16 := ⟨_, Try.func16, rfl, rfl⟩
instance : IsFn Try.prog 17 := ⟨_, Try.func17, rfl, rfl⟩
instance : IsFn Try.prog 18 := ⟨_, Try.func18, rfl, rfl⟩
instance : IsFn Try.prog 19 := ⟨_, Try.func19, rfl, rfl⟩
instance : IsFn Try.prog 20 := ⟨_, Try.func20, rfl, rfl⟩
instance : IsFn Try.prog 21 := ⟨_, Try.func21, rfl, rfl⟩
instance : IsFn Try.prog 22 := ⟨_, Try.func22, rfl, rfl⟩
instance : IsFn Try.prog 23 := ⟨_, Try.func23, rfl, rfl⟩
instance : IsFn Try.prog 24 := ⟨_, Try.func24, rfl, rfl⟩
instance : IsFn Try.prog 25 := ⟨_, Try.func25, rfl, rfl⟩
instance : IsFn Try.prog 26 := ⟨_, Try.func26, rfl, rfl⟩
instance : IsFn Try.prog 27 := ⟨_, Try.func27, rfl, rfl⟩
instance : IsFn Try.prog 28 := ⟨_, Try.func28, rfl, rfl⟩
instance : IsFn Try.prog 29 := ⟨_, Try.func29, rfl, rfl⟩
instance : IsFn Try.prog 30 := ⟨_, Try.func30, rfl, rfl⟩
instance : IsFn Try.prog 31 := ⟨_, Try.func31, rfl, rfl⟩
instance : IsFn Try.prog 32 := ⟨_, Try.func32, rfl, rfl⟩
instance : IsFn Try.prog 33 := ⟨_, Try.func33, rfl, rfl⟩
instance : IsFn Try.prog 34 := ⟨_, Try.func34, rfl, rfl⟩
instance : IsFn Try.prog 36 := ⟨_, Try.func36, rfl, rfl⟩
instance : IsFn Try.prog 38 := ⟨_, Try.func38, rfl, rfl⟩
instance : IsFn Try.prog 39 := ⟨_, Try.func39, rfl, rfl⟩
instance : IsFn Try.prog 40 := ⟨_, Try.func40, rfl, rfl⟩
instance : IsFn Try.prog 41 := ⟨_, Try.func41, rfl, rfl⟩
instance : IsFn Try.prog 42 := ⟨_, Try.func42, rfl, rfl⟩
instance : IsFn Try.prog 43 := ⟨_, Try.func43, rfl, rfl⟩
instance : IsFn Try.prog 44 := ⟨_, Try.func44, rfl, rfl⟩
instance : IsFn Try.prog 45 := ⟨_, Try.func45, rfl, rfl⟩
instance : IsFn Try.prog 46 := ⟨_, Try.func46, rfl, rfl⟩
instance : IsFn Try.prog 47 := ⟨_, Try.func47, rfl, rfl⟩
instance : IsFn Try.prog 50 := ⟨_, Try.func50, rfl, rfl⟩
instance : BS Try.prog := ⟨Try.underlying37, Try.underlying5, Try.underlying9⟩
end Go.Proofs.Ytclehoaeppbmpaa
