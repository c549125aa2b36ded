/- The seat's types and functions as instances: written by wip/tygen.py. -/
import Derived.Test.YtdehkdmnddflhaaK2
import Derived.Test.YtdehkdmnddflhaaOP2
import Derived.Test.YtdehkdmnddflhaaDR2
import Derived.Test.YtdehkdmnddflhaaProg
import Derived.KernelRfl
namespace Go.Proofs.Ytdehkdmnddflhaa
set_option linter.unusedVariables false
set_option linter.unusedSectionVars false
open Go Go.Proofs
section
variable {P : Program} {t s f e sz by_ off len : Nat}
theorem mk_info {z : Value} (h : (P.info? t).map (fun i => (i.zero, i.size, i.bytes)) = some (some z, sz, by_)) (hz : z.cells.size = sz) : Zero P t z sz by_ := by
  cases hi : P.info? t with
  | none => simp [hi] at h
  | some i => simp [hi] at h; exact ⟨i, hi, h.1, h.2.1, h.2.2, hz⟩
theorem ex_size (h : (P.info? t).map (·.size) = some sz) : ∃ i, P.info? t = some i ∧ i.size = sz := by
  cases hi : P.info? t with
  | none => simp [hi] at h
  | some i => simp [hi] at h; exact ⟨i, rfl, h⟩
theorem mk_fieldOff {fs : Array Field} {fd : Field} {k : Nat} (h1 : P.underlying s = some (.struct fs)) (h2 : fs[f]? = some fd) (h3 : fd.offset = off) (h4 : (P.info? fd.type).map (·.size) = some k) (hk : Nat.ble 1 k = true) : FieldOff P s f off := by
  obtain ⟨i, h5, h6⟩ := ex_size h4
  exact ⟨fs, fd, i, h1, h2, h3, h5, by rw [h6]; have : 1 ≤ k := Nat.le_of_ble_eq_true hk; omega⟩
theorem mk_slice (h1 : P.underlying t = some (.slice e)) (h2 : (P.info? e).map (·.size) = some sz) : SliceT P t e sz := by
  obtain ⟨i, h5, h6⟩ := ex_size h2
  exact ⟨i, h1, h5, h6⟩
theorem mk_array (h1 : P.underlying t = some (.array len e)) (h2 : (P.info? e).map (·.size) = some sz) : ArrayT P t len e sz := by
  obtain ⟨i, h5, h6⟩ := ex_size h2
  exact ⟨i, h1, h5, h6⟩
theorem mk_struct {z : Value} {fs : Array Field} {places : List (Nat × Nat)} {zs : List Value} (h1 : (P.info? t).map (·.zero) = some (some z)) (h2 : z.cells.toList = zs) (h3 : P.underlying t = some (.struct fs)) (h4 : fs.toList.mapM (fun f => (P.info? f.type).map fun i => (f.offset, i.size)) = some places) : StructT P t places zs := by
  cases hi : P.info? t with
  | none => simp [hi] at h1
  | some it => simp [hi] at h1; exact ⟨it, z, fs, hi, h1, h2, h3, h4⟩
theorem mk_fieldAgg {fs : Array Field} {fd : Field} {d : TypeDesc} (h1 : P.underlying s = some (.struct fs)) (h2 : fs[f]? = some fd) (h3 : fd.offset = off) (h4 : P.underlying fd.type = some d) (h5 : aggD d = true) (h6 : (P.info? fd.type).map (·.size) = some sz) : FieldAgg P s f off sz := by
  obtain ⟨i, h7, h8⟩ := ex_size h6
  exact ⟨fs, fd, d, i, h1, h2, h3, h4, h5, h7, h8⟩
end
instance : Cell Try.prog 2 := ⟨⟨_, Try.underlying2, rfl⟩, ex_size (by kernel_rfl)⟩
instance : IsT Try.prog 2 (.int .i64) := ⟨Try.underlying2⟩
instance : Zero Try.prog 2 (.int .i64 0) 1 8 := mk_info (by kernel_rfl) (by rfl)
instance : Cell Try.prog 3 := ⟨⟨_, Try.underlying3, rfl⟩, ex_size (by kernel_rfl)⟩
instance : IsT Try.prog 3 (.int .i64) := ⟨Try.underlying3⟩
instance : Zero Try.prog 3 (.int .i64 0) 1 8 := mk_info (by kernel_rfl) (by rfl)
instance : Cell Try.prog 4 := ⟨⟨_, Try.underlying4, rfl⟩, ex_size (by kernel_rfl)⟩
instance : IsT Try.prog 4 (.bool) := ⟨Try.underlying4⟩
instance : Zero Try.prog 4 (.bool false) 1 1 := mk_info (by kernel_rfl) (by rfl)
instance : Cell Try.prog 5 := ⟨⟨_, Try.underlying5, rfl⟩, ex_size (by kernel_rfl)⟩
instance : IsT Try.prog 5 (.int .u8) := ⟨Try.underlying5⟩
instance : Zero Try.prog 5 (.int .u8 0) 1 1 := mk_info (by kernel_rfl) (by rfl)
instance : Cell Try.prog 9 := ⟨⟨_, Try.underlying9, rfl⟩, ex_size (by kernel_rfl)⟩
instance : IsT Try.prog 9 (.string) := ⟨Try.underlying9⟩
instance : Zero Try.prog 9 (.string ByteArray.empty) 1 16 := mk_info (by kernel_rfl) (by rfl)
instance : Cell Try.prog 12 := ⟨⟨_, Try.underlying12, rfl⟩, ex_size (by kernel_rfl)⟩
instance : IsT Try.prog 12 (.int .u64) := ⟨Try.underlying12⟩
instance : Zero Try.prog 12 (.int .u64 0) 1 8 := mk_info (by kernel_rfl) (by rfl)
instance : Agg Try.prog 13 2 := ⟨⟨_, Try.underlying13, rfl⟩, ex_size (by kernel_rfl)⟩
instance : StructT Try.prog 13 [(0, 1), (1, 1)] (([.string ByteArray.empty, .int .u64 0] : List Value)) := mk_struct (z := .agg (([.string ByteArray.empty, .int .u64 0] : List Value)).toArray) (by kernel_rfl) rfl Try.underlying13 (by kernel_rfl)
instance : FieldOff Try.prog 13 0 0 := mk_fieldOff (k := 1) Try.underlying13 rfl rfl (by kernel_rfl) rfl
instance : FieldCell Try.prog 13 0 0 := ⟨_, _, _, Try.underlying13, rfl, rfl, Try.underlying9, rfl⟩
instance : FieldOff Try.prog 13 1 1 := mk_fieldOff (k := 1) Try.underlying13 rfl rfl (by kernel_rfl) rfl
instance : FieldCell Try.prog 13 1 1 := ⟨_, _, _, Try.underlying13, rfl, rfl, Try.underlying12, rfl⟩
instance : Zero Try.prog 13 (.agg (([.string ByteArray.empty, .int .u64 0] : List Value)).toArray) 2 24 := mk_info (by kernel_rfl) (by rfl)
instance : Cell Try.prog 21 := ⟨⟨_, Try.underlying21, rfl⟩, ex_size (by kernel_rfl)⟩
instance : IsT Try.prog 21 (.int .i32) := ⟨Try.underlying21⟩
instance : Zero Try.prog 21 (.int .i32 0) 1 4 := mk_info (by kernel_rfl) (by rfl)
instance : Cell Try.prog 22 := ⟨⟨_, Try.underlying22, rfl⟩, ex_size (by kernel_rfl)⟩
instance : IsT Try.prog 22 (.slice 34) := ⟨Try.underlying22⟩
instance : SliceT Try.prog 22 34 1 := mk_slice Try.underlying22 (by kernel_rfl)
instance : Zero Try.prog 22 (.slice none 0 0) 1 24 := mk_info (by kernel_rfl) (by rfl)
instance : Cell Try.prog 24 := ⟨⟨_, Try.underlying24, rfl⟩, ex_size (by kernel_rfl)⟩
instance : IsT Try.prog 24 (.pointer 79) := ⟨Try.underlying24⟩
instance : Zero Try.prog 24 (.pointer none) 1 8 := mk_info (by kernel_rfl) (by rfl)
instance : Cell Try.prog 25 := ⟨⟨_, Try.underlying25, rfl⟩, ex_size (by kernel_rfl)⟩
instance : IsT Try.prog 25 (.int .i64) := ⟨Try.underlying25⟩
instance : Zero Try.prog 25 (.int .i64 0) 1 8 := mk_info (by kernel_rfl) (by rfl)
instance : Cell Try.prog 28 := ⟨⟨_, Try.underlying28, rfl⟩, ex_size (by kernel_rfl)⟩
instance : IsT Try.prog 28 (.pointer 81) := ⟨Try.underlying28⟩
instance : Zero Try.prog 28 (.pointer none) 1 8 := mk_info (by kernel_rfl) (by rfl)
instance : Cell Try.prog 29 := ⟨⟨_, Try.underlying29, rfl⟩, ex_size (by kernel_rfl)⟩
instance : IsT Try.prog 29 (.slice 38) := ⟨Try.underlying29⟩
instance : SliceT Try.prog 29 38 3 := mk_slice Try.underlying29 (by kernel_rfl)
instance : Zero Try.prog 29 (.slice none 0 0) 1 24 := mk_info (by kernel_rfl) (by rfl)
instance : Cell Try.prog 32 := ⟨⟨_, Try.underlying32, rfl⟩, ex_size (by kernel_rfl)⟩
instance : IsT Try.prog 32 (.int .u32) := ⟨Try.underlying32⟩
instance : Zero Try.prog 32 (.int .u32 0) 1 4 := mk_info (by kernel_rfl) (by rfl)
instance : Cell Try.prog 33 := ⟨⟨_, Try.underlying33, rfl⟩, ex_size (by kernel_rfl)⟩
instance : IsT Try.prog 33 (.int .u64) := ⟨Try.underlying33⟩
instance : Zero Try.prog 33 (.int .u64 0) 1 8 := mk_info (by kernel_rfl) (by rfl)
instance : Cell Try.prog 34 := ⟨⟨_, Try.underlying34, rfl⟩, ex_size (by kernel_rfl)⟩
instance : IsT Try.prog 34 (.slice 5) := ⟨Try.underlying34⟩
instance : SliceT Try.prog 34 5 1 := mk_slice Try.underlying34 (by kernel_rfl)
instance : Zero Try.prog 34 (.slice none 0 0) 1 24 := mk_info (by kernel_rfl) (by rfl)
instance : Agg Try.prog 37 3 := ⟨⟨_, Try.underlying37, rfl⟩, ex_size (by kernel_rfl)⟩
instance : StructT Try.prog 37 [(0, 1), (1, 1), (2, 1)] (([.int .u64 0, .int .u64 0, .slice none 0 0] : List Value)) := mk_struct (z := .agg (([.int .u64 0, .int .u64 0, .slice none 0 0] : List Value)).toArray) (by kernel_rfl) rfl Try.underlying37 (by kernel_rfl)
instance : FieldOff Try.prog 37 0 0 := mk_fieldOff (k := 1) Try.underlying37 rfl rfl (by kernel_rfl) rfl
instance : FieldCell Try.prog 37 0 0 := ⟨_, _, _, Try.underlying37, rfl, rfl, Try.underlying33, rfl⟩
instance : FieldOff Try.prog 37 1 1 := mk_fieldOff (k := 1) Try.underlying37 rfl rfl (by kernel_rfl) rfl
instance : FieldCell Try.prog 37 1 1 := ⟨_, _, _, Try.underlying37, rfl, rfl, Try.underlying33, rfl⟩
instance : FieldOff Try.prog 37 2 2 := mk_fieldOff (k := 1) Try.underlying37 rfl rfl (by kernel_rfl) rfl
instance : FieldCell Try.prog 37 2 2 := ⟨_, _, _, Try.underlying37, rfl, rfl, Try.underlying34, rfl⟩
instance : Zero Try.prog 37 (.agg (([.int .u64 0, .int .u64 0, .slice none 0 0] : List Value)).toArray) 3 40 := mk_info (by kernel_rfl) (by rfl)
instance : Agg Try.prog 38 3 := ⟨⟨_, Try.underlying38, rfl⟩, ex_size (by kernel_rfl)⟩
instance : StructT Try.prog 38 [(0, 1), (1, 1), (2, 1)] (([.int .u64 0, .int .u64 0, .slice none 0 0] : List Value)) := mk_struct (z := .agg (([.int .u64 0, .int .u64 0, .slice none 0 0] : List Value)).toArray) (by kernel_rfl) rfl Try.underlying38 (by kernel_rfl)
instance : FieldOff Try.prog 38 0 0 := mk_fieldOff (k := 1) Try.underlying38 rfl rfl (by kernel_rfl) rfl
instance : FieldCell Try.prog 38 0 0 := ⟨_, _, _, Try.underlying38, rfl, rfl, Try.underlying33, rfl⟩
instance : FieldOff Try.prog 38 1 1 := mk_fieldOff (k := 1) Try.underlying38 rfl rfl (by kernel_rfl) rfl
instance : FieldCell Try.prog 38 1 1 := ⟨_, _, _, Try.underlying38, rfl, rfl, Try.underlying33, rfl⟩
instance : FieldOff Try.prog 38 2 2 := mk_fieldOff (k := 1) Try.underlying38 rfl rfl (by kernel_rfl) rfl
instance : FieldCell Try.prog 38 2 2 := ⟨_, _, _, Try.underlying38, rfl, rfl, Try.underlying34, rfl⟩
instance : Zero Try.prog 38 (.agg (([.int .u64 0, .int .u64 0, .slice none 0 0] : List Value)).toArray) 3 40 := mk_info (by kernel_rfl) (by rfl)
instance : Cell Try.prog 40 := ⟨⟨_, Try.underlying40, rfl⟩, ex_size (by kernel_rfl)⟩
instance : IsT Try.prog 40 (.slice 3) := ⟨Try.underlying40⟩
instance : SliceT Try.prog 40 3 1 := mk_slice Try.underlying40 (by kernel_rfl)
instance : Zero Try.prog 40 (.slice none 0 0) 1 24 := mk_info (by kernel_rfl) (by rfl)
instance : Cell Try.prog 41 := ⟨⟨_, Try.underlying41, rfl⟩, ex_size (by kernel_rfl)⟩
instance : IsT Try.prog 41 (.slice 44) := ⟨Try.underlying41⟩
instance : SliceT Try.prog 41 44 2 := mk_slice Try.underlying41 (by kernel_rfl)
instance : Zero Try.prog 41 (.slice none 0 0) 1 24 := mk_info (by kernel_rfl) (by rfl)
instance : Agg Try.prog 43 2 := ⟨⟨_, Try.underlying43, rfl⟩, ex_size (by kernel_rfl)⟩
instance : StructT Try.prog 43 [(0, 1), (1, 1)] (([.int .u64 0, .slice none 0 0] : List Value)) := mk_struct (z := .agg (([.int .u64 0, .slice none 0 0] : List Value)).toArray) (by kernel_rfl) rfl Try.underlying43 (by kernel_rfl)
instance : FieldOff Try.prog 43 0 0 := mk_fieldOff (k := 1) Try.underlying43 rfl rfl (by kernel_rfl) rfl
instance : FieldCell Try.prog 43 0 0 := ⟨_, _, _, Try.underlying43, rfl, rfl, Try.underlying33, rfl⟩
instance : FieldOff Try.prog 43 1 1 := mk_fieldOff (k := 1) Try.underlying43 rfl rfl (by kernel_rfl) rfl
instance : FieldCell Try.prog 43 1 1 := ⟨_, _, _, Try.underlying43, rfl, rfl, Try.underlying34, rfl⟩
instance : Zero Try.prog 43 (.agg (([.int .u64 0, .slice none 0 0] : List Value)).toArray) 2 32 := mk_info (by kernel_rfl) (by rfl)
instance : Agg Try.prog 44 2 := ⟨⟨_, Try.underlying44, rfl⟩, ex_size (by kernel_rfl)⟩
instance : StructT Try.prog 44 [(0, 1), (1, 1)] (([.int .u64 0, .slice none 0 0] : List Value)) := mk_struct (z := .agg (([.int .u64 0, .slice none 0 0] : List Value)).toArray) (by kernel_rfl) rfl Try.underlying44 (by kernel_rfl)
instance : FieldOff Try.prog 44 0 0 := mk_fieldOff (k := 1) Try.underlying44 rfl rfl (by kernel_rfl) rfl
instance : FieldCell Try.prog 44 0 0 := ⟨_, _, _, Try.underlying44, rfl, rfl, Try.underlying33, rfl⟩
instance : FieldOff Try.prog 44 1 1 := mk_fieldOff (k := 1) Try.underlying44 rfl rfl (by kernel_rfl) rfl
instance : FieldCell Try.prog 44 1 1 := ⟨_, _, _, Try.underlying44, rfl, rfl, Try.underlying34, rfl⟩
instance : Zero Try.prog 44 (.agg (([.int .u64 0, .slice none 0 0] : List Value)).toArray) 2 32 := mk_info (by kernel_rfl) (by rfl)
instance : Cell Try.prog 51 := ⟨⟨_, Try.underlying51, rfl⟩, ex_size (by kernel_rfl)⟩
instance : IsT Try.prog 51 (.slice 53) := ⟨Try.underlying51⟩
instance : SliceT Try.prog 51 53 5 := mk_slice Try.underlying51 (by kernel_rfl)
instance : Zero Try.prog 51 (.slice none 0 0) 1 24 := mk_info (by kernel_rfl) (by rfl)
instance : Agg Try.prog 52 5 := ⟨⟨_, Try.underlying52, rfl⟩, ex_size (by kernel_rfl)⟩
instance : StructT Try.prog 52 [(0, 1), (1, 1), (2, 1), (3, 1), (4, 1)] (([.int .i64 0, .int .i64 0, .int .u32 0, .slice none 0 0, .slice none 0 0] : List Value)) := mk_struct (z := .agg (([.int .i64 0, .int .i64 0, .int .u32 0, .slice none 0 0, .slice none 0 0] : List Value)).toArray) (by kernel_rfl) rfl Try.underlying52 (by kernel_rfl)
instance : FieldOff Try.prog 52 0 0 := mk_fieldOff (k := 1) Try.underlying52 rfl rfl (by kernel_rfl) rfl
instance : FieldCell Try.prog 52 0 0 := ⟨_, _, _, Try.underlying52, rfl, rfl, Try.underlying3, rfl⟩
instance : FieldOff Try.prog 52 1 1 := mk_fieldOff (k := 1) Try.underlying52 rfl rfl (by kernel_rfl) rfl
instance : FieldCell Try.prog 52 1 1 := ⟨_, _, _, Try.underlying52, rfl, rfl, Try.underlying3, rfl⟩
instance : FieldOff Try.prog 52 2 2 := mk_fieldOff (k := 1) Try.underlying52 rfl rfl (by kernel_rfl) rfl
instance : FieldCell Try.prog 52 2 2 := ⟨_, _, _, Try.underlying52, rfl, rfl, Try.underlying32, rfl⟩
instance : FieldOff Try.prog 52 3 3 := mk_fieldOff (k := 1) Try.underlying52 rfl rfl (by kernel_rfl) rfl
instance : FieldCell Try.prog 52 3 3 := ⟨_, _, _, Try.underlying52, rfl, rfl, Try.underlying34, rfl⟩
instance : FieldOff Try.prog 52 4 4 := mk_fieldOff (k := 1) Try.underlying52 rfl rfl (by kernel_rfl) rfl
instance : FieldCell Try.prog 52 4 4 := ⟨_, _, _, Try.underlying52, rfl, rfl, Try.underlying40, rfl⟩
instance : Zero Try.prog 52 (.agg (([.int .i64 0, .int .i64 0, .int .u32 0, .slice none 0 0, .slice none 0 0] : List Value)).toArray) 5 72 := mk_info (by kernel_rfl) (by rfl)
instance : Agg Try.prog 53 5 := ⟨⟨_, Try.underlying53, rfl⟩, ex_size (by kernel_rfl)⟩
instance : StructT Try.prog 53 [(0, 1), (1, 1), (2, 1), (3, 1), (4, 1)] (([.int .i64 0, .int .i64 0, .int .u32 0, .slice none 0 0, .slice none 0 0] : List Value)) := mk_struct (z := .agg (([.int .i64 0, .int .i64 0, .int .u32 0, .slice none 0 0, .slice none 0 0] : List Value)).toArray) (by kernel_rfl) rfl Try.underlying53 (by kernel_rfl)
instance : FieldOff Try.prog 53 0 0 := mk_fieldOff (k := 1) Try.underlying53 rfl rfl (by kernel_rfl) rfl
instance : FieldCell Try.prog 53 0 0 := ⟨_, _, _, Try.underlying53, rfl, rfl, Try.underlying3, rfl⟩
instance : FieldOff Try.prog 53 1 1 := mk_fieldOff (k := 1) Try.underlying53 rfl rfl (by kernel_rfl) rfl
instance : FieldCell Try.prog 53 1 1 := ⟨_, _, _, Try.underlying53, rfl, rfl, Try.underlying3, rfl⟩
instance : FieldOff Try.prog 53 2 2 := mk_fieldOff (k := 1) Try.underlying53 rfl rfl (by kernel_rfl) rfl
instance : FieldCell Try.prog 53 2 2 := ⟨_, _, _, Try.underlying53, rfl, rfl, Try.underlying32, rfl⟩
instance : FieldOff Try.prog 53 3 3 := mk_fieldOff (k := 1) Try.underlying53 rfl rfl (by kernel_rfl) rfl
instance : FieldCell Try.prog 53 3 3 := ⟨_, _, _, Try.underlying53, rfl, rfl, Try.underlying34, rfl⟩
instance : FieldOff Try.prog 53 4 4 := mk_fieldOff (k := 1) Try.underlying53 rfl rfl (by kernel_rfl) rfl
instance : FieldCell Try.prog 53 4 4 := ⟨_, _, _, Try.underlying53, rfl, rfl, Try.underlying40, rfl⟩
instance : Zero Try.prog 53 (.agg (([.int .i64 0, .int .i64 0, .int .u32 0, .slice none 0 0, .slice none 0 0] : List Value)).toArray) 5 72 := mk_info (by kernel_rfl) (by rfl)
instance : Cell Try.prog 59 := ⟨⟨_, Try.underlying59, rfl⟩, ex_size (by kernel_rfl)⟩
instance : IsT Try.prog 59 (.pointer 74) := ⟨Try.underlying59⟩
instance : Zero Try.prog 59 (.pointer none) 1 8 := mk_info (by kernel_rfl) (by rfl)
instance : Cell Try.prog 62 := ⟨⟨_, Try.underlying62, rfl⟩, ex_size (by kernel_rfl)⟩
instance : IsT Try.prog 62 (.pointer 68) := ⟨Try.underlying62⟩
instance : Zero Try.prog 62 (.pointer none) 1 8 := mk_info (by kernel_rfl) (by rfl)
instance : Cell Try.prog 63 := ⟨⟨_, Try.underlying63, rfl⟩, ex_size (by kernel_rfl)⟩
instance : IsT Try.prog 63 (.slice 99) := ⟨Try.underlying63⟩
instance : SliceT Try.prog 63 99 3 := mk_slice Try.underlying63 (by kernel_rfl)
instance : Zero Try.prog 63 (.slice none 0 0) 1 24 := mk_info (by kernel_rfl) (by rfl)
instance : Agg Try.prog 67 6 := ⟨⟨_, Try.underlying67, rfl⟩, ex_size (by kernel_rfl)⟩
instance : StructT Try.prog 67 [(0, 1), (1, 1), (2, 1), (3, 1), (4, 1), (5, 1)] (([.pointer none, .int .i64 0, .int .i64 0, .int .u32 0, .int .u64 0, .int .u64 0] : List Value)) := mk_struct (z := .agg (([.pointer none, .int .i64 0, .int .i64 0, .int .u32 0, .int .u64 0, .int .u64 0] : List Value)).toArray) (by kernel_rfl) rfl Try.underlying67 (by kernel_rfl)
instance : FieldOff Try.prog 67 0 0 := mk_fieldOff (k := 1) Try.underlying67 rfl rfl (by kernel_rfl) rfl
instance : FieldCell Try.prog 67 0 0 := ⟨_, _, _, Try.underlying67, rfl, rfl, Try.underlying59, rfl⟩
instance : FieldOff Try.prog 67 1 1 := mk_fieldOff (k := 1) Try.underlying67 rfl rfl (by kernel_rfl) rfl
instance : FieldCell Try.prog 67 1 1 := ⟨_, _, _, Try.underlying67, rfl, rfl, Try.underlying3, rfl⟩
instance : FieldOff Try.prog 67 2 2 := mk_fieldOff (k := 1) Try.underlying67 rfl rfl (by kernel_rfl) rfl
instance : FieldCell Try.prog 67 2 2 := ⟨_, _, _, Try.underlying67, rfl, rfl, Try.underlying3, rfl⟩
instance : FieldOff Try.prog 67 3 3 := mk_fieldOff (k := 1) Try.underlying67 rfl rfl (by kernel_rfl) rfl
instance : FieldCell Try.prog 67 3 3 := ⟨_, _, _, Try.underlying67, rfl, rfl, Try.underlying32, rfl⟩
instance : FieldOff Try.prog 67 4 4 := mk_fieldOff (k := 1) Try.underlying67 rfl rfl (by kernel_rfl) rfl
instance : FieldCell Try.prog 67 4 4 := ⟨_, _, _, Try.underlying67, rfl, rfl, Try.underlying33, rfl⟩
instance : FieldOff Try.prog 67 5 5 := mk_fieldOff (k := 1) Try.underlying67 rfl rfl (by kernel_rfl) rfl
instance : FieldCell Try.prog 67 5 5 := ⟨_, _, _, Try.underlying67, rfl, rfl, Try.underlying33, rfl⟩
instance : Zero Try.prog 67 (.agg (([.pointer none, .int .i64 0, .int .i64 0, .int .u32 0, .int .u64 0, .int .u64 0] : List Value)).toArray) 6 48 := mk_info (by kernel_rfl) (by rfl)
instance : Agg Try.prog 68 6 := ⟨⟨_, Try.underlying68, rfl⟩, ex_size (by kernel_rfl)⟩
instance : StructT Try.prog 68 [(0, 1), (1, 1), (2, 1), (3, 1), (4, 1), (5, 1)] (([.pointer none, .int .i64 0, .int .i64 0, .int .u32 0, .int .u64 0, .int .u64 0] : List Value)) := mk_struct (z := .agg (([.pointer none, .int .i64 0, .int .i64 0, .int .u32 0, .int .u64 0, .int .u64 0] : List Value)).toArray) (by kernel_rfl) rfl Try.underlying68 (by kernel_rfl)
instance : FieldOff Try.prog 68 0 0 := mk_fieldOff (k := 1) Try.underlying68 rfl rfl (by kernel_rfl) rfl
instance : FieldCell Try.prog 68 0 0 := ⟨_, _, _, Try.underlying68, rfl, rfl, Try.underlying59, rfl⟩
instance : FieldOff Try.prog 68 1 1 := mk_fieldOff (k := 1) Try.underlying68 rfl rfl (by kernel_rfl) rfl
instance : FieldCell Try.prog 68 1 1 := ⟨_, _, _, Try.underlying68, rfl, rfl, Try.underlying3, rfl⟩
instance : FieldOff Try.prog 68 2 2 := mk_fieldOff (k := 1) Try.underlying68 rfl rfl (by kernel_rfl) rfl
instance : FieldCell Try.prog 68 2 2 := ⟨_, _, _, Try.underlying68, rfl, rfl, Try.underlying3, rfl⟩
instance : FieldOff Try.prog 68 3 3 := mk_fieldOff (k := 1) Try.underlying68 rfl rfl (by kernel_rfl) rfl
instance : FieldCell Try.prog 68 3 3 := ⟨_, _, _, Try.underlying68, rfl, rfl, Try.underlying32, rfl⟩
instance : FieldOff Try.prog 68 4 4 := mk_fieldOff (k := 1) Try.underlying68 rfl rfl (by kernel_rfl) rfl
instance : FieldCell Try.prog 68 4 4 := ⟨_, _, _, Try.underlying68, rfl, rfl, Try.underlying33, rfl⟩
instance : FieldOff Try.prog 68 5 5 := mk_fieldOff (k := 1) Try.underlying68 rfl rfl (by kernel_rfl) rfl
instance : FieldCell Try.prog 68 5 5 := ⟨_, _, _, Try.underlying68, rfl, rfl, Try.underlying33, rfl⟩
instance : Zero Try.prog 68 (.agg (([.pointer none, .int .i64 0, .int .i64 0, .int .u32 0, .int .u64 0, .int .u64 0] : List Value)).toArray) 6 48 := mk_info (by kernel_rfl) (by rfl)
instance : Cell Try.prog 72 := ⟨⟨_, Try.underlying72, rfl⟩, ex_size (by kernel_rfl)⟩
instance : IsT Try.prog 72 (.slice 104) := ⟨Try.underlying72⟩
instance : SliceT Try.prog 72 104 2 := mk_slice Try.underlying72 (by kernel_rfl)
instance : Zero Try.prog 72 (.slice none 0 0) 1 24 := mk_info (by kernel_rfl) (by rfl)
instance : Agg Try.prog 73 7 := ⟨⟨_, Try.underlying73, rfl⟩, ex_size (by kernel_rfl)⟩
instance : StructT Try.prog 73 [(0, 1), (1, 1), (2, 1), (3, 1), (4, 1), (5, 1), (6, 1)] (([.slice none 0 0, .slice none 0 0, .slice none 0 0, .int .i64 0, .bool false, .int .i64 0, .int .i64 0] : List Value)) := mk_struct (z := .agg (([.slice none 0 0, .slice none 0 0, .slice none 0 0, .int .i64 0, .bool false, .int .i64 0, .int .i64 0] : List Value)).toArray) (by kernel_rfl) rfl Try.underlying73 (by kernel_rfl)
instance : FieldOff Try.prog 73 0 0 := mk_fieldOff (k := 1) Try.underlying73 rfl rfl (by kernel_rfl) rfl
instance : FieldCell Try.prog 73 0 0 := ⟨_, _, _, Try.underlying73, rfl, rfl, Try.underlying22, rfl⟩
instance : FieldOff Try.prog 73 1 1 := mk_fieldOff (k := 1) Try.underlying73 rfl rfl (by kernel_rfl) rfl
instance : FieldCell Try.prog 73 1 1 := ⟨_, _, _, Try.underlying73, rfl, rfl, Try.underlying22, rfl⟩
instance : FieldOff Try.prog 73 2 2 := mk_fieldOff (k := 1) Try.underlying73 rfl rfl (by kernel_rfl) rfl
instance : FieldCell Try.prog 73 2 2 := ⟨_, _, _, Try.underlying73, rfl, rfl, Try.underlying72, rfl⟩
instance : FieldOff Try.prog 73 3 3 := mk_fieldOff (k := 1) Try.underlying73 rfl rfl (by kernel_rfl) rfl
instance : FieldCell Try.prog 73 3 3 := ⟨_, _, _, Try.underlying73, rfl, rfl, Try.underlying3, rfl⟩
instance : FieldOff Try.prog 73 4 4 := mk_fieldOff (k := 1) Try.underlying73 rfl rfl (by kernel_rfl) rfl
instance : FieldCell Try.prog 73 4 4 := ⟨_, _, _, Try.underlying73, rfl, rfl, Try.underlying4, rfl⟩
instance : FieldOff Try.prog 73 5 5 := mk_fieldOff (k := 1) Try.underlying73 rfl rfl (by kernel_rfl) rfl
instance : FieldCell Try.prog 73 5 5 := ⟨_, _, _, Try.underlying73, rfl, rfl, Try.underlying3, rfl⟩
instance : FieldOff Try.prog 73 6 6 := mk_fieldOff (k := 1) Try.underlying73 rfl rfl (by kernel_rfl) rfl
instance : FieldCell Try.prog 73 6 6 := ⟨_, _, _, Try.underlying73, rfl, rfl, Try.underlying3, rfl⟩
instance : Zero Try.prog 73 (.agg (([.slice none 0 0, .slice none 0 0, .slice none 0 0, .int .i64 0, .bool false, .int .i64 0, .int .i64 0] : List Value)).toArray) 7 104 := mk_info (by kernel_rfl) (by rfl)
instance : Agg Try.prog 74 7 := ⟨⟨_, Try.underlying74, rfl⟩, ex_size (by kernel_rfl)⟩
instance : StructT Try.prog 74 [(0, 1), (1, 1), (2, 1), (3, 1), (4, 1), (5, 1), (6, 1)] (([.slice none 0 0, .slice none 0 0, .slice none 0 0, .int .i64 0, .bool false, .int .i64 0, .int .i64 0] : List Value)) := mk_struct (z := .agg (([.slice none 0 0, .slice none 0 0, .slice none 0 0, .int .i64 0, .bool false, .int .i64 0, .int .i64 0] : List Value)).toArray) (by kernel_rfl) rfl Try.underlying74 (by kernel_rfl)
instance : FieldOff Try.prog 74 0 0 := mk_fieldOff (k := 1) Try.underlying74 rfl rfl (by kernel_rfl) rfl
instance : FieldCell Try.prog 74 0 0 := ⟨_, _, _, Try.underlying74, rfl, rfl, Try.underlying22, rfl⟩
instance : FieldOff Try.prog 74 1 1 := mk_fieldOff (k := 1) Try.underlying74 rfl rfl (by kernel_rfl) rfl
instance : FieldCell Try.prog 74 1 1 := ⟨_, _, _, Try.underlying74, rfl, rfl, Try.underlying22, rfl⟩
instance : FieldOff Try.prog 74 2 2 := mk_fieldOff (k := 1) Try.underlying74 rfl rfl (by kernel_rfl) rfl
instance : FieldCell Try.prog 74 2 2 := ⟨_, _, _, Try.underlying74, rfl, rfl, Try.underlying72, rfl⟩
instance : FieldOff Try.prog 74 3 3 := mk_fieldOff (k := 1) Try.underlying74 rfl rfl (by kernel_rfl) rfl
instance : FieldCell Try.prog 74 3 3 := ⟨_, _, _, Try.underlying74, rfl, rfl, Try.underlying3, rfl⟩
instance : FieldOff Try.prog 74 4 4 := mk_fieldOff (k := 1) Try.underlying74 rfl rfl (by kernel_rfl) rfl
instance : FieldCell Try.prog 74 4 4 := ⟨_, _, _, Try.underlying74, rfl, rfl, Try.underlying4, rfl⟩
instance : FieldOff Try.prog 74 5 5 := mk_fieldOff (k := 1) Try.underlying74 rfl rfl (by kernel_rfl) rfl
instance : FieldCell Try.prog 74 5 5 := ⟨_, _, _, Try.underlying74, rfl, rfl, Try.underlying3, rfl⟩
instance : FieldOff Try.prog 74 6 6 := mk_fieldOff (k := 1) Try.underlying74 rfl rfl (by kernel_rfl) rfl
instance : FieldCell Try.prog 74 6 6 := ⟨_, _, _, Try.underlying74, rfl, rfl, Try.underlying3, rfl⟩
instance : Zero Try.prog 74 (.agg (([.slice none 0 0, .slice none 0 0, .slice none 0 0, .int .i64 0, .bool false, .int .i64 0, .int .i64 0] : List Value)).toArray) 7 104 := mk_info (by kernel_rfl) (by rfl)
instance : Cell Try.prog 76 := ⟨⟨_, Try.underlying76, rfl⟩, ex_size (by kernel_rfl)⟩
instance : IsT Try.prog 76 (.slice 91) := ⟨Try.underlying76⟩
instance : SliceT Try.prog 76 91 64 := mk_slice Try.underlying76 (by kernel_rfl)
instance : Zero Try.prog 76 (.slice none 0 0) 1 24 := mk_info (by kernel_rfl) (by rfl)
instance : Cell Try.prog 77 := ⟨⟨_, Try.underlying77, rfl⟩, ex_size (by kernel_rfl)⟩
instance : IsT Try.prog 77 (.slice 93) := ⟨Try.underlying77⟩
instance : SliceT Try.prog 77 93 129 := mk_slice Try.underlying77 (by kernel_rfl)
instance : Zero Try.prog 77 (.slice none 0 0) 1 24 := mk_info (by kernel_rfl) (by rfl)
instance : Agg Try.prog 78 6 := ⟨⟨_, Try.underlying78, rfl⟩, ex_size (by kernel_rfl)⟩
instance : StructT Try.prog 78 [(0, 1), (1, 1), (2, 1), (3, 1), (4, 1), (5, 1)] (([.slice none 0 0, .slice none 0 0, .int .i64 0, .bool false, .int .i64 0, .int .i64 0] : List Value)) := mk_struct (z := .agg (([.slice none 0 0, .slice none 0 0, .int .i64 0, .bool false, .int .i64 0, .int .i64 0] : List Value)).toArray) (by kernel_rfl) rfl Try.underlying78 (by kernel_rfl)
instance : FieldOff Try.prog 78 0 0 := mk_fieldOff (k := 1) Try.underlying78 rfl rfl (by kernel_rfl) rfl
instance : FieldCell Try.prog 78 0 0 := ⟨_, _, _, Try.underlying78, rfl, rfl, Try.underlying76, rfl⟩
instance : FieldOff Try.prog 78 1 1 := mk_fieldOff (k := 1) Try.underlying78 rfl rfl (by kernel_rfl) rfl
instance : FieldCell Try.prog 78 1 1 := ⟨_, _, _, Try.underlying78, rfl, rfl, Try.underlying77, rfl⟩
instance : FieldOff Try.prog 78 2 2 := mk_fieldOff (k := 1) Try.underlying78 rfl rfl (by kernel_rfl) rfl
instance : FieldCell Try.prog 78 2 2 := ⟨_, _, _, Try.underlying78, rfl, rfl, Try.underlying3, rfl⟩
instance : FieldOff Try.prog 78 3 3 := mk_fieldOff (k := 1) Try.underlying78 rfl rfl (by kernel_rfl) rfl
instance : FieldCell Try.prog 78 3 3 := ⟨_, _, _, Try.underlying78, rfl, rfl, Try.underlying4, rfl⟩
instance : FieldOff Try.prog 78 4 4 := mk_fieldOff (k := 1) Try.underlying78 rfl rfl (by kernel_rfl) rfl
instance : FieldCell Try.prog 78 4 4 := ⟨_, _, _, Try.underlying78, rfl, rfl, Try.underlying3, rfl⟩
instance : FieldOff Try.prog 78 5 5 := mk_fieldOff (k := 1) Try.underlying78 rfl rfl (by kernel_rfl) rfl
instance : FieldCell Try.prog 78 5 5 := ⟨_, _, _, Try.underlying78, rfl, rfl, Try.underlying3, rfl⟩
instance : Zero Try.prog 78 (.agg (([.slice none 0 0, .slice none 0 0, .int .i64 0, .bool false, .int .i64 0, .int .i64 0] : List Value)).toArray) 6 80 := mk_info (by kernel_rfl) (by rfl)
instance : Agg Try.prog 79 6 := ⟨⟨_, Try.underlying79, rfl⟩, ex_size (by kernel_rfl)⟩
instance : StructT Try.prog 79 [(0, 1), (1, 1), (2, 1), (3, 1), (4, 1), (5, 1)] (([.slice none 0 0, .slice none 0 0, .int .i64 0, .bool false, .int .i64 0, .int .i64 0] : List Value)) := mk_struct (z := .agg (([.slice none 0 0, .slice none 0 0, .int .i64 0, .bool false, .int .i64 0, .int .i64 0] : List Value)).toArray) (by kernel_rfl) rfl Try.underlying79 (by kernel_rfl)
instance : FieldOff Try.prog 79 0 0 := mk_fieldOff (k := 1) Try.underlying79 rfl rfl (by kernel_rfl) rfl
instance : FieldCell Try.prog 79 0 0 := ⟨_, _, _, Try.underlying79, rfl, rfl, Try.underlying76, rfl⟩
instance : FieldOff Try.prog 79 1 1 := mk_fieldOff (k := 1) Try.underlying79 rfl rfl (by kernel_rfl) rfl
instance : FieldCell Try.prog 79 1 1 := ⟨_, _, _, Try.underlying79, rfl, rfl, Try.underlying77, rfl⟩
instance : FieldOff Try.prog 79 2 2 := mk_fieldOff (k := 1) Try.underlying79 rfl rfl (by kernel_rfl) rfl
instance : FieldCell Try.prog 79 2 2 := ⟨_, _, _, Try.underlying79, rfl, rfl, Try.underlying3, rfl⟩
instance : FieldOff Try.prog 79 3 3 := mk_fieldOff (k := 1) Try.underlying79 rfl rfl (by kernel_rfl) rfl
instance : FieldCell Try.prog 79 3 3 := ⟨_, _, _, Try.underlying79, rfl, rfl, Try.underlying4, rfl⟩
instance : FieldOff Try.prog 79 4 4 := mk_fieldOff (k := 1) Try.underlying79 rfl rfl (by kernel_rfl) rfl
instance : FieldCell Try.prog 79 4 4 := ⟨_, _, _, Try.underlying79, rfl, rfl, Try.underlying3, rfl⟩
instance : FieldOff Try.prog 79 5 5 := mk_fieldOff (k := 1) Try.underlying79 rfl rfl (by kernel_rfl) rfl
instance : FieldCell Try.prog 79 5 5 := ⟨_, _, _, Try.underlying79, rfl, rfl, Try.underlying3, rfl⟩
instance : Zero Try.prog 79 (.agg (([.slice none 0 0, .slice none 0 0, .int .i64 0, .bool false, .int .i64 0, .int .i64 0] : List Value)).toArray) 6 80 := mk_info (by kernel_rfl) (by rfl)
instance : Agg Try.prog 80 6 := ⟨⟨_, Try.underlying80, rfl⟩, ex_size (by kernel_rfl)⟩
instance : StructT Try.prog 80 [(0, 1), (1, 1), (2, 1), (3, 1), (4, 1), (5, 1)] (([.pointer none, .int .i64 0, .int .i64 0, .int .u32 0, .int .u64 0, .int .u64 0] : List Value)) := mk_struct (z := .agg (([.pointer none, .int .i64 0, .int .i64 0, .int .u32 0, .int .u64 0, .int .u64 0] : List Value)).toArray) (by kernel_rfl) rfl Try.underlying80 (by kernel_rfl)
instance : FieldOff Try.prog 80 0 0 := mk_fieldOff (k := 1) Try.underlying80 rfl rfl (by kernel_rfl) rfl
instance : FieldCell Try.prog 80 0 0 := ⟨_, _, _, Try.underlying80, rfl, rfl, Try.underlying24, rfl⟩
instance : FieldOff Try.prog 80 1 1 := mk_fieldOff (k := 1) Try.underlying80 rfl rfl (by kernel_rfl) rfl
instance : FieldCell Try.prog 80 1 1 := ⟨_, _, _, Try.underlying80, rfl, rfl, Try.underlying3, rfl⟩
instance : FieldOff Try.prog 80 2 2 := mk_fieldOff (k := 1) Try.underlying80 rfl rfl (by kernel_rfl) rfl
instance : FieldCell Try.prog 80 2 2 := ⟨_, _, _, Try.underlying80, rfl, rfl, Try.underlying3, rfl⟩
instance : FieldOff Try.prog 80 3 3 := mk_fieldOff (k := 1) Try.underlying80 rfl rfl (by kernel_rfl) rfl
instance : FieldCell Try.prog 80 3 3 := ⟨_, _, _, Try.underlying80, rfl, rfl, Try.underlying32, rfl⟩
instance : FieldOff Try.prog 80 4 4 := mk_fieldOff (k := 1) Try.underlying80 rfl rfl (by kernel_rfl) rfl
instance : FieldCell Try.prog 80 4 4 := ⟨_, _, _, Try.underlying80, rfl, rfl, Try.underlying33, rfl⟩
instance : FieldOff Try.prog 80 5 5 := mk_fieldOff (k := 1) Try.underlying80 rfl rfl (by kernel_rfl) rfl
instance : FieldCell Try.prog 80 5 5 := ⟨_, _, _, Try.underlying80, rfl, rfl, Try.underlying33, rfl⟩
instance : Zero Try.prog 80 (.agg (([.pointer none, .int .i64 0, .int .i64 0, .int .u32 0, .int .u64 0, .int .u64 0] : List Value)).toArray) 6 48 := mk_info (by kernel_rfl) (by rfl)
instance : Agg Try.prog 81 6 := ⟨⟨_, Try.underlying81, rfl⟩, ex_size (by kernel_rfl)⟩
instance : StructT Try.prog 81 [(0, 1), (1, 1), (2, 1), (3, 1), (4, 1), (5, 1)] (([.pointer none, .int .i64 0, .int .i64 0, .int .u32 0, .int .u64 0, .int .u64 0] : List Value)) := mk_struct (z := .agg (([.pointer none, .int .i64 0, .int .i64 0, .int .u32 0, .int .u64 0, .int .u64 0] : List Value)).toArray) (by kernel_rfl) rfl Try.underlying81 (by kernel_rfl)
instance : FieldOff Try.prog 81 0 0 := mk_fieldOff (k := 1) Try.underlying81 rfl rfl (by kernel_rfl) rfl
instance : FieldCell Try.prog 81 0 0 := ⟨_, _, _, Try.underlying81, rfl, rfl, Try.underlying24, rfl⟩
instance : FieldOff Try.prog 81 1 1 := mk_fieldOff (k := 1) Try.underlying81 rfl rfl (by kernel_rfl) rfl
instance : FieldCell Try.prog 81 1 1 := ⟨_, _, _, Try.underlying81, rfl, rfl, Try.underlying3, rfl⟩
instance : FieldOff Try.prog 81 2 2 := mk_fieldOff (k := 1) Try.underlying81 rfl rfl (by kernel_rfl) rfl
instance : FieldCell Try.prog 81 2 2 := ⟨_, _, _, Try.underlying81, rfl, rfl, Try.underlying3, rfl⟩
instance : FieldOff Try.prog 81 3 3 := mk_fieldOff (k := 1) Try.underlying81 rfl rfl (by kernel_rfl) rfl
instance : FieldCell Try.prog 81 3 3 := ⟨_, _, _, Try.underlying81, rfl, rfl, Try.underlying32, rfl⟩
instance : FieldOff Try.prog 81 4 4 := mk_fieldOff (k := 1) Try.underlying81 rfl rfl (by kernel_rfl) rfl
instance : FieldCell Try.prog 81 4 4 := ⟨_, _, _, Try.underlying81, rfl, rfl, Try.underlying33, rfl⟩
instance : FieldOff Try.prog 81 5 5 := mk_fieldOff (k := 1) Try.underlying81 rfl rfl (by kernel_rfl) rfl
instance : FieldCell Try.prog 81 5 5 := ⟨_, _, _, Try.underlying81, rfl, rfl, Try.underlying33, rfl⟩
instance : Zero Try.prog 81 (.agg (([.pointer none, .int .i64 0, .int .i64 0, .int .u32 0, .int .u64 0, .int .u64 0] : List Value)).toArray) 6 48 := mk_info (by kernel_rfl) (by rfl)
instance : Agg Try.prog 83 1 := ⟨⟨_, Try.underlying83, rfl⟩, ex_size (by kernel_rfl)⟩
instance : StructT Try.prog 83 [(0, 1)] (([.slice none 0 0] : List Value)) := mk_struct (z := .agg (([.slice none 0 0] : List Value)).toArray) (by kernel_rfl) rfl Try.underlying83 (by kernel_rfl)
instance : FieldOff Try.prog 83 0 0 := mk_fieldOff (k := 1) Try.underlying83 rfl rfl (by kernel_rfl) rfl
instance : FieldCell Try.prog 83 0 0 := ⟨_, _, _, Try.underlying83, rfl, rfl, Try.underlying34, rfl⟩
instance : Zero Try.prog 83 (.agg (([.slice none 0 0] : List Value)).toArray) 1 24 := mk_info (by kernel_rfl) (by rfl)
instance : Agg Try.prog 84 1 := ⟨⟨_, Try.underlying84, rfl⟩, ex_size (by kernel_rfl)⟩
instance : StructT Try.prog 84 [(0, 1)] (([.slice none 0 0] : List Value)) := mk_struct (z := .agg (([.slice none 0 0] : List Value)).toArray) (by kernel_rfl) rfl Try.underlying84 (by kernel_rfl)
instance : FieldOff Try.prog 84 0 0 := mk_fieldOff (k := 1) Try.underlying84 rfl rfl (by kernel_rfl) rfl
instance : FieldCell Try.prog 84 0 0 := ⟨_, _, _, Try.underlying84, rfl, rfl, Try.underlying34, rfl⟩
instance : Zero Try.prog 84 (.agg (([.slice none 0 0] : List Value)).toArray) 1 24 := mk_info (by kernel_rfl) (by rfl)
instance : Agg Try.prog 90 64 := ⟨⟨_, Try.underlying90, rfl⟩, ex_size (by kernel_rfl)⟩
instance : ArrayT Try.prog 90 64 5 1 := mk_array Try.underlying90 (by kernel_rfl)
instance : Zero Try.prog 90 (.agg (List.replicate 64 (Value.int .u8 0)).toArray) 64 64 := mk_info (by kernel_rfl) (by rfl)
instance : Agg Try.prog 91 64 := ⟨⟨_, Try.underlying91, rfl⟩, ex_size (by kernel_rfl)⟩
instance : ArrayT Try.prog 91 64 5 1 := mk_array Try.underlying91 (by kernel_rfl)
instance : Zero Try.prog 91 (.agg (List.replicate 64 (Value.int .u8 0)).toArray) 64 64 := mk_info (by kernel_rfl) (by rfl)
instance : Agg Try.prog 92 129 := ⟨⟨_, Try.underlying92, rfl⟩, ex_size (by kernel_rfl)⟩
instance : StructT Try.prog 92 [(0, 1), (1, 64), (65, 64)] (([.int .i64 0] : List Value) ++ List.replicate 128 (Value.int .u8 0)) := mk_struct (z := .agg (([.int .i64 0] : List Value) ++ List.replicate 128 (Value.int .u8 0)).toArray) (by kernel_rfl) rfl Try.underlying92 (by kernel_rfl)
instance : FieldOff Try.prog 92 0 0 := mk_fieldOff (k := 1) Try.underlying92 rfl rfl (by kernel_rfl) rfl
instance : FieldCell Try.prog 92 0 0 := ⟨_, _, _, Try.underlying92, rfl, rfl, Try.underlying3, rfl⟩
instance : FieldOff Try.prog 92 1 1 := mk_fieldOff (k := 64) Try.underlying92 rfl rfl (by kernel_rfl) rfl
instance : FieldAgg Try.prog 92 1 1 64 := mk_fieldAgg Try.underlying92 rfl rfl Try.underlying91 rfl (by kernel_rfl)
instance : FieldOff Try.prog 92 2 65 := mk_fieldOff (k := 64) Try.underlying92 rfl rfl (by kernel_rfl) rfl
instance : FieldAgg Try.prog 92 2 65 64 := mk_fieldAgg Try.underlying92 rfl rfl Try.underlying91 rfl (by kernel_rfl)
instance : Zero Try.prog 92 (.agg (([.int .i64 0] : List Value) ++ List.replicate 128 (Value.int .u8 0)).toArray) 129 136 := mk_info (by kernel_rfl) (by rfl)
instance : Agg Try.prog 93 129 := ⟨⟨_, Try.underlying93, rfl⟩, ex_size (by kernel_rfl)⟩
instance : StructT Try.prog 93 [(0, 1), (1, 64), (65, 64)] (([.int .i64 0] : List Value) ++ List.replicate 128 (Value.int .u8 0)) := mk_struct (z := .agg (([.int .i64 0] : List Value) ++ List.replicate 128 (Value.int .u8 0)).toArray) (by kernel_rfl) rfl Try.underlying93 (by kernel_rfl)
instance : FieldOff Try.prog 93 0 0 := mk_fieldOff (k := 1) Try.underlying93 rfl rfl (by kernel_rfl) rfl
instance : FieldCell Try.prog 93 0 0 := ⟨_, _, _, Try.underlying93, rfl, rfl, Try.underlying3, rfl⟩
instance : FieldOff Try.prog 93 1 1 := mk_fieldOff (k := 64) Try.underlying93 rfl rfl (by kernel_rfl) rfl
instance : FieldAgg Try.prog 93 1 1 64 := mk_fieldAgg Try.underlying93 rfl rfl Try.underlying91 rfl (by kernel_rfl)
instance : FieldOff Try.prog 93 2 65 := mk_fieldOff (k := 64) Try.underlying93 rfl rfl (by kernel_rfl) rfl
instance : FieldAgg Try.prog 93 2 65 64 := mk_fieldAgg Try.underlying93 rfl rfl Try.underlying91 rfl (by kernel_rfl)
instance : Zero Try.prog 93 (.agg (([.int .i64 0] : List Value) ++ List.replicate 128 (Value.int .u8 0)).toArray) 129 136 := mk_info (by kernel_rfl) (by rfl)
instance : Cell Try.prog 94 := ⟨⟨_, Try.underlying94, rfl⟩, ex_size (by kernel_rfl)⟩
instance : IsT Try.prog 94 (.pointer 96) := ⟨Try.underlying94⟩
instance : Zero Try.prog 94 (.pointer none) 1 8 := mk_info (by kernel_rfl) (by rfl)
instance : Agg Try.prog 95 3 := ⟨⟨_, Try.underlying95, rfl⟩, ex_size (by kernel_rfl)⟩
instance : StructT Try.prog 95 [(0, 1), (1, 1), (2, 1)] (([.slice none 0 0, .int .i64 0, .bool false] : List Value)) := mk_struct (z := .agg (([.slice none 0 0, .int .i64 0, .bool false] : List Value)).toArray) (by kernel_rfl) rfl Try.underlying95 (by kernel_rfl)
instance : FieldOff Try.prog 95 0 0 := mk_fieldOff (k := 1) Try.underlying95 rfl rfl (by kernel_rfl) rfl
instance : FieldCell Try.prog 95 0 0 := ⟨_, _, _, Try.underlying95, rfl, rfl, Try.underlying34, rfl⟩
instance : FieldOff Try.prog 95 1 1 := mk_fieldOff (k := 1) Try.underlying95 rfl rfl (by kernel_rfl) rfl
instance : FieldCell Try.prog 95 1 1 := ⟨_, _, _, Try.underlying95, rfl, rfl, Try.underlying3, rfl⟩
instance : FieldOff Try.prog 95 2 2 := mk_fieldOff (k := 1) Try.underlying95 rfl rfl (by kernel_rfl) rfl
instance : FieldCell Try.prog 95 2 2 := ⟨_, _, _, Try.underlying95, rfl, rfl, Try.underlying4, rfl⟩
instance : Zero Try.prog 95 (.agg (([.slice none 0 0, .int .i64 0, .bool false] : List Value)).toArray) 3 40 := mk_info (by kernel_rfl) (by rfl)
instance : Agg Try.prog 96 3 := ⟨⟨_, Try.underlying96, rfl⟩, ex_size (by kernel_rfl)⟩
instance : StructT Try.prog 96 [(0, 1), (1, 1), (2, 1)] (([.slice none 0 0, .int .i64 0, .bool false] : List Value)) := mk_struct (z := .agg (([.slice none 0 0, .int .i64 0, .bool false] : List Value)).toArray) (by kernel_rfl) rfl Try.underlying96 (by kernel_rfl)
instance : FieldOff Try.prog 96 0 0 := mk_fieldOff (k := 1) Try.underlying96 rfl rfl (by kernel_rfl) rfl
instance : FieldCell Try.prog 96 0 0 := ⟨_, _, _, Try.underlying96, rfl, rfl, Try.underlying34, rfl⟩
instance : FieldOff Try.prog 96 1 1 := mk_fieldOff (k := 1) Try.underlying96 rfl rfl (by kernel_rfl) rfl
instance : FieldCell Try.prog 96 1 1 := ⟨_, _, _, Try.underlying96, rfl, rfl, Try.underlying3, rfl⟩
instance : FieldOff Try.prog 96 2 2 := mk_fieldOff (k := 1) Try.underlying96 rfl rfl (by kernel_rfl) rfl
instance : FieldCell Try.prog 96 2 2 := ⟨_, _, _, Try.underlying96, rfl, rfl, Try.underlying4, rfl⟩
instance : Zero Try.prog 96 (.agg (([.slice none 0 0, .int .i64 0, .bool false] : List Value)).toArray) 3 40 := mk_info (by kernel_rfl) (by rfl)
instance : Agg Try.prog 99 3 := ⟨⟨_, Try.underlying99, rfl⟩, ex_size (by kernel_rfl)⟩
instance : StructT Try.prog 99 [(0, 1), (1, 1), (2, 1)] (([.int .u64 0, .int .u64 0, .slice none 0 0] : List Value)) := mk_struct (z := .agg (([.int .u64 0, .int .u64 0, .slice none 0 0] : List Value)).toArray) (by kernel_rfl) rfl Try.underlying99 (by kernel_rfl)
instance : FieldOff Try.prog 99 0 0 := mk_fieldOff (k := 1) Try.underlying99 rfl rfl (by kernel_rfl) rfl
instance : FieldCell Try.prog 99 0 0 := ⟨_, _, _, Try.underlying99, rfl, rfl, Try.underlying33, rfl⟩
instance : FieldOff Try.prog 99 1 1 := mk_fieldOff (k := 1) Try.underlying99 rfl rfl (by kernel_rfl) rfl
instance : FieldCell Try.prog 99 1 1 := ⟨_, _, _, Try.underlying99, rfl, rfl, Try.underlying33, rfl⟩
instance : FieldOff Try.prog 99 2 2 := mk_fieldOff (k := 1) Try.underlying99 rfl rfl (by kernel_rfl) rfl
instance : FieldCell Try.prog 99 2 2 := ⟨_, _, _, Try.underlying99, rfl, rfl, Try.underlying34, rfl⟩
instance : Zero Try.prog 99 (.agg (([.int .u64 0, .int .u64 0, .slice none 0 0] : List Value)).toArray) 3 40 := mk_info (by kernel_rfl) (by rfl)
instance : Agg Try.prog 103 2 := ⟨⟨_, Try.underlying103, rfl⟩, ex_size (by kernel_rfl)⟩
instance : StructT Try.prog 103 [(0, 1), (1, 1)] (([.int .i64 0, .slice none 0 0] : List Value)) := mk_struct (z := .agg (([.int .i64 0, .slice none 0 0] : List Value)).toArray) (by kernel_rfl) rfl Try.underlying103 (by kernel_rfl)
instance : FieldOff Try.prog 103 0 0 := mk_fieldOff (k := 1) Try.underlying103 rfl rfl (by kernel_rfl) rfl
instance : FieldCell Try.prog 103 0 0 := ⟨_, _, _, Try.underlying103, rfl, rfl, Try.underlying3, rfl⟩
instance : FieldOff Try.prog 103 1 1 := mk_fieldOff (k := 1) Try.underlying103 rfl rfl (by kernel_rfl) rfl
instance : FieldCell Try.prog 103 1 1 := ⟨_, _, _, Try.underlying103, rfl, rfl, Try.underlying34, rfl⟩
instance : Zero Try.prog 103 (.agg (([.int .i64 0, .slice none 0 0] : List Value)).toArray) 2 32 := mk_info (by kernel_rfl) (by rfl)
instance : Agg Try.prog 104 2 := ⟨⟨_, Try.underlying104, rfl⟩, ex_size (by kernel_rfl)⟩
instance : StructT Try.prog 104 [(0, 1), (1, 1)] (([.int .i64 0, .slice none 0 0] : List Value)) := mk_struct (z := .agg (([.int .i64 0, .slice none 0 0] : List Value)).toArray) (by kernel_rfl) rfl Try.underlying104 (by kernel_rfl)
instance : FieldOff Try.prog 104 0 0 := mk_fieldOff (k := 1) Try.underlying104 rfl rfl (by kernel_rfl) rfl
instance : FieldCell Try.prog 104 0 0 := ⟨_, _, _, Try.underlying104, rfl, rfl, Try.underlying3, rfl⟩
instance : FieldOff Try.prog 104 1 1 := mk_fieldOff (k := 1) Try.underlying104 rfl rfl (by kernel_rfl) rfl
instance : FieldCell Try.prog 104 1 1 := ⟨_, _, _, Try.underlying104, rfl, rfl, Try.underlying34, rfl⟩
instance : Zero Try.prog 104 (.agg (([.int .i64 0, .slice none 0 0] : List Value)).toArray) 2 32 := mk_info (by kernel_rfl) (by rfl)
instance : Agg Try.prog 105 3 := ⟨⟨_, Try.underlying105, rfl⟩, ex_size (by kernel_rfl)⟩
instance : StructT Try.prog 105 [(0, 1), (1, 1), (2, 1)] (([.int .u32 0, .int .u8 0, .slice none 0 0] : List Value)) := mk_struct (z := .agg (([.int .u32 0, .int .u8 0, .slice none 0 0] : List Value)).toArray) (by kernel_rfl) rfl Try.underlying105 (by kernel_rfl)
instance : FieldOff Try.prog 105 0 0 := mk_fieldOff (k := 1) Try.underlying105 rfl rfl (by kernel_rfl) rfl
instance : FieldCell Try.prog 105 0 0 := ⟨_, _, _, Try.underlying105, rfl, rfl, Try.underlying32, rfl⟩
instance : FieldOff Try.prog 105 1 1 := mk_fieldOff (k := 1) Try.underlying105 rfl rfl (by kernel_rfl) rfl
instance : FieldCell Try.prog 105 1 1 := ⟨_, _, _, Try.underlying105, rfl, rfl, Try.underlying5, rfl⟩
instance : FieldOff Try.prog 105 2 2 := mk_fieldOff (k := 1) Try.underlying105 rfl rfl (by kernel_rfl) rfl
instance : FieldCell Try.prog 105 2 2 := ⟨_, _, _, Try.underlying105, rfl, rfl, Try.underlying34, rfl⟩
instance : Zero Try.prog 105 (.agg (([.int .u32 0, .int .u8 0, .slice none 0 0] : List Value)).toArray) 3 32 := mk_info (by kernel_rfl) (by rfl)
instance : Agg Try.prog 106 3 := ⟨⟨_, Try.underlying106, rfl⟩, ex_size (by kernel_rfl)⟩
instance : StructT Try.prog 106 [(0, 1), (1, 1), (2, 1)] (([.int .u32 0, .int .u8 0, .slice none 0 0] : List Value)) := mk_struct (z := .agg (([.int .u32 0, .int .u8 0, .slice none 0 0] : List Value)).toArray) (by kernel_rfl) rfl Try.underlying106 (by kernel_rfl)
instance : FieldOff Try.prog 106 0 0 := mk_fieldOff (k := 1) Try.underlying106 rfl rfl (by kernel_rfl) rfl
instance : FieldCell Try.prog 106 0 0 := ⟨_, _, _, Try.underlying106, rfl, rfl, Try.underlying32, rfl⟩
instance : FieldOff Try.prog 106 1 1 := mk_fieldOff (k := 1) Try.underlying106 rfl rfl (by kernel_rfl) rfl
instance : FieldCell Try.prog 106 1 1 := ⟨_, _, _, Try.underlying106, rfl, rfl, Try.underlying5, rfl⟩
instance : FieldOff Try.prog 106 2 2 := mk_fieldOff (k := 1) Try.underlying106 rfl rfl (by kernel_rfl) rfl
instance : FieldCell Try.prog 106 2 2 := ⟨_, _, _, Try.underlying106, rfl, rfl, Try.underlying34, rfl⟩
instance : Zero Try.prog 106 (.agg (([.int .u32 0, .int .u8 0, .slice none 0 0] : List Value)).toArray) 3 32 := mk_info (by kernel_rfl) (by rfl)
instance : Cell Try.prog 109 := ⟨⟨_, Try.underlying109, rfl⟩, ex_size (by kernel_rfl)⟩
instance : IsT Try.prog 109 (.pointer 84) := ⟨Try.underlying109⟩
instance : Zero Try.prog 109 (.pointer none) 1 8 := mk_info (by kernel_rfl) (by rfl)
instance : Cell Try.prog 110 := ⟨⟨_, Try.underlying110, rfl⟩, ex_size (by kernel_rfl)⟩
instance : IsT Try.prog 110 (.int .u64) := ⟨Try.underlying110⟩
instance : Zero Try.prog 110 (.int .u64 0) 1 8 := mk_info (by kernel_rfl) (by rfl)
instance : Cell Try.prog 112 := ⟨⟨_, Try.underlying112, rfl⟩, ex_size (by kernel_rfl)⟩
instance : IsT Try.prog 112 (.int .u16) := ⟨Try.underlying112⟩
instance : Zero Try.prog 112 (.int .u16 0) 1 2 := mk_info (by kernel_rfl) (by rfl)
instance : Cell Try.prog 114 := ⟨⟨_, Try.underlying114, rfl⟩, ex_size (by kernel_rfl)⟩
instance : IsT Try.prog 114 (.pointer 116) := ⟨Try.underlying114⟩
instance : Zero Try.prog 114 (.pointer none) 1 8 := mk_info (by kernel_rfl) (by rfl)
instance : Agg Try.prog 115 1 := ⟨⟨_, Try.underlying115, rfl⟩, ex_size (by kernel_rfl)⟩
instance : StructT Try.prog 115 [(0, 1)] (([.slice none 0 0] : List Value)) := mk_struct (z := .agg (([.slice none 0 0] : List Value)).toArray) (by kernel_rfl) rfl Try.underlying115 (by kernel_rfl)
instance : FieldOff Try.prog 115 0 0 := mk_fieldOff (k := 1) Try.underlying115 rfl rfl (by kernel_rfl) rfl
instance : FieldCell Try.prog 115 0 0 := ⟨_, _, _, Try.underlying115, rfl, rfl, Try.underlying34, rfl⟩
instance : Zero Try.prog 115 (.agg (([.slice none 0 0] : List Value)).toArray) 1 24 := mk_info (by kernel_rfl) (by rfl)
instance : Agg Try.prog 116 1 := ⟨⟨_, Try.underlying116, rfl⟩, ex_size (by kernel_rfl)⟩
instance : StructT Try.prog 116 [(0, 1)] (([.slice none 0 0] : List Value)) := mk_struct (z := .agg (([.slice none 0 0] : List Value)).toArray) (by kernel_rfl) rfl Try.underlying116 (by kernel_rfl)
instance : FieldOff Try.prog 116 0 0 := mk_fieldOff (k := 1) Try.underlying116 rfl rfl (by kernel_rfl) rfl
instance : FieldCell Try.prog 116 0 0 := ⟨_, _, _, Try.underlying116, rfl, rfl, Try.underlying34, rfl⟩
instance : Zero Try.prog 116 (.agg (([.slice none 0 0] : List Value)).toArray) 1 24 := mk_info (by kernel_rfl) (by rfl)
instance : Cell Try.prog 118 := ⟨⟨_, Try.underlying118, rfl⟩, ex_size (by kernel_rfl)⟩
instance : IsT Try.prog 118 (.pointer 123) := ⟨Try.underlying118⟩
instance : Zero Try.prog 118 (.pointer none) 1 8 := mk_info (by kernel_rfl) (by rfl)
instance : Agg Try.prog 122 2 := ⟨⟨_, Try.underlying122, rfl⟩, ex_size (by kernel_rfl)⟩
instance : StructT Try.prog 122 [(0, 1), (1, 1)] (([.slice none 0 0, .bool false] : List Value)) := mk_struct (z := .agg (([.slice none 0 0, .bool false] : List Value)).toArray) (by kernel_rfl) rfl Try.underlying122 (by kernel_rfl)
instance : FieldOff Try.prog 122 0 0 := mk_fieldOff (k := 1) Try.underlying122 rfl rfl (by kernel_rfl) rfl
instance : FieldCell Try.prog 122 0 0 := ⟨_, _, _, Try.underlying122, rfl, rfl, Try.underlying34, rfl⟩
instance : FieldOff Try.prog 122 1 1 := mk_fieldOff (k := 1) Try.underlying122 rfl rfl (by kernel_rfl) rfl
instance : FieldCell Try.prog 122 1 1 := ⟨_, _, _, Try.underlying122, rfl, rfl, Try.underlying4, rfl⟩
instance : Zero Try.prog 122 (.agg (([.slice none 0 0, .bool false] : List Value)).toArray) 2 32 := mk_info (by kernel_rfl) (by rfl)
instance : Agg Try.prog 123 2 := ⟨⟨_, Try.underlying123, rfl⟩, ex_size (by kernel_rfl)⟩
instance : StructT Try.prog 123 [(0, 1), (1, 1)] (([.slice none 0 0, .bool false] : List Value)) := mk_struct (z := .agg (([.slice none 0 0, .bool false] : List Value)).toArray) (by kernel_rfl) rfl Try.underlying123 (by kernel_rfl)
instance : FieldOff Try.prog 123 0 0 := mk_fieldOff (k := 1) Try.underlying123 rfl rfl (by kernel_rfl) rfl
instance : FieldCell Try.prog 123 0 0 := ⟨_, _, _, Try.underlying123, rfl, rfl, Try.underlying34, rfl⟩
instance : FieldOff Try.prog 123 1 1 := mk_fieldOff (k := 1) Try.underlying123 rfl rfl (by kernel_rfl) rfl
instance : FieldCell Try.prog 123 1 1 := ⟨_, _, _, Try.underlying123, rfl, rfl, Try.underlying4, rfl⟩
instance : Zero Try.prog 123 (.agg (([.slice none 0 0, .bool false] : List Value)).toArray) 2 32 := mk_info (by kernel_rfl) (by rfl)
instance : Cell Try.prog 134 := ⟨⟨_, Try.underlying134, rfl⟩, ex_size (by kernel_rfl)⟩
instance : IsT Try.prog 134 (.pointer 5) := ⟨Try.underlying134⟩
instance : Zero Try.prog 134 (.pointer none) 1 8 := mk_info (by kernel_rfl) (by rfl)
instance : IsFn Try.prog 3 := ⟨_, Try.func3, rfl, rfl⟩
instance : IsFn Try.prog 4 := ⟨_, Try.func4, rfl, rfl⟩
instance : IsFn Try.prog 5 := ⟨_, Try.func5, rfl, rfl⟩
instance : IsFn Try.prog 6 := ⟨_, Try.func6, rfl, rfl⟩
instance : IsFn Try.prog 7 := ⟨_, Try.func7, rfl, rfl⟩
instance : IsFn Try.prog 8 := ⟨_, Try.func8, rfl, rfl⟩
instance : IsFn Try.prog 9 := ⟨_, Try.func9, rfl, rfl⟩
instance : IsFn Try.prog 10 := ⟨_, Try.func10, rfl, rfl⟩
instance : IsFn Try.prog 11 := ⟨_, Try.func11, rfl, rfl⟩
instance : IsFn Try.prog 12 := ⟨_, Try.func12, rfl, rfl⟩
instance : IsFn Try.prog 13 := ⟨_, Try.func13, rfl, rfl⟩
instance : IsFn Try.prog 14 := ⟨_, Try.func14, rfl, rfl⟩
instance : IsFn Try.prog 15 := ⟨_, Try.func15, rfl, rfl⟩
instance : IsFn Try.prog 16 := ⟨_, Try.func16, rfl, rfl⟩
instance : IsFn Try.prog 17 := ⟨_, Try.func17, rfl, rfl⟩
instance : IsFn Try.prog 18 := ⟨_, Try.func18, rfl, rfl⟩
instance : IsFn Try.prog 19 := ⟨_, Try.func19, rfl, rfl⟩
instance : IsFn Try.prog 20 := ⟨_, Try.func20, rfl, rfl⟩
instance : IsFn Try.prog 21 := ⟨_, Try.func21, rfl, rfl⟩
instance : IsFn Try.prog 22 := ⟨_, Try.func22, rfl, rfl⟩
instance : IsFn Try.prog 23 := ⟨_, Try.func23, rfl, rfl⟩
instance : IsFn Try.prog 24 := ⟨_, Try.func24, rfl, rfl⟩
instance : IsFn Try.prog 25 := ⟨_, Try.func25, rfl, rfl⟩
instance : IsFn Try.prog 26 := ⟨_, Try.func26, rfl, rfl⟩
instance : IsFn Try.prog 27 := ⟨_, Try.func27, rfl, rfl⟩
instance : IsFn Try.prog 28 := ⟨_, Try.func28, rfl, rfl⟩
instance : IsFn Try.prog 29 := ⟨_, Try.func29, rfl, rfl⟩
instance : IsFn Try.prog 30 := ⟨_, Try.func30, rfl, rfl⟩
instance : IsFn Try.prog 31 := ⟨_, Try.func31, rfl, rfl⟩
instance : IsFn Try.prog 32 := ⟨_, Try.func32, rfl, rfl⟩
instance : IsFn Try.prog 33 := ⟨_, Try.func33, rfl, rfl⟩
instance : IsFn Try.prog 34 := ⟨_, Try.func34, rfl, rfl⟩
instance : IsFn Try.prog 35 := ⟨_, Try.func35, rfl, rfl⟩
instance : IsFn Try.prog 36 := ⟨_, Try.func36, rfl, rfl⟩
instance : IsFn Try.prog 37 := ⟨_, Try.func37, rfl, rfl⟩
instance : IsFn Try.prog 38 := ⟨_, Try.func38, rfl, rfl⟩
instance : IsFn Try.prog 39 := ⟨_, Try.func39, rfl, rfl⟩
instance : IsFn Try.prog 40 := ⟨_, Try.func40, rfl, rfl⟩
instance : IsFn Try.prog 41 := ⟨_, Try.func41, rfl, rfl⟩
instance : IsFn Try.prog 42 := ⟨_, Try.func42, rfl, rfl⟩
instance : IsFn Try.prog 43 := ⟨_, Try.func43, rfl, rfl⟩
instance : IsFn Try.prog 44 := ⟨_, Try.func44, rfl, rfl⟩
instance : IsFn Try.prog 45 := ⟨_, Try.func45, rfl, rfl⟩
instance : IsFn Try.prog 46 := ⟨_, Try.func46, rfl, rfl⟩
instance : IsFn Try.prog 47 := ⟨_, Try.func47, rfl, rfl⟩
instance : IsFn Try.prog 48 := ⟨_, Try.func48, rfl, rfl⟩
instance : IsFn Try.prog 49 := ⟨_, Try.func49, rfl, rfl⟩
instance : IsFn Try.prog 50 := ⟨_, Try.func50, rfl, rfl⟩
instance : IsFn Try.prog 51 := ⟨_, Try.func51, rfl, rfl⟩
instance : IsFn Try.prog 52 := ⟨_, Try.func52, rfl, rfl⟩
instance : IsFn Try.prog 53 := ⟨_, Try.func53, rfl, rfl⟩
instance : IsFn Try.prog 54 := ⟨_, Try.func54, rfl, rfl⟩
instance : IsFn Try.prog 55 := ⟨_, Try.func55, rfl, rfl⟩
instance : IsFn Try.prog 56 := ⟨_, Try.func56, rfl, rfl⟩
instance : IsFn Try.prog 57 := ⟨_, Try.func57, rfl, rfl⟩
instance : IsFn Try.prog 58 := ⟨_, Try.func58, rfl, rfl⟩
instance : IsFn Try.prog 59 := ⟨_, Try.func59, rfl, rfl⟩
instance : IsFn Try.prog 60 := ⟨_, Try.func60, rfl, rfl⟩
instance : IsFn Try.prog 61 := ⟨_, Try.func61, rfl, rfl⟩
instance : IsFn Try.prog 62 := ⟨_, Try.func62, rfl, rfl⟩
instance : BS Try.prog := ⟨Try.underlying34, Try.underlying5, Try.underlying9⟩
end Go.Proofs.Ytdehkdmnddflhaa
