/- The seat's types and functions as instances: written by wip/tygen.py. -/
import Derived.Test.YtlafdffjkdiigaaK2
import Derived.Test.YtlafdffjkdiigaaOP2
import Derived.Test.YtlafdffjkdiigaaDR2
import Derived.Test.YtlafdffjkdiigaaProg
import Derived.KernelRfl
namespace Go.Proofs.Ytlafdffjkdiigaa
set_option linter.unusedVariables false
set_option linter.unusedSectionVars false
open Go Go.Proofs
section
variable {P : Program} {t s f e sz by_ off len : Nat}
theorem mk_info {z : Value} (h : (P.info? t).map (fun i => (i.zero, i.size, i.bytes)) = some (some z, sz, by_)) (hz : z.cells.size = sz) : Zero P t z sz by_ := by
  cases hi : P.info? t with
  | none => simp [hi] at h
  | some i => simp [hi] at h; exact ⟨i, hi, h.1, h.2.1, h.2.2, hz⟩
theorem ex_size (h : (P.info? t).map (·.size) = some sz) : ∃ i, P.info? t = some i ∧ i.size = sz := by
  cases hi : P.info? t with
  | none => simp [hi] at h
  | some i => simp [hi] at h; exact ⟨i, rfl, h⟩
theorem mk_fieldOff {fs : Array Field} {fd : Field} {k : Nat} (h1 : P.underlying s = some (.struct fs)) (h2 : fs[f]? = some fd) (h3 : fd.offset = off) (h4 : (P.info? fd.type).map (·.size) = some k) (hk : Nat.ble 1 k = true) : FieldOff P s f off := by
  obtain ⟨i, h5, h6⟩ := ex_size h4
  exact ⟨fs, fd, i, h1, h2, h3, h5, by rw [h6]; have : 1 ≤ k := Nat.le_of_ble_eq_true hk; omega⟩
theorem mk_slice (h1 : P.underlying t = some (.slice e)) (h2 : (P.info? e).map (·.size) = some sz) : SliceT P t e sz := by
  obtain ⟨i, h5, h6⟩ := ex_size h2
  exact ⟨i, h1, h5, h6⟩
theorem mk_array (h1 : P.underlying t = some (.array len e)) (h2 : (P.info? e).map (·.size) = some sz) : ArrayT P t len e sz := by
  obtain ⟨i, h5, h6⟩ := ex_size h2
  exact ⟨i, h1, h5, h6⟩
theorem mk_struct {z : Value} {fs : Array Field} {places : List (Nat × Nat)} {zs : List Value} (h1 : (P.info? t).map (·.zero) = some (some z)) (h2 : z.cells.toList = zs) (h3 : P.underlying t = some (.struct fs)) (h4 : fs.toList.mapM (fun f => (P.info? f.type).map fun i => (f.offset, i.size)) = some places) : StructT P t places zs := by
  cases hi : P.info? t with
  | none => simp [hi] at h1
  | some it => simp [hi] at h1; exact ⟨it, z, fs, hi, h1, h2, h3, h4⟩
theorem mk_fieldAgg {fs : Array Field} {fd : Field} {d : TypeDesc} (h1 : P.underlying s = some (.struct fs)) (h2 : fs[f]? = some fd) (h3 : fd.offset = off) (h4 : P.underlying fd.type = some d) (h5 : aggD d = true) (h6 : (P.info? fd.type).map (·.size) = some sz) : FieldAgg P s f off sz := by
  obtain ⟨i, h7, h8⟩ := ex_size h6
  exact ⟨fs, fd, d, i, h1, h2, h3, h4, h5, h7, h8⟩
end
instance : Cell Try.prog 2 := ⟨⟨_, Try.underlying2, rfl⟩, ex_size (by kernel_rfl)⟩
instance : IsT Try.prog 2 (.int .i64) := ⟨Try.underlying2⟩
instance : Zero Try.prog 2 (.int .i64 0) 1 8 := mk_info (by kernel_rfl) (by rfl)
instance : Cell Try.prog 3 := ⟨⟨_, Try.underlying3, rfl⟩, ex_size (by kernel_rfl)⟩
instance : IsT Try.prog 3 (.int .i64) := ⟨Try.underlying3⟩
instance : Zero Try.prog 3 (.int .i64 0) 1 8 := mk_info (by kernel_rfl) (by rfl)
instance : Cell Try.prog 4 := ⟨⟨_, Try.underlying4, rfl⟩, ex_size (by kernel_rfl)⟩
instance : IsT Try.prog 4 (.bool) := ⟨Try.underlying4⟩
instance : Zero Try.prog 4 (.bool false) 1 1 := mk_info (by kernel_rfl) (by rfl)
instance : Cell Try.prog 5 := ⟨⟨_, Try.underlying5, rfl⟩, ex_size (by kernel_rfl)⟩
instance : IsT Try.prog 5 (.int .u8) := ⟨Try.underlying5⟩
instance : Zero Try.prog 5 (.int .u8 0) 1 1 := mk_info (by kernel_rfl) (by rfl)
instance : Cell Try.prog 9 := ⟨⟨_, Try.underlying9, rfl⟩, ex_size (by kernel_rfl)⟩
instance : IsT Try.prog 9 (.string) := ⟨Try.underlying9⟩
instance : Zero Try.prog 9 (.string ByteArray.empty) 1 16 := mk_info (by kernel_rfl) (by rfl)
instance : Cell Try.prog 12 := ⟨⟨_, Try.underlying12, rfl⟩, ex_size (by kernel_rfl)⟩
instance : IsT Try.prog 12 (.int .u64) := ⟨Try.underlying12⟩
instance : Zero Try.prog 12 (.int .u64 0) 1 8 := mk_info (by kernel_rfl) (by rfl)
instance : Agg Try.prog 13 2 := ⟨⟨_, Try.underlying13, rfl⟩, ex_size (by kernel_rfl)⟩
instance : StructT Try.prog 13 [(0, 1), (1, 1)] (([.string ByteArray.empty, .int .u64 0] : List Value)) := mk_struct (z := .agg (([.string ByteArray.empty, .int .u64 0] : List Value)).toArray) (by kernel_rfl) rfl Try.underlying13 (by kernel_rfl)
instance : FieldOff Try.prog 13 0 0 := mk_fieldOff (k := 1) Try.underlying13 rfl rfl (by kernel_rfl) rfl
instance : FieldCell Try.prog 13 0 0 := ⟨_, _, _, Try.underlying13, rfl, rfl, Try.underlying9, rfl⟩
instance : FieldOff Try.prog 13 1 1 := mk_fieldOff (k := 1) Try.underlying13 rfl rfl (by kernel_rfl) rfl
instance : FieldCell Try.prog 13 1 1 := ⟨_, _, _, Try.underlying13, rfl, rfl, Try.underlying12, rfl⟩
instance : Zero Try.prog 13 (.agg (([.string ByteArray.empty, .int .u64 0] : List Value)).toArray) 2 24 := mk_info (by kernel_rfl) (by rfl)
instance : Cell Try.prog 21 := ⟨⟨_, Try.underlying21, rfl⟩, ex_size (by kernel_rfl)⟩
instance : IsT Try.prog 21 (.int .i32) := ⟨Try.underlying21⟩
instance : Zero Try.prog 21 (.int .i32 0) 1 4 := mk_info (by kernel_rfl) (by rfl)
instance : Cell Try.prog 22 := ⟨⟨_, Try.underlying22, rfl⟩, ex_size (by kernel_rfl)⟩
instance : IsT Try.prog 22 (.int .u64) := ⟨Try.underlying22⟩
instance : Zero Try.prog 22 (.int .u64 0) 1 8 := mk_info (by kernel_rfl) (by rfl)
instance : Cell Try.prog 23 := ⟨⟨_, Try.underlying23, rfl⟩, ex_size (by kernel_rfl)⟩
instance : IsT Try.prog 23 (.slice 28) := ⟨Try.underlying23⟩
instance : SliceT Try.prog 23 28 7 := mk_slice Try.underlying23 (by kernel_rfl)
instance : Zero Try.prog 23 (.slice none 0 0) 1 24 := mk_info (by kernel_rfl) (by rfl)
instance : Agg Try.prog 25 6 := ⟨⟨_, Try.underlying25, rfl⟩, ex_size (by kernel_rfl)⟩
instance : StructT Try.prog 25 [(0, 1), (1, 1), (2, 1), (3, 1), (4, 1), (5, 1)] (([.string ByteArray.empty, .bool false, .string ByteArray.empty, .int .u64 0, .bool false, .string ByteArray.empty] : List Value)) := mk_struct (z := .agg (([.string ByteArray.empty, .bool false, .string ByteArray.empty, .int .u64 0, .bool false, .string ByteArray.empty] : List Value)).toArray) (by kernel_rfl) rfl Try.underlying25 (by kernel_rfl)
instance : FieldOff Try.prog 25 0 0 := mk_fieldOff (k := 1) Try.underlying25 rfl rfl (by kernel_rfl) rfl
instance : FieldCell Try.prog 25 0 0 := ⟨_, _, _, Try.underlying25, rfl, rfl, Try.underlying9, rfl⟩
instance : FieldOff Try.prog 25 1 1 := mk_fieldOff (k := 1) Try.underlying25 rfl rfl (by kernel_rfl) rfl
instance : FieldCell Try.prog 25 1 1 := ⟨_, _, _, Try.underlying25, rfl, rfl, Try.underlying4, rfl⟩
instance : FieldOff Try.prog 25 2 2 := mk_fieldOff (k := 1) Try.underlying25 rfl rfl (by kernel_rfl) rfl
instance : FieldCell Try.prog 25 2 2 := ⟨_, _, _, Try.underlying25, rfl, rfl, Try.underlying9, rfl⟩
instance : FieldOff Try.prog 25 3 3 := mk_fieldOff (k := 1) Try.underlying25 rfl rfl (by kernel_rfl) rfl
instance : FieldCell Try.prog 25 3 3 := ⟨_, _, _, Try.underlying25, rfl, rfl, Try.underlying22, rfl⟩
instance : FieldOff Try.prog 25 4 4 := mk_fieldOff (k := 1) Try.underlying25 rfl rfl (by kernel_rfl) rfl
instance : FieldCell Try.prog 25 4 4 := ⟨_, _, _, Try.underlying25, rfl, rfl, Try.underlying4, rfl⟩
instance : FieldOff Try.prog 25 5 5 := mk_fieldOff (k := 1) Try.underlying25 rfl rfl (by kernel_rfl) rfl
instance : FieldCell Try.prog 25 5 5 := ⟨_, _, _, Try.underlying25, rfl, rfl, Try.underlying9, rfl⟩
instance : Zero Try.prog 25 (.agg (([.string ByteArray.empty, .bool false, .string ByteArray.empty, .int .u64 0, .bool false, .string ByteArray.empty] : List Value)).toArray) 6 72 := mk_info (by kernel_rfl) (by rfl)
instance : Agg Try.prog 26 6 := ⟨⟨_, Try.underlying26, rfl⟩, ex_size (by kernel_rfl)⟩
instance : StructT Try.prog 26 [(0, 1), (1, 1), (2, 1), (3, 1), (4, 1), (5, 1)] (([.string ByteArray.empty, .bool false, .string ByteArray.empty, .int .u64 0, .bool false, .string ByteArray.empty] : List Value)) := mk_struct (z := .agg (([.string ByteArray.empty, .bool false, .string ByteArray.empty, .int .u64 0, .bool false, .string ByteArray.empty] : List Value)).toArray) (by kernel_rfl) rfl Try.underlying26 (by kernel_rfl)
instance : FieldOff Try.prog 26 0 0 := mk_fieldOff (k := 1) Try.underlying26 rfl rfl (by kernel_rfl) rfl
instance : FieldCell Try.prog 26 0 0 := ⟨_, _, _, Try.underlying26, rfl, rfl, Try.underlying9, rfl⟩
instance : FieldOff Try.prog 26 1 1 := mk_fieldOff (k := 1) Try.underlying26 rfl rfl (by kernel_rfl) rfl
instance : FieldCell Try.prog 26 1 1 := ⟨_, _, _, Try.underlying26, rfl, rfl, Try.underlying4, rfl⟩
instance : FieldOff Try.prog 26 2 2 := mk_fieldOff (k := 1) Try.underlying26 rfl rfl (by kernel_rfl) rfl
instance : FieldCell Try.prog 26 2 2 := ⟨_, _, _, Try.underlying26, rfl, rfl, Try.underlying9, rfl⟩
instance : FieldOff Try.prog 26 3 3 := mk_fieldOff (k := 1) Try.underlying26 rfl rfl (by kernel_rfl) rfl
instance : FieldCell Try.prog 26 3 3 := ⟨_, _, _, Try.underlying26, rfl, rfl, Try.underlying22, rfl⟩
instance : FieldOff Try.prog 26 4 4 := mk_fieldOff (k := 1) Try.underlying26 rfl rfl (by kernel_rfl) rfl
instance : FieldCell Try.prog 26 4 4 := ⟨_, _, _, Try.underlying26, rfl, rfl, Try.underlying4, rfl⟩
instance : FieldOff Try.prog 26 5 5 := mk_fieldOff (k := 1) Try.underlying26 rfl rfl (by kernel_rfl) rfl
instance : FieldCell Try.prog 26 5 5 := ⟨_, _, _, Try.underlying26, rfl, rfl, Try.underlying9, rfl⟩
instance : Zero Try.prog 26 (.agg (([.string ByteArray.empty, .bool false, .string ByteArray.empty, .int .u64 0, .bool false, .string ByteArray.empty] : List Value)).toArray) 6 72 := mk_info (by kernel_rfl) (by rfl)
instance : Agg Try.prog 27 7 := ⟨⟨_, Try.underlying27, rfl⟩, ex_size (by kernel_rfl)⟩
instance : StructT Try.prog 27 [(0, 1), (1, 1), (2, 1), (3, 1), (4, 1), (5, 1), (6, 1)] (([.int .u64 0, .int .i64 0, .string ByteArray.empty, .int .u64 0, .string ByteArray.empty, .int .i64 0, .int .u64 0] : List Value)) := mk_struct (z := .agg (([.int .u64 0, .int .i64 0, .string ByteArray.empty, .int .u64 0, .string ByteArray.empty, .int .i64 0, .int .u64 0] : List Value)).toArray) (by kernel_rfl) rfl Try.underlying27 (by kernel_rfl)
instance : FieldOff Try.prog 27 0 0 := mk_fieldOff (k := 1) Try.underlying27 rfl rfl (by kernel_rfl) rfl
instance : FieldCell Try.prog 27 0 0 := ⟨_, _, _, Try.underlying27, rfl, rfl, Try.underlying22, rfl⟩
instance : FieldOff Try.prog 27 1 1 := mk_fieldOff (k := 1) Try.underlying27 rfl rfl (by kernel_rfl) rfl
instance : FieldCell Try.prog 27 1 1 := ⟨_, _, _, Try.underlying27, rfl, rfl, Try.underlying3, rfl⟩
instance : FieldOff Try.prog 27 2 2 := mk_fieldOff (k := 1) Try.underlying27 rfl rfl (by kernel_rfl) rfl
instance : FieldCell Try.prog 27 2 2 := ⟨_, _, _, Try.underlying27, rfl, rfl, Try.underlying9, rfl⟩
instance : FieldOff Try.prog 27 3 3 := mk_fieldOff (k := 1) Try.underlying27 rfl rfl (by kernel_rfl) rfl
instance : FieldCell Try.prog 27 3 3 := ⟨_, _, _, Try.underlying27, rfl, rfl, Try.underlying22, rfl⟩
instance : FieldOff Try.prog 27 4 4 := mk_fieldOff (k := 1) Try.underlying27 rfl rfl (by kernel_rfl) rfl
instance : FieldCell Try.prog 27 4 4 := ⟨_, _, _, Try.underlying27, rfl, rfl, Try.underlying9, rfl⟩
instance : FieldOff Try.prog 27 5 5 := mk_fieldOff (k := 1) Try.underlying27 rfl rfl (by kernel_rfl) rfl
instance : FieldCell Try.prog 27 5 5 := ⟨_, _, _, Try.underlying27, rfl, rfl, Try.underlying3, rfl⟩
instance : FieldOff Try.prog 27 6 6 := mk_fieldOff (k := 1) Try.underlying27 rfl rfl (by kernel_rfl) rfl
instance : FieldCell Try.prog 27 6 6 := ⟨_, _, _, Try.underlying27, rfl, rfl, Try.underlying22, rfl⟩
instance : Zero Try.prog 27 (.agg (([.int .u64 0, .int .i64 0, .string ByteArray.empty, .int .u64 0, .string ByteArray.empty, .int .i64 0, .int .u64 0] : List Value)).toArray) 7 72 := mk_info (by kernel_rfl) (by rfl)
instance : Agg Try.prog 28 7 := ⟨⟨_, Try.underlying28, rfl⟩, ex_size (by kernel_rfl)⟩
instance : StructT Try.prog 28 [(0, 1), (1, 1), (2, 1), (3, 1), (4, 1), (5, 1), (6, 1)] (([.int .u64 0, .int .i64 0, .string ByteArray.empty, .int .u64 0, .string ByteArray.empty, .int .i64 0, .int .u64 0] : List Value)) := mk_struct (z := .agg (([.int .u64 0, .int .i64 0, .string ByteArray.empty, .int .u64 0, .string ByteArray.empty, .int .i64 0, .int .u64 0] : List Value)).toArray) (by kernel_rfl) rfl Try.underlying28 (by kernel_rfl)
instance : FieldOff Try.prog 28 0 0 := mk_fieldOff (k := 1) Try.underlying28 rfl rfl (by kernel_rfl) rfl
instance : FieldCell Try.prog 28 0 0 := ⟨_, _, _, Try.underlying28, rfl, rfl, Try.underlying22, rfl⟩
instance : FieldOff Try.prog 28 1 1 := mk_fieldOff (k := 1) Try.underlying28 rfl rfl (by kernel_rfl) rfl
instance : FieldCell Try.prog 28 1 1 := ⟨_, _, _, Try.underlying28, rfl, rfl, Try.underlying3, rfl⟩
instance : FieldOff Try.prog 28 2 2 := mk_fieldOff (k := 1) Try.underlying28 rfl rfl (by kernel_rfl) rfl
instance : FieldCell Try.prog 28 2 2 := ⟨_, _, _, Try.underlying28, rfl, rfl, Try.underlying9, rfl⟩
instance : FieldOff Try.prog 28 3 3 := mk_fieldOff (k := 1) Try.underlying28 rfl rfl (by kernel_rfl) rfl
instance : FieldCell Try.prog 28 3 3 := ⟨_, _, _, Try.underlying28, rfl, rfl, Try.underlying22, rfl⟩
instance : FieldOff Try.prog 28 4 4 := mk_fieldOff (k := 1) Try.underlying28 rfl rfl (by kernel_rfl) rfl
instance : FieldCell Try.prog 28 4 4 := ⟨_, _, _, Try.underlying28, rfl, rfl, Try.underlying9, rfl⟩
instance : FieldOff Try.prog 28 5 5 := mk_fieldOff (k := 1) Try.underlying28 rfl rfl (by kernel_rfl) rfl
instance : FieldCell Try.prog 28 5 5 := ⟨_, _, _, Try.underlying28, rfl, rfl, Try.underlying3, rfl⟩
instance : FieldOff Try.prog 28 6 6 := mk_fieldOff (k := 1) Try.underlying28 rfl rfl (by kernel_rfl) rfl
instance : FieldCell Try.prog 28 6 6 := ⟨_, _, _, Try.underlying28, rfl, rfl, Try.underlying22, rfl⟩
instance : Zero Try.prog 28 (.agg (([.int .u64 0, .int .i64 0, .string ByteArray.empty, .int .u64 0, .string ByteArray.empty, .int .i64 0, .int .u64 0] : List Value)).toArray) 7 72 := mk_info (by kernel_rfl) (by rfl)
instance : Cell Try.prog 39 := ⟨⟨_, Try.underlying39, rfl⟩, ex_size (by kernel_rfl)⟩
instance : IsT Try.prog 39 (.int .i64) := ⟨Try.underlying39⟩
instance : Zero Try.prog 39 (.int .i64 0) 1 8 := mk_info (by kernel_rfl) (by rfl)
instance : Agg Try.prog 41 2 := ⟨⟨_, Try.underlying41, rfl⟩, ex_size (by kernel_rfl)⟩
instance : StructT Try.prog 41 [(0, 1), (1, 1)] (([.bool false, .string ByteArray.empty] : List Value)) := mk_struct (z := .agg (([.bool false, .string ByteArray.empty] : List Value)).toArray) (by kernel_rfl) rfl Try.underlying41 (by kernel_rfl)
instance : FieldOff Try.prog 41 0 0 := mk_fieldOff (k := 1) Try.underlying41 rfl rfl (by kernel_rfl) rfl
instance : FieldCell Try.prog 41 0 0 := ⟨_, _, _, Try.underlying41, rfl, rfl, Try.underlying4, rfl⟩
instance : FieldOff Try.prog 41 1 1 := mk_fieldOff (k := 1) Try.underlying41 rfl rfl (by kernel_rfl) rfl
instance : FieldCell Try.prog 41 1 1 := ⟨_, _, _, Try.underlying41, rfl, rfl, Try.underlying9, rfl⟩
instance : Zero Try.prog 41 (.agg (([.bool false, .string ByteArray.empty] : List Value)).toArray) 2 24 := mk_info (by kernel_rfl) (by rfl)
instance : Agg Try.prog 42 2 := ⟨⟨_, Try.underlying42, rfl⟩, ex_size (by kernel_rfl)⟩
instance : StructT Try.prog 42 [(0, 1), (1, 1)] (([.bool false, .string ByteArray.empty] : List Value)) := mk_struct (z := .agg (([.bool false, .string ByteArray.empty] : List Value)).toArray) (by kernel_rfl) rfl Try.underlying42 (by kernel_rfl)
instance : FieldOff Try.prog 42 0 0 := mk_fieldOff (k := 1) Try.underlying42 rfl rfl (by kernel_rfl) rfl
instance : FieldCell Try.prog 42 0 0 := ⟨_, _, _, Try.underlying42, rfl, rfl, Try.underlying4, rfl⟩
instance : FieldOff Try.prog 42 1 1 := mk_fieldOff (k := 1) Try.underlying42 rfl rfl (by kernel_rfl) rfl
instance : FieldCell Try.prog 42 1 1 := ⟨_, _, _, Try.underlying42, rfl, rfl, Try.underlying9, rfl⟩
instance : Zero Try.prog 42 (.agg (([.bool false, .string ByteArray.empty] : List Value)).toArray) 2 24 := mk_info (by kernel_rfl) (by rfl)
instance : Cell Try.prog 49 := ⟨⟨_, Try.underlying49, rfl⟩, ex_size (by kernel_rfl)⟩
instance : IsT Try.prog 49 (.slice 5) := ⟨Try.underlying49⟩
instance : SliceT Try.prog 49 5 1 := mk_slice Try.underlying49 (by kernel_rfl)
instance : Zero Try.prog 49 (.slice none 0 0) 1 24 := mk_info (by kernel_rfl) (by rfl)
instance : Cell Try.prog 50 := ⟨⟨_, Try.underlying50, rfl⟩, ex_size (by kernel_rfl)⟩
instance : IsT Try.prog 50 (.int .u64) := ⟨Try.underlying50⟩
instance : Zero Try.prog 50 (.int .u64 0) 1 8 := mk_info (by kernel_rfl) (by rfl)
instance : Cell Try.prog 58 := ⟨⟨_, Try.underlying58, rfl⟩, ex_size (by kernel_rfl)⟩
instance : IsT Try.prog 58 (.int .u32) := ⟨Try.underlying58⟩
instance : Zero Try.prog 58 (.int .u32 0) 1 4 := mk_info (by kernel_rfl) (by rfl)
instance : Cell Try.prog 62 := ⟨⟨_, Try.underlying62, rfl⟩, ex_size (by kernel_rfl)⟩
instance : IsT Try.prog 62 (.pointer 5) := ⟨Try.underlying62⟩
instance : Zero Try.prog 62 (.pointer none) 1 8 := mk_info (by kernel_rfl) (by rfl)
instance : IsFn Try.prog 3 := ⟨_, Try.func3, rfl, rfl⟩
instance : IsFn Try.prog 4 := ⟨_, Try.func4, rfl, rfl⟩
instance : IsFn Try.prog 5 := ⟨_, Try.func5, rfl, rfl⟩
instance : IsFn Try.prog 6 := ⟨_, Try.func6, rfl, rfl⟩
instance : IsFn Try.prog 7 := ⟨_, Try.func7, rfl, rfl⟩
instance : IsFn Try.prog 8 := ⟨_, Try.func8, rfl, rfl⟩
instance : IsFn Try.prog 9 := ⟨_, Try.func9, rfl, rfl⟩
instance : IsFn Try.prog 10 := ⟨_, Try.func10, rfl, rfl⟩
instance : IsFn Try.prog 11 := ⟨_, Try.func11, rfl, rfl⟩
instance : IsFn Try.prog 12 := ⟨_, Try.func12, rfl, rfl⟩
instance : IsFn Try.prog 13 := ⟨_, Try.func13, rfl, rfl⟩
instance : IsFn Try.prog 14 := ⟨_, Try.func14, rfl, rfl⟩
instance : IsFn Try.prog 15 := ⟨_, Try.func15, rfl, rfl⟩
instance : IsFn Try.prog 16 := ⟨_, Try.func16, rfl, rfl⟩
instance : IsFn Try.prog 17 := ⟨_, Try.func17, rfl, rfl⟩
instance : IsFn Try.prog 18 := ⟨_, Try.func18, rfl, rfl⟩
instance : IsFn Try.prog 19 := ⟨_, Try.func19, rfl, rfl⟩
instance : IsFn Try.prog 20 := ⟨_, Try.func20, rfl, rfl⟩
instance : BS Try.prog := ⟨Try.underlying49, Try.underlying5, Try.underlying9⟩
end Go.Proofs.Ytlafdffjkdiigaa
