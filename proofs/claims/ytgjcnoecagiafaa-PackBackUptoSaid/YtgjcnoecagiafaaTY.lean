/- The seat's types and functions as instances: written by wip/tygen.py. -/
import Derived.Test.YtgjcnoecagiafaaK2
import Derived.Test.YtgjcnoecagiafaaOP2
import Derived.Test.YtgjcnoecagiafaaDR2
import Derived.Test.YtgjcnoecagiafaaProg
import Derived.KernelRfl
namespace Go.Proofs.Ytgjcnoecagiafaa
set_option linter.unusedVariables false
set_option linter.unusedSectionVars false
open Go Go.Proofs
section
variable {P : Program} {t s f e sz by_ off len : Nat}
theorem mk_info {z : Value} (h : (P.info? t).map (fun i => (i.zero, i.size, i.bytes)) = some (some z, sz, by_)) (hz : z.cells.size = sz) : Zero P t z sz by_ := by
  cases hi : P.info? t with
  | none => simp [hi] at h
  | some i => simp [hi] at h; exact ⟨i, hi, h.1, h.2.1, h.2.2, hz⟩
theorem ex_size (h : (P.info? t).map (·.size) = some sz) : ∃ i, P.info? t = some i ∧ i.size = sz := by
  cases hi : P.info? t with
  | none => simp [hi] at h
  | some i => simp [hi] at h; exact ⟨i, rfl, h⟩
theorem mk_fieldOff {fs : Array Field} {fd : Field} {k : Nat} (h1 : P.underlying s = some (.struct fs)) (h2 : fs[f]? = some fd) (h3 : fd.offset = off) (h4 : (P.info? fd.type).map (·.size) = some k) (hk : Nat.ble 1 k = true) : FieldOff P s f off := by
  obtain ⟨i, h5, h6⟩ := ex_size h4
  exact ⟨fs, fd, i, h1, h2, h3, h5, by rw [h6]; have : 1 ≤ k := Nat.le_of_ble_eq_true hk; omega⟩
theorem mk_slice (h1 : P.underlying t = some (.slice e)) (h2 : (P.info? e).map (·.size) = some sz) : SliceT P t e sz := by
  obtain ⟨i, h5, h6⟩ := ex_size h2
  exact ⟨i, h1, h5, h6⟩
theorem mk_array (h1 : P.underlying t = some (.array len e)) (h2 : (P.info? e).map (·.size) = some sz) : ArrayT P t len e sz := by
  obtain ⟨i, h5, h6⟩ := ex_size h2
  exact ⟨i, h1, h5, h6⟩
theorem mk_struct {z : Value} {fs : Array Field} {places : List (Nat × Nat)} {zs : List Value} (h1 : (P.info? t).map (·.zero) = some (some z)) (h2 : z.cells.toList = zs) (h3 : P.underlying t = some (.struct fs)) (h4 : fs.toList.mapM (fun f => (P.info? f.type).map fun i => (f.offset, i.size)) = some places) : StructT P t places zs := by
  cases hi : P.info? t with
  | none => simp [hi] at h1
  | some it => simp [hi] at h1; exact ⟨it, z, fs, hi, h1, h2, h3, h4⟩
theorem mk_fieldAgg {fs : Array Field} {fd : Field} {d : TypeDesc} (h1 : P.underlying s = some (.struct fs)) (h2 : fs[f]? = some fd) (h3 : fd.offset = off) (h4 : P.underlying fd.type = some d) (h5 : aggD d = true) (h6 : (P.info? fd.type).map (·.size) = some sz) : FieldAgg P s f off sz := by
  obtain ⟨i, h7, h8⟩ := ex_size h6
  exact ⟨fs, fd, d, i, h1, h2, h3, h4, h5, h7, h8⟩
end
instance : Cell Try.prog 2 := ⟨⟨_, Try.underlying2, rfl⟩, ex_size (by kernel_rfl)⟩
instance : IsT Try.prog 2 (.int .i64) := ⟨Try.underlying2⟩
instance : Zero Try.prog 2 (.int .i64 0) 1 8 := mk_info (by kernel_rfl) (by rfl)
instance : Cell Try.prog 3 := ⟨⟨_, Try.underlying3, rfl⟩, ex_size (by kernel_rfl)⟩
instance : IsT Try.prog 3 (.int .i64) := ⟨Try.underlying3⟩
instance : Zero Try.prog 3 (.int .i64 0) 1 8 := mk_info (by kernel_rfl) (by rfl)
instance : Cell Try.prog 4 := ⟨⟨_, Try.underlying4, rfl⟩, ex_size (by kernel_rfl)⟩
instance : IsT Try.prog 4 (.bool) := ⟨Try.underlying4⟩
instance : Zero Try.prog 4 (.bool false) 1 1 := mk_info (by kernel_rfl) (by rfl)
instance : Cell Try.prog 5 := ⟨⟨_, Try.underlying5, rfl⟩, ex_size (by kernel_rfl)⟩
instance : IsT Try.prog 5 (.int .u8) := ⟨Try.underlying5⟩
instance : Zero Try.prog 5 (.int .u8 0) 1 1 := mk_info (by kernel_rfl) (by rfl)
instance : Cell Try.prog 9 := ⟨⟨_, Try.underlying9, rfl⟩, ex_size (by kernel_rfl)⟩
instance : IsT Try.prog 9 (.string) := ⟨Try.underlying9⟩
instance : Zero Try.prog 9 (.string ByteArray.empty) 1 16 := mk_info (by kernel_rfl) (by rfl)
instance : Cell Try.prog 12 := ⟨⟨_, Try.underlying12, rfl⟩, ex_size (by kernel_rfl)⟩
instance : IsT Try.prog 12 (.int .u64) := ⟨Try.underlying12⟩
instance : Zero Try.prog 12 (.int .u64 0) 1 8 := mk_info (by kernel_rfl) (by rfl)
instance : Agg Try.prog 13 2 := ⟨⟨_, Try.underlying13, rfl⟩, ex_size (by kernel_rfl)⟩
instance : StructT Try.prog 13 [(0, 1), (1, 1)] (([.string ByteArray.empty, .int .u64 0] : List Value)) := mk_struct (z := .agg (([.string ByteArray.empty, .int .u64 0] : List Value)).toArray) (by kernel_rfl) rfl Try.underlying13 (by kernel_rfl)
instance : FieldOff Try.prog 13 0 0 := mk_fieldOff (k := 1) Try.underlying13 rfl rfl (by kernel_rfl) rfl
instance : FieldCell Try.prog 13 0 0 := ⟨_, _, _, Try.underlying13, rfl, rfl, Try.underlying9, rfl⟩
instance : FieldOff Try.prog 13 1 1 := mk_fieldOff (k := 1) Try.underlying13 rfl rfl (by kernel_rfl) rfl
instance : FieldCell Try.prog 13 1 1 := ⟨_, _, _, Try.underlying13, rfl, rfl, Try.underlying12, rfl⟩
instance : Zero Try.prog 13 (.agg (([.string ByteArray.empty, .int .u64 0] : List Value)).toArray) 2 24 := mk_info (by kernel_rfl) (by rfl)
instance : Cell Try.prog 21 := ⟨⟨_, Try.underlying21, rfl⟩, ex_size (by kernel_rfl)⟩
instance : IsT Try.prog 21 (.int .i32) := ⟨Try.underlying21⟩
instance : Zero Try.prog 21 (.int .i32 0) 1 4 := mk_info (by kernel_rfl) (by rfl)
instance : Cell Try.prog 22 := ⟨⟨_, Try.underlying22, rfl⟩, ex_size (by kernel_rfl)⟩
instance : IsT Try.prog 22 (.slice 5) := ⟨Try.underlying22⟩
instance : SliceT Try.prog 22 5 1 := mk_slice Try.underlying22 (by kernel_rfl)
instance : Zero Try.prog 22 (.slice none 0 0) 1 24 := mk_info (by kernel_rfl) (by rfl)
instance : Cell Try.prog 23 := ⟨⟨_, Try.underlying23, rfl⟩, ex_size (by kernel_rfl)⟩
instance : IsT Try.prog 23 (.slice 3) := ⟨Try.underlying23⟩
instance : SliceT Try.prog 23 3 1 := mk_slice Try.underlying23 (by kernel_rfl)
instance : Zero Try.prog 23 (.slice none 0 0) 1 24 := mk_info (by kernel_rfl) (by rfl)
instance : Cell Try.prog 26 := ⟨⟨_, Try.underlying26, rfl⟩, ex_size (by kernel_rfl)⟩
instance : IsT Try.prog 26 (.pointer 64) := ⟨Try.underlying26⟩
instance : Zero Try.prog 26 (.pointer none) 1 8 := mk_info (by kernel_rfl) (by rfl)
instance : Cell Try.prog 28 := ⟨⟨_, Try.underlying28, rfl⟩, ex_size (by kernel_rfl)⟩
instance : IsT Try.prog 28 (.pointer 30) := ⟨Try.underlying28⟩
instance : Zero Try.prog 28 (.pointer none) 1 8 := mk_info (by kernel_rfl) (by rfl)
instance : Agg Try.prog 29 3 := ⟨⟨_, Try.underlying29, rfl⟩, ex_size (by kernel_rfl)⟩
instance : StructT Try.prog 29 [(0, 1), (1, 1), (2, 1)] (([.slice none 0 0, .int .i64 0, .bool false] : List Value)) := mk_struct (z := .agg (([.slice none 0 0, .int .i64 0, .bool false] : List Value)).toArray) (by kernel_rfl) rfl Try.underlying29 (by kernel_rfl)
instance : FieldOff Try.prog 29 0 0 := mk_fieldOff (k := 1) Try.underlying29 rfl rfl (by kernel_rfl) rfl
instance : FieldCell Try.prog 29 0 0 := ⟨_, _, _, Try.underlying29, rfl, rfl, Try.underlying22, rfl⟩
instance : FieldOff Try.prog 29 1 1 := mk_fieldOff (k := 1) Try.underlying29 rfl rfl (by kernel_rfl) rfl
instance : FieldCell Try.prog 29 1 1 := ⟨_, _, _, Try.underlying29, rfl, rfl, Try.underlying3, rfl⟩
instance : FieldOff Try.prog 29 2 2 := mk_fieldOff (k := 1) Try.underlying29 rfl rfl (by kernel_rfl) rfl
instance : FieldCell Try.prog 29 2 2 := ⟨_, _, _, Try.underlying29, rfl, rfl, Try.underlying4, rfl⟩
instance : Zero Try.prog 29 (.agg (([.slice none 0 0, .int .i64 0, .bool false] : List Value)).toArray) 3 40 := mk_info (by kernel_rfl) (by rfl)
instance : Agg Try.prog 30 3 := ⟨⟨_, Try.underlying30, rfl⟩, ex_size (by kernel_rfl)⟩
instance : StructT Try.prog 30 [(0, 1), (1, 1), (2, 1)] (([.slice none 0 0, .int .i64 0, .bool false] : List Value)) := mk_struct (z := .agg (([.slice none 0 0, .int .i64 0, .bool false] : List Value)).toArray) (by kernel_rfl) rfl Try.underlying30 (by kernel_rfl)
instance : FieldOff Try.prog 30 0 0 := mk_fieldOff (k := 1) Try.underlying30 rfl rfl (by kernel_rfl) rfl
instance : FieldCell Try.prog 30 0 0 := ⟨_, _, _, Try.underlying30, rfl, rfl, Try.underlying22, rfl⟩
instance : FieldOff Try.prog 30 1 1 := mk_fieldOff (k := 1) Try.underlying30 rfl rfl (by kernel_rfl) rfl
instance : FieldCell Try.prog 30 1 1 := ⟨_, _, _, Try.underlying30, rfl, rfl, Try.underlying3, rfl⟩
instance : FieldOff Try.prog 30 2 2 := mk_fieldOff (k := 1) Try.underlying30 rfl rfl (by kernel_rfl) rfl
instance : FieldCell Try.prog 30 2 2 := ⟨_, _, _, Try.underlying30, rfl, rfl, Try.underlying4, rfl⟩
instance : Zero Try.prog 30 (.agg (([.slice none 0 0, .int .i64 0, .bool false] : List Value)).toArray) 3 40 := mk_info (by kernel_rfl) (by rfl)
instance : Cell Try.prog 36 := ⟨⟨_, Try.underlying36, rfl⟩, ex_size (by kernel_rfl)⟩
instance : IsT Try.prog 36 (.int .u16) := ⟨Try.underlying36⟩
instance : Zero Try.prog 36 (.int .u16 0) 1 2 := mk_info (by kernel_rfl) (by rfl)
instance : Cell Try.prog 38 := ⟨⟨_, Try.underlying38, rfl⟩, ex_size (by kernel_rfl)⟩
instance : IsT Try.prog 38 (.int .u32) := ⟨Try.underlying38⟩
instance : Zero Try.prog 38 (.int .u32 0) 1 4 := mk_info (by kernel_rfl) (by rfl)
instance : Cell Try.prog 40 := ⟨⟨_, Try.underlying40, rfl⟩, ex_size (by kernel_rfl)⟩
instance : IsT Try.prog 40 (.int .u64) := ⟨Try.underlying40⟩
instance : Zero Try.prog 40 (.int .u64 0) 1 8 := mk_info (by kernel_rfl) (by rfl)
instance : Cell Try.prog 43 := ⟨⟨_, Try.underlying43, rfl⟩, ex_size (by kernel_rfl)⟩
instance : IsT Try.prog 43 (.slice 60) := ⟨Try.underlying43⟩
instance : SliceT Try.prog 43 60 3 := mk_slice Try.underlying43 (by kernel_rfl)
instance : Zero Try.prog 43 (.slice none 0 0) 1 24 := mk_info (by kernel_rfl) (by rfl)
instance : Cell Try.prog 48 := ⟨⟨_, Try.underlying48, rfl⟩, ex_size (by kernel_rfl)⟩
instance : IsT Try.prog 48 (.pointer 50) := ⟨Try.underlying48⟩
instance : Zero Try.prog 48 (.pointer none) 1 8 := mk_info (by kernel_rfl) (by rfl)
instance : Agg Try.prog 49 1 := ⟨⟨_, Try.underlying49, rfl⟩, ex_size (by kernel_rfl)⟩
instance : StructT Try.prog 49 [(0, 1)] (([.slice none 0 0] : List Value)) := mk_struct (z := .agg (([.slice none 0 0] : List Value)).toArray) (by kernel_rfl) rfl Try.underlying49 (by kernel_rfl)
instance : FieldOff Try.prog 49 0 0 := mk_fieldOff (k := 1) Try.underlying49 rfl rfl (by kernel_rfl) rfl
instance : FieldCell Try.prog 49 0 0 := ⟨_, _, _, Try.underlying49, rfl, rfl, Try.underlying22, rfl⟩
instance : Zero Try.prog 49 (.agg (([.slice none 0 0] : List Value)).toArray) 1 24 := mk_info (by kernel_rfl) (by rfl)
instance : Agg Try.prog 50 1 := ⟨⟨_, Try.underlying50, rfl⟩, ex_size (by kernel_rfl)⟩
instance : StructT Try.prog 50 [(0, 1)] (([.slice none 0 0] : List Value)) := mk_struct (z := .agg (([.slice none 0 0] : List Value)).toArray) (by kernel_rfl) rfl Try.underlying50 (by kernel_rfl)
instance : FieldOff Try.prog 50 0 0 := mk_fieldOff (k := 1) Try.underlying50 rfl rfl (by kernel_rfl) rfl
instance : FieldCell Try.prog 50 0 0 := ⟨_, _, _, Try.underlying50, rfl, rfl, Try.underlying22, rfl⟩
instance : Zero Try.prog 50 (.agg (([.slice none 0 0] : List Value)).toArray) 1 24 := mk_info (by kernel_rfl) (by rfl)
instance : Cell Try.prog 53 := ⟨⟨_, Try.underlying53, rfl⟩, ex_size (by kernel_rfl)⟩
instance : IsT Try.prog 53 (.int .u64) := ⟨Try.underlying53⟩
instance : Zero Try.prog 53 (.int .u64 0) 1 8 := mk_info (by kernel_rfl) (by rfl)
instance : Agg Try.prog 59 3 := ⟨⟨_, Try.underlying59, rfl⟩, ex_size (by kernel_rfl)⟩
instance : StructT Try.prog 59 [(0, 1), (1, 1), (2, 1)] (([.int .i64 0, .int .u64 0, .string ByteArray.empty] : List Value)) := mk_struct (z := .agg (([.int .i64 0, .int .u64 0, .string ByteArray.empty] : List Value)).toArray) (by kernel_rfl) rfl Try.underlying59 (by kernel_rfl)
instance : FieldOff Try.prog 59 0 0 := mk_fieldOff (k := 1) Try.underlying59 rfl rfl (by kernel_rfl) rfl
instance : FieldCell Try.prog 59 0 0 := ⟨_, _, _, Try.underlying59, rfl, rfl, Try.underlying3, rfl⟩
instance : FieldOff Try.prog 59 1 1 := mk_fieldOff (k := 1) Try.underlying59 rfl rfl (by kernel_rfl) rfl
instance : FieldCell Try.prog 59 1 1 := ⟨_, _, _, Try.underlying59, rfl, rfl, Try.underlying40, rfl⟩
instance : FieldOff Try.prog 59 2 2 := mk_fieldOff (k := 1) Try.underlying59 rfl rfl (by kernel_rfl) rfl
instance : FieldCell Try.prog 59 2 2 := ⟨_, _, _, Try.underlying59, rfl, rfl, Try.underlying9, rfl⟩
instance : Zero Try.prog 59 (.agg (([.int .i64 0, .int .u64 0, .string ByteArray.empty] : List Value)).toArray) 3 32 := mk_info (by kernel_rfl) (by rfl)
instance : Agg Try.prog 60 3 := ⟨⟨_, Try.underlying60, rfl⟩, ex_size (by kernel_rfl)⟩
instance : StructT Try.prog 60 [(0, 1), (1, 1), (2, 1)] (([.int .i64 0, .int .u64 0, .string ByteArray.empty] : List Value)) := mk_struct (z := .agg (([.int .i64 0, .int .u64 0, .string ByteArray.empty] : List Value)).toArray) (by kernel_rfl) rfl Try.underlying60 (by kernel_rfl)
instance : FieldOff Try.prog 60 0 0 := mk_fieldOff (k := 1) Try.underlying60 rfl rfl (by kernel_rfl) rfl
instance : FieldCell Try.prog 60 0 0 := ⟨_, _, _, Try.underlying60, rfl, rfl, Try.underlying3, rfl⟩
instance : FieldOff Try.prog 60 1 1 := mk_fieldOff (k := 1) Try.underlying60 rfl rfl (by kernel_rfl) rfl
instance : FieldCell Try.prog 60 1 1 := ⟨_, _, _, Try.underlying60, rfl, rfl, Try.underlying40, rfl⟩
instance : FieldOff Try.prog 60 2 2 := mk_fieldOff (k := 1) Try.underlying60 rfl rfl (by kernel_rfl) rfl
instance : FieldCell Try.prog 60 2 2 := ⟨_, _, _, Try.underlying60, rfl, rfl, Try.underlying9, rfl⟩
instance : Zero Try.prog 60 (.agg (([.int .i64 0, .int .u64 0, .string ByteArray.empty] : List Value)).toArray) 3 32 := mk_info (by kernel_rfl) (by rfl)
instance : Agg Try.prog 63 2 := ⟨⟨_, Try.underlying63, rfl⟩, ex_size (by kernel_rfl)⟩
instance : StructT Try.prog 63 [(0, 1), (1, 1)] (([.slice none 0 0, .bool false] : List Value)) := mk_struct (z := .agg (([.slice none 0 0, .bool false] : List Value)).toArray) (by kernel_rfl) rfl Try.underlying63 (by kernel_rfl)
instance : FieldOff Try.prog 63 0 0 := mk_fieldOff (k := 1) Try.underlying63 rfl rfl (by kernel_rfl) rfl
instance : FieldCell Try.prog 63 0 0 := ⟨_, _, _, Try.underlying63, rfl, rfl, Try.underlying22, rfl⟩
instance : FieldOff Try.prog 63 1 1 := mk_fieldOff (k := 1) Try.underlying63 rfl rfl (by kernel_rfl) rfl
instance : FieldCell Try.prog 63 1 1 := ⟨_, _, _, Try.underlying63, rfl, rfl, Try.underlying4, rfl⟩
instance : Zero Try.prog 63 (.agg (([.slice none 0 0, .bool false] : List Value)).toArray) 2 32 := mk_info (by kernel_rfl) (by rfl)
instance : Agg Try.prog 64 2 := ⟨⟨_, Try.underlying64, rfl⟩, ex_size (by kernel_rfl)⟩
instance : StructT Try.prog 64 [(0, 1), (1, 1)] (([.slice none 0 0, .bool false] : List Value)) := mk_struct (z := .agg (([.slice none 0 0, .bool false] : List Value)).toArray) (by kernel_rfl) rfl Try.underlying64 (by kernel_rfl)
instance : FieldOff Try.prog 64 0 0 := mk_fieldOff (k := 1) Try.underlying64 rfl rfl (by kernel_rfl) rfl
instance : FieldCell Try.prog 64 0 0 := ⟨_, _, _, Try.underlying64, rfl, rfl, Try.underlying22, rfl⟩
instance : FieldOff Try.prog 64 1 1 := mk_fieldOff (k := 1) Try.underlying64 rfl rfl (by kernel_rfl) rfl
instance : FieldCell Try.prog 64 1 1 := ⟨_, _, _, Try.underlying64, rfl, rfl, Try.underlying4, rfl⟩
instance : Zero Try.prog 64 (.agg (([.slice none 0 0, .bool false] : List Value)).toArray) 2 32 := mk_info (by kernel_rfl) (by rfl)
instance : Cell Try.prog 67 := ⟨⟨_, Try.underlying67, rfl⟩, ex_size (by kernel_rfl)⟩
instance : IsT Try.prog 67 (.pointer 69) := ⟨Try.underlying67⟩
instance : Zero Try.prog 67 (.pointer none) 1 8 := mk_info (by kernel_rfl) (by rfl)
instance : Agg Try.prog 68 1 := ⟨⟨_, Try.underlying68, rfl⟩, ex_size (by kernel_rfl)⟩
instance : StructT Try.prog 68 [(0, 1)] (([.slice none 0 0] : List Value)) := mk_struct (z := .agg (([.slice none 0 0] : List Value)).toArray) (by kernel_rfl) rfl Try.underlying68 (by kernel_rfl)
instance : FieldOff Try.prog 68 0 0 := mk_fieldOff (k := 1) Try.underlying68 rfl rfl (by kernel_rfl) rfl
instance : FieldCell Try.prog 68 0 0 := ⟨_, _, _, Try.underlying68, rfl, rfl, Try.underlying22, rfl⟩
instance : Zero Try.prog 68 (.agg (([.slice none 0 0] : List Value)).toArray) 1 24 := mk_info (by kernel_rfl) (by rfl)
instance : Agg Try.prog 69 1 := ⟨⟨_, Try.underlying69, rfl⟩, ex_size (by kernel_rfl)⟩
instance : StructT Try.prog 69 [(0, 1)] (([.slice none 0 0] : List Value)) := mk_struct (z := .agg (([.slice none 0 0] : List Value)).toArray) (by kernel_rfl) rfl Try.underlying69 (by kernel_rfl)
instance : FieldOff Try.prog 69 0 0 := mk_fieldOff (k := 1) Try.underlying69 rfl rfl (by kernel_rfl) rfl
instance : FieldCell Try.prog 69 0 0 := ⟨_, _, _, Try.underlying69, rfl, rfl, Try.underlying22, rfl⟩
instance : Zero Try.prog 69 (.agg (([.slice none 0 0] : List Value)).toArray) 1 24 := mk_info (by kernel_rfl) (by rfl)
instance : Cell Try.prog 71 := ⟨⟨_, Try.underlying71, rfl⟩, ex_size (by kernel_rfl)⟩
instance : IsT Try.prog 71 (.slice 22) := ⟨Try.underlying71⟩
instance : SliceT Try.prog 71 22 1 := mk_slice Try.underlying71 (by kernel_rfl)
instance : Zero Try.prog 71 (.slice none 0 0) 1 24 := mk_info (by kernel_rfl) (by rfl)
instance : Cell Try.prog 81 := ⟨⟨_, Try.underlying81, rfl⟩, ex_size (by kernel_rfl)⟩
instance : IsT Try.prog 81 (.pointer 5) := ⟨Try.underlying81⟩
instance : Zero Try.prog 81 (.pointer none) 1 8 := mk_info (by kernel_rfl) (by rfl)
instance : IsFn Try.prog 3 := ⟨_, Try.func3, rfl, rfl⟩
instance : IsFn Try.prog 4 := ⟨_, Try.func4, rfl, rfl⟩
instance : IsFn Try.prog 5 := ⟨_, Try.func5, rfl, rfl⟩
instance : IsFn Try.prog 6 := ⟨_, Try.func6, rfl, rfl⟩
instance : IsFn Try.prog 7 := ⟨_, Try.func7, rfl, rfl⟩
instance : IsFn Try.prog 8 := ⟨_, Try.func8, rfl, rfl⟩
instance : IsFn Try.prog 9 := ⟨_, Try.func9, rfl, rfl⟩
instance : IsFn Try.prog 10 := ⟨_, Try.func10, rfl, rfl⟩
instance : IsFn Try.prog 11 := ⟨_, Try.func11, rfl, rfl⟩
instance : IsFn Try.prog 12 := ⟨_, Try.func12, rfl, rfl⟩
instance : IsFn Try.prog 13 := ⟨_, Try.func13, rfl, rfl⟩
instance : IsFn Try.prog 14 := ⟨_, Try.func14, rfl, rfl⟩
instance : IsFn Try.prog 15 := ⟨_, Try.func15, rfl, rfl⟩
instance : IsFn Try.prog 16 := ⟨_, Try.func16, rfl, rfl⟩
instance : IsFn Try.prog 17 := ⟨_, Try.func17, rfl, rfl⟩
instance : IsFn Try.prog 18 := ⟨_, Try.func18, rfl, rfl⟩
instance : IsFn Try.prog 19 := ⟨_, Try.func19, rfl, rfl⟩
instance : IsFn Try.prog 20 := ⟨_, Try.func20, rfl, rfl⟩
instance : IsFn Try.prog 21 := ⟨_, Try.func21, rfl, rfl⟩
instance : IsFn Try.prog 22 := ⟨_, Try.func22, rfl, rfl⟩
instance : IsFn Try.prog 23 := ⟨_, Try.func23, rfl, rfl⟩
instance : IsFn Try.prog 24 := ⟨_, Try.func24, rfl, rfl⟩
instance : IsFn Try.prog 25 := ⟨_, Try.func25, rfl, rfl⟩
instance : IsFn Try.prog 26 := ⟨_, Try.func26, rfl, rfl⟩
instance : IsFn Try.prog 27 := ⟨_, Try.func27, rfl, rfl⟩
instance : IsFn Try.prog 28 := ⟨_, Try.func28, rfl, rfl⟩
instance : IsFn Try.prog 29 := ⟨_, Try.func29, rfl, rfl⟩
instance : IsFn Try.prog 30 := ⟨_, Try.func30, rfl, rfl⟩
instance : IsFn Try.prog 31 := ⟨_, Try.func31, rfl, rfl⟩
instance : IsFn Try.prog 32 := ⟨_, Try.func32, rfl, rfl⟩
instance : IsFn Try.prog 33 := ⟨_, Try.func33, rfl, rfl⟩
instance : IsFn Try.prog 34 := ⟨_, Try.func34, rfl, rfl⟩
instance : IsFn Try.prog 35 := ⟨_, Try.func35, rfl, rfl⟩
instance : IsFn Try.prog 36 := ⟨_, Try.func36, rfl, rfl⟩
instance : IsFn Try.prog 37 := ⟨_, Try.func37, rfl, rfl⟩
instance : IsFn Try.prog 38 := ⟨_, Try.func38, rfl, rfl⟩
instance : IsFn Try.prog 39 := ⟨_, Try.func39, rfl, rfl⟩
instance : IsFn Try.prog 40 := ⟨_, Try.func40, rfl, rfl⟩
instance : IsFn Try.prog 41 := ⟨_, Try.func41, rfl, rfl⟩
instance : IsFn Try.prog 42 := ⟨_, Try.func42, rfl, rfl⟩
instance : IsFn Try.prog 43 := ⟨_, Try.func43, rfl, rfl⟩
instance : IsFn Try.prog 44 := ⟨_, Try.func44, rfl, rfl⟩
instance : BS Try.prog := ⟨Try.underlying22, Try.underlying5, Try.underlying9⟩
end Go.Proofs.Ytgjcnoecagiafaa
