/- The seat's types and functions as instances: written by wip/tygen.py. -/
import Derived.Test.YtcchgkjcoknkcaaK2
import Derived.Test.YtcchgkjcoknkcaaOP2
import Derived.Test.YtcchgkjcoknkcaaDR2
import Derived.Test.YtcchgkjcoknkcaaProg
import Derived.KernelRfl
namespace Go.Proofs.Ytcchgkjcoknkcaa
set_option linter.unusedVariables false
set_option linter.unusedSectionVars false
open Go Go.Proofs
section
variable {P : Program} {t s f e sz by_ off len : Nat}
theorem mk_info {z : Value} (h : (P.info? t).map (fun i => (i.zero, i.size, i.bytes)) = some (some z, sz, by_)) (hz : z.cells.size = sz) : Zero P t z sz by_ := by
  cases hi : P.info? t with
  | none => simp [hi] at h
  | some i => simp [hi] at h; exact ⟨i, hi, h.1, h.2.1, h.2.2, hz⟩
theorem ex_size (h : (P.info? t).map (·.size) = some sz) : ∃ i, P.info? t = some i ∧ i.size = sz := by
  cases hi : P.info? t with
  | none => simp [hi] at h
  | some i => simp [hi] at h; exact ⟨i, rfl, h⟩
theorem mk_fieldOff {fs : Array Field} {fd : Field} {k : Nat} (h1 : P.underlying s = some (.struct fs)) (h2 : fs[f]? = some fd) (h3 : fd.offset = off) (h4 : (P.info? fd.type).map (·.size) = some k) (hk : Nat.ble 1 k = true) : FieldOff P s f off := by
  obtain ⟨i, h5, h6⟩ := ex_size h4
  exact ⟨fs, fd, i, h1, h2, h3, h5, by rw [h6]; have : 1 ≤ k := Nat.le_of_ble_eq_true hk; omega⟩
theorem mk_slice (h1 : P.underlying t = some (.slice e)) (h2 : (P.info? e).map (·.size) = some sz) : SliceT P t e sz := by
  obtain ⟨i, h5, h6⟩ := ex_size h2
  exact ⟨i, h1, h5, h6⟩
theorem mk_array (h1 : P.underlying t = some (.array len e)) (h2 : (P.info? e).map (·.size) = some sz) : ArrayT P t len e sz := by
  obtain ⟨i, h5, h6⟩ := ex_size h2
  exact ⟨i, h1, h5, h6⟩
theorem mk_struct {z : Value} {fs : Array Field} {places : List (Nat × Nat)} {zs : List Value} (h1 : (P.info? t).map (·.zero) = some (some z)) (h2 : z.cells.toList = zs) (h3 : P.underlying t = some (.struct fs)) (h4 : fs.toList.mapM (fun f => (P.info? f.type).map fun i => (f.offset, i.size)) = some places) : StructT P t places zs := by
  cases hi : P.info? t with
  | none => simp [hi] at h1
  | some it => simp [hi] at h1; exact ⟨it, z, fs, hi, h1, h2, h3, h4⟩
theorem mk_fieldAgg {fs : Array Field} {fd : Field} {d : TypeDesc} (h1 : P.underlying s = some (.struct fs)) (h2 : fs[f]? = some fd) (h3 : fd.offset = off) (h4 : P.underlying fd.type = some d) (h5 : aggD d = true) (h6 : (P.info? fd.type).map (·.size) = some sz) : FieldAgg P s f off sz := by
  obtain ⟨i, h7, h8⟩ := ex_size h6
  exact ⟨fs, fd, d, i, h1, h2, h3, h4, h5, h7, h8⟩
end
instance : Cell Try.prog 2 := ⟨⟨_, Try.underlying2, rfl⟩, ex_size (by kernel_rfl)⟩
instance : IsT Try.prog 2 (.int .i64) := ⟨Try.underlying2⟩
instance : Zero Try.prog 2 (.int .i64 0) 1 8 := mk_info (by kernel_rfl) (by rfl)
instance : Cell Try.prog 3 := ⟨⟨_, Try.underlying3, rfl⟩, ex_size (by kernel_rfl)⟩
instance : IsT Try.prog 3 (.int .i64) := ⟨Try.underlying3⟩
instance : Zero Try.prog 3 (.int .i64 0) 1 8 := mk_info (by kernel_rfl) (by rfl)
instance : Cell Try.prog 4 := ⟨⟨_, Try.underlying4, rfl⟩, ex_size (by kernel_rfl)⟩
instance : IsT Try.prog 4 (.bool) := ⟨Try.underlying4⟩
instance : Zero Try.prog 4 (.bool false) 1 1 := mk_info (by kernel_rfl) (by rfl)
instance : Cell Try.prog 5 := ⟨⟨_, Try.underlying5, rfl⟩, ex_size (by kernel_rfl)⟩
instance : IsT Try.prog 5 (.int .u8) := ⟨Try.underlying5⟩
instance : Zero Try.prog 5 (.int .u8 0) 1 1 := mk_info (by kernel_rfl) (by rfl)
instance : Cell Try.prog 9 := ⟨⟨_, Try.underlying9, rfl⟩, ex_size (by kernel_rfl)⟩
instance : IsT Try.prog 9 (.string) := ⟨Try.underlying9⟩
instance : Zero Try.prog 9 (.string ByteArray.empty) 1 16 := mk_info (by kernel_rfl) (by rfl)
instance : Cell Try.prog 12 := ⟨⟨_, Try.underlying12, rfl⟩, ex_size (by kernel_rfl)⟩
instance : IsT Try.prog 12 (.int .u64) := ⟨Try.underlying12⟩
instance : Zero Try.prog 12 (.int .u64 0) 1 8 := mk_info (by kernel_rfl) (by rfl)
instance : Agg Try.prog 13 2 := ⟨⟨_, Try.underlying13, rfl⟩, ex_size (by kernel_rfl)⟩
instance : StructT Try.prog 13 [(0, 1), (1, 1)] (([.string ByteArray.empty, .int .u64 0] : List Value)) := mk_struct (z := .agg (([.string ByteArray.empty, .int .u64 0] : List Value)).toArray) (by kernel_rfl) rfl Try.underlying13 (by kernel_rfl)
instance : FieldOff Try.prog 13 0 0 := mk_fieldOff (k := 1) Try.underlying13 rfl rfl (by kernel_rfl) rfl
instance : FieldCell Try.prog 13 0 0 := ⟨_, _, _, Try.underlying13, rfl, rfl, Try.underlying9, rfl⟩
instance : FieldOff Try.prog 13 1 1 := mk_fieldOff (k := 1) Try.underlying13 rfl rfl (by kernel_rfl) rfl
instance : FieldCell Try.prog 13 1 1 := ⟨_, _, _, Try.underlying13, rfl, rfl, Try.underlying12, rfl⟩
instance : Zero Try.prog 13 (.agg (([.string ByteArray.empty, .int .u64 0] : List Value)).toArray) 2 24 := mk_info (by kernel_rfl) (by rfl)
instance : Cell Try.prog 21 := ⟨⟨_, Try.underlying21, rfl⟩, ex_size (by kernel_rfl)⟩
instance : IsT Try.prog 21 (.int .i32) := ⟨Try.underlying21⟩
instance : Zero Try.prog 21 (.int .i32 0) 1 4 := mk_info (by kernel_rfl) (by rfl)
instance : Cell Try.prog 22 := ⟨⟨_, Try.underlying22, rfl⟩, ex_size (by kernel_rfl)⟩
instance : IsT Try.prog 22 (.slice 3) := ⟨Try.underlying22⟩
instance : SliceT Try.prog 22 3 1 := mk_slice Try.underlying22 (by kernel_rfl)
instance : Zero Try.prog 22 (.slice none 0 0) 1 24 := mk_info (by kernel_rfl) (by rfl)
instance : Cell Try.prog 24 := ⟨⟨_, Try.underlying24, rfl⟩, ex_size (by kernel_rfl)⟩
instance : IsT Try.prog 24 (.pointer 51) := ⟨Try.underlying24⟩
instance : Zero Try.prog 24 (.pointer none) 1 8 := mk_info (by kernel_rfl) (by rfl)
instance : Cell Try.prog 25 := ⟨⟨_, Try.underlying25, rfl⟩, ex_size (by kernel_rfl)⟩
instance : IsT Try.prog 25 (.int .i64) := ⟨Try.underlying25⟩
instance : Zero Try.prog 25 (.int .i64 0) 1 8 := mk_info (by kernel_rfl) (by rfl)
instance : Cell Try.prog 28 := ⟨⟨_, Try.underlying28, rfl⟩, ex_size (by kernel_rfl)⟩
instance : IsT Try.prog 28 (.slice 4) := ⟨Try.underlying28⟩
instance : SliceT Try.prog 28 4 1 := mk_slice Try.underlying28 (by kernel_rfl)
instance : Zero Try.prog 28 (.slice none 0 0) 1 24 := mk_info (by kernel_rfl) (by rfl)
instance : Cell Try.prog 29 := ⟨⟨_, Try.underlying29, rfl⟩, ex_size (by kernel_rfl)⟩
instance : IsT Try.prog 29 (.slice 31) := ⟨Try.underlying29⟩
instance : SliceT Try.prog 29 31 2 := mk_slice Try.underlying29 (by kernel_rfl)
instance : Zero Try.prog 29 (.slice none 0 0) 1 24 := mk_info (by kernel_rfl) (by rfl)
instance : Agg Try.prog 30 2 := ⟨⟨_, Try.underlying30, rfl⟩, ex_size (by kernel_rfl)⟩
instance : StructT Try.prog 30 [(0, 1), (1, 1)] (([.int .i64 0, .int .i64 0] : List Value)) := mk_struct (z := .agg (([.int .i64 0, .int .i64 0] : List Value)).toArray) (by kernel_rfl) rfl Try.underlying30 (by kernel_rfl)
instance : FieldOff Try.prog 30 0 0 := mk_fieldOff (k := 1) Try.underlying30 rfl rfl (by kernel_rfl) rfl
instance : FieldCell Try.prog 30 0 0 := ⟨_, _, _, Try.underlying30, rfl, rfl, Try.underlying3, rfl⟩
instance : FieldOff Try.prog 30 1 1 := mk_fieldOff (k := 1) Try.underlying30 rfl rfl (by kernel_rfl) rfl
instance : FieldCell Try.prog 30 1 1 := ⟨_, _, _, Try.underlying30, rfl, rfl, Try.underlying3, rfl⟩
instance : Zero Try.prog 30 (.agg (([.int .i64 0, .int .i64 0] : List Value)).toArray) 2 16 := mk_info (by kernel_rfl) (by rfl)
instance : Agg Try.prog 31 2 := ⟨⟨_, Try.underlying31, rfl⟩, ex_size (by kernel_rfl)⟩
instance : StructT Try.prog 31 [(0, 1), (1, 1)] (([.int .i64 0, .int .i64 0] : List Value)) := mk_struct (z := .agg (([.int .i64 0, .int .i64 0] : List Value)).toArray) (by kernel_rfl) rfl Try.underlying31 (by kernel_rfl)
instance : FieldOff Try.prog 31 0 0 := mk_fieldOff (k := 1) Try.underlying31 rfl rfl (by kernel_rfl) rfl
instance : FieldCell Try.prog 31 0 0 := ⟨_, _, _, Try.underlying31, rfl, rfl, Try.underlying3, rfl⟩
instance : FieldOff Try.prog 31 1 1 := mk_fieldOff (k := 1) Try.underlying31 rfl rfl (by kernel_rfl) rfl
instance : FieldCell Try.prog 31 1 1 := ⟨_, _, _, Try.underlying31, rfl, rfl, Try.underlying3, rfl⟩
instance : Zero Try.prog 31 (.agg (([.int .i64 0, .int .i64 0] : List Value)).toArray) 2 16 := mk_info (by kernel_rfl) (by rfl)
instance : Cell Try.prog 38 := ⟨⟨_, Try.underlying38, rfl⟩, ex_size (by kernel_rfl)⟩
instance : IsT Try.prog 38 (.slice 43) := ⟨Try.underlying38⟩
instance : SliceT Try.prog 38 43 3 := mk_slice Try.underlying38 (by kernel_rfl)
instance : Zero Try.prog 38 (.slice none 0 0) 1 24 := mk_info (by kernel_rfl) (by rfl)
instance : Cell Try.prog 39 := ⟨⟨_, Try.underlying39, rfl⟩, ex_size (by kernel_rfl)⟩
instance : IsT Try.prog 39 (.pointer 59) := ⟨Try.underlying39⟩
instance : Zero Try.prog 39 (.pointer none) 1 8 := mk_info (by kernel_rfl) (by rfl)
instance : Agg Try.prog 42 3 := ⟨⟨_, Try.underlying42, rfl⟩, ex_size (by kernel_rfl)⟩
instance : StructT Try.prog 42 [(0, 1), (1, 1), (2, 1)] (([.int .i64 0, .int .i64 0, .int .i64 0] : List Value)) := mk_struct (z := .agg (([.int .i64 0, .int .i64 0, .int .i64 0] : List Value)).toArray) (by kernel_rfl) rfl Try.underlying42 (by kernel_rfl)
instance : FieldOff Try.prog 42 0 0 := mk_fieldOff (k := 1) Try.underlying42 rfl rfl (by kernel_rfl) rfl
instance : FieldCell Try.prog 42 0 0 := ⟨_, _, _, Try.underlying42, rfl, rfl, Try.underlying3, rfl⟩
instance : FieldOff Try.prog 42 1 1 := mk_fieldOff (k := 1) Try.underlying42 rfl rfl (by kernel_rfl) rfl
instance : FieldCell Try.prog 42 1 1 := ⟨_, _, _, Try.underlying42, rfl, rfl, Try.underlying3, rfl⟩
instance : FieldOff Try.prog 42 2 2 := mk_fieldOff (k := 1) Try.underlying42 rfl rfl (by kernel_rfl) rfl
instance : FieldCell Try.prog 42 2 2 := ⟨_, _, _, Try.underlying42, rfl, rfl, Try.underlying3, rfl⟩
instance : Zero Try.prog 42 (.agg (([.int .i64 0, .int .i64 0, .int .i64 0] : List Value)).toArray) 3 24 := mk_info (by kernel_rfl) (by rfl)
instance : Agg Try.prog 43 3 := ⟨⟨_, Try.underlying43, rfl⟩, ex_size (by kernel_rfl)⟩
instance : StructT Try.prog 43 [(0, 1), (1, 1), (2, 1)] (([.int .i64 0, .int .i64 0, .int .i64 0] : List Value)) := mk_struct (z := .agg (([.int .i64 0, .int .i64 0, .int .i64 0] : List Value)).toArray) (by kernel_rfl) rfl Try.underlying43 (by kernel_rfl)
instance : FieldOff Try.prog 43 0 0 := mk_fieldOff (k := 1) Try.underlying43 rfl rfl (by kernel_rfl) rfl
instance : FieldCell Try.prog 43 0 0 := ⟨_, _, _, Try.underlying43, rfl, rfl, Try.underlying3, rfl⟩
instance : FieldOff Try.prog 43 1 1 := mk_fieldOff (k := 1) Try.underlying43 rfl rfl (by kernel_rfl) rfl
instance : FieldCell Try.prog 43 1 1 := ⟨_, _, _, Try.underlying43, rfl, rfl, Try.underlying3, rfl⟩
instance : FieldOff Try.prog 43 2 2 := mk_fieldOff (k := 1) Try.underlying43 rfl rfl (by kernel_rfl) rfl
instance : FieldCell Try.prog 43 2 2 := ⟨_, _, _, Try.underlying43, rfl, rfl, Try.underlying3, rfl⟩
instance : Zero Try.prog 43 (.agg (([.int .i64 0, .int .i64 0, .int .i64 0] : List Value)).toArray) 3 24 := mk_info (by kernel_rfl) (by rfl)
instance : Cell Try.prog 45 := ⟨⟨_, Try.underlying45, rfl⟩, ex_size (by kernel_rfl)⟩
instance : IsT Try.prog 45 (.slice 62) := ⟨Try.underlying45⟩
instance : SliceT Try.prog 45 62 2 := mk_slice Try.underlying45 (by kernel_rfl)
instance : Zero Try.prog 45 (.slice none 0 0) 1 24 := mk_info (by kernel_rfl) (by rfl)
instance : Agg Try.prog 50 3 := ⟨⟨_, Try.underlying50, rfl⟩, ex_size (by kernel_rfl)⟩
instance : StructT Try.prog 50 [(0, 1), (1, 1), (2, 1)] (([.int .i64 0, .int .i64 0, .slice none 0 0] : List Value)) := mk_struct (z := .agg (([.int .i64 0, .int .i64 0, .slice none 0 0] : List Value)).toArray) (by kernel_rfl) rfl Try.underlying50 (by kernel_rfl)
instance : FieldOff Try.prog 50 0 0 := mk_fieldOff (k := 1) Try.underlying50 rfl rfl (by kernel_rfl) rfl
instance : FieldCell Try.prog 50 0 0 := ⟨_, _, _, Try.underlying50, rfl, rfl, Try.underlying3, rfl⟩
instance : FieldOff Try.prog 50 1 1 := mk_fieldOff (k := 1) Try.underlying50 rfl rfl (by kernel_rfl) rfl
instance : FieldCell Try.prog 50 1 1 := ⟨_, _, _, Try.underlying50, rfl, rfl, Try.underlying3, rfl⟩
instance : FieldOff Try.prog 50 2 2 := mk_fieldOff (k := 1) Try.underlying50 rfl rfl (by kernel_rfl) rfl
instance : FieldCell Try.prog 50 2 2 := ⟨_, _, _, Try.underlying50, rfl, rfl, Try.underlying29, rfl⟩
instance : Zero Try.prog 50 (.agg (([.int .i64 0, .int .i64 0, .slice none 0 0] : List Value)).toArray) 3 40 := mk_info (by kernel_rfl) (by rfl)
instance : Agg Try.prog 51 3 := ⟨⟨_, Try.underlying51, rfl⟩, ex_size (by kernel_rfl)⟩
instance : StructT Try.prog 51 [(0, 1), (1, 1), (2, 1)] (([.int .i64 0, .int .i64 0, .slice none 0 0] : List Value)) := mk_struct (z := .agg (([.int .i64 0, .int .i64 0, .slice none 0 0] : List Value)).toArray) (by kernel_rfl) rfl Try.underlying51 (by kernel_rfl)
instance : FieldOff Try.prog 51 0 0 := mk_fieldOff (k := 1) Try.underlying51 rfl rfl (by kernel_rfl) rfl
instance : FieldCell Try.prog 51 0 0 := ⟨_, _, _, Try.underlying51, rfl, rfl, Try.underlying3, rfl⟩
instance : FieldOff Try.prog 51 1 1 := mk_fieldOff (k := 1) Try.underlying51 rfl rfl (by kernel_rfl) rfl
instance : FieldCell Try.prog 51 1 1 := ⟨_, _, _, Try.underlying51, rfl, rfl, Try.underlying3, rfl⟩
instance : FieldOff Try.prog 51 2 2 := mk_fieldOff (k := 1) Try.underlying51 rfl rfl (by kernel_rfl) rfl
instance : FieldCell Try.prog 51 2 2 := ⟨_, _, _, Try.underlying51, rfl, rfl, Try.underlying29, rfl⟩
instance : Zero Try.prog 51 (.agg (([.int .i64 0, .int .i64 0, .slice none 0 0] : List Value)).toArray) 3 40 := mk_info (by kernel_rfl) (by rfl)
instance : Agg Try.prog 58 2 := ⟨⟨_, Try.underlying58, rfl⟩, ex_size (by kernel_rfl)⟩
instance : StructT Try.prog 58 [(0, 1), (1, 1)] (([.int .i64 0, .slice none 0 0] : List Value)) := mk_struct (z := .agg (([.int .i64 0, .slice none 0 0] : List Value)).toArray) (by kernel_rfl) rfl Try.underlying58 (by kernel_rfl)
instance : FieldOff Try.prog 58 0 0 := mk_fieldOff (k := 1) Try.underlying58 rfl rfl (by kernel_rfl) rfl
instance : FieldCell Try.prog 58 0 0 := ⟨_, _, _, Try.underlying58, rfl, rfl, Try.underlying3, rfl⟩
instance : FieldOff Try.prog 58 1 1 := mk_fieldOff (k := 1) Try.underlying58 rfl rfl (by kernel_rfl) rfl
instance : FieldCell Try.prog 58 1 1 := ⟨_, _, _, Try.underlying58, rfl, rfl, Try.underlying28, rfl⟩
instance : Zero Try.prog 58 (.agg (([.int .i64 0, .slice none 0 0] : List Value)).toArray) 2 32 := mk_info (by kernel_rfl) (by rfl)
instance : Agg Try.prog 59 2 := ⟨⟨_, Try.underlying59, rfl⟩, ex_size (by kernel_rfl)⟩
instance : StructT Try.prog 59 [(0, 1), (1, 1)] (([.int .i64 0, .slice none 0 0] : List Value)) := mk_struct (z := .agg (([.int .i64 0, .slice none 0 0] : List Value)).toArray) (by kernel_rfl) rfl Try.underlying59 (by kernel_rfl)
instance : FieldOff Try.prog 59 0 0 := mk_fieldOff (k := 1) Try.underlying59 rfl rfl (by kernel_rfl) rfl
instance : FieldCell Try.prog 59 0 0 := ⟨_, _, _, Try.underlying59, rfl, rfl, Try.underlying3, rfl⟩
instance : FieldOff Try.prog 59 1 1 := mk_fieldOff (k := 1) Try.underlying59 rfl rfl (by kernel_rfl) rfl
instance : FieldCell Try.prog 59 1 1 := ⟨_, _, _, Try.underlying59, rfl, rfl, Try.underlying28, rfl⟩
instance : Zero Try.prog 59 (.agg (([.int .i64 0, .slice none 0 0] : List Value)).toArray) 2 32 := mk_info (by kernel_rfl) (by rfl)
instance : Agg Try.prog 62 2 := ⟨⟨_, Try.underlying62, rfl⟩, ex_size (by kernel_rfl)⟩
instance : StructT Try.prog 62 [(0, 1), (1, 1)] (([.int .i64 0, .int .i64 0] : List Value)) := mk_struct (z := .agg (([.int .i64 0, .int .i64 0] : List Value)).toArray) (by kernel_rfl) rfl Try.underlying62 (by kernel_rfl)
instance : FieldOff Try.prog 62 0 0 := mk_fieldOff (k := 1) Try.underlying62 rfl rfl (by kernel_rfl) rfl
instance : FieldCell Try.prog 62 0 0 := ⟨_, _, _, Try.underlying62, rfl, rfl, Try.underlying3, rfl⟩
instance : FieldOff Try.prog 62 1 1 := mk_fieldOff (k := 1) Try.underlying62 rfl rfl (by kernel_rfl) rfl
instance : FieldCell Try.prog 62 1 1 := ⟨_, _, _, Try.underlying62, rfl, rfl, Try.underlying3, rfl⟩
instance : Zero Try.prog 62 (.agg (([.int .i64 0, .int .i64 0] : List Value)).toArray) 2 16 := mk_info (by kernel_rfl) (by rfl)
instance : Cell Try.prog 67 := ⟨⟨_, Try.underlying67, rfl⟩, ex_size (by kernel_rfl)⟩
instance : IsT Try.prog 67 (.pointer 31) := ⟨Try.underlying67⟩
instance : Zero Try.prog 67 (.pointer none) 1 8 := mk_info (by kernel_rfl) (by rfl)
instance : Cell Try.prog 75 := ⟨⟨_, Try.underlying75, rfl⟩, ex_size (by kernel_rfl)⟩
instance : IsT Try.prog 75 (.int .u32) := ⟨Try.underlying75⟩
instance : Zero Try.prog 75 (.int .u32 0) 1 4 := mk_info (by kernel_rfl) (by rfl)
instance : Cell Try.prog 79 := ⟨⟨_, Try.underlying79, rfl⟩, ex_size (by kernel_rfl)⟩
instance : IsT Try.prog 79 (.pointer 5) := ⟨Try.underlying79⟩
instance : Zero Try.prog 79 (.pointer none) 1 8 := mk_info (by kernel_rfl) (by rfl)
instance : IsFn Try.prog 3 := ⟨_, Try.func3, rfl, rfl⟩
instance : IsFn Try.prog 4 := ⟨_, Try.func4, rfl, rfl⟩
instance : IsFn Try.prog 5 := ⟨_, Try.func5, rfl, rfl⟩
instance : IsFn Try.prog 6 := ⟨_, Try.func6, rfl, rfl⟩
instance : IsFn Try.prog 7 := ⟨_, Try.func7, rfl, rfl⟩
instance : IsFn Try.prog 8 := ⟨_, Try.func8, rfl, rfl⟩
instance : IsFn Try.prog 9 := ⟨_, Try.func9, rfl, rfl⟩
instance : IsFn Try.prog 10 := ⟨_, Try.func10, rfl, rfl⟩
instance : IsFn Try.prog 11 := ⟨_, Try.func11, rfl, rfl⟩
instance : IsFn Try.prog 12 := ⟨_, Try.func12, rfl, rfl⟩
instance : IsFn Try.prog 13 := ⟨_, Try.func13, rfl, rfl⟩
instance : IsFn Try.prog 14 := ⟨_, Try.func14, rfl, rfl⟩
instance : IsFn Try.prog 15 := ⟨_, Try.func15, rfl, rfl⟩
instance : IsFn Try.prog 16 := ⟨_, Try.func16, rfl, rfl⟩
instance : IsFn Try.prog 17 := ⟨_, Try.func17, rfl, rfl⟩
instance : IsFn Try.prog 18 := ⟨_, Try.func18, rfl, rfl⟩
instance : IsFn Try.prog 19 := ⟨_, Try.func19, rfl, rfl⟩
instance : IsFn Try.prog 20 := ⟨_, Try.func20, rfl, rfl⟩
instance : IsFn Try.prog 21 := ⟨_, Try.func21, rfl, rfl⟩
instance : IsFn Try.prog 22 := ⟨_, Try.func22, rfl, rfl⟩
instance : IsFn Try.prog 23 := ⟨_, Try.func23, rfl, rfl⟩
instance : IsFn Try.prog 24 := ⟨_, Try.func24, rfl, rfl⟩
instance : IsFn Try.prog 25 := ⟨_, Try.func25, rfl, rfl⟩
instance : IsFn Try.prog 26 := ⟨_, Try.func26, rfl, rfl⟩
instance : IsFn Try.prog 27 := ⟨_, Try.func27, rfl, rfl⟩
instance : IsFn Try.prog 28 := ⟨_, Try.func28, rfl, rfl⟩
instance : IsFn Try.prog 29 := ⟨_, Try.func29, rfl, rfl⟩
instance : IsFn Try.prog 30 := ⟨_, Try.func30, rfl, rfl⟩
instance : IsFn Try.prog 31 := ⟨_, Try.func31, rfl, rfl⟩
instance : IsFn Try.prog 33 := ⟨_, Try.func33, rfl, rfl⟩
instance : IsFn Try.prog 34 := ⟨_, Try.func34, rfl, rfl⟩
instance : IsFn Try.prog 35 := ⟨_, Try.func35, rfl, rfl⟩
instance : IsFn Try.prog 36 := ⟨_, Try.func36, rfl, rfl⟩
instance : BS Try.prog := ⟨by kernel_rfl⟩
end Go.Proofs.Ytcchgkjcoknkcaa
