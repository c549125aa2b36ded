/- The seat's types and functions as instances: written by wip/tygen.py. -/
import Derived.Test.YtgapgpknghnemaaK2
import Derived.Test.YtgapgpknghnemaaOP2
import Derived.Test.YtgapgpknghnemaaDR2
import Derived.Test.YtgapgpknghnemaaProg
import Derived.KernelRfl
namespace Go.Proofs.Ytgapgpknghnemaa
set_option linter.unusedVariables false
set_option linter.unusedSectionVars false
open Go Go.Proofs
section
variable {P : Program} {t s f e sz by_ off len : Nat}
theorem mk_info {z : Value} (h : (P.info? t).map (fun i => (i.zero, i.size, i.bytes)) = some (some z, sz, by_)) (hz : z.cells.size = sz) : Zero P t z sz by_ := by
  cases hi : P.info? t with
  | none => simp [hi] at h
  | some i => simp [hi] at h; exact ⟨i, hi, h.1, h.2.1, h.2.2, hz⟩
theorem ex_size (h : (P.info? t).map (·.size) = some sz) : ∃ i, P.info? t = some i ∧ i.size = sz := by
  cases hi : P.info? t with
  | none => simp [hi] at h
  | some i => simp [hi] at h; exact ⟨i, rfl, h⟩
theorem mk_fieldOff {fs : Array Field} {fd : Field} {k : Nat} (h1 : P.underlying s = some (.struct fs)) (h2 : fs[f]? = some fd) (h3 : fd.offset = off) (h4 : (P.info? fd.type).map (·.size) = some k) (hk : Nat.ble 1 k = true) : FieldOff P s f off := by
  obtain ⟨i, h5, h6⟩ := ex_size h4
  exact ⟨fs, fd, i, h1, h2, h3, h5, by rw [h6]; have : 1 ≤ k := Nat.le_of_ble_eq_true hk; omega⟩
theorem mk_slice (h1 : P.underlying t = some (.slice e)) (h2 : (P.info? e).map (·.size) = some sz) : SliceT P t e sz := by
  obtain ⟨i, h5, h6⟩ := ex_size h2
  exact ⟨i, h1, h5, h6⟩
theorem mk_array (h1 : P.underlying t = some (.array len e)) (h2 : (P.info? e).map (·.size) = some sz) : ArrayT P t len e sz := by
  obtain ⟨i, h5, h6⟩ := ex_size h2
  exact ⟨i, h1, h5, h6⟩
theorem mk_struct {z : Value} {fs : Array Field} {places : List (Nat × Nat)} {zs : List Value} (h1 : (P.info? t).map (·.zero) = some (some z)) (h2 : z.cells.toList = zs) (h3 : P.underlying t = some (.struct fs)) (h4 : fs.toList.mapM (fun f => (P.info? f.type).map fun i => (f.offset, i.size)) = some places) : StructT P t places zs := by
  cases hi : P.info? t with
  | none => simp [hi] at h1
  | some it => simp [hi] at h1; exact ⟨it, z, fs, hi, h1, h2, h3, h4⟩
theorem mk_fieldAgg {fs : Array Field} {fd : Field} {d : TypeDesc} (h1 : P.underlying s = some (.struct fs)) (h2 : fs[f]? = some fd) (h3 : fd.offset = off) (h4 : P.underlying fd.type = some d) (h5 : aggD d = true) (h6 : (P.info? fd.type).map (·.size) = some sz) : FieldAgg P s f off sz := by
  obtain ⟨i, h7, h8⟩ := ex_size h6
  exact ⟨fs, fd, d, i, h1, h2, h3, h4, h5, h7, h8⟩
end
instance : Cell Try.prog 2 := ⟨⟨_, Try.underlying2, rfl⟩, ex_size (by kernel_rfl)⟩
instance : IsT Try.prog 2 (.int .i64) := ⟨Try.underlying2⟩
instance : Zero Try.prog 2 (.int .i64 0) 1 8 := mk_info (by kernel_rfl) (by rfl)
instance : Cell Try.prog 3 := ⟨⟨_, Try.underlying3, rfl⟩, ex_size (by kernel_rfl)⟩
instance : IsT Try.prog 3 (.int .i64) := ⟨Try.underlying3⟩
instance : Zero Try.prog 3 (.int .i64 0) 1 8 := mk_info (by kernel_rfl) (by rfl)
instance : Cell Try.prog 4 := ⟨⟨_, Try.underlying4, rfl⟩, ex_size (by kernel_rfl)⟩
instance : IsT Try.prog 4 (.bool) := ⟨Try.underlying4⟩
instance : Zero Try.prog 4 (.bool false) 1 1 := mk_info (by kernel_rfl) (by rfl)
instance : Cell Try.prog 5 := ⟨⟨_, Try.underlying5, rfl⟩, ex_size (by kernel_rfl)⟩
instance : IsT Try.prog 5 (.int .u8) := ⟨Try.underlying5⟩
instance : Zero Try.prog 5 (.int .u8 0) 1 1 := mk_info (by kernel_rfl) (by rfl)
instance : Cell Try.prog 9 := ⟨⟨_, Try.underlying9, rfl⟩, ex_size (by kernel_rfl)⟩
instance : IsT Try.prog 9 (.string) := ⟨Try.underlying9⟩
instance : Zero Try.prog 9 (.string ByteArray.empty) 1 16 := mk_info (by kernel_rfl) (by rfl)
instance : Cell Try.prog 12 := ⟨⟨_, Try.underlying12, rfl⟩, ex_size (by kernel_rfl)⟩
instance : IsT Try.prog 12 (.int .u64) := ⟨Try.underlying12⟩
instance : Zero Try.prog 12 (.int .u64 0) 1 8 := mk_info (by kernel_rfl) (by rfl)
instance : Agg Try.prog 13 2 := ⟨⟨_, Try.underlying13, rfl⟩, ex_size (by kernel_rfl)⟩
instance : StructT Try.prog 13 [(0, 1), (1, 1)] (([.string ByteArray.empty, .int .u64 0] : List Value)) := mk_struct (z := .agg (([.string ByteArray.empty, .int .u64 0] : List Value)).toArray) (by kernel_rfl) rfl Try.underlying13 (by kernel_rfl)
instance : FieldOff Try.prog 13 0 0 := mk_fieldOff (k := 1) Try.underlying13 rfl rfl (by kernel_rfl) rfl
instance : FieldCell Try.prog 13 0 0 := ⟨_, _, _, Try.underlying13, rfl, rfl, Try.underlying9, rfl⟩
instance : FieldOff Try.prog 13 1 1 := mk_fieldOff (k := 1) Try.underlying13 rfl rfl (by kernel_rfl) rfl
instance : FieldCell Try.prog 13 1 1 := ⟨_, _, _, Try.underlying13, rfl, rfl, Try.underlying12, rfl⟩
instance : Zero Try.prog 13 (.agg (([.string ByteArray.empty, .int .u64 0] : List Value)).toArray) 2 24 := mk_info (by kernel_rfl) (by rfl)
instance : Cell Try.prog 21 := ⟨⟨_, Try.underlying21, rfl⟩, ex_size (by kernel_rfl)⟩
instance : IsT Try.prog 21 (.int .i32) := ⟨Try.underlying21⟩
instance : Zero Try.prog 21 (.int .i32 0) 1 4 := mk_info (by kernel_rfl) (by rfl)
instance : Cell Try.prog 22 := ⟨⟨_, Try.underlying22, rfl⟩, ex_size (by kernel_rfl)⟩
instance : IsT Try.prog 22 (.slice 33) := ⟨Try.underlying22⟩
instance : SliceT Try.prog 22 33 3 := mk_slice Try.underlying22 (by kernel_rfl)
instance : Zero Try.prog 22 (.slice none 0 0) 1 24 := mk_info (by kernel_rfl) (by rfl)
instance : Agg Try.prog 23 3 := ⟨⟨_, Try.underlying23, rfl⟩, ex_size (by kernel_rfl)⟩
instance : StructT Try.prog 23 [(0, 1), (1, 1), (2, 1)] (([.string ByteArray.empty, .string ByteArray.empty, .bool false] : List Value)) := mk_struct (z := .agg (([.string ByteArray.empty, .string ByteArray.empty, .bool false] : List Value)).toArray) (by kernel_rfl) rfl Try.underlying23 (by kernel_rfl)
instance : FieldOff Try.prog 23 0 0 := mk_fieldOff (k := 1) Try.underlying23 rfl rfl (by kernel_rfl) rfl
instance : FieldCell Try.prog 23 0 0 := ⟨_, _, _, Try.underlying23, rfl, rfl, Try.underlying9, rfl⟩
instance : FieldOff Try.prog 23 1 1 := mk_fieldOff (k := 1) Try.underlying23 rfl rfl (by kernel_rfl) rfl
instance : FieldCell Try.prog 23 1 1 := ⟨_, _, _, Try.underlying23, rfl, rfl, Try.underlying9, rfl⟩
instance : FieldOff Try.prog 23 2 2 := mk_fieldOff (k := 1) Try.underlying23 rfl rfl (by kernel_rfl) rfl
instance : FieldCell Try.prog 23 2 2 := ⟨_, _, _, Try.underlying23, rfl, rfl, Try.underlying4, rfl⟩
instance : Zero Try.prog 23 (.agg (([.string ByteArray.empty, .string ByteArray.empty, .bool false] : List Value)).toArray) 3 40 := mk_info (by kernel_rfl) (by rfl)
instance : Agg Try.prog 24 3 := ⟨⟨_, Try.underlying24, rfl⟩, ex_size (by kernel_rfl)⟩
instance : StructT Try.prog 24 [(0, 1), (1, 1), (2, 1)] (([.string ByteArray.empty, .string ByteArray.empty, .bool false] : List Value)) := mk_struct (z := .agg (([.string ByteArray.empty, .string ByteArray.empty, .bool false] : List Value)).toArray) (by kernel_rfl) rfl Try.underlying24 (by kernel_rfl)
instance : FieldOff Try.prog 24 0 0 := mk_fieldOff (k := 1) Try.underlying24 rfl rfl (by kernel_rfl) rfl
instance : FieldCell Try.prog 24 0 0 := ⟨_, _, _, Try.underlying24, rfl, rfl, Try.underlying9, rfl⟩
instance : FieldOff Try.prog 24 1 1 := mk_fieldOff (k := 1) Try.underlying24 rfl rfl (by kernel_rfl) rfl
instance : FieldCell Try.prog 24 1 1 := ⟨_, _, _, Try.underlying24, rfl, rfl, Try.underlying9, rfl⟩
instance : FieldOff Try.prog 24 2 2 := mk_fieldOff (k := 1) Try.underlying24 rfl rfl (by kernel_rfl) rfl
instance : FieldCell Try.prog 24 2 2 := ⟨_, _, _, Try.underlying24, rfl, rfl, Try.underlying4, rfl⟩
instance : Zero Try.prog 24 (.agg (([.string ByteArray.empty, .string ByteArray.empty, .bool false] : List Value)).toArray) 3 40 := mk_info (by kernel_rfl) (by rfl)
instance : Agg Try.prog 25 5 := ⟨⟨_, Try.underlying25, rfl⟩, ex_size (by kernel_rfl)⟩
instance : StructT Try.prog 25 [(0, 1), (1, 3), (4, 1)] (([.int .i64 0, .string ByteArray.empty, .string ByteArray.empty, .bool false, .bool false] : List Value)) := mk_struct (z := .agg (([.int .i64 0, .string ByteArray.empty, .string ByteArray.empty, .bool false, .bool false] : List Value)).toArray) (by kernel_rfl) rfl Try.underlying25 (by kernel_rfl)
instance : FieldOff Try.prog 25 0 0 := mk_fieldOff (k := 1) Try.underlying25 rfl rfl (by kernel_rfl) rfl
instance : FieldCell Try.prog 25 0 0 := ⟨_, _, _, Try.underlying25, rfl, rfl, Try.underlying3, rfl⟩
instance : FieldOff Try.prog 25 1 1 := mk_fieldOff (k := 3) Try.underlying25 rfl rfl (by kernel_rfl) rfl
instance : FieldAgg Try.prog 25 1 1 3 := mk_fieldAgg Try.underlying25 rfl rfl Try.underlying24 rfl (by kernel_rfl)
instance : FieldOff Try.prog 25 2 4 := mk_fieldOff (k := 1) Try.underlying25 rfl rfl (by kernel_rfl) rfl
instance : FieldCell Try.prog 25 2 4 := ⟨_, _, _, Try.underlying25, rfl, rfl, Try.underlying4, rfl⟩
instance : Zero Try.prog 25 (.agg (([.int .i64 0, .string ByteArray.empty, .string ByteArray.empty, .bool false, .bool false] : List Value)).toArray) 5 56 := mk_info (by kernel_rfl) (by rfl)
instance : Agg Try.prog 26 5 := ⟨⟨_, Try.underlying26, rfl⟩, ex_size (by kernel_rfl)⟩
instance : StructT Try.prog 26 [(0, 1), (1, 3), (4, 1)] (([.int .i64 0, .string ByteArray.empty, .string ByteArray.empty, .bool false, .bool false] : List Value)) := mk_struct (z := .agg (([.int .i64 0, .string ByteArray.empty, .string ByteArray.empty, .bool false, .bool false] : List Value)).toArray) (by kernel_rfl) rfl Try.underlying26 (by kernel_rfl)
instance : FieldOff Try.prog 26 0 0 := mk_fieldOff (k := 1) Try.underlying26 rfl rfl (by kernel_rfl) rfl
instance : FieldCell Try.prog 26 0 0 := ⟨_, _, _, Try.underlying26, rfl, rfl, Try.underlying3, rfl⟩
instance : FieldOff Try.prog 26 1 1 := mk_fieldOff (k := 3) Try.underlying26 rfl rfl (by kernel_rfl) rfl
instance : FieldAgg Try.prog 26 1 1 3 := mk_fieldAgg Try.underlying26 rfl rfl Try.underlying24 rfl (by kernel_rfl)
instance : FieldOff Try.prog 26 2 4 := mk_fieldOff (k := 1) Try.underlying26 rfl rfl (by kernel_rfl) rfl
instance : FieldCell Try.prog 26 2 4 := ⟨_, _, _, Try.underlying26, rfl, rfl, Try.underlying4, rfl⟩
instance : Zero Try.prog 26 (.agg (([.int .i64 0, .string ByteArray.empty, .string ByteArray.empty, .bool false, .bool false] : List Value)).toArray) 5 56 := mk_info (by kernel_rfl) (by rfl)
instance : Cell Try.prog 27 := ⟨⟨_, Try.underlying27, rfl⟩, ex_size (by kernel_rfl)⟩
instance : IsT Try.prog 27 (.int .u64) := ⟨Try.underlying27⟩
instance : Zero Try.prog 27 (.int .u64 0) 1 8 := mk_info (by kernel_rfl) (by rfl)
instance : Cell Try.prog 29 := ⟨⟨_, Try.underlying29, rfl⟩, ex_size (by kernel_rfl)⟩
instance : IsT Try.prog 29 (.pointer 54) := ⟨Try.underlying29⟩
instance : Zero Try.prog 29 (.pointer none) 1 8 := mk_info (by kernel_rfl) (by rfl)
instance : Cell Try.prog 31 := ⟨⟨_, Try.underlying31, rfl⟩, ex_size (by kernel_rfl)⟩
instance : IsT Try.prog 31 (.slice 26) := ⟨Try.underlying31⟩
instance : SliceT Try.prog 31 26 5 := mk_slice Try.underlying31 (by kernel_rfl)
instance : Zero Try.prog 31 (.slice none 0 0) 1 24 := mk_info (by kernel_rfl) (by rfl)
instance : Agg Try.prog 32 3 := ⟨⟨_, Try.underlying32, rfl⟩, ex_size (by kernel_rfl)⟩
instance : StructT Try.prog 32 [(0, 1), (1, 1), (2, 1)] (([.int .i64 0, .int .u64 0, .slice none 0 0] : List Value)) := mk_struct (z := .agg (([.int .i64 0, .int .u64 0, .slice none 0 0] : List Value)).toArray) (by kernel_rfl) rfl Try.underlying32 (by kernel_rfl)
instance : FieldOff Try.prog 32 0 0 := mk_fieldOff (k := 1) Try.underlying32 rfl rfl (by kernel_rfl) rfl
instance : FieldCell Try.prog 32 0 0 := ⟨_, _, _, Try.underlying32, rfl, rfl, Try.underlying3, rfl⟩
instance : FieldOff Try.prog 32 1 1 := mk_fieldOff (k := 1) Try.underlying32 rfl rfl (by kernel_rfl) rfl
instance : FieldCell Try.prog 32 1 1 := ⟨_, _, _, Try.underlying32, rfl, rfl, Try.underlying27, rfl⟩
instance : FieldOff Try.prog 32 2 2 := mk_fieldOff (k := 1) Try.underlying32 rfl rfl (by kernel_rfl) rfl
instance : FieldCell Try.prog 32 2 2 := ⟨_, _, _, Try.underlying32, rfl, rfl, Try.underlying31, rfl⟩
instance : Zero Try.prog 32 (.agg (([.int .i64 0, .int .u64 0, .slice none 0 0] : List Value)).toArray) 3 40 := mk_info (by kernel_rfl) (by rfl)
instance : Agg Try.prog 33 3 := ⟨⟨_, Try.underlying33, rfl⟩, ex_size (by kernel_rfl)⟩
instance : StructT Try.prog 33 [(0, 1), (1, 1), (2, 1)] (([.int .i64 0, .int .u64 0, .slice none 0 0] : List Value)) := mk_struct (z := .agg (([.int .i64 0, .int .u64 0, .slice none 0 0] : List Value)).toArray) (by kernel_rfl) rfl Try.underlying33 (by kernel_rfl)
instance : FieldOff Try.prog 33 0 0 := mk_fieldOff (k := 1) Try.underlying33 rfl rfl (by kernel_rfl) rfl
instance : FieldCell Try.prog 33 0 0 := ⟨_, _, _, Try.underlying33, rfl, rfl, Try.underlying3, rfl⟩
instance : FieldOff Try.prog 33 1 1 := mk_fieldOff (k := 1) Try.underlying33 rfl rfl (by kernel_rfl) rfl
instance : FieldCell Try.prog 33 1 1 := ⟨_, _, _, Try.underlying33, rfl, rfl, Try.underlying27, rfl⟩
instance : FieldOff Try.prog 33 2 2 := mk_fieldOff (k := 1) Try.underlying33 rfl rfl (by kernel_rfl) rfl
instance : FieldCell Try.prog 33 2 2 := ⟨_, _, _, Try.underlying33, rfl, rfl, Try.underlying31, rfl⟩
instance : Zero Try.prog 33 (.agg (([.int .i64 0, .int .u64 0, .slice none 0 0] : List Value)).toArray) 3 40 := mk_info (by kernel_rfl) (by rfl)
instance : Cell Try.prog 34 := ⟨⟨_, Try.underlying34, rfl⟩, ex_size (by kernel_rfl)⟩
instance : IsT Try.prog 34 (.int .i64) := ⟨Try.underlying34⟩
instance : Zero Try.prog 34 (.int .i64 0) 1 8 := mk_info (by kernel_rfl) (by rfl)
instance : Cell Try.prog 40 := ⟨⟨_, Try.underlying40, rfl⟩, ex_size (by kernel_rfl)⟩
instance : IsT Try.prog 40 (.pointer 43) := ⟨Try.underlying40⟩
instance : Zero Try.prog 40 (.pointer none) 1 8 := mk_info (by kernel_rfl) (by rfl)
instance : Cell Try.prog 41 := ⟨⟨_, Try.underlying41, rfl⟩, ex_size (by kernel_rfl)⟩
instance : IsT Try.prog 41 (.slice 60) := ⟨Try.underlying41⟩
instance : SliceT Try.prog 41 60 6 := mk_slice Try.underlying41 (by kernel_rfl)
instance : Zero Try.prog 41 (.slice none 0 0) 1 24 := mk_info (by kernel_rfl) (by rfl)
instance : Agg Try.prog 42 1 := ⟨⟨_, Try.underlying42, rfl⟩, ex_size (by kernel_rfl)⟩
instance : StructT Try.prog 42 [(0, 1)] (([.slice none 0 0] : List Value)) := mk_struct (z := .agg (([.slice none 0 0] : List Value)).toArray) (by kernel_rfl) rfl Try.underlying42 (by kernel_rfl)
instance : FieldOff Try.prog 42 0 0 := mk_fieldOff (k := 1) Try.underlying42 rfl rfl (by kernel_rfl) rfl
instance : FieldCell Try.prog 42 0 0 := ⟨_, _, _, Try.underlying42, rfl, rfl, Try.underlying41, rfl⟩
instance : Zero Try.prog 42 (.agg (([.slice none 0 0] : List Value)).toArray) 1 24 := mk_info (by kernel_rfl) (by rfl)
instance : Agg Try.prog 43 1 := ⟨⟨_, Try.underlying43, rfl⟩, ex_size (by kernel_rfl)⟩
instance : StructT Try.prog 43 [(0, 1)] (([.slice none 0 0] : List Value)) := mk_struct (z := .agg (([.slice none 0 0] : List Value)).toArray) (by kernel_rfl) rfl Try.underlying43 (by kernel_rfl)
instance : FieldOff Try.prog 43 0 0 := mk_fieldOff (k := 1) Try.underlying43 rfl rfl (by kernel_rfl) rfl
instance : FieldCell Try.prog 43 0 0 := ⟨_, _, _, Try.underlying43, rfl, rfl, Try.underlying41, rfl⟩
instance : Zero Try.prog 43 (.agg (([.slice none 0 0] : List Value)).toArray) 1 24 := mk_info (by kernel_rfl) (by rfl)
instance : Cell Try.prog 46 := ⟨⟨_, Try.underlying46, rfl⟩, ex_size (by kernel_rfl)⟩
instance : IsT Try.prog 46 (.slice 27) := ⟨Try.underlying46⟩
instance : SliceT Try.prog 46 27 1 := mk_slice Try.underlying46 (by kernel_rfl)
instance : Zero Try.prog 46 (.slice none 0 0) 1 24 := mk_info (by kernel_rfl) (by rfl)
instance : Cell Try.prog 52 := ⟨⟨_, Try.underlying52, rfl⟩, ex_size (by kernel_rfl)⟩
instance : IsT Try.prog 52 (.map 27 31) := ⟨Try.underlying52⟩
instance : Zero Try.prog 52 (.map none) 1 8 := mk_info (by kernel_rfl) (by rfl)
instance : Agg Try.prog 53 1 := ⟨⟨_, Try.underlying53, rfl⟩, ex_size (by kernel_rfl)⟩
instance : StructT Try.prog 53 [(0, 1)] (([.map none] : List Value)) := mk_struct (z := .agg (([.map none] : List Value)).toArray) (by kernel_rfl) rfl Try.underlying53 (by kernel_rfl)
instance : FieldOff Try.prog 53 0 0 := mk_fieldOff (k := 1) Try.underlying53 rfl rfl (by kernel_rfl) rfl
instance : FieldCell Try.prog 53 0 0 := ⟨_, _, _, Try.underlying53, rfl, rfl, Try.underlying52, rfl⟩
instance : Zero Try.prog 53 (.agg (([.map none] : List Value)).toArray) 1 8 := mk_info (by kernel_rfl) (by rfl)
instance : Agg Try.prog 54 1 := ⟨⟨_, Try.underlying54, rfl⟩, ex_size (by kernel_rfl)⟩
instance : StructT Try.prog 54 [(0, 1)] (([.map none] : List Value)) := mk_struct (z := .agg (([.map none] : List Value)).toArray) (by kernel_rfl) rfl Try.underlying54 (by kernel_rfl)
instance : FieldOff Try.prog 54 0 0 := mk_fieldOff (k := 1) Try.underlying54 rfl rfl (by kernel_rfl) rfl
instance : FieldCell Try.prog 54 0 0 := ⟨_, _, _, Try.underlying54, rfl, rfl, Try.underlying52, rfl⟩
instance : Zero Try.prog 54 (.agg (([.map none] : List Value)).toArray) 1 8 := mk_info (by kernel_rfl) (by rfl)
instance : Agg Try.prog 59 6 := ⟨⟨_, Try.underlying59, rfl⟩, ex_size (by kernel_rfl)⟩
instance : StructT Try.prog 59 [(0, 1), (1, 5)] (([.int .u64 0, .int .i64 0, .string ByteArray.empty, .string ByteArray.empty, .bool false, .bool false] : List Value)) := mk_struct (z := .agg (([.int .u64 0, .int .i64 0, .string ByteArray.empty, .string ByteArray.empty, .bool false, .bool false] : List Value)).toArray) (by kernel_rfl) rfl Try.underlying59 (by kernel_rfl)
instance : FieldOff Try.prog 59 0 0 := mk_fieldOff (k := 1) Try.underlying59 rfl rfl (by kernel_rfl) rfl
instance : FieldCell Try.prog 59 0 0 := ⟨_, _, _, Try.underlying59, rfl, rfl, Try.underlying27, rfl⟩
instance : FieldOff Try.prog 59 1 1 := mk_fieldOff (k := 5) Try.underlying59 rfl rfl (by kernel_rfl) rfl
instance : FieldAgg Try.prog 59 1 1 5 := mk_fieldAgg Try.underlying59 rfl rfl Try.underlying26 rfl (by kernel_rfl)
instance : Zero Try.prog 59 (.agg (([.int .u64 0, .int .i64 0, .string ByteArray.empty, .string ByteArray.empty, .bool false, .bool false] : List Value)).toArray) 6 64 := mk_info (by kernel_rfl) (by rfl)
instance : Agg Try.prog 60 6 := ⟨⟨_, Try.underlying60, rfl⟩, ex_size (by kernel_rfl)⟩
instance : StructT Try.prog 60 [(0, 1), (1, 5)] (([.int .u64 0, .int .i64 0, .string ByteArray.empty, .string ByteArray.empty, .bool false, .bool false] : List Value)) := mk_struct (z := .agg (([.int .u64 0, .int .i64 0, .string ByteArray.empty, .string ByteArray.empty, .bool false, .bool false] : List Value)).toArray) (by kernel_rfl) rfl Try.underlying60 (by kernel_rfl)
instance : FieldOff Try.prog 60 0 0 := mk_fieldOff (k := 1) Try.underlying60 rfl rfl (by kernel_rfl) rfl
instance : FieldCell Try.prog 60 0 0 := ⟨_, _, _, Try.underlying60, rfl, rfl, Try.underlying27, rfl⟩
instance : FieldOff Try.prog 60 1 1 := mk_fieldOff (k := 5) Try.underlying60 rfl rfl (by kernel_rfl) rfl
instance : FieldAgg Try.prog 60 1 1 5 := mk_fieldAgg Try.underlying60 rfl rfl Try.underlying26 rfl (by kernel_rfl)
instance : Zero Try.prog 60 (.agg (([.int .u64 0, .int .i64 0, .string ByteArray.empty, .string ByteArray.empty, .bool false, .bool false] : List Value)).toArray) 6 64 := mk_info (by kernel_rfl) (by rfl)
instance : Cell Try.prog 74 := ⟨⟨_, Try.underlying74, rfl⟩, ex_size (by kernel_rfl)⟩
instance : IsT Try.prog 74 (.int .u64) := ⟨Try.underlying74⟩
instance : Zero Try.prog 74 (.int .u64 0) 1 8 := mk_info (by kernel_rfl) (by rfl)
instance : Cell Try.prog 75 := ⟨⟨_, Try.underlying75, rfl⟩, ex_size (by kernel_rfl)⟩
instance : IsT Try.prog 75 (.slice 5) := ⟨Try.underlying75⟩
instance : SliceT Try.prog 75 5 1 := mk_slice Try.underlying75 (by kernel_rfl)
instance : Zero Try.prog 75 (.slice none 0 0) 1 24 := mk_info (by kernel_rfl) (by rfl)
instance : Cell Try.prog 77 := ⟨⟨_, Try.underlying77, rfl⟩, ex_size (by kernel_rfl)⟩
instance : IsT Try.prog 77 (.int .i64) := ⟨Try.underlying77⟩
instance : Zero Try.prog 77 (.int .i64 0) 1 8 := mk_info (by kernel_rfl) (by rfl)
instance : Cell Try.prog 86 := ⟨⟨_, Try.underlying86, rfl⟩, ex_size (by kernel_rfl)⟩
instance : IsT Try.prog 86 (.int .u32) := ⟨Try.underlying86⟩
instance : Zero Try.prog 86 (.int .u32 0) 1 4 := mk_info (by kernel_rfl) (by rfl)
instance : Cell Try.prog 88 := ⟨⟨_, Try.underlying88, rfl⟩, ex_size (by kernel_rfl)⟩
instance : IsT Try.prog 88 (.int .u64) := ⟨Try.underlying88⟩
instance : Zero Try.prog 88 (.int .u64 0) 1 8 := mk_info (by kernel_rfl) (by rfl)
instance : Cell Try.prog 92 := ⟨⟨_, Try.underlying92, rfl⟩, ex_size (by kernel_rfl)⟩
instance : IsT Try.prog 92 (.pointer 3) := ⟨Try.underlying92⟩
instance : Zero Try.prog 92 (.pointer none) 1 8 := mk_info (by kernel_rfl) (by rfl)
instance : Cell Try.prog 94 := ⟨⟨_, Try.underlying94, rfl⟩, ex_size (by kernel_rfl)⟩
instance : IsT Try.prog 94 (.pointer 88) := ⟨Try.underlying94⟩
instance : Zero Try.prog 94 (.pointer none) 1 8 := mk_info (by kernel_rfl) (by rfl)
instance : Cell Try.prog 107 := ⟨⟨_, Try.underlying107, rfl⟩, ex_size (by kernel_rfl)⟩
instance : IsT Try.prog 107 (.pointer 5) := ⟨Try.underlying107⟩
instance : Zero Try.prog 107 (.pointer none) 1 8 := mk_info (by kernel_rfl) (by rfl)
instance : IsFn Try.prog 3 := ⟨_, Try.func3, rfl, rfl⟩
instance : IsFn Try.prog 4 := ⟨_, Try.func4, rfl, rfl⟩
instance : IsFn Try.prog 5 := ⟨_, Try.func5, rfl, rfl⟩
instance : IsFn Try.prog 6 := ⟨_, Try.func6, rfl, rfl⟩
instance : IsFn Try.prog 7 := ⟨_, Try.func7, rfl, rfl⟩
instance : IsFn Try.prog 8 := ⟨_, Try.func8, rfl, rfl⟩
instance : IsFn Try.prog 9 := ⟨_, Try.func9, rfl, rfl⟩
instance : IsFn Try.prog 10 := ⟨_, Try.func10, rfl, rfl⟩
instance : IsFn Try.prog 11 := ⟨_, Try.func11, rfl, rfl⟩
instance : IsFn Try.prog 12 := ⟨_, Try.func12, rfl, rfl⟩
instance : IsFn Try.prog 13 := ⟨_, Try.func13, rfl, rfl⟩
instance : IsFn Try.prog 14 := ⟨_, Try.func14, rfl, rfl⟩
instance : IsFn Try.prog 15 := ⟨_, Try.func15, rfl, rfl⟩
instance : IsFn Try.prog 16 := ⟨_, Try.func16, rfl, rfl⟩
instance : IsFn Try.prog 17 := ⟨_, Try.func17, rfl, rfl⟩
instance : IsFn Try.prog 18 := ⟨_, Try.func18, rfl, rfl⟩
instance : IsFn Try.prog 19 := ⟨_, Try.func19, rfl, rfl⟩
instance : IsFn Try.prog 20 := ⟨_, Try.func20, rfl, rfl⟩
instance : IsFn Try.prog 21 := ⟨_, Try.func21, rfl, rfl⟩
instance : IsFn Try.prog 22 := ⟨_, Try.func22, rfl, rfl⟩
instance : IsFn Try.prog 23 := ⟨_, Try.func23, rfl, rfl⟩
instance : IsFn Try.prog 24 := ⟨_, Try.func24, rfl, rfl⟩
instance : IsFn Try.prog 25 := ⟨_, Try.func25, rfl, rfl⟩
instance : IsFn Try.prog 26 := ⟨_, Try.func26, rfl, rfl⟩
instance : IsFn Try.prog 27 := ⟨_, Try.func27, rfl, rfl⟩
instance : IsFn Try.prog 29 := ⟨_, Try.func29, rfl, rfl⟩
instance : IsFn Try.prog 30 := ⟨_, Try.func30, rfl, rfl⟩
instance : IsFn Try.prog 31 := ⟨_, Try.func31, rfl, rfl⟩
instance : IsFn Try.prog 32 := ⟨_, Try.func32, rfl, rfl⟩
instance : IsFn Try.prog 33 := ⟨_, Try.func33, rfl, rfl⟩
instance : IsFn Try.prog 36 := ⟨_, Try.func36, rfl, rfl⟩
instance : IsFn Try.prog 37 := ⟨_, Try.func37, rfl, rfl⟩
instance : IsFn Try.prog 38 := ⟨_, Try.func38, rfl, rfl⟩
instance : BS Try.prog := ⟨Try.underlying75, Try.underlying5, Try.underlying9⟩
end Go.Proofs.Ytgapgpknghnemaa
