/- The seat's types and functions as instances: written by wip/tygen.py. -/
import Derived.Test.YtbimcdkceoflmaaK2
import Derived.Test.YtbimcdkceoflmaaOP2
import Derived.Test.YtbimcdkceoflmaaDR2
import Derived.Test.YtbimcdkceoflmaaProg
import Derived.KernelRfl
namespace Go.Proofs.Ytbimcdkceoflmaa
set_option linter.unusedVariables false
set_option linter.unusedSectionVars false
open Go Go.Proofs
section
variable {P : Program} {t s f e sz by_ off len : Nat}
theorem mk_info {z : Value} (h : (P.info? t).map (fun i => (i.zero, i.size, i.bytes)) = some (some z, sz, by_)) (hz : z.cells.size = sz) : Zero P t z sz by_ := by
  cases hi : P.info? t with
  | none => simp [hi] at h
  | some i => simp [hi] at h; exact ⟨i, hi, h.1, h.2.1, h.2.2, hz⟩
theorem ex_size (h : (P.info? t).map (·.size) = some sz) : ∃ i, P.info? t = some i ∧ i.size = sz := by
  cases hi : P.info? t with
  | none => simp [hi] at h
  | some i => simp [hi] at h; exact ⟨i, rfl, h⟩
theorem mk_fieldOff {fs : Array Field} {fd : Field} {k : Nat} (h1 : P.underlying s = some (.struct fs)) (h2 : fs[f]? = some fd) (h3 : fd.offset = off) (h4 : (P.info? fd.type).map (·.size) = some k) (hk : Nat.ble 1 k = true) : FieldOff P s f off := by
  obtain ⟨i, h5, h6⟩ := ex_size h4
  exact ⟨fs, fd, i, h1, h2, h3, h5, by rw [h6]; have : 1 ≤ k := Nat.le_of_ble_eq_true hk; omega⟩
theorem mk_slice (h1 : P.underlying t = some (.slice e)) (h2 : (P.info? e).map (·.size) = some sz) : SliceT P t e sz := by
  obtain ⟨i, h5, h6⟩ := ex_size h2
  exact ⟨i, h1, h5, h6⟩
theorem mk_array (h1 : P.underlying t = some (.array len e)) (h2 : (P.info? e).map (·.size) = some sz) : ArrayT P t len e sz := by
  obtain ⟨i, h5, h6⟩ := ex_size h2
  exact ⟨i, h1, h5, h6⟩
theorem mk_struct {z : Value} {fs : Array Field} {places : List (Nat × Nat)} {zs : List Value} (h1 : (P.info? t).map (·.zero) = some (some z)) (h2 : z.cells.toList = zs) (h3 : P.underlying t = some (.struct fs)) (h4 : fs.toList.mapM (fun f => (P.info? f.type).map fun i => (f.offset, i.size)) = some places) : StructT P t places zs := by
  cases hi : P.info? t with
  | none => simp [hi] at h1
  | some it => simp [hi] at h1; exact ⟨it, z, fs, hi, h1, h2, h3, h4⟩
theorem mk_fieldAgg {fs : Array Field} {fd : Field} {d : TypeDesc} (h1 : P.underlying s = some (.struct fs)) (h2 : fs[f]? = some fd) (h3 : fd.offset = off) (h4 : P.underlying fd.type = some d) (h5 : aggD d = true) (h6 : (P.info? fd.type).map (·.size) = some sz) : FieldAgg P s f off sz := by
  obtain ⟨i, h7, h8⟩ := ex_size h6
  exact ⟨fs, fd, d, i, h1, h2, h3, h4, h5, h7, h8⟩
end
instance : Cell Try.prog 2 := ⟨⟨_, Try.underlying2, rfl⟩, ex_size (by kernel_rfl)⟩
instance : IsT Try.prog 2 (.int .i64) := ⟨Try.underlying2⟩
instance : Zero Try.prog 2 (.int .i64 0) 1 8 := mk_info (by kernel_rfl) (by rfl)
instance : Cell Try.prog 3 := ⟨⟨_, Try.underlying3, rfl⟩, ex_size (by kernel_rfl)⟩
instance : IsT Try.prog 3 (.int .i64) := ⟨Try.underlying3⟩
instance : Zero Try.prog 3 (.int .i64 0) 1 8 := mk_info (by kernel_rfl) (by rfl)
instance : Cell Try.prog 4 := ⟨⟨_, Try.underlying4, rfl⟩, ex_size (by kernel_rfl)⟩
instance : IsT Try.prog 4 (.bool) := ⟨Try.underlying4⟩
instance : Zero Try.prog 4 (.bool false) 1 1 := mk_info (by kernel_rfl) (by rfl)
instance : Cell Try.prog 5 := ⟨⟨_, Try.underlying5, rfl⟩, ex_size (by kernel_rfl)⟩
instance : IsT Try.prog 5 (.int .u8) := ⟨Try.underlying5⟩
instance : Zero Try.prog 5 (.int .u8 0) 1 1 := mk_info (by kernel_rfl) (by rfl)
instance : Cell Try.prog 9 := ⟨⟨_, Try.underlying9, rfl⟩, ex_size (by kernel_rfl)⟩
instance : IsT Try.prog 9 (.string) := ⟨Try.underlying9⟩
instance : Zero Try.prog 9 (.string ByteArray.empty) 1 16 := mk_info (by kernel_rfl) (by rfl)
instance : Cell Try.prog 12 := ⟨⟨_, Try.underlying12, rfl⟩, ex_size (by kernel_rfl)⟩
instance : IsT Try.prog 12 (.int .u64) := ⟨Try.underlying12⟩
instance : Zero Try.prog 12 (.int .u64 0) 1 8 := mk_info (by kernel_rfl) (by rfl)
instance : Agg Try.prog 13 2 := ⟨⟨_, Try.underlying13, rfl⟩, ex_size (by kernel_rfl)⟩
instance : StructT Try.prog 13 [(0, 1), (1, 1)] (([.string ByteArray.empty, .int .u64 0] : List Value)) := mk_struct (z := .agg (([.string ByteArray.empty, .int .u64 0] : List Value)).toArray) (by kernel_rfl) rfl Try.underlying13 (by kernel_rfl)
instance : FieldOff Try.prog 13 0 0 := mk_fieldOff (k := 1) Try.underlying13 rfl rfl (by kernel_rfl) rfl
instance : FieldCell Try.prog 13 0 0 := ⟨_, _, _, Try.underlying13, rfl, rfl, Try.underlying9, rfl⟩
instance : FieldOff Try.prog 13 1 1 := mk_fieldOff (k := 1) Try.underlying13 rfl rfl (by kernel_rfl) rfl
instance : FieldCell Try.prog 13 1 1 := ⟨_, _, _, Try.underlying13, rfl, rfl, Try.underlying12, rfl⟩
instance : Zero Try.prog 13 (.agg (([.string ByteArray.empty, .int .u64 0] : List Value)).toArray) 2 24 := mk_info (by kernel_rfl) (by rfl)
instance : Cell Try.prog 21 := ⟨⟨_, Try.underlying21, rfl⟩, ex_size (by kernel_rfl)⟩
instance : IsT Try.prog 21 (.int .i32) := ⟨Try.underlying21⟩
instance : Zero Try.prog 21 (.int .i32 0) 1 4 := mk_info (by kernel_rfl) (by rfl)
instance : Cell Try.prog 22 := ⟨⟨_, Try.underlying22, rfl⟩, ex_size (by kernel_rfl)⟩
instance : IsT Try.prog 22 (.slice 30) := ⟨Try.underlying22⟩
instance : SliceT Try.prog 22 30 1 := mk_slice Try.underlying22 (by kernel_rfl)
instance : Zero Try.prog 22 (.slice none 0 0) 1 24 := mk_info (by kernel_rfl) (by rfl)
instance : Cell Try.prog 23 := ⟨⟨_, Try.underlying23, rfl⟩, ex_size (by kernel_rfl)⟩
instance : IsT Try.prog 23 (.slice 3) := ⟨Try.underlying23⟩
instance : SliceT Try.prog 23 3 1 := mk_slice Try.underlying23 (by kernel_rfl)
instance : Zero Try.prog 23 (.slice none 0 0) 1 24 := mk_info (by kernel_rfl) (by rfl)
instance : Cell Try.prog 25 := ⟨⟨_, Try.underlying25, rfl⟩, ex_size (by kernel_rfl)⟩
instance : IsT Try.prog 25 (.pointer 57) := ⟨Try.underlying25⟩
instance : Zero Try.prog 25 (.pointer none) 1 8 := mk_info (by kernel_rfl) (by rfl)
instance : Cell Try.prog 26 := ⟨⟨_, Try.underlying26, rfl⟩, ex_size (by kernel_rfl)⟩
instance : IsT Try.prog 26 (.int .i64) := ⟨Try.underlying26⟩
instance : Zero Try.prog 26 (.int .i64 0) 1 8 := mk_info (by kernel_rfl) (by rfl)
instance : Cell Try.prog 30 := ⟨⟨_, Try.underlying30, rfl⟩, ex_size (by kernel_rfl)⟩
instance : IsT Try.prog 30 (.slice 5) := ⟨Try.underlying30⟩
instance : SliceT Try.prog 30 5 1 := mk_slice Try.underlying30 (by kernel_rfl)
instance : Zero Try.prog 30 (.slice none 0 0) 1 24 := mk_info (by kernel_rfl) (by rfl)
instance : Cell Try.prog 37 := ⟨⟨_, Try.underlying37, rfl⟩, ex_size (by kernel_rfl)⟩
instance : IsT Try.prog 37 (.slice 39) := ⟨Try.underlying37⟩
instance : SliceT Try.prog 37 39 4 := mk_slice Try.underlying37 (by kernel_rfl)
instance : Zero Try.prog 37 (.slice none 0 0) 1 24 := mk_info (by kernel_rfl) (by rfl)
instance : Agg Try.prog 38 4 := ⟨⟨_, Try.underlying38, rfl⟩, ex_size (by kernel_rfl)⟩
instance : StructT Try.prog 38 [(0, 1), (1, 1), (2, 1), (3, 1)] (([.int .i64 0, .int .i64 0, .slice none 0 0, .slice none 0 0] : List Value)) := mk_struct (z := .agg (([.int .i64 0, .int .i64 0, .slice none 0 0, .slice none 0 0] : List Value)).toArray) (by kernel_rfl) rfl Try.underlying38 (by kernel_rfl)
instance : FieldOff Try.prog 38 0 0 := mk_fieldOff (k := 1) Try.underlying38 rfl rfl (by kernel_rfl) rfl
instance : FieldCell Try.prog 38 0 0 := ⟨_, _, _, Try.underlying38, rfl, rfl, Try.underlying3, rfl⟩
instance : FieldOff Try.prog 38 1 1 := mk_fieldOff (k := 1) Try.underlying38 rfl rfl (by kernel_rfl) rfl
instance : FieldCell Try.prog 38 1 1 := ⟨_, _, _, Try.underlying38, rfl, rfl, Try.underlying3, rfl⟩
instance : FieldOff Try.prog 38 2 2 := mk_fieldOff (k := 1) Try.underlying38 rfl rfl (by kernel_rfl) rfl
instance : FieldCell Try.prog 38 2 2 := ⟨_, _, _, Try.underlying38, rfl, rfl, Try.underlying30, rfl⟩
instance : FieldOff Try.prog 38 3 3 := mk_fieldOff (k := 1) Try.underlying38 rfl rfl (by kernel_rfl) rfl
instance : FieldCell Try.prog 38 3 3 := ⟨_, _, _, Try.underlying38, rfl, rfl, Try.underlying23, rfl⟩
instance : Zero Try.prog 38 (.agg (([.int .i64 0, .int .i64 0, .slice none 0 0, .slice none 0 0] : List Value)).toArray) 4 64 := mk_info (by kernel_rfl) (by rfl)
instance : Agg Try.prog 39 4 := ⟨⟨_, Try.underlying39, rfl⟩, ex_size (by kernel_rfl)⟩
instance : StructT Try.prog 39 [(0, 1), (1, 1), (2, 1), (3, 1)] (([.int .i64 0, .int .i64 0, .slice none 0 0, .slice none 0 0] : List Value)) := mk_struct (z := .agg (([.int .i64 0, .int .i64 0, .slice none 0 0, .slice none 0 0] : List Value)).toArray) (by kernel_rfl) rfl Try.underlying39 (by kernel_rfl)
instance : FieldOff Try.prog 39 0 0 := mk_fieldOff (k := 1) Try.underlying39 rfl rfl (by kernel_rfl) rfl
instance : FieldCell Try.prog 39 0 0 := ⟨_, _, _, Try.underlying39, rfl, rfl, Try.underlying3, rfl⟩
instance : FieldOff Try.prog 39 1 1 := mk_fieldOff (k := 1) Try.underlying39 rfl rfl (by kernel_rfl) rfl
instance : FieldCell Try.prog 39 1 1 := ⟨_, _, _, Try.underlying39, rfl, rfl, Try.underlying3, rfl⟩
instance : FieldOff Try.prog 39 2 2 := mk_fieldOff (k := 1) Try.underlying39 rfl rfl (by kernel_rfl) rfl
instance : FieldCell Try.prog 39 2 2 := ⟨_, _, _, Try.underlying39, rfl, rfl, Try.underlying30, rfl⟩
instance : FieldOff Try.prog 39 3 3 := mk_fieldOff (k := 1) Try.underlying39 rfl rfl (by kernel_rfl) rfl
instance : FieldCell Try.prog 39 3 3 := ⟨_, _, _, Try.underlying39, rfl, rfl, Try.underlying23, rfl⟩
instance : Zero Try.prog 39 (.agg (([.int .i64 0, .int .i64 0, .slice none 0 0, .slice none 0 0] : List Value)).toArray) 4 64 := mk_info (by kernel_rfl) (by rfl)
instance : Agg Try.prog 40 16 := ⟨⟨_, Try.underlying40, rfl⟩, ex_size (by kernel_rfl)⟩
instance : ArrayT Try.prog 40 16 30 1 := mk_array Try.underlying40 (by kernel_rfl)
instance : Zero Try.prog 40 (.agg (List.replicate 16 (Value.slice none 0 0)).toArray) 16 384 := mk_info (by kernel_rfl) (by rfl)
instance : Cell Try.prog 47 := ⟨⟨_, Try.underlying47, rfl⟩, ex_size (by kernel_rfl)⟩
instance : IsT Try.prog 47 (.pointer 53) := ⟨Try.underlying47⟩
instance : Zero Try.prog 47 (.pointer none) 1 8 := mk_info (by kernel_rfl) (by rfl)
instance : Cell Try.prog 51 := ⟨⟨_, Try.underlying51, rfl⟩, ex_size (by kernel_rfl)⟩
instance : IsT Try.prog 51 (.slice 64) := ⟨Try.underlying51⟩
instance : SliceT Try.prog 51 64 2 := mk_slice Try.underlying51 (by kernel_rfl)
instance : Zero Try.prog 51 (.slice none 0 0) 1 24 := mk_info (by kernel_rfl) (by rfl)
instance : Agg Try.prog 52 7 := ⟨⟨_, Try.underlying52, rfl⟩, ex_size (by kernel_rfl)⟩
instance : StructT Try.prog 52 [(0, 1), (1, 1), (2, 1), (3, 1), (4, 1), (5, 1), (6, 1)] (([.slice none 0 0, .slice none 0 0, .slice none 0 0, .int .i64 0, .bool false, .int .i64 0, .int .i64 0] : List Value)) := mk_struct (z := .agg (([.slice none 0 0, .slice none 0 0, .slice none 0 0, .int .i64 0, .bool false, .int .i64 0, .int .i64 0] : List Value)).toArray) (by kernel_rfl) rfl Try.underlying52 (by kernel_rfl)
instance : FieldOff Try.prog 52 0 0 := mk_fieldOff (k := 1) Try.underlying52 rfl rfl (by kernel_rfl) rfl
instance : FieldCell Try.prog 52 0 0 := ⟨_, _, _, Try.underlying52, rfl, rfl, Try.underlying22, rfl⟩
instance : FieldOff Try.prog 52 1 1 := mk_fieldOff (k := 1) Try.underlying52 rfl rfl (by kernel_rfl) rfl
instance : FieldCell Try.prog 52 1 1 := ⟨_, _, _, Try.underlying52, rfl, rfl, Try.underlying22, rfl⟩
instance : FieldOff Try.prog 52 2 2 := mk_fieldOff (k := 1) Try.underlying52 rfl rfl (by kernel_rfl) rfl
instance : FieldCell Try.prog 52 2 2 := ⟨_, _, _, Try.underlying52, rfl, rfl, Try.underlying51, rfl⟩
instance : FieldOff Try.prog 52 3 3 := mk_fieldOff (k := 1) Try.underlying52 rfl rfl (by kernel_rfl) rfl
instance : FieldCell Try.prog 52 3 3 := ⟨_, _, _, Try.underlying52, rfl, rfl, Try.underlying3, rfl⟩
instance : FieldOff Try.prog 52 4 4 := mk_fieldOff (k := 1) Try.underlying52 rfl rfl (by kernel_rfl) rfl
instance : FieldCell Try.prog 52 4 4 := ⟨_, _, _, Try.underlying52, rfl, rfl, Try.underlying4, rfl⟩
instance : FieldOff Try.prog 52 5 5 := mk_fieldOff (k := 1) Try.underlying52 rfl rfl (by kernel_rfl) rfl
instance : FieldCell Try.prog 52 5 5 := ⟨_, _, _, Try.underlying52, rfl, rfl, Try.underlying3, rfl⟩
instance : FieldOff Try.prog 52 6 6 := mk_fieldOff (k := 1) Try.underlying52 rfl rfl (by kernel_rfl) rfl
instance : FieldCell Try.prog 52 6 6 := ⟨_, _, _, Try.underlying52, rfl, rfl, Try.underlying3, rfl⟩
instance : Zero Try.prog 52 (.agg (([.slice none 0 0, .slice none 0 0, .slice none 0 0, .int .i64 0, .bool false, .int .i64 0, .int .i64 0] : List Value)).toArray) 7 104 := mk_info (by kernel_rfl) (by rfl)
instance : Agg Try.prog 53 7 := ⟨⟨_, Try.underlying53, rfl⟩, ex_size (by kernel_rfl)⟩
instance : StructT Try.prog 53 [(0, 1), (1, 1), (2, 1), (3, 1), (4, 1), (5, 1), (6, 1)] (([.slice none 0 0, .slice none 0 0, .slice none 0 0, .int .i64 0, .bool false, .int .i64 0, .int .i64 0] : List Value)) := mk_struct (z := .agg (([.slice none 0 0, .slice none 0 0, .slice none 0 0, .int .i64 0, .bool false, .int .i64 0, .int .i64 0] : List Value)).toArray) (by kernel_rfl) rfl Try.underlying53 (by kernel_rfl)
instance : FieldOff Try.prog 53 0 0 := mk_fieldOff (k := 1) Try.underlying53 rfl rfl (by kernel_rfl) rfl
instance : FieldCell Try.prog 53 0 0 := ⟨_, _, _, Try.underlying53, rfl, rfl, Try.underlying22, rfl⟩
instance : FieldOff Try.prog 53 1 1 := mk_fieldOff (k := 1) Try.underlying53 rfl rfl (by kernel_rfl) rfl
instance : FieldCell Try.prog 53 1 1 := ⟨_, _, _, Try.underlying53, rfl, rfl, Try.underlying22, rfl⟩
instance : FieldOff Try.prog 53 2 2 := mk_fieldOff (k := 1) Try.underlying53 rfl rfl (by kernel_rfl) rfl
instance : FieldCell Try.prog 53 2 2 := ⟨_, _, _, Try.underlying53, rfl, rfl, Try.underlying51, rfl⟩
instance : FieldOff Try.prog 53 3 3 := mk_fieldOff (k := 1) Try.underlying53 rfl rfl (by kernel_rfl) rfl
instance : FieldCell Try.prog 53 3 3 := ⟨_, _, _, Try.underlying53, rfl, rfl, Try.underlying3, rfl⟩
instance : FieldOff Try.prog 53 4 4 := mk_fieldOff (k := 1) Try.underlying53 rfl rfl (by kernel_rfl) rfl
instance : FieldCell Try.prog 53 4 4 := ⟨_, _, _, Try.underlying53, rfl, rfl, Try.underlying4, rfl⟩
instance : FieldOff Try.prog 53 5 5 := mk_fieldOff (k := 1) Try.underlying53 rfl rfl (by kernel_rfl) rfl
instance : FieldCell Try.prog 53 5 5 := ⟨_, _, _, Try.underlying53, rfl, rfl, Try.underlying3, rfl⟩
instance : FieldOff Try.prog 53 6 6 := mk_fieldOff (k := 1) Try.underlying53 rfl rfl (by kernel_rfl) rfl
instance : FieldCell Try.prog 53 6 6 := ⟨_, _, _, Try.underlying53, rfl, rfl, Try.underlying3, rfl⟩
instance : Zero Try.prog 53 (.agg (([.slice none 0 0, .slice none 0 0, .slice none 0 0, .int .i64 0, .bool false, .int .i64 0, .int .i64 0] : List Value)).toArray) 7 104 := mk_info (by kernel_rfl) (by rfl)
instance : Cell Try.prog 54 := ⟨⟨_, Try.underlying54, rfl⟩, ex_size (by kernel_rfl)⟩
instance : IsT Try.prog 54 (.slice 60) := ⟨Try.underlying54⟩
instance : SliceT Try.prog 54 60 64 := mk_slice Try.underlying54 (by kernel_rfl)
instance : Zero Try.prog 54 (.slice none 0 0) 1 24 := mk_info (by kernel_rfl) (by rfl)
instance : Cell Try.prog 55 := ⟨⟨_, Try.underlying55, rfl⟩, ex_size (by kernel_rfl)⟩
instance : IsT Try.prog 55 (.slice 62) := ⟨Try.underlying55⟩
instance : SliceT Try.prog 55 62 129 := mk_slice Try.underlying55 (by kernel_rfl)
instance : Zero Try.prog 55 (.slice none 0 0) 1 24 := mk_info (by kernel_rfl) (by rfl)
instance : Agg Try.prog 56 6 := ⟨⟨_, Try.underlying56, rfl⟩, ex_size (by kernel_rfl)⟩
instance : StructT Try.prog 56 [(0, 1), (1, 1), (2, 1), (3, 1), (4, 1), (5, 1)] (([.slice none 0 0, .slice none 0 0, .int .i64 0, .bool false, .int .i64 0, .int .i64 0] : List Value)) := mk_struct (z := .agg (([.slice none 0 0, .slice none 0 0, .int .i64 0, .bool false, .int .i64 0, .int .i64 0] : List Value)).toArray) (by kernel_rfl) rfl Try.underlying56 (by kernel_rfl)
instance : FieldOff Try.prog 56 0 0 := mk_fieldOff (k := 1) Try.underlying56 rfl rfl (by kernel_rfl) rfl
instance : FieldCell Try.prog 56 0 0 := ⟨_, _, _, Try.underlying56, rfl, rfl, Try.underlying54, rfl⟩
instance : FieldOff Try.prog 56 1 1 := mk_fieldOff (k := 1) Try.underlying56 rfl rfl (by kernel_rfl) rfl
instance : FieldCell Try.prog 56 1 1 := ⟨_, _, _, Try.underlying56, rfl, rfl, Try.underlying55, rfl⟩
instance : FieldOff Try.prog 56 2 2 := mk_fieldOff (k := 1) Try.underlying56 rfl rfl (by kernel_rfl) rfl
instance : FieldCell Try.prog 56 2 2 := ⟨_, _, _, Try.underlying56, rfl, rfl, Try.underlying3, rfl⟩
instance : FieldOff Try.prog 56 3 3 := mk_fieldOff (k := 1) Try.underlying56 rfl rfl (by kernel_rfl) rfl
instance : FieldCell Try.prog 56 3 3 := ⟨_, _, _, Try.underlying56, rfl, rfl, Try.underlying4, rfl⟩
instance : FieldOff Try.prog 56 4 4 := mk_fieldOff (k := 1) Try.underlying56 rfl rfl (by kernel_rfl) rfl
instance : FieldCell Try.prog 56 4 4 := ⟨_, _, _, Try.underlying56, rfl, rfl, Try.underlying3, rfl⟩
instance : FieldOff Try.prog 56 5 5 := mk_fieldOff (k := 1) Try.underlying56 rfl rfl (by kernel_rfl) rfl
instance : FieldCell Try.prog 56 5 5 := ⟨_, _, _, Try.underlying56, rfl, rfl, Try.underlying3, rfl⟩
instance : Zero Try.prog 56 (.agg (([.slice none 0 0, .slice none 0 0, .int .i64 0, .bool false, .int .i64 0, .int .i64 0] : List Value)).toArray) 6 80 := mk_info (by kernel_rfl) (by rfl)
instance : Agg Try.prog 57 6 := ⟨⟨_, Try.underlying57, rfl⟩, ex_size (by kernel_rfl)⟩
instance : StructT Try.prog 57 [(0, 1), (1, 1), (2, 1), (3, 1), (4, 1), (5, 1)] (([.slice none 0 0, .slice none 0 0, .int .i64 0, .bool false, .int .i64 0, .int .i64 0] : List Value)) := mk_struct (z := .agg (([.slice none 0 0, .slice none 0 0, .int .i64 0, .bool false, .int .i64 0, .int .i64 0] : List Value)).toArray) (by kernel_rfl) rfl Try.underlying57 (by kernel_rfl)
instance : FieldOff Try.prog 57 0 0 := mk_fieldOff (k := 1) Try.underlying57 rfl rfl (by kernel_rfl) rfl
instance : FieldCell Try.prog 57 0 0 := ⟨_, _, _, Try.underlying57, rfl, rfl, Try.underlying54, rfl⟩
instance : FieldOff Try.prog 57 1 1 := mk_fieldOff (k := 1) Try.underlying57 rfl rfl (by kernel_rfl) rfl
instance : FieldCell Try.prog 57 1 1 := ⟨_, _, _, Try.underlying57, rfl, rfl, Try.underlying55, rfl⟩
instance : FieldOff Try.prog 57 2 2 := mk_fieldOff (k := 1) Try.underlying57 rfl rfl (by kernel_rfl) rfl
instance : FieldCell Try.prog 57 2 2 := ⟨_, _, _, Try.underlying57, rfl, rfl, Try.underlying3, rfl⟩
instance : FieldOff Try.prog 57 3 3 := mk_fieldOff (k := 1) Try.underlying57 rfl rfl (by kernel_rfl) rfl
instance : FieldCell Try.prog 57 3 3 := ⟨_, _, _, Try.underlying57, rfl, rfl, Try.underlying4, rfl⟩
instance : FieldOff Try.prog 57 4 4 := mk_fieldOff (k := 1) Try.underlying57 rfl rfl (by kernel_rfl) rfl
instance : FieldCell Try.prog 57 4 4 := ⟨_, _, _, Try.underlying57, rfl, rfl, Try.underlying3, rfl⟩
instance : FieldOff Try.prog 57 5 5 := mk_fieldOff (k := 1) Try.underlying57 rfl rfl (by kernel_rfl) rfl
instance : FieldCell Try.prog 57 5 5 := ⟨_, _, _, Try.underlying57, rfl, rfl, Try.underlying3, rfl⟩
instance : Zero Try.prog 57 (.agg (([.slice none 0 0, .slice none 0 0, .int .i64 0, .bool false, .int .i64 0, .int .i64 0] : List Value)).toArray) 6 80 := mk_info (by kernel_rfl) (by rfl)
instance : Agg Try.prog 59 64 := ⟨⟨_, Try.underlying59, rfl⟩, ex_size (by kernel_rfl)⟩
instance : ArrayT Try.prog 59 64 5 1 := mk_array Try.underlying59 (by kernel_rfl)
instance : Zero Try.prog 59 (.agg (List.replicate 64 (Value.int .u8 0)).toArray) 64 64 := mk_info (by kernel_rfl) (by rfl)
instance : Agg Try.prog 60 64 := ⟨⟨_, Try.underlying60, rfl⟩, ex_size (by kernel_rfl)⟩
instance : ArrayT Try.prog 60 64 5 1 := mk_array Try.underlying60 (by kernel_rfl)
instance : Zero Try.prog 60 (.agg (List.replicate 64 (Value.int .u8 0)).toArray) 64 64 := mk_info (by kernel_rfl) (by rfl)
instance : Agg Try.prog 61 129 := ⟨⟨_, Try.underlying61, rfl⟩, ex_size (by kernel_rfl)⟩
instance : StructT Try.prog 61 [(0, 1), (1, 64), (65, 64)] (([.int .i64 0] : List Value) ++ List.replicate 128 (Value.int .u8 0)) := mk_struct (z := .agg (([.int .i64 0] : List Value) ++ List.replicate 128 (Value.int .u8 0)).toArray) (by kernel_rfl) rfl Try.underlying61 (by kernel_rfl)
instance : FieldOff Try.prog 61 0 0 := mk_fieldOff (k := 1) Try.underlying61 rfl rfl (by kernel_rfl) rfl
instance : FieldCell Try.prog 61 0 0 := ⟨_, _, _, Try.underlying61, rfl, rfl, Try.underlying3, rfl⟩
instance : FieldOff Try.prog 61 1 1 := mk_fieldOff (k := 64) Try.underlying61 rfl rfl (by kernel_rfl) rfl
instance : FieldAgg Try.prog 61 1 1 64 := mk_fieldAgg Try.underlying61 rfl rfl Try.underlying60 rfl (by kernel_rfl)
instance : FieldOff Try.prog 61 2 65 := mk_fieldOff (k := 64) Try.underlying61 rfl rfl (by kernel_rfl) rfl
instance : FieldAgg Try.prog 61 2 65 64 := mk_fieldAgg Try.underlying61 rfl rfl Try.underlying60 rfl (by kernel_rfl)
instance : Zero Try.prog 61 (.agg (([.int .i64 0] : List Value) ++ List.replicate 128 (Value.int .u8 0)).toArray) 129 136 := mk_info (by kernel_rfl) (by rfl)
instance : Agg Try.prog 62 129 := ⟨⟨_, Try.underlying62, rfl⟩, ex_size (by kernel_rfl)⟩
instance : StructT Try.prog 62 [(0, 1), (1, 64), (65, 64)] (([.int .i64 0] : List Value) ++ List.replicate 128 (Value.int .u8 0)) := mk_struct (z := .agg (([.int .i64 0] : List Value) ++ List.replicate 128 (Value.int .u8 0)).toArray) (by kernel_rfl) rfl Try.underlying62 (by kernel_rfl)
instance : FieldOff Try.prog 62 0 0 := mk_fieldOff (k := 1) Try.underlying62 rfl rfl (by kernel_rfl) rfl
instance : FieldCell Try.prog 62 0 0 := ⟨_, _, _, Try.underlying62, rfl, rfl, Try.underlying3, rfl⟩
instance : FieldOff Try.prog 62 1 1 := mk_fieldOff (k := 64) Try.underlying62 rfl rfl (by kernel_rfl) rfl
instance : FieldAgg Try.prog 62 1 1 64 := mk_fieldAgg Try.underlying62 rfl rfl Try.underlying60 rfl (by kernel_rfl)
instance : FieldOff Try.prog 62 2 65 := mk_fieldOff (k := 64) Try.underlying62 rfl rfl (by kernel_rfl) rfl
instance : FieldAgg Try.prog 62 2 65 64 := mk_fieldAgg Try.underlying62 rfl rfl Try.underlying60 rfl (by kernel_rfl)
instance : Zero Try.prog 62 (.agg (([.int .i64 0] : List Value) ++ List.replicate 128 (Value.int .u8 0)).toArray) 129 136 := mk_info (by kernel_rfl) (by rfl)
instance : Agg Try.prog 63 2 := ⟨⟨_, Try.underlying63, rfl⟩, ex_size (by kernel_rfl)⟩
instance : StructT Try.prog 63 [(0, 1), (1, 1)] (([.int .i64 0, .slice none 0 0] : List Value)) := mk_struct (z := .agg (([.int .i64 0, .slice none 0 0] : List Value)).toArray) (by kernel_rfl) rfl Try.underlying63 (by kernel_rfl)
instance : FieldOff Try.prog 63 0 0 := mk_fieldOff (k := 1) Try.underlying63 rfl rfl (by kernel_rfl) rfl
instance : FieldCell Try.prog 63 0 0 := ⟨_, _, _, Try.underlying63, rfl, rfl, Try.underlying3, rfl⟩
instance : FieldOff Try.prog 63 1 1 := mk_fieldOff (k := 1) Try.underlying63 rfl rfl (by kernel_rfl) rfl
instance : FieldCell Try.prog 63 1 1 := ⟨_, _, _, Try.underlying63, rfl, rfl, Try.underlying30, rfl⟩
instance : Zero Try.prog 63 (.agg (([.int .i64 0, .slice none 0 0] : List Value)).toArray) 2 32 := mk_info (by kernel_rfl) (by rfl)
instance : Agg Try.prog 64 2 := ⟨⟨_, Try.underlying64, rfl⟩, ex_size (by kernel_rfl)⟩
instance : StructT Try.prog 64 [(0, 1), (1, 1)] (([.int .i64 0, .slice none 0 0] : List Value)) := mk_struct (z := .agg (([.int .i64 0, .slice none 0 0] : List Value)).toArray) (by kernel_rfl) rfl Try.underlying64 (by kernel_rfl)
instance : FieldOff Try.prog 64 0 0 := mk_fieldOff (k := 1) Try.underlying64 rfl rfl (by kernel_rfl) rfl
instance : FieldCell Try.prog 64 0 0 := ⟨_, _, _, Try.underlying64, rfl, rfl, Try.underlying3, rfl⟩
instance : FieldOff Try.prog 64 1 1 := mk_fieldOff (k := 1) Try.underlying64 rfl rfl (by kernel_rfl) rfl
instance : FieldCell Try.prog 64 1 1 := ⟨_, _, _, Try.underlying64, rfl, rfl, Try.underlying30, rfl⟩
instance : Zero Try.prog 64 (.agg (([.int .i64 0, .slice none 0 0] : List Value)).toArray) 2 32 := mk_info (by kernel_rfl) (by rfl)
instance : Cell Try.prog 71 := ⟨⟨_, Try.underlying71, rfl⟩, ex_size (by kernel_rfl)⟩
instance : IsT Try.prog 71 (.int .u32) := ⟨Try.underlying71⟩
instance : Zero Try.prog 71 (.int .u32 0) 1 4 := mk_info (by kernel_rfl) (by rfl)
instance : Cell Try.prog 75 := ⟨⟨_, Try.underlying75, rfl⟩, ex_size (by kernel_rfl)⟩
instance : IsT Try.prog 75 (.pointer 5) := ⟨Try.underlying75⟩
instance : Zero Try.prog 75 (.pointer none) 1 8 := mk_info (by kernel_rfl) (by rfl)
instance : IsFn Try.prog 3 := ⟨_, Try.func3, rfl, rfl⟩
instance : IsFn Try.prog 4 := ⟨_, Try.func4, rfl, rfl⟩
instance : IsFn Try.prog 5 := ⟨_, Try.func5, rfl, rfl⟩
instance : IsFn Try.prog 6 := ⟨_, Try.func6, rfl, rfl⟩
instance : IsFn Try.prog 7 := ⟨_, Try.func7, rfl, rfl⟩
instance : IsFn Try.prog 8 := ⟨_, Try.func8, rfl, rfl⟩
instance : IsFn Try.prog 9 := ⟨_, Try.func9, rfl, rfl⟩
instance : IsFn Try.prog 10 := ⟨_, Try.func10, rfl, rfl⟩
instance : IsFn Try.prog 11 := ⟨_, Try.func11, rfl, rfl⟩
instance : IsFn Try.prog 12 := ⟨_, Try.func12, rfl, rfl⟩
instance : IsFn Try.prog 13 := ⟨_, Try.func13, rfl, rfl⟩
instance : IsFn Try.prog 14 := ⟨_, Try.func14, rfl, rfl⟩
instance : IsFn Try.prog 15 := ⟨_, Try.func15, rfl, rfl⟩
instance : IsFn Try.prog 16 := ⟨_, Try.func16, rfl, rfl⟩
instance : IsFn Try.prog 17 := ⟨_, Try.func17, rfl, rfl⟩
instance : IsFn Try.prog 18 := ⟨_, Try.func18, rfl, rfl⟩
instance : IsFn Try.prog 19 := ⟨_, Try.func19, rfl, rfl⟩
instance : IsFn Try.prog 20 := ⟨_, Try.func20, rfl, rfl⟩
instance : IsFn Try.prog 21 := ⟨_, Try.func21, rfl, rfl⟩
instance : IsFn Try.prog 22 := ⟨_, Try.func22, rfl, rfl⟩
instance : IsFn Try.prog 23 := ⟨_, Try.func23, rfl, rfl⟩
instance : IsFn Try.prog 24 := ⟨_, Try.func24, rfl, rfl⟩
instance : IsFn Try.prog 25 := ⟨_, Try.func25, rfl, rfl⟩
instance : IsFn Try.prog 26 := ⟨_, Try.func26, rfl, rfl⟩
instance : IsFn Try.prog 27 := ⟨_, Try.func27, rfl, rfl⟩
instance : IsFn Try.prog 28 := ⟨_, Try.func28, rfl, rfl⟩
instance : IsFn Try.prog 29 := ⟨_, Try.func29, rfl, rfl⟩
instance : IsFn Try.prog 30 := ⟨_, Try.func30, rfl, rfl⟩
instance : IsFn Try.prog 31 := ⟨_, Try.func31, rfl, rfl⟩
instance : BS Try.prog := ⟨Try.underlying30, Try.underlying5, Try.underlying9⟩
end Go.Proofs.Ytbimcdkceoflmaa
