/- granarylaw13: the script of calls, read. -/
import Derived.Test.YtclehoaeppbmpaaLP
namespace Go.Proofs.Ytclehoaeppbmpaa
set_option linter.unusedVariables false
set_option linter.unusedSimpArgs false
set_option linter.unusedSectionVars false
set_option linter.unnecessarySimpa false
open Go Go.Proofs
set_option maxRecDepth 20000
abbrev OpP := Int × Int × Int × List UInt8 × Unit
def OpPAt (W : World) (x : OpP) (b o : Nat) : Prop := ∃ (bb : Option Addr) (bc id : Nat), x.2.2.1 = (id : Int) ∧ id < 18446744073709551616 ∧ x.2.2.2.1.length ≤ 140737488351232 ∧
  (-9223372036854775808 ≤ x.1 ∧ x.1 ≤ 9223372036854775807) ∧ (-9223372036854775808 ≤ x.2.1 ∧ x.2.1 ≤ 9223372036854775807) ∧
  RdO W (some ⟨b, o, none⟩) [i64 x.1, i64 x.2.1, u64 id, .slice bb x.2.2.2.1.length bc] ∧ RdO W bb (x.2.2.2.1.map bv) ∧ (bb = none → x.2.2.2.1 = [])
def OpsPAt (W : World) (l : List OpP) (la : Option Addr) : Prop := (0 < l.length → ∃ b o, la = some ⟨b, o, none⟩) ∧ l.length ≤ 140737488351232 ∧ ∀ (i : Nat) (h : i < l.length) (b o : Nat), la = some ⟨b, o, none⟩ → OpPAt W l[i] b (o + i * 4)
theorem opsPAt_of {W : World} {cs : List Value} {l : List OpP} (h : ((RT.slice 4 48 Try.underlying44 (by kernel_rfl) (by kernel_rfl) (RT.struct (tot := 4) Try.underlying46 (by kernel_rfl) (RF.cons 1 (RT.int .i64 Try.underlying3) rfl (by kernel_rfl) (RF.cons 1 (RT.int .i64 Try.underlying3) rfl (by kernel_rfl) (RF.cons 1 (RT.int .u64 Try.underlying32) rfl (by kernel_rfl) (RF.cons 1 (RT.slice 1 1 Try.underlying37 (by kernel_rfl) (by kernel_rfl) (RT.u8 Try.underlying5)) rfl (by kernel_rfl) (RF.nil rfl))))))) : RT Try.prog 44 (List OpP)).E W l cs) : ∃ (la : Option Addr) (lc : Nat), cs = [.slice la l.length lc] ∧ OpsPAt W l la := by
  obtain ⟨ad, cap, rfl, _, _, h1, hp, r1⟩ := SliceE.at (by decide) h
  refine ⟨ad, cap, rfl, hp, by omega, fun i hi b o e => ?_⟩
  obtain ⟨vs, _, ⟨_, c1, c2, rfl, ⟨rfl, w1⟩, c3, c4, rfl, ⟨rfl, w2⟩, c9, c10, rfl, ⟨rfl, w3⟩, c5, c6, rfl, e3, rfl⟩, hR⟩ := r1 i hi b o e
  obtain ⟨bb, bc, rfl, g1, _, h3, h4⟩ := SliceE.one bv (fun x vs h => h) e3
  have w3' := wf_u64 w3
  obtain ⟨id, hid⟩ : ∃ id : Nat, l[i].2.2.1 = (id : Int) := ⟨l[i].2.2.1.toNat, by omega⟩
  rw [hid] at hR
  refine ⟨bb, bc, id, hid, by omega, by omega, wf_i64 w1, wf_i64 w2, hR, h4, fun hn => ?_⟩
  rcases Classical.em (l[i].2.2.2.1 = []) with h5 | h5
  · exact h5
  · obtain ⟨b', o', e', _⟩ := h4.some (by intro e; exact h5 (List.map_eq_nil_iff.1 e))
    rw [hn] at e'; cases e'
theorem rdo_tailP {W : World} {a : Option Addr} {vs : List Value} {R : List HP} (h : RdO W a vs) (j : Nat) (hR : R[j]? = some (old W)) (L : List HP) : Rd W (L ++ R) a vs :=
  h.rd (L.length + j) (by rw [List.getElem?_append_right (Nat.le_add_right _ _), Nat.add_sub_cancel_left]; exact hR)
theorem wrapU6 {d : Nat} (h : d ≤ 6) : IntKind.u64.wrap (d : Int) = (d : Int) := by
  match d, h with
  | 0, _ | 1, _ | 2, _ | 3, _ | 4, _ | 5, _ | 6, _ => rfl
theorem tmod6 (id : Nat) : ∃ j : Nat, Int.tmod (id : Int) 6 = (j : Int) ∧ j < 6 := ⟨id % 6, by rw [Int.tmod_eq_emod_of_nonneg (by omega)]; omega, by omega⟩
end Go.Proofs.Ytclehoaeppbmpaa
