/- A list of copied texts: grown at its end, cut, read. -/
import Derived.Test.YtdehkdmnddflhaaLX4A
import Derived.Test.YtdehkdmnddflhaaBSR
namespace Go.Proofs.Ytdehkdmnddflhaa
set_option linter.unusedVariables false
set_option linter.unusedSimpArgs false
set_option linter.unusedSectionVars false
set_option linter.unnecessarySimpa false
open Go Go.Proofs
set_option maxRecDepth 20000
set_option maxHeartbeats 4000000
attribute [local irreducible] SG WC WO W1 WD WK PS Rd Tri Exit.then Exit.inBlock bodyPost calmQ Mid sadd
variable {W : World} {n : Nat} {F : Fr} {L : List HP} {G : Act → World → Prop}
/- The script. -/
abbrev OpX := Int × Int × Int × List UInt8 × List Int × Unit
def OpAt (W : World) (x : OpX) (b o : Nat) : Prop := ∃ (bb ka : Option Addr) (bc kc : Nat), x.2.2.2.1.length ≤ bc ∧ x.2.2.2.1.length ≤ 140737488351232 ∧ x.2.2.2.2.1.length * 8 ≤ 140737488351232 ∧
  (-9223372036854775808 ≤ x.1 ∧ x.1 ≤ 9223372036854775807) ∧ (-9223372036854775808 ≤ x.2.1 ∧ x.2.1 ≤ 9223372036854775807) ∧
  RdO W (some ⟨b, o, none⟩) [i64 x.1, i64 x.2.1, .int .u32 x.2.2.1, .slice bb x.2.2.2.1.length bc, .slice ka x.2.2.2.2.1.length kc] ∧ RdO W bb (x.2.2.2.1.map bv) ∧ RdO W ka (x.2.2.2.2.1.map (Value.int .i64))
def OpsAt (W : World) (l : List OpX) (la : Option Addr) : Prop := (0 < l.length → ∃ b o, la = some ⟨b, o, none⟩) ∧ l.length ≤ 140737488351232 ∧ ∀ (i : Nat) (h : i < l.length) (b o : Nat), la = some ⟨b, o, none⟩ → OpAt W l[i] b (o + i * 5)
theorem opsAt_of {cs : List Value} {l : List OpX} (h : ((RT.slice 5 72 Try.underlying51 (by kernel_rfl) (by kernel_rfl) (RT.struct (tot := 5) Try.underlying53 (by kernel_rfl) (RF.cons 1 (RT.int .i64 Try.underlying3) rfl (by kernel_rfl) (RF.cons 1 (RT.int .i64 Try.underlying3) rfl (by kernel_rfl) (RF.cons 1 (RT.int .u32 Try.underlying32) rfl (by kernel_rfl) (RF.cons 1 (RT.slice 1 1 Try.underlying34 (by kernel_rfl) (by kernel_rfl) (RT.u8 Try.underlying5)) rfl (by kernel_rfl) (RF.cons 1 (RT.slice 1 8 Try.underlying40 (by kernel_rfl) (by kernel_rfl) (RT.int .i64 Try.underlying3)) rfl (by kernel_rfl) (RF.nil rfl)))))))) : RT Try.prog 51 (List OpX)).E W l cs) : ∃ (la : Option Addr) (lc : Nat), cs = [.slice la l.length lc] ∧ OpsAt W l la := by
  obtain ⟨ad, cap, rfl, _, _, h1, hp, r1⟩ := SliceE.at (by decide) h
  refine ⟨ad, cap, rfl, hp, by omega, fun i hi b o e => ?_⟩
  obtain ⟨vs, _, ⟨_, c1, c2, rfl, ⟨rfl, w1⟩, c3, c4, rfl, ⟨rfl, w2⟩, c9, c10, rfl, ⟨rfl, w3⟩, c5, c6, rfl, e3, c7, c8, rfl, e4, rfl⟩, hR⟩ := r1 i hi b o e
  obtain ⟨bb, bc, rfl, g1, _, h3, h4⟩ := SliceE.one bv (fun x vs h => h) e3
  obtain ⟨ka, kc, rfl, _, _, h5, h6⟩ := SliceE.one (.int .i64) (fun x vs h => h.1) e4
  exact ⟨bb, ka, bc, kc, g1, by omega, h5, wf_i64 w1, wf_i64 w2, hR, h4, h6⟩
/- What is found stands one behind the other. -/
theorem recsOf_next : ∀ (l : List (Nat × List UInt8)) (s k : Nat) (x y : Nat × Nat × List UInt8), (recsOf s l)[k]? = some x → (recsOf s l)[k + 1]? = some y → y.1 = x.2.1
  | [], _, _, _, _, h, _ => by simp [recsOf] at h
  | [_], _, k, _, _, _, h => by simp [recsOf] at h
  | a :: b :: l, s, 0, x, y, h, h2 => by
    simp only [recsOf, List.getElem?_cons_zero, List.getElem?_cons_succ, Option.some.injEq] at h h2
    rw [← h, ← h2]
  | a :: b :: l, s, k + 1, x, y, h, h2 => recsOf_next (b :: l) (s + cnt a.2.length) k x y (by simpa [recsOf] using h) (by simpa [recsOf] using h2)
theorem recsOf_len : ∀ (l : List (Nat × List UInt8)) (s : Nat), (recsOf s l).length = l.length
  | [], _ => rfl
  | _ :: l, s => by simp [recsOf, recsOf_len l]
theorem recsOf_dat : ∀ (l : List (Nat × List UInt8)) (s : Nat), (recsOf s l).map (·.2.2) = l.map (·.2)
  | [], _ => rfl
  | x :: l, s => by simp [recsOf, recsOf_dat l]
theorem crash_len (S : DS) (keep : List Int) : (S.crash keep).seen.length = S.seen.length := by simp only [DS.crash, fore_length, back_length]
end Go.Proofs.Ytdehkdmnddflhaa
