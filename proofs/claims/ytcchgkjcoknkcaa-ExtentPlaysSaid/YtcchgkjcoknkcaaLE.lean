/- The statements on spaces: 'awake', the script of calls. -/
import Derived.Test.YtcchgkjcoknkcaaEXL
namespace Go.Proofs.Ytcchgkjcoknkcaa
set_option linter.unusedVariables false
set_option linter.unusedSimpArgs false
set_option linter.unusedSectionVars false
set_option linter.unnecessarySimpa false
open Go Go.Proofs
abbrev EO := Int × Int × Int × Unit
def ecells (x : EO) : List Value := [i64 x.1, i64 x.2.1, i64 x.2.2.1]
def EOpsAt (W : World) (l : List EO) (la : Option Addr) : Prop :=
  (0 < l.length → ∃ b o, la = some ⟨b, o, none⟩) ∧ l.length ≤ 9223372036854775807 ∧ ∀ (i : Nat) (h : i < l.length) (b o : Nat), la = some ⟨b, o, none⟩ → RdO W (some ⟨b, o + i * 3, none⟩) (ecells l[i]) ∧
    (-9223372036854775808 ≤ l[i].1 ∧ l[i].1 ≤ 9223372036854775807) ∧ (-9223372036854775808 ≤ l[i].2.1 ∧ l[i].2.1 ≤ 9223372036854775807) ∧ (-9223372036854775808 ≤ l[i].2.2.1 ∧ l[i].2.2.1 ≤ 9223372036854775807)
theorem eopsAt_of {W : World} {cs : List Value} {l : List EO} (h : ((RT.slice 3 24 Try.underlying38 (by kernel_rfl) (by kernel_rfl) (RT.struct (tot := 3) Try.underlying43 (by kernel_rfl) (RF.cons 1 (RT.int .i64 Try.underlying3) rfl (by kernel_rfl) (RF.cons 1 (RT.int .i64 Try.underlying3) rfl (by kernel_rfl) (RF.cons 1 (RT.int .i64 Try.underlying3) rfl (by kernel_rfl) (RF.nil rfl)))))) : RT Try.prog 38 (List EO)).E W l cs) : ∃ (la : Option Addr) (lc : Nat), cs = [.slice la l.length lc] ∧ EOpsAt W l la := by
  obtain ⟨ad, cap, rfl, _, _, h1, hp, r1⟩ := SliceE.at (by decide) h
  refine ⟨ad, cap, rfl, hp, by omega, fun i hi b o e => ?_⟩
  obtain ⟨vs, _, ⟨_, c1, c2, rfl, ⟨rfl, w1⟩, c3, c4, rfl, ⟨rfl, w2⟩, c5, c6, rfl, ⟨rfl, w3⟩, rfl⟩, hR⟩ := r1 i hi b o e
  exact ⟨hR, wf_i64 w1, wf_i64 w2, wf_i64 w3⟩
theorem get_mid {α : Type} {l A B : List α} {h : α} (hr : l = A ++ h :: B) (hl : A.length < l.length) : l[A.length] = h := by subst hr; simp
theorem get_left {α : Type} {l A B : List α} (hr : l = A ++ B) {j : Nat} (hj : j < A.length) (hl : j < l.length) : l[j] = A[j] := by subst hr; rw [List.getElem_append_left hj]
theorem rdo_at {W : World} {b o i : Nat} {v : Value} {vs : List Value} (h : RdO W (some ⟨b, o, none⟩) vs) (hv : vs[i]? = some v) : RdO W (some ⟨b, o + i, none⟩) [v] := rdo_part h hv
set_option maxRecDepth 20000
set_option maxHeartbeats 4000000
attribute [local irreducible] SG WC WO W1 WD WK PS Rd Tri Exit.then Exit.inBlock bodyPost calmQ Mid sadd
variable {W : World} {n : Nat} {F : Fr} {L : List HP} {G : Act → World → Prop}
theorem awake_tri (R : List HP) : Tri Try.prog W 7 [] R (X := Unit) (fun _ => .bool true) (fun _ => True) (fun _ => R) := by
  refine tri_enter0 Try.func7 rfl Try.ntmps7 ?_
  repeat' (first | refine sg_wo ?_ | refine sg_ps (ps_assign rfl) rfl ?_ | refine sg_seq ?_ | refine sg_region ?_ | refine sg_nil ?_ | refine sg_then ?_)
  refine sg_call (newx_tri 10 10 R (by omega)) rfl rfl (fun p _ => ?_)
  repeat' (first | refine sg_wo ?_ | refine sg_ps (ps_move rfl) rfl ?_ | refine sg_ps (ps_assign rfl) rfl ?_ | refine sg_seq ?_ | refine sg_region ?_ | refine sg_nil ?_ | refine sg_then ?_ | refine sg_ps (ps_extract rfl rfl) rfl ?_)
  refine sg_call (alloc_tri p (XS.new 10 10) 4 R) rfl rfl (fun _ _ => ?_)
  have e1 : (XS.new 10 10).alloc 4 = (10, 0, ⟨10, List.replicate 4 false ++ List.replicate 6 true⟩) := by rfl
  rw [e1]
  repeat' (first | refine sg_wo ?_ | refine sg_ps (ps_move rfl) rfl ?_ | refine sg_ps (ps_assign rfl) rfl ?_ | refine sg_seq ?_ | refine sg_region ?_ | refine sg_nil ?_ | refine sg_then ?_ | refine sg_ps (ps_extract rfl rfl) rfl ?_)
  refine sg_call (alloc_tri p ⟨10, List.replicate 4 false ++ List.replicate 6 true⟩ 3 R) rfl rfl (fun _ _ => ?_)
  have e2 : (XS.mk 10 (List.replicate 4 false ++ List.replicate 6 true)).alloc 3 = (14, 0, ⟨10, List.replicate 7 false ++ List.replicate 3 true⟩) := by rfl
  rw [e2]
  repeat' (first | refine sg_wo ?_ | refine sg_ps (ps_move rfl) rfl ?_ | refine sg_ps (ps_assign rfl) rfl ?_ | refine sg_seq ?_ | refine sg_region ?_ | refine sg_nil ?_ | refine sg_then ?_ | refine sg_ps (ps_bin rfl rfl inferInstance) rfl ?_ | refine sg_guard_yes rfl rfl ?_ | refine sg_ps (ps_pick_t rfl rfl) rfl ?_ | refine sg_ps (ps_extract rfl rfl) rfl ?_)
  refine sg_call (left_tri p ⟨10, List.replicate 7 false ++ List.replicate 3 true⟩ R) rfl rfl (fun _ _ => ?_)
  repeat' (first | refine sg_wo ?_ | refine sg_ps (ps_assign rfl) rfl ?_ | refine sg_nil ?_ | refine sg_then ?_ | refine sg_ps (ps_bin rfl rfl inferInstance) rfl ?_ | refine sg_guard_yes rfl rfl ?_ | refine sg_ps (ps_pick_t rfl rfl) rfl ?_ | refine sg_ret ?_)
  exact ex_ret1 rfl rfl () rfl trivial (fun w hO => hO.tail)
end Go.Proofs.Ytcchgkjcoknkcaa
