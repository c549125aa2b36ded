/- granarylaw13: 'awake'; what the calls keep. -/
import Derived.Test.YtclehoaeppbmpaaPOE
namespace Go.Proofs.Ytclehoaeppbmpaa
set_option linter.unusedVariables false
set_option linter.unusedSimpArgs false
set_option linter.unusedSectionVars false
set_option linter.unnecessarySimpa false
open Go Go.Proofs
theorem pin_fit {S : PlS} {B : BkS} {N : Nat} {id : Int} (h : Fit S B N) : Fit (pinS S B id).2.1 (pinS S B id).2.2 (N + 3) := by
  have hf := find_fit (id := id) h
  unfold pinS
  generalize findS S B id = q at hf
  obtain ⟨f, B'⟩ := q
  cases f with
  | none => exact (hf.1 rfl).mono (by omega)
  | some y =>
    obtain ⟨h1, h2, _⟩ := hf.2 y.1 y.2 rfl
    exact (room_fit (h1.set y.1 pin1 h1.rbs)).1
theorem get_fit {S : PlS} {B : BkS} {N : Nat} {id : Int} (h : Fit S B N) : Fit (getS S B id).2.1 (getS S B id).2.2 (N + 3) := by
  have hf := find_fit (id := id) h
  unfold getS
  generalize findS S B id = q at hf
  obtain ⟨f, B'⟩ := q
  cases f with
  | none => exact (hf.1 rfl).mono (by omega)
  | some y =>
    obtain ⟨h1, h2, _⟩ := hf.2 y.1 y.2 rfl
    exact (room_fit h1).1
theorem evict_fit {S : PlS} {B : BkS} {N : Nat} (h : Fit S B N) : Fit (evictS S B).2.1 (evictS S B).2.2 (N + 1) := by
  unfold evictS
  split
  · exact h.mono (by omega)
  · exact (goes_fit h).2.1
theorem unpin_fit {S : PlS} {B : BkS} {N : Nat} {id : Int} (h : Fit S B N) : Fit (unpinS S B id).2.1 (unpinS S B id).2.2 (N + 1) := by
  unfold unpinS
  split
  · exact h.mono (by omega)
  · split
    · exact h.mono (by omega)
    · rename_i i _ _
      exact (room_fit (h.set i pin0 h.rbs)).1
theorem start_fit {m : Int} : Fit ⟨m, [], 0⟩ (backK 6) 6 := ⟨.inr ⟨rfl, rfl⟩, (fun r hr => by cases hr), (fun e he => by
  have he' : e ∈ [((1 : Int), [(98 : UInt8)]), (2, [99]), (3, [100]), (4, [101]), (5, [102]), (6, [103])] := he
  simp only [List.mem_cons, List.not_mem_nil, or_false] at he'
  rcases he' with rfl | rfl | rfl | rfl | rfl | rfl <;> decide), (by show 0 + 0 ≤ 6; omega), (by show 6 + 0 ≤ 6; omega)⟩
section
variable {P : Program} {n : Nat} {F : Fr} {ty : TypeId}
theorem ps_makeIf {x : Operand} {t e : TypeId} {v : Value} (ht : P.underlying t = some (.pointer e)) (hx : ev F x = some v) : PS P n F (.makeInterface t x) ty (.iface t v) := by
  intro a ha w dst pos af g
  simp [execOp, ha.ev hx, Instr.makeInterface, run_underlying ht]
end
set_option maxRecDepth 20000
set_option maxHeartbeats 4000000
attribute [local irreducible] SG WC WO W1 WD WK PS Rd Tri Exit.then Exit.inBlock bodyPost calmQ Mid sadd
variable {W : World} {n : Nat} {F : Fr} {L : List HP} {G : Act → World → Prop}
theorem awake_tri (R : List HP) : Tri Try.prog W 7 [] R (X := Unit) (fun _ => .bool true) (fun _ => True) (fun _ => R) := by
  refine tri_enter0 Try.func7 rfl Try.ntmps7 ?_
  repeat' (first | refine sg_wo ?_ | refine sg_ps (ps_assign rfl) rfl ?_ | refine sg_seq ?_ | refine sg_region ?_ | refine sg_nil ?_ | refine sg_then ?_)
  refine sg_call (lback_tri R) rfl rfl (fun b _ => ?_)
  repeat' (first | refine sg_wo ?_ | refine sg_ps (ps_move rfl) rfl ?_ | refine sg_ps (ps_assign rfl) rfl ?_ | refine sg_seq ?_ | refine sg_region ?_ | refine sg_nil ?_ | refine sg_then ?_)
  refine sg_ps (ps_makeIf Try.underlying24 rfl) rfl ?_
  repeat' (first | refine sg_wo ?_)
  refine sg_call (pnew_tri b 2 (BackRep b (backK 6) :: R) (by decide)) rfl rfl (fun p _ => ?_)
  repeat' (first | refine sg_wo ?_ | refine sg_ps (ps_move rfl) rfl ?_ | refine sg_ps (ps_assign rfl) rfl ?_ | refine sg_seq ?_ | refine sg_region ?_ | refine sg_nil ?_ | refine sg_then ?_ | refine sg_ps (ps_bin rfl rfl inferInstance) rfl ?_ | refine sg_cond_f rfl ?_ | refine sg_guard_yes rfl rfl ?_ | refine sg_ps (ps_pick_f rfl rfl) rfl ?_ | refine sg_ps (ps_extract rfl rfl) rfl ?_ | refine sg_skip ?_)
  have f0 : Fit ⟨2, [], 0⟩ (backK 6) 6 := start_fit
  have f1 := get_fit (id := 1) f0
  have e1 : getS ⟨2, [], 0⟩ (backK 6) 1 = (some [98], ⟨2, [⟨1, [98], false, true, 0⟩], 0⟩, ⟨backE, [2], -1⟩) := by rfl
  refine sg_call (pget_tri p b ⟨2, [], 0⟩ (backK 6) 1 R f0 (by decide)) rfl rfl (fun y1 _ => ?_)
  rw [e1] at f1 ⊢
  have f2 := get_fit (id := 2) f1
  have e2 : getS ⟨2, [⟨1, [98], false, true, 0⟩], 0⟩ ⟨backE, [2], -1⟩ 2 = (some [99], ⟨2, [⟨1, [98], false, true, 0⟩, ⟨2, [99], false, true, 0⟩], 0⟩, ⟨backE, [2, 4], -1⟩) := by rfl
  repeat' (first | refine sg_wo ?_ | refine sg_ps (ps_move rfl) rfl ?_ | refine sg_ps (ps_assign rfl) rfl ?_ | refine sg_seq ?_ | refine sg_region ?_ | refine sg_nil ?_ | refine sg_then ?_ | refine sg_ps (ps_extract rfl rfl) rfl ?_)
  refine sg_own (fun w hO => hO.back2) ?_
  refine sg_call (pget_tri p b _ _ 2 _ f1 (by decide)) rfl rfl (fun y2 _ => ?_)
  rw [e2] at f2 ⊢
  have e3 : getS ⟨2, [⟨1, [98], false, true, 0⟩, ⟨2, [99], false, true, 0⟩], 0⟩ ⟨backE, [2, 4], -1⟩ 3 = (some [100], ⟨2, [⟨2, [99], false, false, 0⟩, ⟨3, [100], false, false, 0⟩], 0⟩, ⟨backE, [2, 4, 6], -1⟩) := by rfl
  repeat' (first | refine sg_wo ?_ | refine sg_ps (ps_move rfl) rfl ?_ | refine sg_seq ?_ | refine sg_region ?_ | refine sg_nil ?_ | refine sg_then ?_)
  refine sg_own (fun w hO => hO.tail) ?_
  refine sg_call (pget_tri p b _ _ 3 _ f2 (by decide)) rfl rfl (fun y3 _ => ?_)
  rw [e3]
  repeat' (first | refine sg_wo ?_ | refine sg_ps (ps_move rfl) rfl ?_ | refine sg_seq ?_ | refine sg_region ?_ | refine sg_nil ?_ | refine sg_then ?_ | refine sg_ps (ps_bin rfl rfl inferInstance) rfl ?_ | refine sg_guard_yes rfl rfl ?_)
  refine sg_str_of_bytes (bs := [98]) rfl rfl rfl (rd_sown 3 rfl fun _ _ h => h) ?_
  repeat' (first | refine sg_wo ?_ | refine sg_ps (ps_move rfl) rfl ?_ | refine sg_ps (ps_bin rfl rfl inferInstance) rfl ?_ | refine sg_guard_yes rfl rfl ?_ | refine sg_ps (ps_pick_t rfl rfl) rfl ?_ | (refine sg_guard_dec rfl rfl (fun hg => ?_) (fun hg => ?_) <;> first | (exfalso; omega) | (exact absurd rfl hg) | skip))
  refine sg_call ((plen_tri p b _ _).pre (fun w hO => hO.tail)) rfl rfl (fun _ _ => ?_)
  repeat' (first | refine sg_wo ?_ | refine sg_ps (ps_move rfl) rfl ?_ | refine sg_ps (ps_fieldAddr rfl) rfl ?_ | refine sg_ps (ps_nilCheck rfl) rfl ?_ | refine sg_ps (ps_bin rfl rfl inferInstance) rfl ?_ | refine sg_guard_yes rfl rfl ?_ | refine sg_ps (ps_pick_t rfl rfl) rfl ?_)
  refine sg_own (fun w hO => hO.tail) ?_
  refine BackRep.open fun T ia ic ba bc aa ac hT => ?_
  repeat' (first | refine sg_wo ?_ | refine sg_ps (ps_assign rfl) rfl ?_ | refine sg_nil ?_ | refine sg_then ?_ | refine sg_load 0 rfl rfl rfl rfl ?_ | refine sg_ps (ps_bin rfl rfl inferInstance) rfl ?_ | refine sg_guard_yes rfl rfl ?_ | refine sg_ps (ps_pick_t rfl rfl) rfl ?_ | refine sg_ps (ps_len rfl) rfl ?_ | refine sg_ret ?_)
  exact ex_ret1 rfl rfl () rfl trivial (fun w hO => hO.tail.tail.tail.tail.tail.tail)
end Go.Proofs.Ytclehoaeppbmpaa
