/- Package disk: calls on no disk, a Read of no sector; the reference's Read. -/
import Derived.Test.YtdehkdmnddflhaaRD
namespace Go.Proofs.Ytdehkdmnddflhaa
set_option linter.unusedVariables false
set_option linter.unusedSimpArgs false
set_option linter.unusedSectionVars false
set_option linter.unnecessarySimpa false
open Go Go.Proofs
set_option maxRecDepth 20000
set_option maxHeartbeats 4000000
attribute [local irreducible] SG WC WO W1 WD WK PS Rd Tri Exit.then Exit.inBlock bodyPost calmQ Mid sadd
variable {W : World} {n : Nat} {F : Fr} {L : List HP} {G : Act → World → Prop}
theorem rdo_tail {a : Option Addr} {vs : List Value} {R : List HP} (h : RdO W a vs) (j : Nat) (hR : R[j]? = some (old W)) (L : List HP) : Rd W (L ++ R) a vs :=
  h.rd (L.length + j) (by rw [List.getElem?_append_right (Nat.le_add_right _ _), Nat.add_sub_cancel_left]; exact hR)
theorem dread_nil (i : Int) (R : List HP) : Tri Try.prog W 39 [.pointer none, i64 i] R (X := Unit) (fun _ => .tuple #[.slice none 0 0, i64 11]) (fun _ => True) (fun _ => R) := by
  refine tri_enter2 Try.func39 rfl Try.ntmps39 rfl ?_
  repeat' (first | refine sg_wo ?_ | refine sg_ps (ps_move rfl) rfl ?_ | refine sg_ps (ps_assign rfl) rfl ?_ | refine sg_seq ?_ | refine sg_region ?_ | refine sg_nil ?_ | refine sg_then ?_ | refine sg_ps (ps_bin rfl rfl inferInstance) rfl ?_ | refine sg_cond_t rfl ?_ | refine sg_block ?_ | refine sg_ret ?_ | refine ex_then_ret ?_ | refine ex_block_ret ?_)
  exact ex_ret2 rfl rfl rfl () rfl trivial (fun w hO => hO)
theorem dread_bad (d : Nat) (S : DS) (i : Int) (R : List HP) (hk : ¬ (0 ≤ i ∧ i < S.seen.length)) :
    Tri Try.prog W 39 [dp d, i64 i] (DiskRep d S :: R) (X := Unit) (fun _ => .tuple #[.slice none 0 0, i64 1]) (fun _ => True) (fun _ => DiskRep d S :: R) := by
  refine tri_enter2 Try.func39 rfl Try.ntmps39 rfl ?_
  repeat' (first | refine sg_wo ?_ | refine sg_ps (ps_move rfl) rfl ?_ | refine sg_ps (ps_assign rfl) rfl ?_ | refine sg_seq ?_ | refine sg_region ?_ | refine sg_nil ?_ | refine sg_then ?_ | refine sg_ps (ps_bin rfl rfl inferInstance) rfl ?_ | refine sg_cond_f rfl ?_ | refine sg_block ?_)
  refine sg_call (there_tri d S i R) rfl rfl (fun _ _ => ?_)
  rw [show decide (0 ≤ i ∧ i < (S.seen.length : Int)) = false from decide_eq_false hk]
  repeat' (first | refine sg_wo ?_ | refine sg_ps (ps_assign rfl) rfl ?_ | refine sg_seq ?_ | refine sg_region ?_ | refine sg_nil ?_ | refine sg_then ?_ | refine sg_ps (ps_not rfl) rfl ?_ | refine sg_cond_t rfl ?_ | refine sg_ret ?_ | refine ex_then_ret ?_ | refine ex_block_ret ?_)
  exact ex_ret2 rfl rfl rfl () rfl trivial (fun w hO => hO)
theorem dcrash_nil (a : Option Addr) (m c : Nat) (R : List HP) : Tri Try.prog W 24 [.pointer none, .slice a m c] R (X := Unit) (fun _ => .tuple #[]) (fun _ => True) (fun _ => R) := by
  refine tri_enter2 Try.func24 rfl Try.ntmps24 rfl ?_
  repeat' (first | refine sg_wo ?_ | refine sg_ps (ps_move rfl) rfl ?_ | refine sg_seq ?_ | refine sg_region ?_ | refine sg_nil ?_ | refine sg_then ?_ | refine sg_ps (ps_bin rfl rfl inferInstance) rfl ?_ | refine sg_cond_t rfl ?_ | refine sg_ret ?_ | refine ex_then_ret ?_)
  exact ex_ret0 rfl () rfl trivial (fun w hO => hO)
theorem dfuse_nil (i : Int) (R : List HP) : Tri Try.prog W 22 [.pointer none, i64 i] R (X := Unit) (fun _ => .tuple #[]) (fun _ => True) (fun _ => R) := by
  refine tri_enter2 Try.func22 rfl Try.ntmps22 rfl ?_
  repeat' (first | refine sg_wo ?_ | refine sg_ps (ps_move rfl) rfl ?_ | refine sg_seq ?_ | refine sg_region ?_ | refine sg_nil ?_ | refine sg_then ?_ | refine sg_ps (ps_bin rfl rfl inferInstance) rfl ?_ | refine sg_cond_f rfl ?_ | refine sg_guard_nf rfl rfl rfl ?_ | refine sg_ps (ps_pick_f rfl rfl) rfl ?_ | refine sg_skip ?_)
  first
    | exact ex_ret0 rfl () rfl trivial (fun w hO => hO)
    | exact ex_end0 rfl () rfl trivial (fun w hO => hO)
theorem dwrite_nil (i : Int) (a : Option Addr) (m c : Nat) (R : List HP) : Tri Try.prog W 35 [.pointer none, i64 i, .slice a m c] R (X := Unit) (fun _ => i64 11) (fun _ => True) (fun _ => R) := by
  refine tri_enter3 Try.func35 rfl Try.ntmps35 rfl ?_
  repeat' (first | refine sg_wo ?_ | refine sg_ps (ps_move rfl) rfl ?_ | refine sg_ps (ps_assign rfl) rfl ?_ | refine sg_seq ?_ | refine sg_region ?_ | refine sg_nil ?_ | refine sg_then ?_ | refine sg_ps (ps_bin rfl rfl inferInstance) rfl ?_ | refine sg_cond_t rfl ?_ | refine sg_block ?_ | refine sg_ret ?_ | refine ex_then_ret ?_ | refine ex_block_ret ?_)
  exact ex_ret1 rfl rfl () rfl trivial (fun w hO => hO)
theorem dsync_nil (R : List HP) : Tri Try.prog W 21 [.pointer none] R (X := Unit) (fun _ => i64 11) (fun _ => True) (fun _ => R) := by
  refine tri_enter1 Try.func21 rfl Try.ntmps21 rfl ?_
  repeat' (first | refine sg_wo ?_ | refine sg_ps (ps_move rfl) rfl ?_ | refine sg_ps (ps_assign rfl) rfl ?_ | refine sg_seq ?_ | refine sg_region ?_ | refine sg_nil ?_ | refine sg_then ?_ | refine sg_ps (ps_bin rfl rfl inferInstance) rfl ?_ | refine sg_cond_t rfl ?_ | refine sg_block ?_ | refine sg_ret ?_ | refine ex_then_ret ?_ | refine ex_block_ret ?_)
  exact ex_ret1 rfl rfl () rfl trivial (fun w hO => hO)
theorem dsize_nil (R : List HP) : Tri Try.prog W 40 [.pointer none] R (X := Unit) (fun _ => i64 0) (fun _ => True) (fun _ => R) := by
  refine tri_enter1 Try.func40 rfl Try.ntmps40 rfl ?_
  repeat' (first | refine sg_wo ?_ | refine sg_ps (ps_move rfl) rfl ?_ | refine sg_ps (ps_assign rfl) rfl ?_ | refine sg_seq ?_ | refine sg_region ?_ | refine sg_nil ?_ | refine sg_then ?_ | refine sg_ps (ps_bin rfl rfl inferInstance) rfl ?_ | refine sg_cond_t rfl ?_ | refine sg_ret ?_ | refine ex_then_ret ?_)
  exact ex_ret1 rfl rfl () rfl trivial (fun w hO => hO)
theorem ddown_nil (R : List HP) : Tri Try.prog W 23 [.pointer none] R (X := Unit) (fun _ => .bool false) (fun _ => True) (fun _ => R) := by
  refine tri_enter1 Try.func23 rfl Try.ntmps23 rfl ?_
  repeat' (first | refine sg_wo ?_ | refine sg_ps (ps_move rfl) rfl ?_ | refine sg_ps (ps_assign rfl) rfl ?_ | refine sg_seq ?_ | refine sg_region ?_ | refine sg_nil ?_ | refine sg_then ?_ | refine sg_ps (ps_bin rfl rfl inferInstance) rfl ?_ | refine sg_guard_nf rfl rfl rfl ?_ | refine sg_ps (ps_pick_f rfl rfl) rfl ?_ | refine sg_ret ?_)
  exact ex_ret1 rfl rfl () rfl trivial (fun w hO => hO)
end Go.Proofs.Ytdehkdmnddflhaa
