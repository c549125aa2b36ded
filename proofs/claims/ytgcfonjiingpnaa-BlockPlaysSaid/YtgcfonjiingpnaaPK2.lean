/- Package pack: the takes. -/
import Derived.Test.YtgcfonjiingpnaaPK
namespace Go.Proofs.Ytgcfonjiingpnaa
set_option linter.unusedVariables false
set_option linter.unusedSimpArgs false
set_option linter.unusedSectionVars false
set_option linter.unnecessarySimpa false
open Go Go.Proofs
set_option maxRecDepth 20000
set_option maxHeartbeats 4000000
attribute [local irreducible] SG WC WO W1 WD PS Rd Tri Exit.then Exit.inBlock bodyPost calmQ Mid sadd
variable {W : World} {n : Nat} {F : Fr} {L : List HP} {G : Act → World → Prop}

theorem num_lt (S : IS) (k : Nat) : (S.num k).1 < 256 ^ k := by
  unfold IS.num
  split
  · exact Nat.pow_pos (by omega)
  · rename_i h
    have := unbe_lt (S.bs.take k)
    rw [List.length_take, Nat.min_eq_left (by omega)] at this
    exact this
theorem conv_num (k : IntKind) (hk : k.signed = false) (S : IS) (m : Nat) (hm : 256 ^ m ≤ 2 ^ k.bits) : k.wrap ((S.num m).1 : Int) = ((S.num m).1 : Int) := by
  rw [wrap_u k hk, Nat.mod_eq_of_lt (Nat.lt_of_lt_of_le (num_lt S m) hm)]
theorem inU8_tri (i : Nat) (S : IS) (R : List HP) : Tri Try.prog W 47 [dp i] (InRep i S :: R) (X := Unit) (fun _ => .int .u8 ((S.num 1).1 : Int)) (fun _ => True) (fun _ => InRep i (S.num 1).2 :: R) := by
  refine tri_enter1 Try.func47 rfl Try.ntmps47 rfl ?_
  repeat' (first | refine sg_wo ?_ | refine sg_ps (ps_move rfl) rfl ?_ | refine sg_ps (ps_assign rfl) rfl ?_ | refine sg_seq ?_ | refine sg_region ?_ | refine sg_nil ?_ | refine sg_then ?_)
  refine sg_call (number_tri i S 1 (by omega) R) rfl rfl (fun _ _ => ?_)
  repeat' (first | refine sg_wo ?_ | refine sg_ps (ps_assign rfl) rfl ?_ | refine sg_nil ?_ | refine sg_then ?_ | refine sg_ps (ps_conv rfl) rfl ?_ | refine sg_ret ?_)
  exact ex_ret1 rfl rfl () (by rw [conv_num _ rfl _ _ (by decide)]) trivial (fun w hO => hO)
theorem inU16_tri (i : Nat) (S : IS) (R : List HP) : Tri Try.prog W 43 [dp i] (InRep i S :: R) (X := Unit) (fun _ => .int .u16 ((S.num 2).1 : Int)) (fun _ => True) (fun _ => InRep i (S.num 2).2 :: R) := by
  refine tri_enter1 Try.func43 rfl Try.ntmps43 rfl ?_
  repeat' (first | refine sg_wo ?_ | refine sg_ps (ps_move rfl) rfl ?_ | refine sg_ps (ps_assign rfl) rfl ?_ | refine sg_seq ?_ | refine sg_region ?_ | refine sg_nil ?_ | refine sg_then ?_)
  refine sg_call (number_tri i S 2 (by omega) R) rfl rfl (fun _ _ => ?_)
  repeat' (first | refine sg_wo ?_ | refine sg_ps (ps_assign rfl) rfl ?_ | refine sg_nil ?_ | refine sg_then ?_ | refine sg_ps (ps_conv rfl) rfl ?_ | refine sg_ret ?_)
  exact ex_ret1 rfl rfl () (by rw [conv_num _ rfl _ _ (by decide)]) trivial (fun w hO => hO)
theorem inU64_tri (i : Nat) (S : IS) (R : List HP) : Tri Try.prog W 42 [dp i] (InRep i S :: R) (X := Unit) (fun _ => .int .u64 ((S.num 8).1 : Int)) (fun _ => True) (fun _ => InRep i (S.num 8).2 :: R) := by
  refine tri_enter1 Try.func42 rfl Try.ntmps42 rfl ?_
  repeat' (first | refine sg_wo ?_ | refine sg_ps (ps_move rfl) rfl ?_ | refine sg_ps (ps_assign rfl) rfl ?_ | refine sg_seq ?_ | refine sg_region ?_ | refine sg_nil ?_ | refine sg_then ?_)
  refine sg_call (number_tri i S 8 (by omega) R) rfl rfl (fun _ _ => ?_)
  repeat' (first | refine sg_wo ?_ | refine sg_ps (ps_assign rfl) rfl ?_ | refine sg_nil ?_ | refine sg_then ?_ | refine sg_ret ?_)
  exact ex_ret1 rfl rfl () rfl trivial (fun w hO => hO)
theorem inBad_tri (i : Nat) (S : IS) (R : List HP) : Tri Try.prog W 45 [dp i] (InRep i S :: R) (X := Unit) (fun _ => .bool S.bad) (fun _ => True) (fun _ => InRep i S :: R) := by
  refine tri_enter1 Try.func45 rfl Try.ntmps45 rfl ?_
  refine InRep.open fun a c hc hc2 => ?_
  repeat' (first | refine sg_wo ?_ | refine sg_ps (ps_move rfl) rfl ?_ | refine sg_ps (ps_assign rfl) rfl ?_ | refine sg_seq ?_ | refine sg_region ?_ | refine sg_nil ?_ | refine sg_then ?_ | refine sg_ps (ps_fieldAddr rfl) rfl ?_ | refine sg_ps (ps_nilCheck rfl) rfl ?_ | refine sg_load 0 rfl rfl rfl rfl ?_ | refine sg_ps (ps_bin rfl rfl inferInstance) rfl ?_ | refine sg_guard_yes rfl rfl ?_ | refine sg_ps (ps_pick_f rfl rfl) rfl ?_ | refine sg_ret ?_)
  exact ex_ret1 rfl rfl () rfl trivial (fun w hO => InRep.shut rfl rfl rfl hc hc2 hO)
theorem inLeft_tri (i : Nat) (S : IS) (R : List HP) : Tri Try.prog W 46 [dp i] (InRep i S :: R) (X := Unit) (fun _ => i64 S.bs.length) (fun _ => True) (fun _ => InRep i S :: R) := by
  refine tri_enter1 Try.func46 rfl Try.ntmps46 rfl ?_
  refine InRep.open fun a c hc hc2 => ?_
  repeat' (first | refine sg_wo ?_ | refine sg_ps (ps_move rfl) rfl ?_ | refine sg_ps (ps_assign rfl) rfl ?_ | refine sg_seq ?_ | refine sg_region ?_ | refine sg_nil ?_ | refine sg_then ?_ | refine sg_ps (ps_fieldAddr rfl) rfl ?_ | refine sg_ps (ps_nilCheck rfl) rfl ?_ | refine sg_load 0 rfl rfl rfl rfl ?_ | refine sg_ps (ps_bin rfl rfl inferInstance) rfl ?_ | refine sg_cond_f rfl ?_ | refine sg_ps (ps_len rfl) rfl ?_ | refine sg_skip ?_ | refine sg_ret ?_)
  exact ex_ret1 rfl rfl () rfl trivial (fun w hO => InRep.shut rfl rfl rfl hc hc2 hO)
def IS.done (S : IS) : Bool := !S.bad && decide (S.bs.length = 0)
theorem inU8_nil (R : List HP) : Tri Try.prog W 47 [.pointer none] R (X := Unit) (fun _ => .int .u8 0) (fun _ => True) (fun _ => R) := by
  refine tri_enter1 Try.func47 rfl Try.ntmps47 rfl ?_
  repeat' (first | refine sg_wo ?_ | refine sg_ps (ps_move rfl) rfl ?_ | refine sg_ps (ps_assign rfl) rfl ?_ | refine sg_seq ?_ | refine sg_region ?_ | refine sg_nil ?_ | refine sg_then ?_)
  refine sg_call (X := Unit) (v := fun _ => .int .u64 0) (φ := fun _ => True) (L' := fun _ => R) ?_ rfl rfl (fun _ _ => ?_)
  · skip
    refine tri_enter2 Try.func50 rfl Try.ntmps50 rfl ?_
    repeat' (first | refine sg_wo ?_ | refine sg_ps (ps_move rfl) rfl ?_ | refine sg_ps (ps_assign rfl) rfl ?_ | refine sg_seq ?_ | refine sg_region ?_ | refine sg_nil ?_ | refine sg_then ?_)
    refine sg_call (take_nil 1 R) rfl rfl (fun _ _ => ?_)
    repeat' (first | refine sg_wo ?_ | refine sg_ps (ps_move rfl) rfl ?_ | refine sg_nil ?_ | refine sg_then ?_ | refine sg_ps (ps_len rfl) rfl ?_ | refine sg_block ?_)
    refine sg_loop (γ := Unit) (fun _ => True) (fun _ => [(5, .int .u64 0), (10, .slice none 0 0), (11, i64 0), (12, i64 0)]) (fun _ => R) (fun _ => 0) () trivial
      (.cons rfl (.cons rfl (.cons rfl (.cons rfl .nil)))) (fun w hO => hO) ?_
    intro _ _
    repeat' (first | refine sg_wo ?_ | refine sg_ps (ps_move rfl) rfl ?_ | refine sg_ps (ps_assign rfl) rfl ?_ | refine sg_seq ?_ | refine sg_region ?_ | refine sg_nil ?_ | refine sg_then ?_ | refine sg_ps (ps_bin rfl rfl inferInstance) rfl ?_ | refine sg_cond_f rfl ?_ | refine sg_ret ?_ | refine sg_exit ?_ | refine ex_then_exit ?_ | refine ex_block_hit ?_)
    exact ex_ret1 rfl rfl () rfl trivial (fun w hO => hO)
  · skip
    repeat' (first | refine sg_wo ?_ | refine sg_ps (ps_assign rfl) rfl ?_ | refine sg_nil ?_ | refine sg_then ?_ | refine sg_ps (ps_conv rfl) rfl ?_ | refine sg_ret ?_)
    exact ex_ret1 rfl rfl () rfl trivial (fun w hO => hO)
theorem inBad_nil (R : List HP) : Tri Try.prog W 45 [.pointer none] R (X := Unit) (fun _ => .bool true) (fun _ => True) (fun _ => R) := by
  refine tri_enter1 Try.func45 rfl Try.ntmps45 rfl ?_
  repeat' (first | refine sg_wo ?_ | refine sg_ps (ps_move rfl) rfl ?_ | refine sg_ps (ps_assign rfl) rfl ?_ | refine sg_seq ?_ | refine sg_region ?_ | refine sg_nil ?_ | refine sg_then ?_ | refine sg_ps (ps_bin rfl rfl inferInstance) rfl ?_ | refine sg_guard_nt rfl rfl rfl ?_ | refine sg_ps (ps_pick_t rfl rfl) rfl ?_ | refine sg_ret ?_)
  exact ex_ret1 rfl rfl () rfl trivial (fun w hO => hO)
theorem inLeft_nil (R : List HP) : Tri Try.prog W 46 [.pointer none] R (X := Unit) (fun _ => i64 0) (fun _ => True) (fun _ => R) := by
  refine tri_enter1 Try.func46 rfl Try.ntmps46 rfl ?_
  repeat' (first | refine sg_wo ?_ | refine sg_ps (ps_move rfl) rfl ?_ | refine sg_ps (ps_assign rfl) rfl ?_ | refine sg_seq ?_ | refine sg_region ?_ | refine sg_nil ?_ | refine sg_then ?_ | refine sg_ps (ps_bin rfl rfl inferInstance) rfl ?_ | refine sg_cond_t rfl ?_ | refine sg_ret ?_ | refine ex_then_ret ?_)
  exact ex_ret1 rfl rfl () rfl trivial (fun w hO => hO)
theorem flag_get {S : IS} (h : 0 < S.bs.length) : S.bs.getD 0 0 = S.bs[0] := by simp [List.getD, h]
end Go.Proofs.Ytgcfonjiingpnaa
