/- Package wal: the log's cells, where a piece lies, the small functions. -/
import Derived.Test.YtdehkdmnddflhaaDK3
import Derived.Test.YtdehkdmnddflhaaPK4
import Derived.Test.YtdehkdmnddflhaaPK3
import Derived.Test.YtdehkdmnddflhaaAG2
import Derived.Test.YtdehkdmnddflhaaRAW
namespace Go.Proofs.Ytdehkdmnddflhaa
set_option linter.unusedVariables false
set_option linter.unusedSimpArgs false
set_option linter.unusedSectionVars false
set_option linter.unnecessarySimpa false
open Go Go.Proofs
set_option maxRecDepth 20000
set_option maxHeartbeats 4000000
attribute [local irreducible] SG WC WO W1 WD WK PS Rd Tri Exit.then Exit.inBlock bodyPost calmQ Mid sadd
variable {W : World} {n : Nat} {F : Fr} {L : List HP} {G : Act → World → Prop}
abbrev u64v (x : Nat) : Value := .int .u64 (x : Int)
/-- What a log knows. -/
structure LS where
  base : Nat
  size : Nat
  mount : Nat
  head : Nat
  next : Nat
def lcells (d : Nat) (S : LS) : List Value := [dp d, i64 S.base, i64 S.size, .int .u32 (S.mount : Int), u64v S.head, u64v S.next]
structure LS.ok (S : LS) (D : DS) : Prop where
  size : 4 ≤ S.size
  fits : S.base + S.size ≤ D.seen.length
  max : D.seen.length ≤ 4096
  mount : S.mount < 4294967296
  head : S.head < 9223372036854775808
  next : S.next < 9223372036854775808
def LS.pos (S : LS) (s : Nat) : Nat := S.base + s % S.size
theorem LS.ok.pos {S : LS} {D : DS} (h : S.ok D) (s : Nat) : S.pos s < D.seen.length := by
  have h1 := h.size
  have h2 := h.fits
  have := Nat.mod_lt s (y := S.size) (by omega)
  unfold LS.pos; omega
def cnt (n : Nat) : Nat := if 32768 < n then 0 else max 1 ((n + 49) / 50)
theorem wcount_bad (i : Int) (h : i < 0) (R : List HP) : Tri Try.prog W 16 [i64 i] R (X := Unit) (fun _ => i64 0) (fun _ => True) (fun _ => R) := by
  refine tri_enter1 Try.func16 rfl Try.ntmps16 rfl ?_
  repeat' (first | refine sg_wo ?_ | refine sg_ps (ps_move rfl) rfl ?_ | refine sg_ps (ps_assign rfl) rfl ?_ | refine sg_seq ?_ | refine sg_region ?_ | refine sg_nil ?_ | refine sg_then ?_ | refine sg_ps (ps_bin rfl rfl inferInstance) rfl ?_ | refine sg_cond_t rfl ?_ | refine sg_guard_nt rfl rfl rfl ?_ | refine sg_ps (ps_pick_t rfl rfl) rfl ?_ | refine sg_ret ?_ | refine ex_then_ret ?_ | (refine sg_guard_dec rfl rfl (fun hg => ?_) (fun hg => ?_) <;> first | (exfalso; omega) | (exact absurd rfl hg) | skip))
  exact ex_ret1 rfl rfl () rfl trivial (fun w hO => hO)
theorem wcount_tri (m : Nat) (hm : m ≤ 9223372036854775807) (R : List HP) : Tri Try.prog W 16 [i64 m] R (X := Unit) (fun _ => i64 (cnt m)) (fun _ => True) (fun _ => R) := by
  refine tri_enter1 Try.func16 rfl Try.ntmps16 rfl ?_
  repeat' (first | refine sg_wo ?_ | refine sg_ps (ps_move rfl) rfl ?_ | refine sg_ps (ps_assign rfl) rfl ?_ | refine sg_seq ?_ | refine sg_region ?_ | refine sg_nil ?_ | refine sg_then ?_ | refine sg_ps (ps_add64 rfl rfl (by omega)) rfl ?_ | refine sg_ps (ps_sub64 rfl rfl (by omega)) rfl ?_ | refine sg_ps (ps_bin rfl rfl inferInstance) rfl ?_ | refine sg_ps (ps_quo64 rfl rfl (by decide) (by omega)) rfl ?_ | refine sg_guard_yes rfl rfl ?_ | refine sg_ps (ps_pick_f rfl rfl) rfl ?_ | refine sg_ps (ps_max2 rfl rfl) rfl ?_ | refine sg_skip ?_ | refine sg_ret ?_ | refine ex_then_ret ?_ | (refine sg_cond_dec rfl (fun hg => ?_) (fun hg => ?_) <;> first | (exfalso; omega) | (exact absurd rfl hg) | skip))
  · have e : cnt m = 0 := if_pos (by omega)
    rw [e]
    exact ex_ret1 rfl rfl () rfl trivial (fun w hO => hO)
  · have e : cnt m = max 1 ((m + 49) / 50) := if_neg (by omega)
    rw [e]
    exact ex_ret1 rfl rfl () (by congr 1; omega) trivial (fun w hO => hO)
theorem u64_of_nat (x : Nat) (h : x < 18446744073709551616) : IntKind.u64.wrap (x : Int) = (x : Int) := by
  rw [wrap_u _ rfl, Nat.mod_eq_of_lt]; exact h
theorem i64_of_nat (x : Nat) (h : x < 9223372036854775808) : IntKind.i64.wrap (x : Int) = (x : Int) := by rw [IntWalk.i64_in _ (by omega)]
theorem at_tri (l d s : Nat) (S : LS) (hs : 0 < S.size) (hs2 : S.size ≤ 4096) (hb : S.base ≤ 4096) (R : List HP) :
    Tri Try.prog W 45 [dp l, u64v s] (blk l (lcells d S) :: R) (X := Unit) (fun _ => i64 (S.pos s : Nat)) (fun _ => True) (fun _ => blk l (lcells d S) :: R) := by
  refine tri_enter2 Try.func45 rfl Try.ntmps45 rfl ?_
  repeat' (first | refine sg_wo ?_ | refine sg_ps (ps_assign rfl) rfl ?_ | refine sg_seq ?_ | refine sg_region ?_ | refine sg_nil ?_ | refine sg_then ?_)
  refine sg_drawK [blk l (lcells d S)] [0, 1, 2, 4, 5, 6, 7, 8, 9, 10, 11, 3, 12, 13] (by kernel_rfl) (by kernel_rfl) (fun w hO => hO.pick [0] (by decide)) ?_
  repeat' (first | refine sk_pure rfl rfl (ps_move rfl) rfl ?_ | refine sk_pure rfl rfl (ps_nilCheck rfl) rfl ?_ | refine sk_pure rfl rfl (ps_fieldAddr rfl) rfl ?_ | refine sk_pure rfl rfl (ps_conv rfl) rfl ?_ | refine sk_load 0 rfl rfl rfl rfl rfl ?_)
  rw [u64_of_nat S.size (by omega)]
  refine sk_pure rfl rfl (ps_rem rfl rfl (by omega)) rfl ?_
  rw [rem_pos s S.size]
  have hm := Nat.mod_lt s (y := S.size) hs
  have hp : S.pos s = S.base + s % S.size := rfl
  rw [hp]
  generalize s % S.size = k at hm
  repeat' (first | refine sk_nil ?_ | refine sk_pure rfl rfl (ps_assign rfl) rfl ?_ | refine sk_pure rfl rfl (ps_bin rfl rfl inferInstance) rfl ?_ | refine sk_pure rfl rfl (ps_conv rfl) rfl ?_ | refine sk_load 0 rfl rfl rfl rfl rfl ?_)
  rw [i64_of_nat k (by omega), show (S.base : Int) + (k : Int) = ((S.base + k : Nat) : Int) by omega, i64_of_nat (S.base + k) (by omega)]
  repeat' (first | refine sg_then ?_ | refine sg_ret ?_)
  exact ex_ret1 rfl rfl () rfl trivial (fun w hO => hO)
theorem head_tri (l d : Nat) (S : LS) (R : List HP) : Tri Try.prog W 17 [dp l] (blk l (lcells d S) :: R) (X := Unit) (fun _ => u64v S.head) (fun _ => True) (fun _ => blk l (lcells d S) :: R) := by
  refine tri_enter1 Try.func17 rfl Try.ntmps17 rfl ?_
  repeat' (first | refine sg_wo ?_ | refine sg_ps (ps_move rfl) rfl ?_ | refine sg_ps (ps_assign rfl) rfl ?_ | refine sg_seq ?_ | refine sg_region ?_ | refine sg_nil ?_ | refine sg_then ?_ | refine sg_ps (ps_fieldAddr rfl) rfl ?_ | refine sg_ps (ps_nilCheck rfl) rfl ?_ | refine sg_load 0 rfl rfl rfl rfl ?_ | refine sg_ps (ps_bin rfl rfl inferInstance) rfl ?_ | refine sg_cond_f rfl ?_ | refine sg_skip ?_ | refine sg_ret ?_)
  exact ex_ret1 rfl rfl () rfl trivial (fun w hO => hO)
theorem head_nil (R : List HP) : Tri Try.prog W 17 [.pointer none] R (X := Unit) (fun _ => u64v 0) (fun _ => True) (fun _ => R) := by
  refine tri_enter1 Try.func17 rfl Try.ntmps17 rfl ?_
  repeat' (first | refine sg_wo ?_ | refine sg_ps (ps_move rfl) rfl ?_ | refine sg_ps (ps_assign rfl) rfl ?_ | refine sg_seq ?_ | refine sg_region ?_ | refine sg_nil ?_ | refine sg_then ?_ | refine sg_ps (ps_bin rfl rfl inferInstance) rfl ?_ | refine sg_cond_t rfl ?_ | refine sg_ret ?_ | refine ex_then_ret ?_)
  exact ex_ret1 rfl rfl () rfl trivial (fun w hO => hO)
theorem next_tri (l d : Nat) (S : LS) (R : List HP) : Tri Try.prog W 14 [dp l] (blk l (lcells d S) :: R) (X := Unit) (fun _ => u64v S.next) (fun _ => True) (fun _ => blk l (lcells d S) :: R) := by
  refine tri_enter1 Try.func14 rfl Try.ntmps14 rfl ?_
  repeat' (first | refine sg_wo ?_ | refine sg_ps (ps_move rfl) rfl ?_ | refine sg_ps (ps_assign rfl) rfl ?_ | refine sg_seq ?_ | refine sg_region ?_ | refine sg_nil ?_ | refine sg_then ?_ | refine sg_ps (ps_fieldAddr rfl) rfl ?_ | refine sg_ps (ps_nilCheck rfl) rfl ?_ | refine sg_load 0 rfl rfl rfl rfl ?_ | refine sg_ps (ps_bin rfl rfl inferInstance) rfl ?_ | refine sg_cond_f rfl ?_ | refine sg_skip ?_ | refine sg_ret ?_)
  exact ex_ret1 rfl rfl () rfl trivial (fun w hO => hO)
theorem next_nil (R : List HP) : Tri Try.prog W 14 [.pointer none] R (X := Unit) (fun _ => u64v 0) (fun _ => True) (fun _ => R) := by
  refine tri_enter1 Try.func14 rfl Try.ntmps14 rfl ?_
  repeat' (first | refine sg_wo ?_ | refine sg_ps (ps_move rfl) rfl ?_ | refine sg_ps (ps_assign rfl) rfl ?_ | refine sg_seq ?_ | refine sg_region ?_ | refine sg_nil ?_ | refine sg_then ?_ | refine sg_ps (ps_bin rfl rfl inferInstance) rfl ?_ | refine sg_cond_t rfl ?_ | refine sg_ret ?_ | refine ex_then_ret ?_)
  exact ex_ret1 rfl rfl () rfl trivial (fun w hO => hO)
theorem room_nil (R : List HP) : Tri Try.prog W 18 [.pointer none] R (X := Unit) (fun _ => i64 0) (fun _ => True) (fun _ => R) := by
  refine tri_enter1 Try.func18 rfl Try.ntmps18 rfl ?_
  repeat' (first | refine sg_wo ?_ | refine sg_ps (ps_move rfl) rfl ?_ | refine sg_ps (ps_assign rfl) rfl ?_ | refine sg_seq ?_ | refine sg_region ?_ | refine sg_nil ?_ | refine sg_then ?_ | refine sg_ps (ps_bin rfl rfl inferInstance) rfl ?_ | refine sg_cond_t rfl ?_ | refine sg_ret ?_ | refine ex_then_ret ?_)
  exact ex_ret1 rfl rfl () rfl trivial (fun w hO => hO)
theorem room_tri (l d : Nat) (S : LS) (h1 : S.head ≤ S.next) (h2 : S.next < 9223372036854775808) (h3 : S.size ≤ 4096) (R : List HP) : Tri Try.prog W 18 [dp l] (blk l (lcells d S) :: R) (X := Unit) (fun _ => i64 ((S.size : Int) - ((S.next - S.head : Nat) : Int))) (fun _ => True) (fun _ => blk l (lcells d S) :: R) := by
  refine tri_enter1 Try.func18 rfl Try.ntmps18 rfl ?_
  repeat' (first | refine sg_wo ?_ | refine sg_ps (ps_move rfl) rfl ?_ | refine sg_ps (ps_assign rfl) rfl ?_ | refine sg_seq ?_ | refine sg_region ?_ | refine sg_nil ?_ | refine sg_then ?_ | refine sg_ps (ps_bin rfl rfl inferInstance) rfl ?_ | refine sg_cond_f rfl ?_ | refine sg_skip ?_)
  refine sg_drawK [blk l (lcells d S)] [0, 1, 2, 4, 5, 6, 8, 9, 10, 7, 11, 12, 13, 3, 14, 15] (by kernel_rfl) (by kernel_rfl) (fun w hO => hO.pick [0] (by decide)) ?_
  repeat' (first | refine sk_nil ?_ | refine sk_pure rfl rfl (ps_move rfl) rfl ?_ | refine sk_pure rfl rfl (ps_assign rfl) rfl ?_ | refine sk_pure rfl rfl (ps_nilCheck rfl) rfl ?_ | refine sk_pure rfl rfl (ps_fieldAddr rfl) rfl ?_ | refine sk_pure rfl rfl (ps_bin rfl rfl inferInstance) rfl ?_ | refine sk_pure rfl rfl (ps_conv rfl) rfl ?_ | refine sk_load 0 rfl rfl rfl rfl rfl ?_)
  rw [show (S.next : Int) - (S.head : Int) = ((S.next - S.head : Nat) : Int) by omega, u64_of_nat (S.next - S.head) (by omega), i64_of_nat (S.next - S.head) (by omega), IntWalk.i64_in ((S.size : Int) - ((S.next - S.head : Nat) : Int)) (by omega)]
  repeat' (first | refine sg_then ?_ | refine sg_ret ?_)
  exact ex_ret1 rfl rfl () rfl trivial (fun w hO => hO)
theorem trim_nil (to : Nat) (R : List HP) : Tri Try.prog W 15 [.pointer none, u64v to] R (X := Unit) (fun _ => i64 11) (fun _ => True) (fun _ => R) := by
  refine tri_enter2 Try.func15 rfl Try.ntmps15 rfl ?_
  repeat' (first | refine sg_wo ?_ | refine sg_ps (ps_move rfl) rfl ?_ | refine sg_ps (ps_assign rfl) rfl ?_ | refine sg_seq ?_ | refine sg_region ?_ | refine sg_nil ?_ | refine sg_then ?_ | refine sg_ps (ps_bin rfl rfl inferInstance) rfl ?_ | refine sg_cond_t rfl ?_ | refine sg_block ?_ | refine sg_ret ?_ | refine ex_then_ret ?_ | refine ex_block_ret ?_)
  exact ex_ret1 rfl rfl () rfl trivial (fun w hO => hO)
theorem trim_tri (l d to : Nat) (S : LS) (R : List HP) : Tri Try.prog W 15 [dp l, u64v to] (blk l (lcells d S) :: R) (X := Unit) (fun _ => i64 (if to < S.head ∨ S.next < to then 1 else 0)) (fun _ => True)
    (fun _ => blk l (lcells d (if to < S.head ∨ S.next < to then S else { S with head := to })) :: R) := by
  refine tri_enter2 Try.func15 rfl Try.ntmps15 rfl ?_
  by_cases h : to < S.head ∨ S.next < to
  · rw [if_pos h, if_pos h]
    repeat' (first | refine sg_wo ?_ | refine sg_ps (ps_move rfl) rfl ?_ | refine sg_ps (ps_assign rfl) rfl ?_ | refine sg_seq ?_ | refine sg_region ?_ | refine sg_nil ?_ | refine sg_then ?_ | refine sg_ps (ps_fieldAddr rfl) rfl ?_ | refine sg_ps (ps_nilCheck rfl) rfl ?_ | refine sg_load 0 rfl rfl rfl rfl ?_ | refine sg_ps (ps_bin rfl rfl inferInstance) rfl ?_ | refine sg_cond_t rfl ?_ | refine sg_cond_f rfl ?_ | refine sg_guard_yes rfl rfl ?_ | refine sg_guard_nt rfl rfl rfl ?_ | refine sg_ps (ps_pick_t rfl rfl) rfl ?_ | refine sg_ps (ps_pick_f rfl rfl) rfl ?_ | refine sg_block ?_ | refine sg_ret ?_ | refine ex_then_ret ?_ | refine ex_block_ret ?_ | (refine sg_guard_dec rfl rfl (fun hg => ?_) (fun hg => ?_) <;> first | (exfalso; omega) | (exact absurd rfl hg) | skip) | (refine sg_cond_dec rfl (fun hg => ?_) (fun hg => ?_) <;> first | (exfalso; omega) | (exact absurd rfl hg) | skip))
    all_goals exact ex_ret1 rfl rfl () rfl trivial (fun w hO => hO)
  · rw [if_neg h, if_neg h]
    repeat' (first | refine sg_wo ?_ | refine sg_ps (ps_move rfl) rfl ?_ | refine sg_ps (ps_assign rfl) rfl ?_ | refine sg_seq ?_ | refine sg_region ?_ | refine sg_nil ?_ | refine sg_then ?_ | refine sg_ps (ps_fieldAddr rfl) rfl ?_ | refine sg_ps (ps_nilCheck rfl) rfl ?_ | refine sg_load 0 rfl rfl rfl rfl ?_ | refine sg_ps (ps_bin rfl rfl inferInstance) rfl ?_ | refine sg_cond_f rfl ?_ | refine sg_guard_yes rfl rfl ?_ | refine sg_ps (ps_pick_f rfl rfl) rfl ?_ | refine sg_block ?_ | refine sg_skip ?_ | refine sg_ret ?_ | refine ex_block_normal ?_ | refine sg_store [] rfl rfl rfl (of_decide_eq_true rfl) ?_ | (refine sg_guard_dec rfl rfl (fun hg => ?_) (fun hg => ?_) <;> first | (exfalso; omega) | (exact absurd rfl hg) | skip) | (refine sg_cond_dec rfl (fun hg => ?_) (fun hg => ?_) <;> first | (exfalso; omega) | (exact absurd rfl hg) | skip))
    exact ex_ret1 rfl rfl () rfl trivial (fun w hO => hO)
end Go.Proofs.Ytdehkdmnddflhaa
