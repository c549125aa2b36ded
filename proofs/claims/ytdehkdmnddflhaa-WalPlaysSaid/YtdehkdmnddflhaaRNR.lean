/- The reference's In.Num over bytes that lie elsewhere. -/
import Derived.Test.YtdehkdmnddflhaaPK5
import Derived.Test.YtdehkdmnddflhaaRD
namespace Go.Proofs.Ytdehkdmnddflhaa
set_option linter.unusedVariables false
set_option linter.unusedSimpArgs false
set_option linter.unusedSectionVars false
set_option linter.unnecessarySimpa false
open Go Go.Proofs
set_option maxRecDepth 20000
set_option maxHeartbeats 4000000
attribute [local irreducible] SG WC WO W1 WD WK PS Rd Tri Exit.then Exit.inBlock bodyPost calmQ Mid sadd
variable {W : World} {n : Nat} {F : Fr} {L : List HP} {G : Act → World → Prop}
theorem rNumRd_tri (i : Nat) (a : Option Addr) (c : Nat) (all : List UInt8) (at_ k : Nat) (hk8 : k ≤ 8) (hk : at_ + k ≤ all.length) (hm : all.length ≤ 140737488355328) (R : List HP) (hr : ∀ L, Rd W (L ++ R) a (all.map bv)) :
    Tri Try.prog W 47 [dp i, i64 k] (blk i (rcells a all.length c at_ false) :: R) (X := Unit) (fun _ => .int .u64 (unbe ((all.drop at_).take k) : Int)) (fun _ => True) (fun _ => blk i (rcells a all.length c (at_ + k) false) :: R) := by
  refine tri_enter2 Try.func47 rfl Try.ntmps47 rfl ?_
  repeat' (first | refine sg_wo ?_ | refine sg_ps (ps_move rfl) rfl ?_ | refine sg_ps (ps_assign rfl) rfl ?_ | refine sg_seq ?_ | refine sg_region ?_ | refine sg_nil ?_ | refine sg_then ?_ | refine sg_ps (ps_fieldAddr rfl) rfl ?_ | refine sg_ps (ps_nilCheck rfl) rfl ?_ | refine sg_load 0 rfl rfl rfl rfl ?_ | refine sg_guard_yes rfl rfl ?_)
  refine sg_call (rLeft0 i a c all.length at_ (by omega) hm false _) rfl rfl (fun _ _ => ?_)
  repeat' (first | refine sg_wo ?_ | refine sg_ps (ps_move rfl) rfl ?_ | refine sg_ps (ps_assign rfl) rfl ?_ | refine sg_seq ?_ | refine sg_region ?_ | refine sg_nil ?_ | refine sg_then ?_ | refine sg_ps (ps_bin rfl rfl inferInstance) rfl ?_ | refine sg_guard_yes rfl rfl ?_ | refine sg_ps (ps_pick_f rfl rfl) rfl ?_ | refine sg_block ?_ | refine sg_skip ?_ | (refine sg_cond_dec rfl (fun hg => ?_) (fun hg => ?_) <;> first | (exfalso; omega) | (exact absurd rfl hg) | skip))
  refine sg_loop (γ := Nat) (fun j => j ≤ k) (fun j => [(0, dp i), (1, i64 k), (5, .int .u64 (unbe ((all.drop at_).take j) : Int)), (6, i64 j)]) (fun _ => blk i (rcells a all.length c at_ false) :: R) (fun j => k - j) 0 (by omega)
    (.cons rfl (.cons rfl (.cons rfl (.cons rfl .nil)))) (fun w hO => hO) ?_
  intro j hj
  by_cases hjk : j < k
  · have hlt : unbe ((all.drop at_).take j) < 2 ^ 56 := by
      have := unbe_lt ((all.drop at_).take j)
      rw [List.length_take, List.length_drop, Nat.min_eq_left (by omega)] at this
      have h7 : 256 ^ j ≤ 256 ^ 7 := Nat.pow_le_pow_right (by omega) (by omega)
      omega
    refine sg_rd_some (hr [_]) (map_ne (by omega)) ?_
    rintro b o rfl
    repeat' (first | refine sg_wo ?_ | refine sg_ps (ps_move rfl) rfl ?_ | refine sg_seq ?_ | refine sg_region ?_ | refine sg_nil ?_ | refine sg_then ?_ | refine sg_ps (ps_bin rfl rfl inferInstance) rfl ?_ | refine sg_block ?_ | refine sg_skip ?_ | (refine sg_cond_dec rfl (fun hg => ?_) (fun hg => ?_) <;> first | (exfalso; omega) | (exact absurd rfl hg) | skip))
    have hrd : Rd W (blk i (rcells (some ⟨b, o, none⟩) all.length c at_ false) :: R) (some ⟨b, o + (at_ + j) * 1, none⟩) [bv all[at_ + j]] := (hr [_]).get (at_ + j) (bv_get (by omega))
    have hy := all[at_ + j].toNat_lt
    refine sg_drawK (blk i (rcells (some ⟨b, o, none⟩) all.length c at_ false) :: R) [0, 1, 2, 3, 4, 6, 7, 8, 10, 9, 11, 5, 12, 13, 14, 15, 16] (by kernel_rfl) (by kernel_rfl) (fun w hO => hO) ?_
    repeat' (first | refine sk_pure rfl rfl (ps_move rfl) rfl ?_ | refine sk_pure rfl rfl (ps_nilCheck rfl) rfl ?_ | refine sk_pure rfl rfl (ps_fieldAddr rfl) rfl ?_ | refine sk_pure rfl rfl (ps_add64 rfl rfl (by omega)) rfl ?_ | refine sk_pure rfl rfl (ps_shl rfl rfl (by decide) rfl) rfl ?_ | refine sk_pure rfl rfl (ps_indexAddr rfl rfl rfl (by omega)) rfl ?_ | refine sk_load 0 rfl rfl rfl rfl rfl ?_)
    refine sk_load_rd rfl rfl hrd rfl ?_
    repeat' (first | refine sk_nil ?_ | refine sk_pure rfl rfl (ps_assign rfl) rfl ?_ | refine sk_pure rfl rfl (ps_bin rfl rfl inferInstance) rfl ?_ | refine sk_pure rfl rfl (ps_conv rfl) rfl ?_)
    repeat' (first | refine sg_wo ?_ | refine sg_ps (ps_move rfl) rfl ?_ | refine sg_ps (ps_assign rfl) rfl ?_ | refine sg_region ?_ | refine sg_nil ?_ | refine sg_then ?_ | refine sg_ps (ps_add64 rfl rfl (by omega)) rfl ?_ | refine ex_block_normal ?_)
    have es : unbe ((all.drop at_).take (j + 1)) = unbe ((all.drop at_).take j) * 256 + all[at_ + j].toNat := by
      rw [unbe_take_succ (by rw [List.length_drop]; omega), List.getElem_drop]
    rw [u64_u8, u64_shl8 _ hlt, u64_add8 _ _ hlt hy, ← es]
    exact ex_mid (j + 1) ⟨by omega, by omega⟩ (.cons rfl (.cons rfl (.cons rfl (.cons rfl .nil)))) (fun w hO => hO)
  · have hjk2 : j = k := by omega
    subst hjk2
    repeat' (first | refine sg_wo ?_ | refine sg_ps (ps_move rfl) rfl ?_ | refine sg_ps (ps_assign rfl) rfl ?_ | refine sg_seq ?_ | refine sg_region ?_ | refine sg_nil ?_ | refine sg_then ?_ | refine sg_ps (ps_fieldAddr rfl) rfl ?_ | refine sg_ps (ps_nilCheck rfl) rfl ?_ | refine sg_load 0 rfl rfl rfl rfl ?_ | refine sg_ps (ps_add64 rfl rfl (by omega)) rfl ?_ | refine sg_ps (ps_bin rfl rfl inferInstance) rfl ?_ | refine sg_ret ?_ | refine sg_exit ?_ | refine ex_then_exit ?_ | refine ex_block_hit ?_ | refine sg_store [] rfl rfl rfl (of_decide_eq_true rfl) ?_ | (refine sg_cond_dec rfl (fun hg => ?_) (fun hg => ?_) <;> first | (exfalso; omega) | (exact absurd rfl hg) | skip))
    exact ex_ret1 rfl rfl () rfl trivial (fun w hO => hO)
/-- Any number of bytes: some number. -/
theorem rNumRd_any (i : Nat) (a : Option Addr) (c : Nat) (all : List UInt8) (at_ k : Nat) (hk : at_ + k ≤ all.length) (hm : all.length ≤ 140737488355328) (R : List HP) (hr : ∀ L, Rd W (L ++ R) a (all.map bv)) :
    Tri Try.prog W 47 [dp i, i64 k] (blk i (rcells a all.length c at_ false) :: R) (X := Int) (fun x => .int .u64 x) (fun _ => True) (fun _ => blk i (rcells a all.length c (at_ + k) false) :: R) := by
  refine tri_enter2 Try.func47 rfl Try.ntmps47 rfl ?_
  repeat' (first | refine sg_wo ?_ | refine sg_ps (ps_move rfl) rfl ?_ | refine sg_ps (ps_assign rfl) rfl ?_ | refine sg_seq ?_ | refine sg_region ?_ | refine sg_nil ?_ | refine sg_then ?_ | refine sg_ps (ps_fieldAddr rfl) rfl ?_ | refine sg_ps (ps_nilCheck rfl) rfl ?_ | refine sg_load 0 rfl rfl rfl rfl ?_ | refine sg_guard_yes rfl rfl ?_)
  refine sg_call (rLeft0 i a c all.length at_ (by omega) hm false _) rfl rfl (fun _ _ => ?_)
  repeat' (first | refine sg_wo ?_ | refine sg_ps (ps_move rfl) rfl ?_ | refine sg_ps (ps_assign rfl) rfl ?_ | refine sg_seq ?_ | refine sg_region ?_ | refine sg_nil ?_ | refine sg_then ?_ | refine sg_ps (ps_bin rfl rfl inferInstance) rfl ?_ | refine sg_guard_yes rfl rfl ?_ | refine sg_ps (ps_pick_f rfl rfl) rfl ?_ | refine sg_block ?_ | refine sg_skip ?_ | (refine sg_cond_dec rfl (fun hg => ?_) (fun hg => ?_) <;> first | (exfalso; omega) | (exact absurd rfl hg) | skip))
  refine sg_loop (γ := Nat × Int) (fun j => j.1 ≤ k) (fun j => [(0, dp i), (1, i64 k), (5, .int .u64 j.2), (6, i64 j.1)]) (fun _ => blk i (rcells a all.length c at_ false) :: R) (fun j => k - j.1) (0, 0) (by omega)
    (.cons rfl (.cons rfl (.cons rfl (.cons rfl .nil)))) (fun w hO => hO) ?_
  rintro ⟨j, x⟩ hj
  dsimp only at hj ⊢
  by_cases hjk : j < k
  · refine sg_rd_some (hr [_]) (map_ne (by omega)) ?_
    rintro b o rfl
    repeat' (first | refine sg_wo ?_ | refine sg_ps (ps_move rfl) rfl ?_ | refine sg_seq ?_ | refine sg_region ?_ | refine sg_nil ?_ | refine sg_then ?_ | refine sg_ps (ps_bin rfl rfl inferInstance) rfl ?_ | refine sg_block ?_ | refine sg_skip ?_ | (refine sg_cond_dec rfl (fun hg => ?_) (fun hg => ?_) <;> first | (exfalso; omega) | (exact absurd rfl hg) | skip))
    have hrd : Rd W (blk i (rcells (some ⟨b, o, none⟩) all.length c at_ false) :: R) (some ⟨b, o + (at_ + j) * 1, none⟩) [bv all[at_ + j]] := (hr [_]).get (at_ + j) (bv_get (by omega))
    refine sg_drawK (blk i (rcells (some ⟨b, o, none⟩) all.length c at_ false) :: R) [0, 1, 2, 3, 4, 6, 7, 8, 10, 9, 11, 5, 12, 13, 14, 15, 16] (by kernel_rfl) (by kernel_rfl) (fun w hO => hO) ?_
    repeat' (first | refine sk_pure rfl rfl (ps_move rfl) rfl ?_ | refine sk_pure rfl rfl (ps_nilCheck rfl) rfl ?_ | refine sk_pure rfl rfl (ps_fieldAddr rfl) rfl ?_ | refine sk_pure rfl rfl (ps_add64 rfl rfl (by omega)) rfl ?_ | refine sk_pure rfl rfl (ps_shl rfl rfl (by decide) rfl) rfl ?_ | refine sk_pure rfl rfl (ps_indexAddr rfl rfl rfl (by omega)) rfl ?_ | refine sk_load 0 rfl rfl rfl rfl rfl ?_)
    refine sk_load_rd rfl rfl hrd rfl ?_
    repeat' (first | refine sk_nil ?_ | refine sk_pure rfl rfl (ps_assign rfl) rfl ?_ | refine sk_pure rfl rfl (ps_bin rfl rfl inferInstance) rfl ?_ | refine sk_pure rfl rfl (ps_conv rfl) rfl ?_)
    repeat' (first | refine sg_wo ?_ | refine sg_ps (ps_move rfl) rfl ?_ | refine sg_ps (ps_assign rfl) rfl ?_ | refine sg_region ?_ | refine sg_nil ?_ | refine sg_then ?_ | refine sg_ps (ps_add64 rfl rfl (by omega)) rfl ?_ | refine ex_block_normal ?_)
    exact ex_mid (j + 1, _) ⟨by show k - (j + 1) < k - j; omega, by show j + 1 ≤ k; omega⟩ (.cons rfl (.cons rfl (.cons rfl (.cons rfl .nil)))) (fun w hO => hO)
  · have hjk2 : j = k := by omega
    subst hjk2
    repeat' (first | refine sg_wo ?_ | refine sg_ps (ps_move rfl) rfl ?_ | refine sg_ps (ps_assign rfl) rfl ?_ | refine sg_seq ?_ | refine sg_region ?_ | refine sg_nil ?_ | refine sg_then ?_ | refine sg_ps (ps_fieldAddr rfl) rfl ?_ | refine sg_ps (ps_nilCheck rfl) rfl ?_ | refine sg_load 0 rfl rfl rfl rfl ?_ | refine sg_ps (ps_add64 rfl rfl (by omega)) rfl ?_ | refine sg_ps (ps_bin rfl rfl inferInstance) rfl ?_ | refine sg_ret ?_ | refine sg_exit ?_ | refine ex_then_exit ?_ | refine ex_block_hit ?_ | refine sg_store [] rfl rfl rfl (of_decide_eq_true rfl) ?_ | (refine sg_cond_dec rfl (fun hg => ?_) (fun hg => ?_) <;> first | (exfalso; omega) | (exact absurd rfl hg) | skip))
    exact ex_ret1 rfl rfl x rfl trivial (fun w hO => hO)
end Go.Proofs.Ytdehkdmnddflhaa
