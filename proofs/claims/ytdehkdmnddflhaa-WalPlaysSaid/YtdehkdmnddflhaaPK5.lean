/- The document's answer for pack: taking. -/
import Derived.Test.YtdehkdmnddflhaaPK3
namespace Go.Proofs.Ytdehkdmnddflhaa
set_option linter.unusedVariables false
set_option linter.unusedSimpArgs false
set_option linter.unusedSectionVars false
set_option linter.unnecessarySimpa false
open Go Go.Proofs
set_option maxRecDepth 20000
set_option maxHeartbeats 4000000
attribute [local irreducible] SG WC WO W1 WD WK PS Rd Tri Exit.then Exit.inBlock bodyPost calmQ Mid sadd
variable {W : World} {n : Nat} {F : Fr} {L : List HP} {G : Act → World → Prop}

def rcells (a : Option Addr) (m c k : Nat) (bad : Bool) : List Value := [.slice a m c, i64 k, .bool bad]
structure RX where
  a : Option Addr
  c : Nat
  all : List UInt8
  k : Nat
structure RX.ok (x : RX) (S : IS) : Prop where
  k : x.k ≤ x.all.length
  c : x.all.length ≤ x.c
  m : x.all.length ≤ 140737488355328
  bs : S.bs = x.all.drop x.k
def RefIn (i : Nat) (S : IS) : HP := fun h => ∃ x : RX, x.ok S ∧ sepL [blk i (rcells x.a x.all.length x.c x.k S.bad), rsl x.a (x.all.map bv)] h
theorem RefIn.open {i : Nat} {S : IS} (h : ∀ (a : Option Addr) (c : Nat) (all : List UInt8) (k : Nat), RX.ok ⟨a, c, all, k⟩ S → SG W n F (blk i (rcells a all.length c k S.bad) :: rsl a (all.map bv) :: L) G) : SG W n F (RefIn i S :: L) G := by
  refine sg_ex (p := fun (x : RX) h => x.ok S ∧ sepL [blk i (rcells x.a x.all.length x.c x.k S.bad), rsl x.a (x.all.map bv)] h) ?_
  rintro ⟨a, c, all, k⟩
  refine sg_and ?_
  exact fun h1 => sg_split (h a c all k h1)
theorem RefIn.shut {w : World} {i : Nat} {S : IS} {a : Option Addr} {c k : Nat} {all : List UInt8} {bad : Bool} (hx : RX.ok ⟨a, c, all, k⟩ S) (hb : bad = S.bad)
    (hO : Own W w (blk i (rcells a all.length c k bad) :: rsl a (all.map bv) :: L)) : Own W w (RefIn i S :: L) := by
  subst hb
  have h := Own.join (L1 := [blk i (rcells a all.length c k S.bad), rsl a (all.map bv)]) hO
  exact h.imp fun _ hk => ⟨⟨a, c, all, k⟩, hx, hk⟩
theorem RefIn.own {w : World} {i : Nat} {S : IS} (hO : Own W w (RefIn i S :: L)) : ∃ x : RX, x.ok S ∧ Own W w (blk i (rcells x.a x.all.length x.c x.k S.bad) :: rsl x.a (x.all.map bv) :: L) := by
  obtain ⟨h, K, ⟨x, hx, hp⟩, hs, hK, hS, hd⟩ := hO.uncons
  exact ⟨x, hx, Own.split (L1 := [blk i (rcells x.a x.all.length x.c x.k S.bad), rsl x.a (x.all.map bv)]) (.cons hO.os hO.tape hO.output hp hs hK hS hd)⟩
theorem RX.len {a : Option Addr} {c k : Nat} {all : List UInt8} {S : IS} (h : RX.ok ⟨a, c, all, k⟩ S) : S.bs.length = all.length - k := by rw [h.bs]; simp
theorem RX.get {a : Option Addr} {c k : Nat} {all : List UInt8} {S : IS} (h : RX.ok ⟨a, c, all, k⟩ S) {j : Nat} (hj : j < S.bs.length) : ∃ h2 : k + j < all.length, S.bs[j] = all[k + j] := by
  have hl := RX.len h
  have h2 : k + j < all.length := by omega
  refine ⟨h2, ?_⟩
  obtain ⟨bs, bad⟩ := S
  have e : bs = all.drop k := h.bs
  subst e
  simp
theorem RX.fwd {a : Option Addr} {c k : Nat} {all : List UInt8} {S : IS} (h : RX.ok ⟨a, c, all, k⟩ S) {j : Nat} (hj : j ≤ S.bs.length) : RX.ok ⟨a, c, all, k + j⟩ (S.fwd j) := by
  have hl := RX.len h
  have hk := h.k
  refine ⟨?_, h.c, h.m, ?_⟩
  · show k + j ≤ all.length
    have : k ≤ all.length := hk
    omega
  · show S.bs.drop j = all.drop (k + j)
    rw [h.bs, List.drop_drop]
theorem RX.spoil {a : Option Addr} {c k : Nat} {all : List UInt8} {S : IS} (h : RX.ok ⟨a, c, all, k⟩ S) : RX.ok ⟨a, c, all, k⟩ S.spoil := ⟨h.k, h.c, h.m, h.bs⟩

theorem rLeft0 (i : Nat) (a : Option Addr) (c m k : Nat) (hk : k ≤ m) (hm : m ≤ 140737488355328) (bad : Bool) (R : List HP) :
    Tri Try.prog W 54 [dp i] (blk i (rcells a m c k bad) :: R) (X := Unit) (fun _ => i64 ((m - k : Nat) : Int)) (fun _ => True) (fun _ => blk i (rcells a m c k bad) :: R) := by
  refine tri_enter1 Try.func54 rfl Try.ntmps54 rfl ?_
  repeat' (first
    | refine sg_wo ?_
    | refine sg_ps (ps_move rfl) rfl ?_
    | refine sg_ps (ps_assign rfl) rfl ?_
    | refine sg_seq ?_
    | refine sg_region ?_
    | refine sg_nil ?_
    | refine sg_then ?_
    | refine sg_ps (ps_fieldAddr rfl) rfl ?_
    | refine sg_ps (ps_nilCheck rfl) rfl ?_
    | refine sg_load 0 rfl rfl rfl rfl ?_
    | refine sg_load 1 rfl rfl rfl rfl ?_
    | refine sg_load 2 rfl rfl rfl rfl ?_
    | refine sg_load 3 rfl rfl rfl rfl ?_
    | refine sg_load 4 rfl rfl rfl rfl ?_
    | refine sg_load 5 rfl rfl rfl rfl ?_
    | refine sg_load 6 rfl rfl rfl rfl ?_
    | refine sg_load 7 rfl rfl rfl rfl ?_
    | refine sg_ps (ps_add64 rfl rfl (by omega)) rfl ?_
    | refine sg_ps (ps_sub64 rfl rfl (by omega)) rfl ?_
    | refine sg_ps (ps_mul64 rfl rfl (by omega)) rfl ?_
    | refine sg_ps (ps_bin rfl rfl inferInstance) rfl ?_
    | refine sg_ps (ps_rem rfl rfl (by decide)) rfl ?_
    | refine sg_ps (ps_quo64 rfl rfl (by decide) (by omega)) rfl ?_
    | refine sg_ps (ps_not rfl) rfl ?_
    | refine sg_ps (ps_conv rfl) rfl ?_
    | refine sg_ps (ps_shl rfl rfl (by decide) rfl) rfl ?_
    | refine sg_ps (ps_shr rfl rfl (by decide) rfl) rfl ?_
    | refine sg_cond_t rfl ?_
    | refine sg_cond_f rfl ?_
    | refine sg_guard_yes rfl rfl ?_
    | refine sg_guard_nf rfl rfl rfl ?_
    | refine sg_guard_nt rfl rfl rfl ?_
    | refine sg_guard_nu rfl rfl rfl ?_
    | refine sg_ps (ps_pick_t rfl rfl) rfl ?_
    | refine sg_ps (ps_pick_f rfl rfl) rfl ?_
    | refine sg_ps (ps_len rfl) rfl ?_
    | refine sg_ps (ps_len_str rfl) rfl ?_
    | refine sg_ps (ps_extract rfl rfl) rfl ?_
    | refine sg_ps (ps_field rfl rfl) rfl ?_
    | refine sg_ps (ps_min2 rfl rfl) rfl ?_
    | refine sg_ps (ps_max2 rfl rfl) rfl ?_
    | refine sg_ps (ps_build rfl rfl) rfl ?_
    | refine sg_box rfl rfl (fun bx => ?_)
    | refine sg_ps (ps_indexAddr rfl rfl rfl (by omega)) rfl ?_
    | refine sg_ps (ps_indexAddr (j := 0) rfl rfl rfl (by omega)) rfl ?_
    | refine sg_ps (ps_indexAddr (j := 1) rfl rfl rfl (by omega)) rfl ?_
    | refine sg_ps (ps_indexAddr_arr rfl rfl rfl (by omega)) rfl ?_
    | refine sg_block ?_
    | refine sg_skip ?_
    | refine sg_ret ?_
    | refine sg_exit ?_
    | refine ex_then_ret ?_
    | refine ex_then_exit ?_
    | refine ex_block_ret ?_
    | refine ex_block_normal ?_
    | refine ex_block_hit ?_
    | refine ex_block_miss rfl ?_
    | refine sg_store [] rfl rfl rfl (of_decide_eq_true rfl) ?_
    | refine sg_store [_] rfl rfl rfl (of_decide_eq_true rfl) ?_
    | refine sg_store [_, _] rfl rfl rfl (of_decide_eq_true rfl) ?_
    | refine sg_store [_, _, _] rfl rfl rfl (of_decide_eq_true rfl) ?_
    | refine sg_store [_, _, _, _] rfl rfl rfl (of_decide_eq_true rfl) ?_
    | refine sg_store [_, _, _, _, _] rfl rfl rfl (of_decide_eq_true rfl) ?_
    | refine sg_store [_, _, _, _, _, _] rfl rfl rfl (of_decide_eq_true rfl) ?_
    | refine sg_store [_, _, _, _, _, _, _] rfl rfl rfl (of_decide_eq_true rfl) ?_
    | (refine sg_guard_dec rfl rfl (fun hg => ?_) (fun hg => ?_) <;> first | (exfalso; omega) | (exact absurd rfl hg) | skip)
    | (refine sg_guard_ndec rfl rfl (fun hg => ?_) (fun hg => ?_) <;> first | (exfalso; omega) | (exact absurd rfl hg) | skip)
    | (refine sg_cond_dec rfl (fun hg => ?_) (fun hg => ?_) <;> first | (exfalso; omega) | (exact absurd rfl hg) | skip)
    | (refine sg_cond_ndec rfl (fun hg => ?_) (fun hg => ?_) <;> first | (exfalso; omega) | (exact absurd rfl hg) | skip)
    | refine sg_cond_not rfl (fun hg => ?_) (fun hg => ?_)
    | refine sg_cond rfl (fun hg => ?_) (fun hg => ?_))
  refine sg_drawK (blk i (rcells a m c k bad) :: R) [0, 1, 2, 5, 6, 7, 3, 4, 8, 9, 10] (by kernel_rfl) (by kernel_rfl) (fun w hO => hO) ?_
  repeat' (first
    | refine sk_nil ?_
    | refine sk_pure rfl rfl (ps_move rfl) rfl ?_
    | refine sk_pure rfl rfl (ps_assign rfl) rfl ?_
    | refine sk_pure rfl rfl (ps_nilCheck rfl) rfl ?_
    | refine sk_pure rfl rfl (ps_fieldAddr rfl) rfl ?_
    | refine sk_pure rfl rfl (ps_add64 rfl rfl (by omega)) rfl ?_
    | refine sk_pure rfl rfl (ps_sub64 rfl rfl (by omega)) rfl ?_
    | refine sk_pure rfl rfl (ps_mul64 rfl rfl (by omega)) rfl ?_
    | refine sk_pure rfl rfl (ps_bin rfl rfl inferInstance) rfl ?_
    | refine sk_pure rfl rfl (ps_rem rfl rfl (by decide)) rfl ?_
    | refine sk_pure rfl rfl (ps_not rfl) rfl ?_
    | refine sk_pure rfl rfl (ps_conv rfl) rfl ?_
    | refine sk_pure rfl rfl (ps_shl rfl rfl (by decide) rfl) rfl ?_
    | refine sk_pure rfl rfl (ps_shr rfl rfl (by decide) rfl) rfl ?_
    | refine sk_pure rfl rfl (ps_len rfl) rfl ?_
    | refine sk_pure rfl rfl (ps_len_str rfl) rfl ?_
    | refine sk_pure rfl rfl (ps_extract rfl rfl) rfl ?_
    | refine sk_pure rfl rfl (ps_field rfl rfl) rfl ?_
    | refine sk_pure rfl rfl (ps_build rfl rfl) rfl ?_
    | refine sk_pure rfl rfl (ps_indexAddr rfl rfl rfl (by omega)) rfl ?_
    | refine sk_pure rfl rfl (ps_indexAddr (j := 0) rfl rfl rfl (by omega)) rfl ?_
    | refine sk_pure rfl rfl (ps_indexAddr (j := 1) rfl rfl rfl (by omega)) rfl ?_
    | refine sk_pure rfl rfl (ps_pick_t rfl rfl) rfl ?_
    | refine sk_pure rfl rfl (ps_pick_f rfl rfl) rfl ?_
    | refine sk_pure rfl rfl (ps_min2 rfl rfl) rfl ?_
    | refine sk_pure rfl rfl (ps_max2 rfl rfl) rfl ?_
    | refine sk_pure rfl rfl (ps_indexAddr_arr rfl rfl rfl (by omega)) rfl ?_
    | refine sk_no rfl rfl rfl rfl rfl ?_
    | refine sk_pure_g rfl rfl rfl rfl (ps_move rfl) rfl ?_
    | refine sk_pure_g rfl rfl rfl rfl (ps_assign rfl) rfl ?_
    | refine sk_pure_g rfl rfl rfl rfl (ps_nilCheck rfl) rfl ?_
    | refine sk_pure_g rfl rfl rfl rfl (ps_fieldAddr rfl) rfl ?_
    | refine sk_pure_g rfl rfl rfl rfl (ps_add64 rfl rfl (by omega)) rfl ?_
    | refine sk_pure_g rfl rfl rfl rfl (ps_sub64 rfl rfl (by omega)) rfl ?_
    | refine sk_pure_g rfl rfl rfl rfl (ps_mul64 rfl rfl (by omega)) rfl ?_
    | refine sk_pure_g rfl rfl rfl rfl (ps_bin rfl rfl inferInstance) rfl ?_
    | refine sk_pure_g rfl rfl rfl rfl (ps_rem rfl rfl (by decide)) rfl ?_
    | refine sk_pure_g rfl rfl rfl rfl (ps_not rfl) rfl ?_
    | refine sk_pure_g rfl rfl rfl rfl (ps_conv rfl) rfl ?_
    | refine sk_pure_g rfl rfl rfl rfl (ps_shl rfl rfl (by decide) rfl) rfl ?_
    | refine sk_pure_g rfl rfl rfl rfl (ps_shr rfl rfl (by decide) rfl) rfl ?_
    | refine sk_pure_g rfl rfl rfl rfl (ps_len rfl) rfl ?_
    | refine sk_pure_g rfl rfl rfl rfl (ps_len_str rfl) rfl ?_
    | refine sk_pure_g rfl rfl rfl rfl (ps_extract rfl rfl) rfl ?_
    | refine sk_pure_g rfl rfl rfl rfl (ps_field rfl rfl) rfl ?_
    | refine sk_pure_g rfl rfl rfl rfl (ps_build rfl rfl) rfl ?_
    | refine sk_pure_g rfl rfl rfl rfl (ps_indexAddr rfl rfl rfl (by omega)) rfl ?_
    | refine sk_pure_g rfl rfl rfl rfl (ps_indexAddr (j := 0) rfl rfl rfl (by omega)) rfl ?_
    | refine sk_pure_g rfl rfl rfl rfl (ps_indexAddr (j := 1) rfl rfl rfl (by omega)) rfl ?_
    | refine sk_pure_g rfl rfl rfl rfl (ps_pick_t rfl rfl) rfl ?_
    | refine sk_pure_g rfl rfl rfl rfl (ps_pick_f rfl rfl) rfl ?_
    | refine sk_pure_g rfl rfl rfl rfl (ps_min2 rfl rfl) rfl ?_
    | refine sk_pure_g rfl rfl rfl rfl (ps_max2 rfl rfl) rfl ?_
    | refine sk_pure_g rfl rfl rfl rfl (ps_indexAddr_arr rfl rfl rfl (by omega)) rfl ?_
    | refine sk_load 0 rfl rfl rfl rfl rfl ?_
    | refine sk_load 1 rfl rfl rfl rfl rfl ?_
    | refine sk_load 2 rfl rfl rfl rfl rfl ?_
    | refine sk_load 3 rfl rfl rfl rfl rfl ?_
    | refine sk_load 4 rfl rfl rfl rfl rfl ?_
    | refine sk_load 5 rfl rfl rfl rfl rfl ?_
    | refine sk_load_g 0 rfl rfl rfl rfl rfl rfl rfl ?_
    | refine sk_load_g 1 rfl rfl rfl rfl rfl rfl rfl ?_
    | refine sk_load_g 2 rfl rfl rfl rfl rfl rfl rfl ?_
    | refine sk_load_g 3 rfl rfl rfl rfl rfl rfl rfl ?_
    | refine sk_load_g 4 rfl rfl rfl rfl rfl rfl rfl ?_
    | refine sk_load_g 5 rfl rfl rfl rfl rfl rfl rfl ?_
    | refine sk_eff rfl rfl ?_
    | refine sg_guard_yes rfl rfl ?_
    | refine sg_guard_nf rfl rfl rfl ?_
    | refine sg_guard_nt rfl rfl rfl ?_
    | refine sg_guard_nu rfl rfl rfl ?_
    | refine sk_back (fun w hO => hO) ?_
    | refine sg_store [] rfl rfl rfl (of_decide_eq_true rfl) ?_
    | refine sg_store [_] rfl rfl rfl (of_decide_eq_true rfl) ?_
    | refine sg_store [_, _] rfl rfl rfl (of_decide_eq_true rfl) ?_
    | refine sg_store [_, _, _] rfl rfl rfl (of_decide_eq_true rfl) ?_
    | refine sg_store [_, _, _, _] rfl rfl rfl (of_decide_eq_true rfl) ?_
    | refine sg_store [_, _, _, _, _] rfl rfl rfl (of_decide_eq_true rfl) ?_
    | refine sg_store [_, _, _, _, _, _] rfl rfl rfl (of_decide_eq_true rfl) ?_
    | refine sg_store [_, _, _, _, _, _, _] rfl rfl rfl (of_decide_eq_true rfl) ?_)
  repeat' (first
    | refine sg_wo ?_
    | refine sg_ps (ps_move rfl) rfl ?_
    | refine sg_ps (ps_assign rfl) rfl ?_
    | refine sg_seq ?_
    | refine sg_region ?_
    | refine sg_nil ?_
    | refine sg_then ?_
    | refine sg_ps (ps_fieldAddr rfl) rfl ?_
    | refine sg_ps (ps_nilCheck rfl) rfl ?_
    | refine sg_load 0 rfl rfl rfl rfl ?_
    | refine sg_load 1 rfl rfl rfl rfl ?_
    | refine sg_load 2 rfl rfl rfl rfl ?_
    | refine sg_load 3 rfl rfl rfl rfl ?_
    | refine sg_load 4 rfl rfl rfl rfl ?_
    | refine sg_load 5 rfl rfl rfl rfl ?_
    | refine sg_load 6 rfl rfl rfl rfl ?_
    | refine sg_load 7 rfl rfl rfl rfl ?_
    | refine sg_ps (ps_add64 rfl rfl (by omega)) rfl ?_
    | refine sg_ps (ps_sub64 rfl rfl (by omega)) rfl ?_
    | refine sg_ps (ps_mul64 rfl rfl (by omega)) rfl ?_
    | refine sg_ps (ps_bin rfl rfl inferInstance) rfl ?_
    | refine sg_ps (ps_rem rfl rfl (by decide)) rfl ?_
    | refine sg_ps (ps_quo64 rfl rfl (by decide) (by omega)) rfl ?_
    | refine sg_ps (ps_not rfl) rfl ?_
    | refine sg_ps (ps_conv rfl) rfl ?_
    | refine sg_ps (ps_shl rfl rfl (by decide) rfl) rfl ?_
    | refine sg_ps (ps_shr rfl rfl (by decide) rfl) rfl ?_
    | refine sg_cond_t rfl ?_
    | refine sg_cond_f rfl ?_
    | refine sg_guard_yes rfl rfl ?_
    | refine sg_guard_nf rfl rfl rfl ?_
    | refine sg_guard_nt rfl rfl rfl ?_
    | refine sg_guard_nu rfl rfl rfl ?_
    | refine sg_ps (ps_pick_t rfl rfl) rfl ?_
    | refine sg_ps (ps_pick_f rfl rfl) rfl ?_
    | refine sg_ps (ps_len rfl) rfl ?_
    | refine sg_ps (ps_len_str rfl) rfl ?_
    | refine sg_ps (ps_extract rfl rfl) rfl ?_
    | refine sg_ps (ps_field rfl rfl) rfl ?_
    | refine sg_ps (ps_min2 rfl rfl) rfl ?_
    | refine sg_ps (ps_max2 rfl rfl) rfl ?_
    | refine sg_ps (ps_build rfl rfl) rfl ?_
    | refine sg_box rfl rfl (fun bx => ?_)
    | refine sg_ps (ps_indexAddr rfl rfl rfl (by omega)) rfl ?_
    | refine sg_ps (ps_indexAddr (j := 0) rfl rfl rfl (by omega)) rfl ?_
    | refine sg_ps (ps_indexAddr (j := 1) rfl rfl rfl (by omega)) rfl ?_
    | refine sg_ps (ps_indexAddr_arr rfl rfl rfl (by omega)) rfl ?_
    | refine sg_block ?_
    | refine sg_skip ?_
    | refine sg_ret ?_
    | refine sg_exit ?_
    | refine ex_then_ret ?_
    | refine ex_then_exit ?_
    | refine ex_block_ret ?_
    | refine ex_block_normal ?_
    | refine ex_block_hit ?_
    | refine ex_block_miss rfl ?_
    | refine sg_store [] rfl rfl rfl (of_decide_eq_true rfl) ?_
    | refine sg_store [_] rfl rfl rfl (of_decide_eq_true rfl) ?_
    | refine sg_store [_, _] rfl rfl rfl (of_decide_eq_true rfl) ?_
    | refine sg_store [_, _, _] rfl rfl rfl (of_decide_eq_true rfl) ?_
    | refine sg_store [_, _, _, _] rfl rfl rfl (of_decide_eq_true rfl) ?_
    | refine sg_store [_, _, _, _, _] rfl rfl rfl (of_decide_eq_true rfl) ?_
    | refine sg_store [_, _, _, _, _, _] rfl rfl rfl (of_decide_eq_true rfl) ?_
    | refine sg_store [_, _, _, _, _, _, _] rfl rfl rfl (of_decide_eq_true rfl) ?_
    | (refine sg_guard_dec rfl rfl (fun hg => ?_) (fun hg => ?_) <;> first | (exfalso; omega) | (exact absurd rfl hg) | skip)
    | (refine sg_guard_ndec rfl rfl (fun hg => ?_) (fun hg => ?_) <;> first | (exfalso; omega) | (exact absurd rfl hg) | skip)
    | (refine sg_cond_dec rfl (fun hg => ?_) (fun hg => ?_) <;> first | (exfalso; omega) | (exact absurd rfl hg) | skip)
    | (refine sg_cond_ndec rfl (fun hg => ?_) (fun hg => ?_) <;> first | (exfalso; omega) | (exact absurd rfl hg) | skip)
    | refine sg_cond_not rfl (fun hg => ?_) (fun hg => ?_)
    | refine sg_cond rfl (fun hg => ?_) (fun hg => ?_))
  exact ex_ret1 rfl rfl () (by congr 1; omega) trivial (fun w hO => hO)
theorem rLeft_tri (i : Nat) (S : IS) (R : List HP) : Tri Try.prog W 54 [dp i] (RefIn i S :: R) (X := Unit) (fun _ => i64 S.bs.length) (fun _ => True) (fun _ => RefIn i S :: R) := by
  refine Tri.open (fun w hO => RefIn.own hO) (fun x hx => ?_)
  refine (rLeft0 i x.a x.c x.all.length x.k hx.k hx.m S.bad _).imp ?_
  exact fun _ _ => ⟨(), by rw [RX.len hx], trivial, fun w hO => RefIn.shut hx rfl hO⟩
theorem u64_add8 (x y : Nat) (h : x < 2 ^ 56) (hy : y < 256) : IntKind.u64.wrap (((x * 256 : Nat) : Int) + (y : Int)) = ((x * 256 + y : Nat) : Int) := by
  rw [show ((x * 256 : Nat) : Int) + (y : Int) = ((x * 256 + y : Nat) : Int) by omega, wrap_u _ rfl, Nat.mod_eq_of_lt]
  show x * 256 + y < 2 ^ 64
  omega
theorem rNum_tri (i : Nat) (S : IS) (k : Nat) (hk8 : k ≤ 8) (R : List HP) :
    Tri Try.prog W 47 [dp i, i64 k] (RefIn i S :: R) (X := Unit) (fun _ => .int .u64 ((S.num k).1 : Int)) (fun _ => True) (fun _ => RefIn i (S.num k).2 :: R) := by
  refine tri_enter2 Try.func47 rfl Try.ntmps47 rfl ?_
  refine RefIn.open fun a c all at_ hx => ?_
  have hl := RX.len hx
  have hk : at_ ≤ all.length := hx.k
  have hm : all.length ≤ 140737488355328 := hx.m
  by_cases hb : S.bad = true
  · have e : S.num k = (0, S.spoil) := if_pos (.inl hb)
    rw [e, hb]
    repeat' (first
      | refine sg_wo ?_
      | refine sg_ps (ps_move rfl) rfl ?_
      | refine sg_ps (ps_assign rfl) rfl ?_
      | refine sg_seq ?_
      | refine sg_region ?_
      | refine sg_nil ?_
      | refine sg_then ?_
      | refine sg_ps (ps_fieldAddr rfl) rfl ?_
      | refine sg_ps (ps_nilCheck rfl) rfl ?_
      | refine sg_load 0 rfl rfl rfl rfl ?_
      | refine sg_load 1 rfl rfl rfl rfl ?_
      | refine sg_load 2 rfl rfl rfl rfl ?_
      | refine sg_load 3 rfl rfl rfl rfl ?_
      | refine sg_load 4 rfl rfl rfl rfl ?_
      | refine sg_load 5 rfl rfl rfl rfl ?_
      | refine sg_load 6 rfl rfl rfl rfl ?_
      | refine sg_load 7 rfl rfl rfl rfl ?_
      | refine sg_ps (ps_add64 rfl rfl (by omega)) rfl ?_
      | refine sg_ps (ps_sub64 rfl rfl (by omega)) rfl ?_
      | refine sg_ps (ps_mul64 rfl rfl (by omega)) rfl ?_
      | refine sg_ps (ps_bin rfl rfl inferInstance) rfl ?_
      | refine sg_ps (ps_rem rfl rfl (by decide)) rfl ?_
      | refine sg_ps (ps_quo64 rfl rfl (by decide) (by omega)) rfl ?_
      | refine sg_ps (ps_not rfl) rfl ?_
      | refine sg_ps (ps_conv rfl) rfl ?_
      | refine sg_ps (ps_shl rfl rfl (by decide) rfl) rfl ?_
      | refine sg_ps (ps_shr rfl rfl (by decide) rfl) rfl ?_
      | refine sg_cond_t rfl ?_
      | refine sg_cond_f rfl ?_
      | refine sg_guard_yes rfl rfl ?_
      | refine sg_guard_nf rfl rfl rfl ?_
      | refine sg_guard_nt rfl rfl rfl ?_
      | refine sg_guard_nu rfl rfl rfl ?_
      | refine sg_ps (ps_pick_t rfl rfl) rfl ?_
      | refine sg_ps (ps_pick_f rfl rfl) rfl ?_
      | refine sg_ps (ps_len rfl) rfl ?_
      | refine sg_ps (ps_len_str rfl) rfl ?_
      | refine sg_ps (ps_extract rfl rfl) rfl ?_
      | refine sg_ps (ps_field rfl rfl) rfl ?_
      | refine sg_ps (ps_min2 rfl rfl) rfl ?_
      | refine sg_ps (ps_max2 rfl rfl) rfl ?_
      | refine sg_ps (ps_build rfl rfl) rfl ?_
      | refine sg_box rfl rfl (fun bx => ?_)
      | refine sg_ps (ps_indexAddr rfl rfl rfl (by omega)) rfl ?_
      | refine sg_ps (ps_indexAddr (j := 0) rfl rfl rfl (by omega)) rfl ?_
      | refine sg_ps (ps_indexAddr (j := 1) rfl rfl rfl (by omega)) rfl ?_
      | refine sg_ps (ps_indexAddr_arr rfl rfl rfl (by omega)) rfl ?_
      | refine sg_block ?_
      | refine sg_skip ?_
      | refine sg_ret ?_
      | refine sg_exit ?_
      | refine ex_then_ret ?_
      | refine ex_then_exit ?_
      | refine ex_block_ret ?_
      | refine ex_block_normal ?_
      | refine ex_block_hit ?_
      | refine ex_block_miss rfl ?_
      | refine sg_store [] rfl rfl rfl (of_decide_eq_true rfl) ?_
      | refine sg_store [_] rfl rfl rfl (of_decide_eq_true rfl) ?_
      | refine sg_store [_, _] rfl rfl rfl (of_decide_eq_true rfl) ?_
      | refine sg_store [_, _, _] rfl rfl rfl (of_decide_eq_true rfl) ?_
      | refine sg_store [_, _, _, _] rfl rfl rfl (of_decide_eq_true rfl) ?_
      | refine sg_store [_, _, _, _, _] rfl rfl rfl (of_decide_eq_true rfl) ?_
      | refine sg_store [_, _, _, _, _, _] rfl rfl rfl (of_decide_eq_true rfl) ?_
      | refine sg_store [_, _, _, _, _, _, _] rfl rfl rfl (of_decide_eq_true rfl) ?_
      | (refine sg_guard_dec rfl rfl (fun hg => ?_) (fun hg => ?_) <;> first | (exfalso; omega) | (exact absurd rfl hg) | skip)
      | (refine sg_guard_ndec rfl rfl (fun hg => ?_) (fun hg => ?_) <;> first | (exfalso; omega) | (exact absurd rfl hg) | skip)
      | (refine sg_cond_dec rfl (fun hg => ?_) (fun hg => ?_) <;> first | (exfalso; omega) | (exact absurd rfl hg) | skip)
      | (refine sg_cond_ndec rfl (fun hg => ?_) (fun hg => ?_) <;> first | (exfalso; omega) | (exact absurd rfl hg) | skip)
      | refine sg_cond_not rfl (fun hg => ?_) (fun hg => ?_)
      | refine sg_cond rfl (fun hg => ?_) (fun hg => ?_))
    exact ex_ret1 rfl rfl () rfl trivial (fun w hO => RefIn.shut (RX.spoil hx) rfl hO)
  · have hbf : S.bad = false := by cases h : S.bad; rfl; exact absurd h hb
    rw [hbf]
    repeat' (first
      | refine sg_wo ?_
      | refine sg_ps (ps_move rfl) rfl ?_
      | refine sg_ps (ps_assign rfl) rfl ?_
      | refine sg_seq ?_
      | refine sg_region ?_
      | refine sg_nil ?_
      | refine sg_then ?_
      | refine sg_ps (ps_fieldAddr rfl) rfl ?_
      | refine sg_ps (ps_nilCheck rfl) rfl ?_
      | refine sg_load 0 rfl rfl rfl rfl ?_
      | refine sg_load 1 rfl rfl rfl rfl ?_
      | refine sg_load 2 rfl rfl rfl rfl ?_
      | refine sg_load 3 rfl rfl rfl rfl ?_
      | refine sg_load 4 rfl rfl rfl rfl ?_
      | refine sg_load 5 rfl rfl rfl rfl ?_
      | refine sg_load 6 rfl rfl rfl rfl ?_
      | refine sg_load 7 rfl rfl rfl rfl ?_
      | refine sg_ps (ps_add64 rfl rfl (by omega)) rfl ?_
      | refine sg_ps (ps_sub64 rfl rfl (by omega)) rfl ?_
      | refine sg_ps (ps_mul64 rfl rfl (by omega)) rfl ?_
      | refine sg_ps (ps_bin rfl rfl inferInstance) rfl ?_
      | refine sg_ps (ps_rem rfl rfl (by decide)) rfl ?_
      | refine sg_ps (ps_quo64 rfl rfl (by decide) (by omega)) rfl ?_
      | refine sg_ps (ps_not rfl) rfl ?_
      | refine sg_ps (ps_conv rfl) rfl ?_
      | refine sg_ps (ps_shl rfl rfl (by decide) rfl) rfl ?_
      | refine sg_ps (ps_shr rfl rfl (by decide) rfl) rfl ?_
      | refine sg_cond_t rfl ?_
      | refine sg_cond_f rfl ?_
      | refine sg_guard_yes rfl rfl ?_
      | refine sg_guard_nf rfl rfl rfl ?_
      | refine sg_guard_nt rfl rfl rfl ?_
      | refine sg_guard_nu rfl rfl rfl ?_
      | refine sg_ps (ps_pick_t rfl rfl) rfl ?_
      | refine sg_ps (ps_pick_f rfl rfl) rfl ?_
      | refine sg_ps (ps_len rfl) rfl ?_
      | refine sg_ps (ps_len_str rfl) rfl ?_
      | refine sg_ps (ps_extract rfl rfl) rfl ?_
      | refine sg_ps (ps_field rfl rfl) rfl ?_
      | refine sg_ps (ps_min2 rfl rfl) rfl ?_
      | refine sg_ps (ps_max2 rfl rfl) rfl ?_
      | refine sg_ps (ps_build rfl rfl) rfl ?_
      | refine sg_box rfl rfl (fun bx => ?_)
      | refine sg_ps (ps_indexAddr rfl rfl rfl (by omega)) rfl ?_
      | refine sg_ps (ps_indexAddr (j := 0) rfl rfl rfl (by omega)) rfl ?_
      | refine sg_ps (ps_indexAddr (j := 1) rfl rfl rfl (by omega)) rfl ?_
      | refine sg_ps (ps_indexAddr_arr rfl rfl rfl (by omega)) rfl ?_
      | refine sg_block ?_
      | refine sg_skip ?_
      | refine sg_ret ?_
      | refine sg_exit ?_
      | refine ex_then_ret ?_
      | refine ex_then_exit ?_
      | refine ex_block_ret ?_
      | refine ex_block_normal ?_
      | refine ex_block_hit ?_
      | refine ex_block_miss rfl ?_
      | refine sg_store [] rfl rfl rfl (of_decide_eq_true rfl) ?_
      | refine sg_store [_] rfl rfl rfl (of_decide_eq_true rfl) ?_
      | refine sg_store [_, _] rfl rfl rfl (of_decide_eq_true rfl) ?_
      | refine sg_store [_, _, _] rfl rfl rfl (of_decide_eq_true rfl) ?_
      | refine sg_store [_, _, _, _] rfl rfl rfl (of_decide_eq_true rfl) ?_
      | refine sg_store [_, _, _, _, _] rfl rfl rfl (of_decide_eq_true rfl) ?_
      | refine sg_store [_, _, _, _, _, _] rfl rfl rfl (of_decide_eq_true rfl) ?_
      | refine sg_store [_, _, _, _, _, _, _] rfl rfl rfl (of_decide_eq_true rfl) ?_
      | (refine sg_guard_dec rfl rfl (fun hg => ?_) (fun hg => ?_) <;> first | (exfalso; omega) | (exact absurd rfl hg) | skip)
      | (refine sg_guard_ndec rfl rfl (fun hg => ?_) (fun hg => ?_) <;> first | (exfalso; omega) | (exact absurd rfl hg) | skip)
      | (refine sg_cond_dec rfl (fun hg => ?_) (fun hg => ?_) <;> first | (exfalso; omega) | (exact absurd rfl hg) | skip)
      | (refine sg_cond_ndec rfl (fun hg => ?_) (fun hg => ?_) <;> first | (exfalso; omega) | (exact absurd rfl hg) | skip)
      | refine sg_cond_not rfl (fun hg => ?_) (fun hg => ?_)
      | refine sg_cond rfl (fun hg => ?_) (fun hg => ?_))
    refine sg_call (rLeft0 i a c all.length at_ hk hm false _) rfl rfl (fun _ _ => ?_)
    rw [← hl]
    repeat' (first
      | refine sg_wo ?_
      | refine sg_ps (ps_move rfl) rfl ?_
      | refine sg_ps (ps_assign rfl) rfl ?_
      | refine sg_seq ?_
      | refine sg_region ?_
      | refine sg_nil ?_
      | refine sg_then ?_
      | refine sg_ps (ps_fieldAddr rfl) rfl ?_
      | refine sg_ps (ps_nilCheck rfl) rfl ?_
      | refine sg_load 0 rfl rfl rfl rfl ?_
      | refine sg_load 1 rfl rfl rfl rfl ?_
      | refine sg_load 2 rfl rfl rfl rfl ?_
      | refine sg_load 3 rfl rfl rfl rfl ?_
      | refine sg_load 4 rfl rfl rfl rfl ?_
      | refine sg_load 5 rfl rfl rfl rfl ?_
      | refine sg_load 6 rfl rfl rfl rfl ?_
      | refine sg_load 7 rfl rfl rfl rfl ?_
      | refine sg_ps (ps_add64 rfl rfl (by omega)) rfl ?_
      | refine sg_ps (ps_sub64 rfl rfl (by omega)) rfl ?_
      | refine sg_ps (ps_mul64 rfl rfl (by omega)) rfl ?_
      | refine sg_ps (ps_bin rfl rfl inferInstance) rfl ?_
      | refine sg_ps (ps_rem rfl rfl (by decide)) rfl ?_
      | refine sg_ps (ps_quo64 rfl rfl (by decide) (by omega)) rfl ?_
      | refine sg_ps (ps_not rfl) rfl ?_
      | refine sg_ps (ps_conv rfl) rfl ?_
      | refine sg_ps (ps_shl rfl rfl (by decide) rfl) rfl ?_
      | refine sg_ps (ps_shr rfl rfl (by decide) rfl) rfl ?_
      | refine sg_cond_t rfl ?_
      | refine sg_cond_f rfl ?_
      | refine sg_guard_yes rfl rfl ?_
      | refine sg_guard_nf rfl rfl rfl ?_
      | refine sg_guard_nt rfl rfl rfl ?_
      | refine sg_guard_nu rfl rfl rfl ?_
      | refine sg_ps (ps_pick_t rfl rfl) rfl ?_
      | refine sg_ps (ps_pick_f rfl rfl) rfl ?_
      | refine sg_ps (ps_len rfl) rfl ?_
      | refine sg_ps (ps_len_str rfl) rfl ?_
      | refine sg_ps (ps_extract rfl rfl) rfl ?_
      | refine sg_ps (ps_field rfl rfl) rfl ?_
      | refine sg_ps (ps_min2 rfl rfl) rfl ?_
      | refine sg_ps (ps_max2 rfl rfl) rfl ?_
      | refine sg_ps (ps_build rfl rfl) rfl ?_
      | refine sg_box rfl rfl (fun bx => ?_)
      | refine sg_ps (ps_indexAddr rfl rfl rfl (by omega)) rfl ?_
      | refine sg_ps (ps_indexAddr (j := 0) rfl rfl rfl (by omega)) rfl ?_
      | refine sg_ps (ps_indexAddr (j := 1) rfl rfl rfl (by omega)) rfl ?_
      | refine sg_ps (ps_indexAddr_arr rfl rfl rfl (by omega)) rfl ?_
      | refine sg_block ?_
      | refine sg_skip ?_
      | refine sg_ret ?_
      | refine sg_exit ?_
      | refine ex_then_ret ?_
      | refine ex_then_exit ?_
      | refine ex_block_ret ?_
      | refine ex_block_normal ?_
      | refine ex_block_hit ?_
      | refine ex_block_miss rfl ?_
      | refine sg_store [] rfl rfl rfl (of_decide_eq_true rfl) ?_
      | refine sg_store [_] rfl rfl rfl (of_decide_eq_true rfl) ?_
      | refine sg_store [_, _] rfl rfl rfl (of_decide_eq_true rfl) ?_
      | refine sg_store [_, _, _] rfl rfl rfl (of_decide_eq_true rfl) ?_
      | refine sg_store [_, _, _, _] rfl rfl rfl (of_decide_eq_true rfl) ?_
      | refine sg_store [_, _, _, _, _] rfl rfl rfl (of_decide_eq_true rfl) ?_
      | refine sg_store [_, _, _, _, _, _] rfl rfl rfl (of_decide_eq_true rfl) ?_
      | refine sg_store [_, _, _, _, _, _, _] rfl rfl rfl (of_decide_eq_true rfl) ?_
      | (refine sg_guard_dec rfl rfl (fun hg => ?_) (fun hg => ?_) <;> first | (exfalso; omega) | (exact absurd rfl hg) | skip)
      | (refine sg_guard_ndec rfl rfl (fun hg => ?_) (fun hg => ?_) <;> first | (exfalso; omega) | (exact absurd rfl hg) | skip)
      | (refine sg_cond_dec rfl (fun hg => ?_) (fun hg => ?_) <;> first | (exfalso; omega) | (exact absurd rfl hg) | skip)
      | (refine sg_cond_ndec rfl (fun hg => ?_) (fun hg => ?_) <;> first | (exfalso; omega) | (exact absurd rfl hg) | skip)
      | refine sg_cond_not rfl (fun hg => ?_) (fun hg => ?_)
      | refine sg_cond rfl (fun hg => ?_) (fun hg => ?_))
    · have e : S.num k = (0, S.spoil) := if_pos (.inr (by omega))
      rw [e]
      exact ex_ret1 rfl rfl () rfl trivial (fun w hO => RefIn.shut (RX.spoil hx) rfl hO)
    · have hkl : k ≤ S.bs.length := by omega
      have e : S.num k = (unbe (S.bs.take k), S.fwd k) := if_neg (by rintro (h | h); exact hb h; omega)
      rw [e]
      skip
      refine sg_loop (γ := Nat) (fun j => j ≤ k) (fun j => [(0, dp i), (1, i64 k), (5, .int .u64 (unbe (S.bs.take j) : Int)), (6, i64 j)]) (fun _ => blk i (rcells a all.length c at_ false) :: rsl a (all.map bv) :: R) (fun j => k - j) 0 (by omega)
        (.cons rfl (.cons rfl (.cons rfl (.cons rfl .nil)))) (fun w hO => hO) ?_
      intro j hj
      repeat' (first
        | refine sg_wo ?_
        | refine sg_ps (ps_move rfl) rfl ?_
        | refine sg_ps (ps_assign rfl) rfl ?_
        | refine sg_seq ?_
        | refine sg_region ?_
        | refine sg_nil ?_
        | refine sg_then ?_
        | refine sg_ps (ps_fieldAddr rfl) rfl ?_
        | refine sg_ps (ps_nilCheck rfl) rfl ?_
        | refine sg_load 0 rfl rfl rfl rfl ?_
        | refine sg_load 1 rfl rfl rfl rfl ?_
        | refine sg_load 2 rfl rfl rfl rfl ?_
        | refine sg_load 3 rfl rfl rfl rfl ?_
        | refine sg_load 4 rfl rfl rfl rfl ?_
        | refine sg_load 5 rfl rfl rfl rfl ?_
        | refine sg_load 6 rfl rfl rfl rfl ?_
        | refine sg_load 7 rfl rfl rfl rfl ?_
        | refine sg_ps (ps_add64 rfl rfl (by omega)) rfl ?_
        | refine sg_ps (ps_sub64 rfl rfl (by omega)) rfl ?_
        | refine sg_ps (ps_mul64 rfl rfl (by omega)) rfl ?_
        | refine sg_ps (ps_bin rfl rfl inferInstance) rfl ?_
        | refine sg_ps (ps_rem rfl rfl (by decide)) rfl ?_
        | refine sg_ps (ps_quo64 rfl rfl (by decide) (by omega)) rfl ?_
        | refine sg_ps (ps_not rfl) rfl ?_
        | refine sg_ps (ps_conv rfl) rfl ?_
        | refine sg_ps (ps_shl rfl rfl (by decide) rfl) rfl ?_
        | refine sg_ps (ps_shr rfl rfl (by decide) rfl) rfl ?_
        | refine sg_cond_t rfl ?_
        | refine sg_cond_f rfl ?_
        | refine sg_guard_yes rfl rfl ?_
        | refine sg_guard_nf rfl rfl rfl ?_
        | refine sg_guard_nt rfl rfl rfl ?_
        | refine sg_guard_nu rfl rfl rfl ?_
        | refine sg_ps (ps_pick_t rfl rfl) rfl ?_
        | refine sg_ps (ps_pick_f rfl rfl) rfl ?_
        | refine sg_ps (ps_len rfl) rfl ?_
        | refine sg_ps (ps_len_str rfl) rfl ?_
        | refine sg_ps (ps_extract rfl rfl) rfl ?_
        | refine sg_ps (ps_field rfl rfl) rfl ?_
        | refine sg_ps (ps_min2 rfl rfl) rfl ?_
        | refine sg_ps (ps_max2 rfl rfl) rfl ?_
        | refine sg_ps (ps_build rfl rfl) rfl ?_
        | refine sg_box rfl rfl (fun bx => ?_)
        | refine sg_ps (ps_indexAddr rfl rfl rfl (by omega)) rfl ?_
        | refine sg_ps (ps_indexAddr (j := 0) rfl rfl rfl (by omega)) rfl ?_
        | refine sg_ps (ps_indexAddr (j := 1) rfl rfl rfl (by omega)) rfl ?_
        | refine sg_ps (ps_indexAddr_arr rfl rfl rfl (by omega)) rfl ?_
        | refine sg_block ?_
        | refine sg_skip ?_
        | refine sg_ret ?_
        | refine sg_exit ?_
        | refine ex_then_ret ?_
        | refine ex_then_exit ?_
        | refine ex_block_ret ?_
        | refine ex_block_normal ?_
        | refine ex_block_hit ?_
        | refine ex_block_miss rfl ?_
        | refine sg_store [] rfl rfl rfl (of_decide_eq_true rfl) ?_
        | refine sg_store [_] rfl rfl rfl (of_decide_eq_true rfl) ?_
        | refine sg_store [_, _] rfl rfl rfl (of_decide_eq_true rfl) ?_
        | refine sg_store [_, _, _] rfl rfl rfl (of_decide_eq_true rfl) ?_
        | refine sg_store [_, _, _, _] rfl rfl rfl (of_decide_eq_true rfl) ?_
        | refine sg_store [_, _, _, _, _] rfl rfl rfl (of_decide_eq_true rfl) ?_
        | refine sg_store [_, _, _, _, _, _] rfl rfl rfl (of_decide_eq_true rfl) ?_
        | refine sg_store [_, _, _, _, _, _, _] rfl rfl rfl (of_decide_eq_true rfl) ?_
        | (refine sg_guard_dec rfl rfl (fun hg => ?_) (fun hg => ?_) <;> first | (exfalso; omega) | (exact absurd rfl hg) | skip)
        | (refine sg_guard_ndec rfl rfl (fun hg => ?_) (fun hg => ?_) <;> first | (exfalso; omega) | (exact absurd rfl hg) | skip)
        | (refine sg_cond_dec rfl (fun hg => ?_) (fun hg => ?_) <;> first | (exfalso; omega) | (exact absurd rfl hg) | skip)
        | (refine sg_cond_ndec rfl (fun hg => ?_) (fun hg => ?_) <;> first | (exfalso; omega) | (exact absurd rfl hg) | skip)
        | refine sg_cond_not rfl (fun hg => ?_) (fun hg => ?_)
        | refine sg_cond rfl (fun hg => ?_) (fun hg => ?_))
      · obtain ⟨h2, e2⟩ := RX.get hx (j := j) (by omega)
        refine sg_rd_some (rd_rsl_self 1 rfl) (map_ne (by omega)) ?_
        rintro b o rfl
        have hr : Rd W (blk i (rcells (some ⟨b, o, none⟩) all.length c at_ false) :: rsl (some ⟨b, o, none⟩) (all.map bv) :: R) (some ⟨b, o + (at_ + j) * 1, none⟩) [bv all[at_ + j]] := (rd_rsl_self 1 rfl).get (at_ + j) (bv_get (by omega))
        have hlt : unbe (S.bs.take j) < 2 ^ 56 := by
          have := unbe_lt (S.bs.take j)
          rw [List.length_take, Nat.min_eq_left (by omega)] at this
          have h7 : 256 ^ j ≤ 256 ^ 7 := Nat.pow_le_pow_right (by omega) (by omega)
          omega
        have hy := all[at_ + j].toNat_lt
        refine sg_drawK (blk i (rcells (some ⟨b, o, none⟩) all.length c at_ false) :: rsl (some ⟨b, o, none⟩) (all.map bv) :: R) [0, 1, 2, 3, 4, 6, 7, 8, 10, 9, 11, 5, 12, 13, 14, 15, 16] (by kernel_rfl) (by kernel_rfl) (fun w hO => hO) ?_
        repeat' (first
          | refine sk_nil ?_
          | refine sk_pure rfl rfl (ps_move rfl) rfl ?_
          | refine sk_pure rfl rfl (ps_assign rfl) rfl ?_
          | refine sk_pure rfl rfl (ps_nilCheck rfl) rfl ?_
          | refine sk_pure rfl rfl (ps_fieldAddr rfl) rfl ?_
          | refine sk_pure rfl rfl (ps_add64 rfl rfl (by omega)) rfl ?_
          | refine sk_pure rfl rfl (ps_sub64 rfl rfl (by omega)) rfl ?_
          | refine sk_pure rfl rfl (ps_mul64 rfl rfl (by omega)) rfl ?_
          | refine sk_pure rfl rfl (ps_bin rfl rfl inferInstance) rfl ?_
          | refine sk_pure rfl rfl (ps_rem rfl rfl (by decide)) rfl ?_
          | refine sk_pure rfl rfl (ps_not rfl) rfl ?_
          | refine sk_pure rfl rfl (ps_conv rfl) rfl ?_
          | refine sk_pure rfl rfl (ps_shl rfl rfl (by decide) rfl) rfl ?_
          | refine sk_pure rfl rfl (ps_shr rfl rfl (by decide) rfl) rfl ?_
          | refine sk_pure rfl rfl (ps_len rfl) rfl ?_
          | refine sk_pure rfl rfl (ps_len_str rfl) rfl ?_
          | refine sk_pure rfl rfl (ps_extract rfl rfl) rfl ?_
          | refine sk_pure rfl rfl (ps_field rfl rfl) rfl ?_
          | refine sk_pure rfl rfl (ps_build rfl rfl) rfl ?_
          | refine sk_pure rfl rfl (ps_indexAddr rfl rfl rfl (by omega)) rfl ?_
          | refine sk_pure rfl rfl (ps_indexAddr (j := 0) rfl rfl rfl (by omega)) rfl ?_
          | refine sk_pure rfl rfl (ps_indexAddr (j := 1) rfl rfl rfl (by omega)) rfl ?_
          | refine sk_pure rfl rfl (ps_pick_t rfl rfl) rfl ?_
          | refine sk_pure rfl rfl (ps_pick_f rfl rfl) rfl ?_
          | refine sk_pure rfl rfl (ps_min2 rfl rfl) rfl ?_
          | refine sk_pure rfl rfl (ps_max2 rfl rfl) rfl ?_
          | refine sk_pure rfl rfl (ps_indexAddr_arr rfl rfl rfl (by omega)) rfl ?_
          | refine sk_no rfl rfl rfl rfl rfl ?_
          | refine sk_pure_g rfl rfl rfl rfl (ps_move rfl) rfl ?_
          | refine sk_pure_g rfl rfl rfl rfl (ps_assign rfl) rfl ?_
          | refine sk_pure_g rfl rfl rfl rfl (ps_nilCheck rfl) rfl ?_
          | refine sk_pure_g rfl rfl rfl rfl (ps_fieldAddr rfl) rfl ?_
          | refine sk_pure_g rfl rfl rfl rfl (ps_add64 rfl rfl (by omega)) rfl ?_
          | refine sk_pure_g rfl rfl rfl rfl (ps_sub64 rfl rfl (by omega)) rfl ?_
          | refine sk_pure_g rfl rfl rfl rfl (ps_mul64 rfl rfl (by omega)) rfl ?_
          | refine sk_pure_g rfl rfl rfl rfl (ps_bin rfl rfl inferInstance) rfl ?_
          | refine sk_pure_g rfl rfl rfl rfl (ps_rem rfl rfl (by decide)) rfl ?_
          | refine sk_pure_g rfl rfl rfl rfl (ps_not rfl) rfl ?_
          | refine sk_pure_g rfl rfl rfl rfl (ps_conv rfl) rfl ?_
          | refine sk_pure_g rfl rfl rfl rfl (ps_shl rfl rfl (by decide) rfl) rfl ?_
          | refine sk_pure_g rfl rfl rfl rfl (ps_shr rfl rfl (by decide) rfl) rfl ?_
          | refine sk_pure_g rfl rfl rfl rfl (ps_len rfl) rfl ?_
          | refine sk_pure_g rfl rfl rfl rfl (ps_len_str rfl) rfl ?_
          | refine sk_pure_g rfl rfl rfl rfl (ps_extract rfl rfl) rfl ?_
          | refine sk_pure_g rfl rfl rfl rfl (ps_field rfl rfl) rfl ?_
          | refine sk_pure_g rfl rfl rfl rfl (ps_build rfl rfl) rfl ?_
          | refine sk_pure_g rfl rfl rfl rfl (ps_indexAddr rfl rfl rfl (by omega)) rfl ?_
          | refine sk_pure_g rfl rfl rfl rfl (ps_indexAddr (j := 0) rfl rfl rfl (by omega)) rfl ?_
          | refine sk_pure_g rfl rfl rfl rfl (ps_indexAddr (j := 1) rfl rfl rfl (by omega)) rfl ?_
          | refine sk_pure_g rfl rfl rfl rfl (ps_pick_t rfl rfl) rfl ?_
          | refine sk_pure_g rfl rfl rfl rfl (ps_pick_f rfl rfl) rfl ?_
          | refine sk_pure_g rfl rfl rfl rfl (ps_min2 rfl rfl) rfl ?_
          | refine sk_pure_g rfl rfl rfl rfl (ps_max2 rfl rfl) rfl ?_
          | refine sk_pure_g rfl rfl rfl rfl (ps_indexAddr_arr rfl rfl rfl (by omega)) rfl ?_
          | refine sk_load 0 rfl rfl rfl rfl rfl ?_
          | refine sk_load 1 rfl rfl rfl rfl rfl ?_
          | refine sk_load 2 rfl rfl rfl rfl rfl ?_
          | refine sk_load 3 rfl rfl rfl rfl rfl ?_
          | refine sk_load 4 rfl rfl rfl rfl rfl ?_
          | refine sk_load 5 rfl rfl rfl rfl rfl ?_
          | refine sk_load_g 0 rfl rfl rfl rfl rfl rfl rfl ?_
          | refine sk_load_g 1 rfl rfl rfl rfl rfl rfl rfl ?_
          | refine sk_load_g 2 rfl rfl rfl rfl rfl rfl rfl ?_
          | refine sk_load_g 3 rfl rfl rfl rfl rfl rfl rfl ?_
          | refine sk_load_g 4 rfl rfl rfl rfl rfl rfl rfl ?_
          | refine sk_load_g 5 rfl rfl rfl rfl rfl rfl rfl ?_
          | refine sk_eff rfl rfl ?_
          | refine sg_guard_yes rfl rfl ?_
          | refine sg_guard_nf rfl rfl rfl ?_
          | refine sg_guard_nt rfl rfl rfl ?_
          | refine sg_guard_nu rfl rfl rfl ?_
          | refine sk_back (fun w hO => hO) ?_
          | refine sg_store [] rfl rfl rfl (of_decide_eq_true rfl) ?_
          | refine sg_store [_] rfl rfl rfl (of_decide_eq_true rfl) ?_
          | refine sg_store [_, _] rfl rfl rfl (of_decide_eq_true rfl) ?_
          | refine sg_store [_, _, _] rfl rfl rfl (of_decide_eq_true rfl) ?_
          | refine sg_store [_, _, _, _] rfl rfl rfl (of_decide_eq_true rfl) ?_
          | refine sg_store [_, _, _, _, _] rfl rfl rfl (of_decide_eq_true rfl) ?_
          | refine sg_store [_, _, _, _, _, _] rfl rfl rfl (of_decide_eq_true rfl) ?_
          | refine sg_store [_, _, _, _, _, _, _] rfl rfl rfl (of_decide_eq_true rfl) ?_)
        refine sk_load_rd rfl rfl hr rfl ?_
        repeat' (first
          | refine sk_nil ?_
          | refine sk_pure rfl rfl (ps_move rfl) rfl ?_
          | refine sk_pure rfl rfl (ps_assign rfl) rfl ?_
          | refine sk_pure rfl rfl (ps_nilCheck rfl) rfl ?_
          | refine sk_pure rfl rfl (ps_fieldAddr rfl) rfl ?_
          | refine sk_pure rfl rfl (ps_add64 rfl rfl (by omega)) rfl ?_
          | refine sk_pure rfl rfl (ps_sub64 rfl rfl (by omega)) rfl ?_
          | refine sk_pure rfl rfl (ps_mul64 rfl rfl (by omega)) rfl ?_
          | refine sk_pure rfl rfl (ps_bin rfl rfl inferInstance) rfl ?_
          | refine sk_pure rfl rfl (ps_rem rfl rfl (by decide)) rfl ?_
          | refine sk_pure rfl rfl (ps_not rfl) rfl ?_
          | refine sk_pure rfl rfl (ps_conv rfl) rfl ?_
          | refine sk_pure rfl rfl (ps_shl rfl rfl (by decide) rfl) rfl ?_
          | refine sk_pure rfl rfl (ps_shr rfl rfl (by decide) rfl) rfl ?_
          | refine sk_pure rfl rfl (ps_len rfl) rfl ?_
          | refine sk_pure rfl rfl (ps_len_str rfl) rfl ?_
          | refine sk_pure rfl rfl (ps_extract rfl rfl) rfl ?_
          | refine sk_pure rfl rfl (ps_field rfl rfl) rfl ?_
          | refine sk_pure rfl rfl (ps_build rfl rfl) rfl ?_
          | refine sk_pure rfl rfl (ps_indexAddr rfl rfl rfl (by omega)) rfl ?_
          | refine sk_pure rfl rfl (ps_indexAddr (j := 0) rfl rfl rfl (by omega)) rfl ?_
          | refine sk_pure rfl rfl (ps_indexAddr (j := 1) rfl rfl rfl (by omega)) rfl ?_
          | refine sk_pure rfl rfl (ps_pick_t rfl rfl) rfl ?_
          | refine sk_pure rfl rfl (ps_pick_f rfl rfl) rfl ?_
          | refine sk_pure rfl rfl (ps_min2 rfl rfl) rfl ?_
          | refine sk_pure rfl rfl (ps_max2 rfl rfl) rfl ?_
          | refine sk_pure rfl rfl (ps_indexAddr_arr rfl rfl rfl (by omega)) rfl ?_
          | refine sk_no rfl rfl rfl rfl rfl ?_
          | refine sk_pure_g rfl rfl rfl rfl (ps_move rfl) rfl ?_
          | refine sk_pure_g rfl rfl rfl rfl (ps_assign rfl) rfl ?_
          | refine sk_pure_g rfl rfl rfl rfl (ps_nilCheck rfl) rfl ?_
          | refine sk_pure_g rfl rfl rfl rfl (ps_fieldAddr rfl) rfl ?_
          | refine sk_pure_g rfl rfl rfl rfl (ps_add64 rfl rfl (by omega)) rfl ?_
          | refine sk_pure_g rfl rfl rfl rfl (ps_sub64 rfl rfl (by omega)) rfl ?_
          | refine sk_pure_g rfl rfl rfl rfl (ps_mul64 rfl rfl (by omega)) rfl ?_
          | refine sk_pure_g rfl rfl rfl rfl (ps_bin rfl rfl inferInstance) rfl ?_
          | refine sk_pure_g rfl rfl rfl rfl (ps_rem rfl rfl (by decide)) rfl ?_
          | refine sk_pure_g rfl rfl rfl rfl (ps_not rfl) rfl ?_
          | refine sk_pure_g rfl rfl rfl rfl (ps_conv rfl) rfl ?_
          | refine sk_pure_g rfl rfl rfl rfl (ps_shl rfl rfl (by decide) rfl) rfl ?_
          | refine sk_pure_g rfl rfl rfl rfl (ps_shr rfl rfl (by decide) rfl) rfl ?_
          | refine sk_pure_g rfl rfl rfl rfl (ps_len rfl) rfl ?_
          | refine sk_pure_g rfl rfl rfl rfl (ps_len_str rfl) rfl ?_
          | refine sk_pure_g rfl rfl rfl rfl (ps_extract rfl rfl) rfl ?_
          | refine sk_pure_g rfl rfl rfl rfl (ps_field rfl rfl) rfl ?_
          | refine sk_pure_g rfl rfl rfl rfl (ps_build rfl rfl) rfl ?_
          | refine sk_pure_g rfl rfl rfl rfl (ps_indexAddr rfl rfl rfl (by omega)) rfl ?_
          | refine sk_pure_g rfl rfl rfl rfl (ps_indexAddr (j := 0) rfl rfl rfl (by omega)) rfl ?_
          | refine sk_pure_g rfl rfl rfl rfl (ps_indexAddr (j := 1) rfl rfl rfl (by omega)) rfl ?_
          | refine sk_pure_g rfl rfl rfl rfl (ps_pick_t rfl rfl) rfl ?_
          | refine sk_pure_g rfl rfl rfl rfl (ps_pick_f rfl rfl) rfl ?_
          | refine sk_pure_g rfl rfl rfl rfl (ps_min2 rfl rfl) rfl ?_
          | refine sk_pure_g rfl rfl rfl rfl (ps_max2 rfl rfl) rfl ?_
          | refine sk_pure_g rfl rfl rfl rfl (ps_indexAddr_arr rfl rfl rfl (by omega)) rfl ?_
          | refine sk_load 0 rfl rfl rfl rfl rfl ?_
          | refine sk_load 1 rfl rfl rfl rfl rfl ?_
          | refine sk_load 2 rfl rfl rfl rfl rfl ?_
          | refine sk_load 3 rfl rfl rfl rfl rfl ?_
          | refine sk_load 4 rfl rfl rfl rfl rfl ?_
          | refine sk_load 5 rfl rfl rfl rfl rfl ?_
          | refine sk_load_g 0 rfl rfl rfl rfl rfl rfl rfl ?_
          | refine sk_load_g 1 rfl rfl rfl rfl rfl rfl rfl ?_
          | refine sk_load_g 2 rfl rfl rfl rfl rfl rfl rfl ?_
          | refine sk_load_g 3 rfl rfl rfl rfl rfl rfl rfl ?_
          | refine sk_load_g 4 rfl rfl rfl rfl rfl rfl rfl ?_
          | refine sk_load_g 5 rfl rfl rfl rfl rfl rfl rfl ?_
          | refine sk_eff rfl rfl ?_
          | refine sg_guard_yes rfl rfl ?_
          | refine sg_guard_nf rfl rfl rfl ?_
          | refine sg_guard_nt rfl rfl rfl ?_
          | refine sg_guard_nu rfl rfl rfl ?_
          | refine sk_back (fun w hO => hO) ?_
          | refine sg_store [] rfl rfl rfl (of_decide_eq_true rfl) ?_
          | refine sg_store [_] rfl rfl rfl (of_decide_eq_true rfl) ?_
          | refine sg_store [_, _] rfl rfl rfl (of_decide_eq_true rfl) ?_
          | refine sg_store [_, _, _] rfl rfl rfl (of_decide_eq_true rfl) ?_
          | refine sg_store [_, _, _, _] rfl rfl rfl (of_decide_eq_true rfl) ?_
          | refine sg_store [_, _, _, _, _] rfl rfl rfl (of_decide_eq_true rfl) ?_
          | refine sg_store [_, _, _, _, _, _] rfl rfl rfl (of_decide_eq_true rfl) ?_
          | refine sg_store [_, _, _, _, _, _, _] rfl rfl rfl (of_decide_eq_true rfl) ?_)
        repeat' (first
          | refine sg_wo ?_
          | refine sg_ps (ps_move rfl) rfl ?_
          | refine sg_ps (ps_assign rfl) rfl ?_
          | refine sg_seq ?_
          | refine sg_region ?_
          | refine sg_nil ?_
          | refine sg_then ?_
          | refine sg_ps (ps_fieldAddr rfl) rfl ?_
          | refine sg_ps (ps_nilCheck rfl) rfl ?_
          | refine sg_load 0 rfl rfl rfl rfl ?_
          | refine sg_load 1 rfl rfl rfl rfl ?_
          | refine sg_load 2 rfl rfl rfl rfl ?_
          | refine sg_load 3 rfl rfl rfl rfl ?_
          | refine sg_load 4 rfl rfl rfl rfl ?_
          | refine sg_load 5 rfl rfl rfl rfl ?_
          | refine sg_load 6 rfl rfl rfl rfl ?_
          | refine sg_load 7 rfl rfl rfl rfl ?_
          | refine sg_ps (ps_add64 rfl rfl (by omega)) rfl ?_
          | refine sg_ps (ps_sub64 rfl rfl (by omega)) rfl ?_
          | refine sg_ps (ps_mul64 rfl rfl (by omega)) rfl ?_
          | refine sg_ps (ps_bin rfl rfl inferInstance) rfl ?_
          | refine sg_ps (ps_rem rfl rfl (by decide)) rfl ?_
          | refine sg_ps (ps_quo64 rfl rfl (by decide) (by omega)) rfl ?_
          | refine sg_ps (ps_not rfl) rfl ?_
          | refine sg_ps (ps_conv rfl) rfl ?_
          | refine sg_ps (ps_shl rfl rfl (by decide) rfl) rfl ?_
          | refine sg_ps (ps_shr rfl rfl (by decide) rfl) rfl ?_
          | refine sg_cond_t rfl ?_
          | refine sg_cond_f rfl ?_
          | refine sg_guard_yes rfl rfl ?_
          | refine sg_guard_nf rfl rfl rfl ?_
          | refine sg_guard_nt rfl rfl rfl ?_
          | refine sg_guard_nu rfl rfl rfl ?_
          | refine sg_ps (ps_pick_t rfl rfl) rfl ?_
          | refine sg_ps (ps_pick_f rfl rfl) rfl ?_
          | refine sg_ps (ps_len rfl) rfl ?_
          | refine sg_ps (ps_len_str rfl) rfl ?_
          | refine sg_ps (ps_extract rfl rfl) rfl ?_
          | refine sg_ps (ps_field rfl rfl) rfl ?_
          | refine sg_ps (ps_min2 rfl rfl) rfl ?_
          | refine sg_ps (ps_max2 rfl rfl) rfl ?_
          | refine sg_ps (ps_build rfl rfl) rfl ?_
          | refine sg_box rfl rfl (fun bx => ?_)
          | refine sg_ps (ps_indexAddr rfl rfl rfl (by omega)) rfl ?_
          | refine sg_ps (ps_indexAddr (j := 0) rfl rfl rfl (by omega)) rfl ?_
          | refine sg_ps (ps_indexAddr (j := 1) rfl rfl rfl (by omega)) rfl ?_
          | refine sg_ps (ps_indexAddr_arr rfl rfl rfl (by omega)) rfl ?_
          | refine sg_block ?_
          | refine sg_skip ?_
          | refine sg_ret ?_
          | refine sg_exit ?_
          | refine ex_then_ret ?_
          | refine ex_then_exit ?_
          | refine ex_block_ret ?_
          | refine ex_block_normal ?_
          | refine ex_block_hit ?_
          | refine ex_block_miss rfl ?_
          | refine sg_store [] rfl rfl rfl (of_decide_eq_true rfl) ?_
          | refine sg_store [_] rfl rfl rfl (of_decide_eq_true rfl) ?_
          | refine sg_store [_, _] rfl rfl rfl (of_decide_eq_true rfl) ?_
          | refine sg_store [_, _, _] rfl rfl rfl (of_decide_eq_true rfl) ?_
          | refine sg_store [_, _, _, _] rfl rfl rfl (of_decide_eq_true rfl) ?_
          | refine sg_store [_, _, _, _, _] rfl rfl rfl (of_decide_eq_true rfl) ?_
          | refine sg_store [_, _, _, _, _, _] rfl rfl rfl (of_decide_eq_true rfl) ?_
          | refine sg_store [_, _, _, _, _, _, _] rfl rfl rfl (of_decide_eq_true rfl) ?_
          | (refine sg_guard_dec rfl rfl (fun hg => ?_) (fun hg => ?_) <;> first | (exfalso; omega) | (exact absurd rfl hg) | skip)
          | (refine sg_guard_ndec rfl rfl (fun hg => ?_) (fun hg => ?_) <;> first | (exfalso; omega) | (exact absurd rfl hg) | skip)
          | (refine sg_cond_dec rfl (fun hg => ?_) (fun hg => ?_) <;> first | (exfalso; omega) | (exact absurd rfl hg) | skip)
          | (refine sg_cond_ndec rfl (fun hg => ?_) (fun hg => ?_) <;> first | (exfalso; omega) | (exact absurd rfl hg) | skip)
          | refine sg_cond_not rfl (fun hg => ?_) (fun hg => ?_)
          | refine sg_cond rfl (fun hg => ?_) (fun hg => ?_))
        rw [u64_u8, u64_shl8 _ hlt, u64_add8 _ _ hlt hy, ← e2, ← unbe_take_succ (by omega)]
        exact ex_mid (j + 1) ⟨by omega, by omega⟩ (.cons rfl (.cons rfl (.cons rfl (.cons rfl .nil)))) (fun w hO => hO)
      · have hjk : j = k := by omega
        subst hjk
        refine ex_ret1 rfl rfl () rfl trivial (fun w hO => ?_)
        exact RefIn.shut (k := at_ + j) (RX.fwd hx hkl) rfl hO
end Go.Proofs.Ytdehkdmnddflhaa
