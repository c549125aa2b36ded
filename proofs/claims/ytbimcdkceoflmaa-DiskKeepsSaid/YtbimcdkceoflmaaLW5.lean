/- DiskKeeps: what was synced is never lost. -/
import Derived.Test.YtbimcdkceoflmaaLW3
import Derived.Test.YtbimcdkceoflmaaDR2
namespace Go.Proofs.Ytbimcdkceoflmaa
set_option linter.unusedVariables false
set_option linter.unusedSimpArgs false
set_option linter.unusedSectionVars false
set_option linter.unnecessarySimpa false
open Go Go.Proofs
set_option maxRecDepth 20000
set_option maxHeartbeats 4000000
attribute [local irreducible] SG WC WO W1 WD WK PS Rd Tri Exit.then Exit.inBlock bodyPost calmQ Mid
variable {W : World} {n : Nat} {F : Fr} {L : List HP} {G : Act → World → Prop}

theorem bytes_tri (xs ys : List UInt8) (xa ya : Option Addr) (xc yc : Nat) (R : List HP) (hx : Rd W R xa (xs.map bv)) (hy : Rd W R ya (ys.map bv)) :
    Tri Try.prog W 16 [.slice xa xs.length xc, .slice ya ys.length yc] R (X := Unit) (fun _ => .bool (decide (xs = ys))) (fun _ => True) (fun _ => R) := by
  refine tri_enter2 Try.func16 rfl Try.ntmps16 rfl ?_
  repeat' (first
    | refine sg_wo ?_
    | refine sg_ps (ps_move rfl) rfl ?_
    | refine sg_ps (ps_assign rfl) rfl ?_
    | refine sg_seq ?_
    | refine sg_region ?_
    | refine sg_nil ?_
    | refine sg_then ?_
    | refine sg_ps (ps_fieldAddr rfl) rfl ?_
    | refine sg_ps (ps_nilCheck rfl) rfl ?_
    | refine sg_load 0 rfl rfl rfl rfl ?_
    | refine sg_load 1 rfl rfl rfl rfl ?_
    | refine sg_load 2 rfl rfl rfl rfl ?_
    | refine sg_load 3 rfl rfl rfl rfl ?_
    | refine sg_load 4 rfl rfl rfl rfl ?_
    | refine sg_load 5 rfl rfl rfl rfl ?_
    | refine sg_load 6 rfl rfl rfl rfl ?_
    | refine sg_load 7 rfl rfl rfl rfl ?_
    | refine sg_ps (ps_add64 rfl rfl (by omega)) rfl ?_
    | refine sg_ps (ps_sub64 rfl rfl (by omega)) rfl ?_
    | refine sg_ps (ps_mul64 rfl rfl (by omega)) rfl ?_
    | refine sg_ps (ps_bin rfl rfl inferInstance) rfl ?_
    | refine sg_ps (ps_rem rfl rfl (by decide)) rfl ?_
    | refine sg_ps (ps_quo64 rfl rfl (by decide) (by omega)) rfl ?_
    | refine sg_ps (ps_not rfl) rfl ?_
    | refine sg_cond_t rfl ?_
    | refine sg_cond_f rfl ?_
    | refine sg_guard_yes rfl rfl ?_
    | refine sg_guard_nf rfl rfl rfl ?_
    | refine sg_guard_nt rfl rfl rfl ?_
    | refine sg_guard_nu rfl rfl rfl ?_
    | refine sg_ps (ps_pick_t rfl rfl) rfl ?_
    | refine sg_ps (ps_pick_f rfl rfl) rfl ?_
    | refine sg_ps (ps_len rfl) rfl ?_
    | refine sg_ps (ps_len_str rfl) rfl ?_
    | refine sg_ps (ps_extract rfl rfl) rfl ?_
    | refine sg_ps (ps_field rfl rfl) rfl ?_
    | refine sg_ps (ps_min2 rfl rfl) rfl ?_
    | refine sg_ps (ps_max2 rfl rfl) rfl ?_
    | refine sg_ps (ps_build rfl rfl) rfl ?_
    | refine sg_box rfl rfl (fun bx => ?_)
    | refine sg_ps (ps_indexAddr rfl rfl rfl (by omega)) rfl ?_
    | refine sg_ps (ps_indexAddr_arr rfl rfl rfl (by omega)) rfl ?_
    | refine sg_block ?_
    | refine sg_skip ?_
    | refine sg_ret ?_
    | refine sg_exit ?_
    | refine ex_then_ret ?_
    | refine ex_then_exit ?_
    | refine ex_block_ret ?_
    | refine ex_block_normal ?_
    | refine ex_block_hit ?_
    | refine ex_block_miss rfl ?_
    | refine sg_store [] rfl rfl rfl (of_decide_eq_true rfl) ?_
    | refine sg_store [_] rfl rfl rfl (of_decide_eq_true rfl) ?_
    | refine sg_store [_, _] rfl rfl rfl (of_decide_eq_true rfl) ?_
    | refine sg_store [_, _, _] rfl rfl rfl (of_decide_eq_true rfl) ?_
    | refine sg_store [_, _, _, _] rfl rfl rfl (of_decide_eq_true rfl) ?_
    | refine sg_store [_, _, _, _, _] rfl rfl rfl (of_decide_eq_true rfl) ?_
    | refine sg_store [_, _, _, _, _, _] rfl rfl rfl (of_decide_eq_true rfl) ?_
    | refine sg_store [_, _, _, _, _, _, _] rfl rfl rfl (of_decide_eq_true rfl) ?_
    | (refine sg_guard_dec rfl rfl (fun hg => ?_) (fun hg => ?_) <;> first | (exfalso; omega) | (exact absurd rfl hg) | skip)
    | (refine sg_guard_ndec rfl rfl (fun hg => ?_) (fun hg => ?_) <;> first | (exfalso; omega) | (exact absurd rfl hg) | skip)
    | (refine sg_cond_dec rfl (fun hg => ?_) (fun hg => ?_) <;> first | (exfalso; omega) | (exact absurd rfl hg) | skip)
    | (refine sg_cond_ndec rfl (fun hg => ?_) (fun hg => ?_) <;> first | (exfalso; omega) | (exact absurd rfl hg) | skip)
    | refine sg_cond_not rfl (fun hg => ?_) (fun hg => ?_)
    | refine sg_cond rfl (fun hg => ?_) (fun hg => ?_))
  refine sg_str_of_bytes rfl rfl rfl hx ?_
  repeat' (first
    | refine sg_wo ?_
    | refine sg_ps (ps_move rfl) rfl ?_
    | refine sg_ps (ps_assign rfl) rfl ?_
    | refine sg_seq ?_
    | refine sg_region ?_
    | refine sg_nil ?_
    | refine sg_then ?_
    | refine sg_ps (ps_fieldAddr rfl) rfl ?_
    | refine sg_ps (ps_nilCheck rfl) rfl ?_
    | refine sg_load 0 rfl rfl rfl rfl ?_
    | refine sg_load 1 rfl rfl rfl rfl ?_
    | refine sg_load 2 rfl rfl rfl rfl ?_
    | refine sg_load 3 rfl rfl rfl rfl ?_
    | refine sg_load 4 rfl rfl rfl rfl ?_
    | refine sg_load 5 rfl rfl rfl rfl ?_
    | refine sg_load 6 rfl rfl rfl rfl ?_
    | refine sg_load 7 rfl rfl rfl rfl ?_
    | refine sg_ps (ps_add64 rfl rfl (by omega)) rfl ?_
    | refine sg_ps (ps_sub64 rfl rfl (by omega)) rfl ?_
    | refine sg_ps (ps_mul64 rfl rfl (by omega)) rfl ?_
    | refine sg_ps (ps_bin rfl rfl inferInstance) rfl ?_
    | refine sg_ps (ps_rem rfl rfl (by decide)) rfl ?_
    | refine sg_ps (ps_quo64 rfl rfl (by decide) (by omega)) rfl ?_
    | refine sg_ps (ps_not rfl) rfl ?_
    | refine sg_cond_t rfl ?_
    | refine sg_cond_f rfl ?_
    | refine sg_guard_yes rfl rfl ?_
    | refine sg_guard_nf rfl rfl rfl ?_
    | refine sg_guard_nt rfl rfl rfl ?_
    | refine sg_guard_nu rfl rfl rfl ?_
    | refine sg_ps (ps_pick_t rfl rfl) rfl ?_
    | refine sg_ps (ps_pick_f rfl rfl) rfl ?_
    | refine sg_ps (ps_len rfl) rfl ?_
    | refine sg_ps (ps_len_str rfl) rfl ?_
    | refine sg_ps (ps_extract rfl rfl) rfl ?_
    | refine sg_ps (ps_field rfl rfl) rfl ?_
    | refine sg_ps (ps_min2 rfl rfl) rfl ?_
    | refine sg_ps (ps_max2 rfl rfl) rfl ?_
    | refine sg_ps (ps_build rfl rfl) rfl ?_
    | refine sg_box rfl rfl (fun bx => ?_)
    | refine sg_ps (ps_indexAddr rfl rfl rfl (by omega)) rfl ?_
    | refine sg_ps (ps_indexAddr_arr rfl rfl rfl (by omega)) rfl ?_
    | refine sg_block ?_
    | refine sg_skip ?_
    | refine sg_ret ?_
    | refine sg_exit ?_
    | refine ex_then_ret ?_
    | refine ex_then_exit ?_
    | refine ex_block_ret ?_
    | refine ex_block_normal ?_
    | refine ex_block_hit ?_
    | refine ex_block_miss rfl ?_
    | refine sg_store [] rfl rfl rfl (of_decide_eq_true rfl) ?_
    | refine sg_store [_] rfl rfl rfl (of_decide_eq_true rfl) ?_
    | refine sg_store [_, _] rfl rfl rfl (of_decide_eq_true rfl) ?_
    | refine sg_store [_, _, _] rfl rfl rfl (of_decide_eq_true rfl) ?_
    | refine sg_store [_, _, _, _] rfl rfl rfl (of_decide_eq_true rfl) ?_
    | refine sg_store [_, _, _, _, _] rfl rfl rfl (of_decide_eq_true rfl) ?_
    | refine sg_store [_, _, _, _, _, _] rfl rfl rfl (of_decide_eq_true rfl) ?_
    | refine sg_store [_, _, _, _, _, _, _] rfl rfl rfl (of_decide_eq_true rfl) ?_
    | (refine sg_guard_dec rfl rfl (fun hg => ?_) (fun hg => ?_) <;> first | (exfalso; omega) | (exact absurd rfl hg) | skip)
    | (refine sg_guard_ndec rfl rfl (fun hg => ?_) (fun hg => ?_) <;> first | (exfalso; omega) | (exact absurd rfl hg) | skip)
    | (refine sg_cond_dec rfl (fun hg => ?_) (fun hg => ?_) <;> first | (exfalso; omega) | (exact absurd rfl hg) | skip)
    | (refine sg_cond_ndec rfl (fun hg => ?_) (fun hg => ?_) <;> first | (exfalso; omega) | (exact absurd rfl hg) | skip)
    | refine sg_cond_not rfl (fun hg => ?_) (fun hg => ?_)
    | refine sg_cond rfl (fun hg => ?_) (fun hg => ?_))
  refine sg_str_of_bytes rfl rfl rfl hy ?_
  repeat' (first
    | refine sg_wo ?_
    | refine sg_ps (ps_move rfl) rfl ?_
    | refine sg_ps (ps_assign rfl) rfl ?_
    | refine sg_seq ?_
    | refine sg_region ?_
    | refine sg_nil ?_
    | refine sg_then ?_
    | refine sg_ps (ps_fieldAddr rfl) rfl ?_
    | refine sg_ps (ps_nilCheck rfl) rfl ?_
    | refine sg_load 0 rfl rfl rfl rfl ?_
    | refine sg_load 1 rfl rfl rfl rfl ?_
    | refine sg_load 2 rfl rfl rfl rfl ?_
    | refine sg_load 3 rfl rfl rfl rfl ?_
    | refine sg_load 4 rfl rfl rfl rfl ?_
    | refine sg_load 5 rfl rfl rfl rfl ?_
    | refine sg_load 6 rfl rfl rfl rfl ?_
    | refine sg_load 7 rfl rfl rfl rfl ?_
    | refine sg_ps (ps_add64 rfl rfl (by omega)) rfl ?_
    | refine sg_ps (ps_sub64 rfl rfl (by omega)) rfl ?_
    | refine sg_ps (ps_mul64 rfl rfl (by omega)) rfl ?_
    | refine sg_ps (ps_bin rfl rfl inferInstance) rfl ?_
    | refine sg_ps (ps_rem rfl rfl (by decide)) rfl ?_
    | refine sg_ps (ps_quo64 rfl rfl (by decide) (by omega)) rfl ?_
    | refine sg_ps (ps_not rfl) rfl ?_
    | refine sg_cond_t rfl ?_
    | refine sg_cond_f rfl ?_
    | refine sg_guard_yes rfl rfl ?_
    | refine sg_guard_nf rfl rfl rfl ?_
    | refine sg_guard_nt rfl rfl rfl ?_
    | refine sg_guard_nu rfl rfl rfl ?_
    | refine sg_ps (ps_pick_t rfl rfl) rfl ?_
    | refine sg_ps (ps_pick_f rfl rfl) rfl ?_
    | refine sg_ps (ps_len rfl) rfl ?_
    | refine sg_ps (ps_len_str rfl) rfl ?_
    | refine sg_ps (ps_extract rfl rfl) rfl ?_
    | refine sg_ps (ps_field rfl rfl) rfl ?_
    | refine sg_ps (ps_min2 rfl rfl) rfl ?_
    | refine sg_ps (ps_max2 rfl rfl) rfl ?_
    | refine sg_ps (ps_build rfl rfl) rfl ?_
    | refine sg_box rfl rfl (fun bx => ?_)
    | refine sg_ps (ps_indexAddr rfl rfl rfl (by omega)) rfl ?_
    | refine sg_ps (ps_indexAddr_arr rfl rfl rfl (by omega)) rfl ?_
    | refine sg_block ?_
    | refine sg_skip ?_
    | refine sg_ret ?_
    | refine sg_exit ?_
    | refine ex_then_ret ?_
    | refine ex_then_exit ?_
    | refine ex_block_ret ?_
    | refine ex_block_normal ?_
    | refine ex_block_hit ?_
    | refine ex_block_miss rfl ?_
    | refine sg_store [] rfl rfl rfl (of_decide_eq_true rfl) ?_
    | refine sg_store [_] rfl rfl rfl (of_decide_eq_true rfl) ?_
    | refine sg_store [_, _] rfl rfl rfl (of_decide_eq_true rfl) ?_
    | refine sg_store [_, _, _] rfl rfl rfl (of_decide_eq_true rfl) ?_
    | refine sg_store [_, _, _, _] rfl rfl rfl (of_decide_eq_true rfl) ?_
    | refine sg_store [_, _, _, _, _] rfl rfl rfl (of_decide_eq_true rfl) ?_
    | refine sg_store [_, _, _, _, _, _] rfl rfl rfl (of_decide_eq_true rfl) ?_
    | refine sg_store [_, _, _, _, _, _, _] rfl rfl rfl (of_decide_eq_true rfl) ?_
    | (refine sg_guard_dec rfl rfl (fun hg => ?_) (fun hg => ?_) <;> first | (exfalso; omega) | (exact absurd rfl hg) | skip)
    | (refine sg_guard_ndec rfl rfl (fun hg => ?_) (fun hg => ?_) <;> first | (exfalso; omega) | (exact absurd rfl hg) | skip)
    | (refine sg_cond_dec rfl (fun hg => ?_) (fun hg => ?_) <;> first | (exfalso; omega) | (exact absurd rfl hg) | skip)
    | (refine sg_cond_ndec rfl (fun hg => ?_) (fun hg => ?_) <;> first | (exfalso; omega) | (exact absurd rfl hg) | skip)
    | refine sg_cond_not rfl (fun hg => ?_) (fun hg => ?_)
    | refine sg_cond rfl (fun hg => ?_) (fun hg => ?_))
  exact ex_ret1 rfl rfl () (congrArg Value.bool (decide_eq_decide.2 (str_eq xs ys))) trivial (fun w hO => hO)
/-- A disk with no fuse. -/
structure Calm (S : DS) : Prop where
  d : S.down = false
  f : S.fuse = -1
  n : S.seen.length = 16
theorem Calm.write {S : DS} (h : Calm S) (i : Int) (bs : List UInt8) : ((0 ≤ i ∧ i < 16) ∧ bs.length ≤ 64 ∧ S.write i bs = (0, S.put i.toNat bs) ∧ i.toNat < S.seen.length) ∨ S.write i bs = (1, S) := by
  by_cases hr : (0 ≤ i ∧ i < S.seen.length) ∧ bs.length ≤ 64
  · left
    have hn := h.n
    have hw := write_put (S := S) (k := i.toNat) (bs := bs) h.d h.f (by omega) hr.2
    rw [show ((i.toNat : Nat) : Int) = i by omega] at hw
    exact ⟨by omega, hr.2, hw, by omega⟩
  · right; exact write_arg (by omega)
theorem Calm.put {S : DS} (h : Calm S) (k : Nat) (bs : List UInt8) : Calm (S.put k bs) := ⟨h.d, h.f, put_len.trans h.n⟩
theorem keepOf_ones {m k : Nat} (h : k < m) : keepOf (List.replicate m 1) k = true := by
  unfold keepOf; rw [List.getElem?_replicate, if_pos h]; rfl
/-- What the second part keeps: without any writes the old state comes back; with all of them the new one. -/
structure Both (s0 : List (List UInt8)) (S : DS) : Prop where
  c : Calm S
  a : (S.crash []).seen = s0
  b : ∀ m, S.wait.length ≤ m → (S.crash (List.replicate m 1)).seen = S.seen
theorem Both.put {s0 : List (List UInt8)} {S : DS} (h : Both s0 S) {k : Nat} (hk : k < S.seen.length) (bs : List UInt8) : Both s0 (S.put k bs) := by
  refine ⟨h.c.put k bs, ?_, fun m hm => ?_⟩
  · rw [put_crash hk, if_neg (by simp [keepOf])]; exact h.a
  · have hl : (S.put k bs).wait.length = S.wait.length + 1 := by simp [DS.put]
    rw [put_crash hk, if_pos (keepOf_ones (by omega)), h.b m (by omega)]; rfl
theorem Both.dry {S : DS} (h : Calm S) (hw : S.wait = []) : Both S.seen S := ⟨h, crash_dry hw _, fun _ _ => crash_dry hw _⟩

/-- Sectors read into an array of slices. -/
def Saved (seen : List (List UInt8)) (i : Nat) (cs : List Value) (ls : List (Nat × List Value)) : Prop :=
  cs.length = 16 ∧ ∀ j, j < i → ∃ rb, cs[j]? = some (.slice (some ⟨rb, 0, none⟩) 64 64) ∧ (rb, (seen.getD j []).map bv) ∈ ls
theorem Saved.zero (seen : List (List UInt8)) (ls : List (Nat × List Value)) : Saved seen 0 (List.replicate 16 (Value.slice none 0 0)) ls := ⟨List.length_replicate, fun j hj => absurd hj (Nat.not_lt_zero _)⟩
theorem Saved.step {seen : List (List UInt8)} {i : Nat} {cs : List Value} {ls : List (Nat × List Value)} (h : Saved seen i cs ls) (hi : i < 16) (hs : i < seen.length) (rb : Nat) :
    Saved seen (i + 1) (cs.set i (.slice (some ⟨rb, 0, none⟩) 64 64)) ((rb, seen[i].map bv) :: ls) := by
  obtain ⟨hcs, hj⟩ := h
  refine ⟨by rw [List.length_set]; exact hcs, fun j hj2 => ?_⟩
  by_cases hji : j = i
  · subst hji
    exact ⟨rb, by rw [List.getElem?_set_self (by omega)], by rw [show seen.getD j [] = seen[j] by simp [List.getD, hs]]; exact List.mem_cons_self⟩
  · obtain ⟨rb2, h3, h4⟩ := hj j (by omega)
    exact ⟨rb2, by rw [List.getElem?_set_ne (fun e => hji e.symm)]; exact h3, List.mem_cons_of_mem _ h4⟩

theorem diskKeeps_tri (l q : List OpX) (la qa : Option Addr) (lc qc : Nat) (hl : OpsAt W l la) (hq : OpsAt W q qa) :
    Tri Try.prog W 5 [.slice la l.length lc, .slice qa q.length qc] [old W] (X := Unit) (fun _ => .bool true) (fun _ => True) (fun _ => [old W]) := by
  obtain ⟨hp, hll, hl⟩ := hl
  obtain ⟨hqp, hqll, hq⟩ := hq
  refine tri_enter2 Try.func5 rfl Try.ntmps5 rfl ?_
  repeat' (first
    | refine sg_wo ?_
    | refine sg_ps (ps_move rfl) rfl ?_
    | refine sg_ps (ps_assign rfl) rfl ?_
    | refine sg_seq ?_
    | refine sg_region ?_
    | refine sg_nil ?_
    | refine sg_then ?_
    | refine sg_ps (ps_fieldAddr rfl) rfl ?_
    | refine sg_ps (ps_nilCheck rfl) rfl ?_
    | refine sg_load 0 rfl rfl rfl rfl ?_
    | refine sg_load 1 rfl rfl rfl rfl ?_
    | refine sg_load 2 rfl rfl rfl rfl ?_
    | refine sg_load 3 rfl rfl rfl rfl ?_
    | refine sg_load 4 rfl rfl rfl rfl ?_
    | refine sg_load 5 rfl rfl rfl rfl ?_
    | refine sg_load 6 rfl rfl rfl rfl ?_
    | refine sg_load 7 rfl rfl rfl rfl ?_
    | refine sg_ps (ps_add64 rfl rfl (by omega)) rfl ?_
    | refine sg_ps (ps_sub64 rfl rfl (by omega)) rfl ?_
    | refine sg_ps (ps_mul64 rfl rfl (by omega)) rfl ?_
    | refine sg_ps (ps_bin rfl rfl inferInstance) rfl ?_
    | refine sg_ps (ps_rem rfl rfl (by decide)) rfl ?_
    | refine sg_ps (ps_quo64 rfl rfl (by decide) (by omega)) rfl ?_
    | refine sg_ps (ps_not rfl) rfl ?_
    | refine sg_cond_t rfl ?_
    | refine sg_cond_f rfl ?_
    | refine sg_guard_yes rfl rfl ?_
    | refine sg_guard_nf rfl rfl rfl ?_
    | refine sg_guard_nt rfl rfl rfl ?_
    | refine sg_guard_nu rfl rfl rfl ?_
    | refine sg_ps (ps_pick_t rfl rfl) rfl ?_
    | refine sg_ps (ps_pick_f rfl rfl) rfl ?_
    | refine sg_ps (ps_len rfl) rfl ?_
    | refine sg_ps (ps_len_str rfl) rfl ?_
    | refine sg_ps (ps_extract rfl rfl) rfl ?_
    | refine sg_ps (ps_field rfl rfl) rfl ?_
    | refine sg_ps (ps_min2 rfl rfl) rfl ?_
    | refine sg_ps (ps_max2 rfl rfl) rfl ?_
    | refine sg_ps (ps_build rfl rfl) rfl ?_
    | refine sg_box rfl rfl (fun bx => ?_)
    | refine sg_ps (ps_indexAddr rfl rfl rfl (by omega)) rfl ?_
    | refine sg_ps (ps_indexAddr_arr rfl rfl rfl (by omega)) rfl ?_
    | refine sg_block ?_
    | refine sg_skip ?_
    | refine sg_ret ?_
    | refine sg_exit ?_
    | refine ex_then_ret ?_
    | refine ex_then_exit ?_
    | refine ex_block_ret ?_
    | refine ex_block_normal ?_
    | refine ex_block_hit ?_
    | refine ex_block_miss rfl ?_
    | refine sg_store [] rfl rfl rfl (of_decide_eq_true rfl) ?_
    | refine sg_store [_] rfl rfl rfl (of_decide_eq_true rfl) ?_
    | refine sg_store [_, _] rfl rfl rfl (of_decide_eq_true rfl) ?_
    | refine sg_store [_, _, _] rfl rfl rfl (of_decide_eq_true rfl) ?_
    | refine sg_store [_, _, _, _] rfl rfl rfl (of_decide_eq_true rfl) ?_
    | refine sg_store [_, _, _, _, _] rfl rfl rfl (of_decide_eq_true rfl) ?_
    | refine sg_store [_, _, _, _, _, _] rfl rfl rfl (of_decide_eq_true rfl) ?_
    | refine sg_store [_, _, _, _, _, _, _] rfl rfl rfl (of_decide_eq_true rfl) ?_
    | (refine sg_guard_dec rfl rfl (fun hg => ?_) (fun hg => ?_) <;> first | (exfalso; omega) | (exact absurd rfl hg) | skip)
    | (refine sg_guard_ndec rfl rfl (fun hg => ?_) (fun hg => ?_) <;> first | (exfalso; omega) | (exact absurd rfl hg) | skip)
    | (refine sg_cond_dec rfl (fun hg => ?_) (fun hg => ?_) <;> first | (exfalso; omega) | (exact absurd rfl hg) | skip)
    | (refine sg_cond_ndec rfl (fun hg => ?_) (fun hg => ?_) <;> first | (exfalso; omega) | (exact absurd rfl hg) | skip)
    | refine sg_cond_not rfl (fun hg => ?_) (fun hg => ?_)
    | refine sg_cond rfl (fun hg => ?_) (fun hg => ?_))
  refine sg_call (awake_tri _) rfl rfl (fun _ _ => ?_)
  repeat' (first
    | refine sg_wo ?_
    | refine sg_ps (ps_move rfl) rfl ?_
    | refine sg_ps (ps_assign rfl) rfl ?_
    | refine sg_seq ?_
    | refine sg_region ?_
    | refine sg_nil ?_
    | refine sg_then ?_
    | refine sg_ps (ps_fieldAddr rfl) rfl ?_
    | refine sg_ps (ps_nilCheck rfl) rfl ?_
    | refine sg_load 0 rfl rfl rfl rfl ?_
    | refine sg_load 1 rfl rfl rfl rfl ?_
    | refine sg_load 2 rfl rfl rfl rfl ?_
    | refine sg_load 3 rfl rfl rfl rfl ?_
    | refine sg_load 4 rfl rfl rfl rfl ?_
    | refine sg_load 5 rfl rfl rfl rfl ?_
    | refine sg_load 6 rfl rfl rfl rfl ?_
    | refine sg_load 7 rfl rfl rfl rfl ?_
    | refine sg_ps (ps_add64 rfl rfl (by omega)) rfl ?_
    | refine sg_ps (ps_sub64 rfl rfl (by omega)) rfl ?_
    | refine sg_ps (ps_mul64 rfl rfl (by omega)) rfl ?_
    | refine sg_ps (ps_bin rfl rfl inferInstance) rfl ?_
    | refine sg_ps (ps_rem rfl rfl (by decide)) rfl ?_
    | refine sg_ps (ps_quo64 rfl rfl (by decide) (by omega)) rfl ?_
    | refine sg_ps (ps_not rfl) rfl ?_
    | refine sg_cond_t rfl ?_
    | refine sg_cond_f rfl ?_
    | refine sg_guard_yes rfl rfl ?_
    | refine sg_guard_nf rfl rfl rfl ?_
    | refine sg_guard_nt rfl rfl rfl ?_
    | refine sg_guard_nu rfl rfl rfl ?_
    | refine sg_ps (ps_pick_t rfl rfl) rfl ?_
    | refine sg_ps (ps_pick_f rfl rfl) rfl ?_
    | refine sg_ps (ps_len rfl) rfl ?_
    | refine sg_ps (ps_len_str rfl) rfl ?_
    | refine sg_ps (ps_extract rfl rfl) rfl ?_
    | refine sg_ps (ps_field rfl rfl) rfl ?_
    | refine sg_ps (ps_min2 rfl rfl) rfl ?_
    | refine sg_ps (ps_max2 rfl rfl) rfl ?_
    | refine sg_ps (ps_build rfl rfl) rfl ?_
    | refine sg_box rfl rfl (fun bx => ?_)
    | refine sg_ps (ps_indexAddr rfl rfl rfl (by omega)) rfl ?_
    | refine sg_ps (ps_indexAddr_arr rfl rfl rfl (by omega)) rfl ?_
    | refine sg_block ?_
    | refine sg_skip ?_
    | refine sg_ret ?_
    | refine sg_exit ?_
    | refine ex_then_ret ?_
    | refine ex_then_exit ?_
    | refine ex_block_ret ?_
    | refine ex_block_normal ?_
    | refine ex_block_hit ?_
    | refine ex_block_miss rfl ?_
    | refine sg_store [] rfl rfl rfl (of_decide_eq_true rfl) ?_
    | refine sg_store [_] rfl rfl rfl (of_decide_eq_true rfl) ?_
    | refine sg_store [_, _] rfl rfl rfl (of_decide_eq_true rfl) ?_
    | refine sg_store [_, _, _] rfl rfl rfl (of_decide_eq_true rfl) ?_
    | refine sg_store [_, _, _, _] rfl rfl rfl (of_decide_eq_true rfl) ?_
    | refine sg_store [_, _, _, _, _] rfl rfl rfl (of_decide_eq_true rfl) ?_
    | refine sg_store [_, _, _, _, _, _] rfl rfl rfl (of_decide_eq_true rfl) ?_
    | refine sg_store [_, _, _, _, _, _, _] rfl rfl rfl (of_decide_eq_true rfl) ?_
    | (refine sg_guard_dec rfl rfl (fun hg => ?_) (fun hg => ?_) <;> first | (exfalso; omega) | (exact absurd rfl hg) | skip)
    | (refine sg_guard_ndec rfl rfl (fun hg => ?_) (fun hg => ?_) <;> first | (exfalso; omega) | (exact absurd rfl hg) | skip)
    | (refine sg_cond_dec rfl (fun hg => ?_) (fun hg => ?_) <;> first | (exfalso; omega) | (exact absurd rfl hg) | skip)
    | (refine sg_cond_ndec rfl (fun hg => ?_) (fun hg => ?_) <;> first | (exfalso; omega) | (exact absurd rfl hg) | skip)
    | refine sg_cond_not rfl (fun hg => ?_) (fun hg => ?_)
    | refine sg_cond rfl (fun hg => ?_) (fun hg => ?_))
  refine sg_call (new_tri 16 _ (by omega) (by omega)) rfl rfl (fun d _ => ?_)
  repeat' (first
    | refine sg_wo ?_
    | refine sg_ps (ps_move rfl) rfl ?_
    | refine sg_ps (ps_assign rfl) rfl ?_
    | refine sg_seq ?_
    | refine sg_region ?_
    | refine sg_nil ?_
    | refine sg_then ?_
    | refine sg_ps (ps_fieldAddr rfl) rfl ?_
    | refine sg_ps (ps_nilCheck rfl) rfl ?_
    | refine sg_load 0 rfl rfl rfl rfl ?_
    | refine sg_load 1 rfl rfl rfl rfl ?_
    | refine sg_load 2 rfl rfl rfl rfl ?_
    | refine sg_load 3 rfl rfl rfl rfl ?_
    | refine sg_load 4 rfl rfl rfl rfl ?_
    | refine sg_load 5 rfl rfl rfl rfl ?_
    | refine sg_load 6 rfl rfl rfl rfl ?_
    | refine sg_load 7 rfl rfl rfl rfl ?_
    | refine sg_ps (ps_add64 rfl rfl (by omega)) rfl ?_
    | refine sg_ps (ps_sub64 rfl rfl (by omega)) rfl ?_
    | refine sg_ps (ps_mul64 rfl rfl (by omega)) rfl ?_
    | refine sg_ps (ps_bin rfl rfl inferInstance) rfl ?_
    | refine sg_ps (ps_rem rfl rfl (by decide)) rfl ?_
    | refine sg_ps (ps_quo64 rfl rfl (by decide) (by omega)) rfl ?_
    | refine sg_ps (ps_not rfl) rfl ?_
    | refine sg_cond_t rfl ?_
    | refine sg_cond_f rfl ?_
    | refine sg_guard_yes rfl rfl ?_
    | refine sg_guard_nf rfl rfl rfl ?_
    | refine sg_guard_nt rfl rfl rfl ?_
    | refine sg_guard_nu rfl rfl rfl ?_
    | refine sg_ps (ps_pick_t rfl rfl) rfl ?_
    | refine sg_ps (ps_pick_f rfl rfl) rfl ?_
    | refine sg_ps (ps_len rfl) rfl ?_
    | refine sg_ps (ps_len_str rfl) rfl ?_
    | refine sg_ps (ps_extract rfl rfl) rfl ?_
    | refine sg_ps (ps_field rfl rfl) rfl ?_
    | refine sg_ps (ps_min2 rfl rfl) rfl ?_
    | refine sg_ps (ps_max2 rfl rfl) rfl ?_
    | refine sg_ps (ps_build rfl rfl) rfl ?_
    | refine sg_box rfl rfl (fun bx => ?_)
    | refine sg_ps (ps_indexAddr rfl rfl rfl (by omega)) rfl ?_
    | refine sg_ps (ps_indexAddr_arr rfl rfl rfl (by omega)) rfl ?_
    | refine sg_block ?_
    | refine sg_skip ?_
    | refine sg_ret ?_
    | refine sg_exit ?_
    | refine ex_then_ret ?_
    | refine ex_then_exit ?_
    | refine ex_block_ret ?_
    | refine ex_block_normal ?_
    | refine ex_block_hit ?_
    | refine ex_block_miss rfl ?_
    | refine sg_store [] rfl rfl rfl (of_decide_eq_true rfl) ?_
    | refine sg_store [_] rfl rfl rfl (of_decide_eq_true rfl) ?_
    | refine sg_store [_, _] rfl rfl rfl (of_decide_eq_true rfl) ?_
    | refine sg_store [_, _, _] rfl rfl rfl (of_decide_eq_true rfl) ?_
    | refine sg_store [_, _, _, _] rfl rfl rfl (of_decide_eq_true rfl) ?_
    | refine sg_store [_, _, _, _, _] rfl rfl rfl (of_decide_eq_true rfl) ?_
    | refine sg_store [_, _, _, _, _, _] rfl rfl rfl (of_decide_eq_true rfl) ?_
    | refine sg_store [_, _, _, _, _, _, _] rfl rfl rfl (of_decide_eq_true rfl) ?_
    | (refine sg_guard_dec rfl rfl (fun hg => ?_) (fun hg => ?_) <;> first | (exfalso; omega) | (exact absurd rfl hg) | skip)
    | (refine sg_guard_ndec rfl rfl (fun hg => ?_) (fun hg => ?_) <;> first | (exfalso; omega) | (exact absurd rfl hg) | skip)
    | (refine sg_cond_dec rfl (fun hg => ?_) (fun hg => ?_) <;> first | (exfalso; omega) | (exact absurd rfl hg) | skip)
    | (refine sg_cond_ndec rfl (fun hg => ?_) (fun hg => ?_) <;> first | (exfalso; omega) | (exact absurd rfl hg) | skip)
    | refine sg_cond_not rfl (fun hg => ?_) (fun hg => ?_)
    | refine sg_cond rfl (fun hg => ?_) (fun hg => ?_))
  refine sg_call (new_tri 16 _ (by omega) (by omega)) rfl rfl (fun c _ => ?_)
  repeat' (first
    | refine sg_wo ?_
    | refine sg_ps (ps_move rfl) rfl ?_
    | refine sg_ps (ps_assign rfl) rfl ?_
    | refine sg_region ?_
    | refine sg_nil ?_
    | refine sg_then ?_
    | refine sg_ps (ps_fieldAddr rfl) rfl ?_
    | refine sg_ps (ps_nilCheck rfl) rfl ?_
    | refine sg_load 0 rfl rfl rfl rfl ?_
    | refine sg_load 1 rfl rfl rfl rfl ?_
    | refine sg_load 2 rfl rfl rfl rfl ?_
    | refine sg_load 3 rfl rfl rfl rfl ?_
    | refine sg_load 4 rfl rfl rfl rfl ?_
    | refine sg_load 5 rfl rfl rfl rfl ?_
    | refine sg_load 6 rfl rfl rfl rfl ?_
    | refine sg_load 7 rfl rfl rfl rfl ?_
    | refine sg_ps (ps_add64 rfl rfl (by omega)) rfl ?_
    | refine sg_ps (ps_sub64 rfl rfl (by omega)) rfl ?_
    | refine sg_ps (ps_mul64 rfl rfl (by omega)) rfl ?_
    | refine sg_ps (ps_bin rfl rfl inferInstance) rfl ?_
    | refine sg_ps (ps_rem rfl rfl (by decide)) rfl ?_
    | refine sg_ps (ps_quo64 rfl rfl (by decide) (by omega)) rfl ?_
    | refine sg_ps (ps_not rfl) rfl ?_
    | refine sg_cond_t rfl ?_
    | refine sg_cond_f rfl ?_
    | refine sg_guard_yes rfl rfl ?_
    | refine sg_guard_nf rfl rfl rfl ?_
    | refine sg_guard_nt rfl rfl rfl ?_
    | refine sg_guard_nu rfl rfl rfl ?_
    | refine sg_ps (ps_pick_t rfl rfl) rfl ?_
    | refine sg_ps (ps_pick_f rfl rfl) rfl ?_
    | refine sg_ps (ps_len rfl) rfl ?_
    | refine sg_ps (ps_len_str rfl) rfl ?_
    | refine sg_ps (ps_extract rfl rfl) rfl ?_
    | refine sg_ps (ps_field rfl rfl) rfl ?_
    | refine sg_ps (ps_min2 rfl rfl) rfl ?_
    | refine sg_ps (ps_max2 rfl rfl) rfl ?_
    | refine sg_ps (ps_build rfl rfl) rfl ?_
    | refine sg_box rfl rfl (fun bx => ?_)
    | refine sg_ps (ps_indexAddr rfl rfl rfl (by omega)) rfl ?_
    | refine sg_ps (ps_indexAddr_arr rfl rfl rfl (by omega)) rfl ?_
    | refine sg_block ?_
    | refine sg_skip ?_
    | refine sg_ret ?_
    | refine sg_exit ?_
    | refine ex_then_ret ?_
    | refine ex_then_exit ?_
    | refine ex_block_ret ?_
    | refine ex_block_normal ?_
    | refine ex_block_hit ?_
    | refine ex_block_miss rfl ?_
    | refine sg_store [] rfl rfl rfl (of_decide_eq_true rfl) ?_
    | refine sg_store [_] rfl rfl rfl (of_decide_eq_true rfl) ?_
    | refine sg_store [_, _] rfl rfl rfl (of_decide_eq_true rfl) ?_
    | refine sg_store [_, _, _] rfl rfl rfl (of_decide_eq_true rfl) ?_
    | refine sg_store [_, _, _, _] rfl rfl rfl (of_decide_eq_true rfl) ?_
    | refine sg_store [_, _, _, _, _] rfl rfl rfl (of_decide_eq_true rfl) ?_
    | refine sg_store [_, _, _, _, _, _] rfl rfl rfl (of_decide_eq_true rfl) ?_
    | refine sg_store [_, _, _, _, _, _, _] rfl rfl rfl (of_decide_eq_true rfl) ?_
    | (refine sg_guard_dec rfl rfl (fun hg => ?_) (fun hg => ?_) <;> first | (exfalso; omega) | (exact absurd rfl hg) | skip)
    | (refine sg_guard_ndec rfl rfl (fun hg => ?_) (fun hg => ?_) <;> first | (exfalso; omega) | (exact absurd rfl hg) | skip)
    | (refine sg_cond_dec rfl (fun hg => ?_) (fun hg => ?_) <;> first | (exfalso; omega) | (exact absurd rfl hg) | skip)
    | (refine sg_cond_ndec rfl (fun hg => ?_) (fun hg => ?_) <;> first | (exfalso; omega) | (exact absurd rfl hg) | skip)
    | refine sg_cond_not rfl (fun hg => ?_) (fun hg => ?_)
    | refine sg_cond rfl (fun hg => ?_) (fun hg => ?_))
  refine sg_seq ?_
  repeat' (first
    | refine sg_wo ?_
    | refine sg_ps (ps_move rfl) rfl ?_
    | refine sg_ps (ps_assign rfl) rfl ?_
    | refine sg_region ?_
    | refine sg_nil ?_
    | refine sg_then ?_
    | refine sg_ps (ps_fieldAddr rfl) rfl ?_
    | refine sg_ps (ps_nilCheck rfl) rfl ?_
    | refine sg_load 0 rfl rfl rfl rfl ?_
    | refine sg_load 1 rfl rfl rfl rfl ?_
    | refine sg_load 2 rfl rfl rfl rfl ?_
    | refine sg_load 3 rfl rfl rfl rfl ?_
    | refine sg_load 4 rfl rfl rfl rfl ?_
    | refine sg_load 5 rfl rfl rfl rfl ?_
    | refine sg_load 6 rfl rfl rfl rfl ?_
    | refine sg_load 7 rfl rfl rfl rfl ?_
    | refine sg_ps (ps_add64 rfl rfl (by omega)) rfl ?_
    | refine sg_ps (ps_sub64 rfl rfl (by omega)) rfl ?_
    | refine sg_ps (ps_mul64 rfl rfl (by omega)) rfl ?_
    | refine sg_ps (ps_bin rfl rfl inferInstance) rfl ?_
    | refine sg_ps (ps_rem rfl rfl (by decide)) rfl ?_
    | refine sg_ps (ps_quo64 rfl rfl (by decide) (by omega)) rfl ?_
    | refine sg_ps (ps_not rfl) rfl ?_
    | refine sg_cond_t rfl ?_
    | refine sg_cond_f rfl ?_
    | refine sg_guard_yes rfl rfl ?_
    | refine sg_guard_nf rfl rfl rfl ?_
    | refine sg_guard_nt rfl rfl rfl ?_
    | refine sg_guard_nu rfl rfl rfl ?_
    | refine sg_ps (ps_pick_t rfl rfl) rfl ?_
    | refine sg_ps (ps_pick_f rfl rfl) rfl ?_
    | refine sg_ps (ps_len rfl) rfl ?_
    | refine sg_ps (ps_len_str rfl) rfl ?_
    | refine sg_ps (ps_extract rfl rfl) rfl ?_
    | refine sg_ps (ps_field rfl rfl) rfl ?_
    | refine sg_ps (ps_min2 rfl rfl) rfl ?_
    | refine sg_ps (ps_max2 rfl rfl) rfl ?_
    | refine sg_ps (ps_build rfl rfl) rfl ?_
    | refine sg_box rfl rfl (fun bx => ?_)
    | refine sg_ps (ps_indexAddr rfl rfl rfl (by omega)) rfl ?_
    | refine sg_ps (ps_indexAddr_arr rfl rfl rfl (by omega)) rfl ?_
    | refine sg_block ?_
    | refine sg_skip ?_
    | refine sg_ret ?_
    | refine sg_exit ?_
    | refine ex_then_ret ?_
    | refine ex_then_exit ?_
    | refine ex_block_ret ?_
    | refine ex_block_normal ?_
    | refine ex_block_hit ?_
    | refine ex_block_miss rfl ?_
    | refine sg_store [] rfl rfl rfl (of_decide_eq_true rfl) ?_
    | refine sg_store [_] rfl rfl rfl (of_decide_eq_true rfl) ?_
    | refine sg_store [_, _] rfl rfl rfl (of_decide_eq_true rfl) ?_
    | refine sg_store [_, _, _] rfl rfl rfl (of_decide_eq_true rfl) ?_
    | refine sg_store [_, _, _, _] rfl rfl rfl (of_decide_eq_true rfl) ?_
    | refine sg_store [_, _, _, _, _] rfl rfl rfl (of_decide_eq_true rfl) ?_
    | refine sg_store [_, _, _, _, _, _] rfl rfl rfl (of_decide_eq_true rfl) ?_
    | refine sg_store [_, _, _, _, _, _, _] rfl rfl rfl (of_decide_eq_true rfl) ?_
    | (refine sg_guard_dec rfl rfl (fun hg => ?_) (fun hg => ?_) <;> first | (exfalso; omega) | (exact absurd rfl hg) | skip)
    | (refine sg_guard_ndec rfl rfl (fun hg => ?_) (fun hg => ?_) <;> first | (exfalso; omega) | (exact absurd rfl hg) | skip)
    | (refine sg_cond_dec rfl (fun hg => ?_) (fun hg => ?_) <;> first | (exfalso; omega) | (exact absurd rfl hg) | skip)
    | (refine sg_cond_ndec rfl (fun hg => ?_) (fun hg => ?_) <;> first | (exfalso; omega) | (exact absurd rfl hg) | skip)
    | refine sg_cond_not rfl (fun hg => ?_) (fun hg => ?_)
    | refine sg_cond rfl (fun hg => ?_) (fun hg => ?_))
  refine sg_seq ?_
  repeat' (first
    | refine sg_wo ?_
    | refine sg_ps (ps_move rfl) rfl ?_
    | refine sg_ps (ps_assign rfl) rfl ?_
    | refine sg_region ?_
    | refine sg_nil ?_
    | refine sg_then ?_
    | refine sg_ps (ps_fieldAddr rfl) rfl ?_
    | refine sg_ps (ps_nilCheck rfl) rfl ?_
    | refine sg_load 0 rfl rfl rfl rfl ?_
    | refine sg_load 1 rfl rfl rfl rfl ?_
    | refine sg_load 2 rfl rfl rfl rfl ?_
    | refine sg_load 3 rfl rfl rfl rfl ?_
    | refine sg_load 4 rfl rfl rfl rfl ?_
    | refine sg_load 5 rfl rfl rfl rfl ?_
    | refine sg_load 6 rfl rfl rfl rfl ?_
    | refine sg_load 7 rfl rfl rfl rfl ?_
    | refine sg_ps (ps_add64 rfl rfl (by omega)) rfl ?_
    | refine sg_ps (ps_sub64 rfl rfl (by omega)) rfl ?_
    | refine sg_ps (ps_mul64 rfl rfl (by omega)) rfl ?_
    | refine sg_ps (ps_bin rfl rfl inferInstance) rfl ?_
    | refine sg_ps (ps_rem rfl rfl (by decide)) rfl ?_
    | refine sg_ps (ps_quo64 rfl rfl (by decide) (by omega)) rfl ?_
    | refine sg_ps (ps_not rfl) rfl ?_
    | refine sg_cond_t rfl ?_
    | refine sg_cond_f rfl ?_
    | refine sg_guard_yes rfl rfl ?_
    | refine sg_guard_nf rfl rfl rfl ?_
    | refine sg_guard_nt rfl rfl rfl ?_
    | refine sg_guard_nu rfl rfl rfl ?_
    | refine sg_ps (ps_pick_t rfl rfl) rfl ?_
    | refine sg_ps (ps_pick_f rfl rfl) rfl ?_
    | refine sg_ps (ps_len rfl) rfl ?_
    | refine sg_ps (ps_len_str rfl) rfl ?_
    | refine sg_ps (ps_extract rfl rfl) rfl ?_
    | refine sg_ps (ps_field rfl rfl) rfl ?_
    | refine sg_ps (ps_min2 rfl rfl) rfl ?_
    | refine sg_ps (ps_max2 rfl rfl) rfl ?_
    | refine sg_ps (ps_build rfl rfl) rfl ?_
    | refine sg_box rfl rfl (fun bx => ?_)
    | refine sg_ps (ps_indexAddr rfl rfl rfl (by omega)) rfl ?_
    | refine sg_ps (ps_indexAddr_arr rfl rfl rfl (by omega)) rfl ?_
    | refine sg_block ?_
    | refine sg_skip ?_
    | refine sg_ret ?_
    | refine sg_exit ?_
    | refine ex_then_ret ?_
    | refine ex_then_exit ?_
    | refine ex_block_ret ?_
    | refine ex_block_normal ?_
    | refine ex_block_hit ?_
    | refine ex_block_miss rfl ?_
    | refine sg_store [] rfl rfl rfl (of_decide_eq_true rfl) ?_
    | refine sg_store [_] rfl rfl rfl (of_decide_eq_true rfl) ?_
    | refine sg_store [_, _] rfl rfl rfl (of_decide_eq_true rfl) ?_
    | refine sg_store [_, _, _] rfl rfl rfl (of_decide_eq_true rfl) ?_
    | refine sg_store [_, _, _, _] rfl rfl rfl (of_decide_eq_true rfl) ?_
    | refine sg_store [_, _, _, _, _] rfl rfl rfl (of_decide_eq_true rfl) ?_
    | refine sg_store [_, _, _, _, _, _] rfl rfl rfl (of_decide_eq_true rfl) ?_
    | refine sg_store [_, _, _, _, _, _, _] rfl rfl rfl (of_decide_eq_true rfl) ?_
    | (refine sg_guard_dec rfl rfl (fun hg => ?_) (fun hg => ?_) <;> first | (exfalso; omega) | (exact absurd rfl hg) | skip)
    | (refine sg_guard_ndec rfl rfl (fun hg => ?_) (fun hg => ?_) <;> first | (exfalso; omega) | (exact absurd rfl hg) | skip)
    | (refine sg_cond_dec rfl (fun hg => ?_) (fun hg => ?_) <;> first | (exfalso; omega) | (exact absurd rfl hg) | skip)
    | (refine sg_cond_ndec rfl (fun hg => ?_) (fun hg => ?_) <;> first | (exfalso; omega) | (exact absurd rfl hg) | skip)
    | refine sg_cond_not rfl (fun hg => ?_) (fun hg => ?_)
    | refine sg_cond rfl (fun hg => ?_) (fun hg => ?_))
  refine sg_seq_mid (γ := DS) (fun S => Calm S ∧ S.wait.length ≤ 100 ∧ S.writes ≤ 100 ∧ S.syncs = 0)
    (fun _ => [(1, .slice qa q.length qc), (5, dp d), (7, dp c)]) (fun S => [DiskRep d S, DiskRep c S, old W]) ?_ ?_
  · skip
    repeat' (first
      | refine sg_wo ?_
      | refine sg_ps (ps_move rfl) rfl ?_
      | refine sg_ps (ps_assign rfl) rfl ?_
      | refine sg_seq ?_
      | refine sg_region ?_
      | refine sg_nil ?_
      | refine sg_then ?_
      | refine sg_ps (ps_fieldAddr rfl) rfl ?_
      | refine sg_ps (ps_nilCheck rfl) rfl ?_
      | refine sg_load 0 rfl rfl rfl rfl ?_
      | refine sg_load 1 rfl rfl rfl rfl ?_
      | refine sg_load 2 rfl rfl rfl rfl ?_
      | refine sg_load 3 rfl rfl rfl rfl ?_
      | refine sg_load 4 rfl rfl rfl rfl ?_
      | refine sg_load 5 rfl rfl rfl rfl ?_
      | refine sg_load 6 rfl rfl rfl rfl ?_
      | refine sg_load 7 rfl rfl rfl rfl ?_
      | refine sg_ps (ps_add64 rfl rfl (by omega)) rfl ?_
      | refine sg_ps (ps_sub64 rfl rfl (by omega)) rfl ?_
      | refine sg_ps (ps_mul64 rfl rfl (by omega)) rfl ?_
      | refine sg_ps (ps_bin rfl rfl inferInstance) rfl ?_
      | refine sg_ps (ps_rem rfl rfl (by decide)) rfl ?_
      | refine sg_ps (ps_quo64 rfl rfl (by decide) (by omega)) rfl ?_
      | refine sg_ps (ps_not rfl) rfl ?_
      | refine sg_cond_t rfl ?_
      | refine sg_cond_f rfl ?_
      | refine sg_guard_yes rfl rfl ?_
      | refine sg_guard_nf rfl rfl rfl ?_
      | refine sg_guard_nt rfl rfl rfl ?_
      | refine sg_guard_nu rfl rfl rfl ?_
      | refine sg_ps (ps_pick_t rfl rfl) rfl ?_
      | refine sg_ps (ps_pick_f rfl rfl) rfl ?_
      | refine sg_ps (ps_len rfl) rfl ?_
      | refine sg_ps (ps_len_str rfl) rfl ?_
      | refine sg_ps (ps_extract rfl rfl) rfl ?_
      | refine sg_ps (ps_field rfl rfl) rfl ?_
      | refine sg_ps (ps_min2 rfl rfl) rfl ?_
      | refine sg_ps (ps_max2 rfl rfl) rfl ?_
      | refine sg_ps (ps_build rfl rfl) rfl ?_
      | refine sg_box rfl rfl (fun bx => ?_)
      | refine sg_ps (ps_indexAddr rfl rfl rfl (by omega)) rfl ?_
      | refine sg_ps (ps_indexAddr_arr rfl rfl rfl (by omega)) rfl ?_
      | refine sg_block ?_
      | refine sg_skip ?_
      | refine sg_ret ?_
      | refine sg_exit ?_
      | refine ex_then_ret ?_
      | refine ex_then_exit ?_
      | refine ex_block_ret ?_
      | refine ex_block_normal ?_
      | refine ex_block_hit ?_
      | refine ex_block_miss rfl ?_
      | refine sg_store [] rfl rfl rfl (of_decide_eq_true rfl) ?_
      | refine sg_store [_] rfl rfl rfl (of_decide_eq_true rfl) ?_
      | refine sg_store [_, _] rfl rfl rfl (of_decide_eq_true rfl) ?_
      | refine sg_store [_, _, _] rfl rfl rfl (of_decide_eq_true rfl) ?_
      | refine sg_store [_, _, _, _] rfl rfl rfl (of_decide_eq_true rfl) ?_
      | refine sg_store [_, _, _, _, _] rfl rfl rfl (of_decide_eq_true rfl) ?_
      | refine sg_store [_, _, _, _, _, _] rfl rfl rfl (of_decide_eq_true rfl) ?_
      | refine sg_store [_, _, _, _, _, _, _] rfl rfl rfl (of_decide_eq_true rfl) ?_
      | (refine sg_guard_dec rfl rfl (fun hg => ?_) (fun hg => ?_) <;> first | (exfalso; omega) | (exact absurd rfl hg) | skip)
      | (refine sg_guard_ndec rfl rfl (fun hg => ?_) (fun hg => ?_) <;> first | (exfalso; omega) | (exact absurd rfl hg) | skip)
      | (refine sg_cond_dec rfl (fun hg => ?_) (fun hg => ?_) <;> first | (exfalso; omega) | (exact absurd rfl hg) | skip)
      | (refine sg_cond_ndec rfl (fun hg => ?_) (fun hg => ?_) <;> first | (exfalso; omega) | (exact absurd rfl hg) | skip)
      | refine sg_cond_not rfl (fun hg => ?_) (fun hg => ?_)
      | refine sg_cond rfl (fun hg => ?_) (fun hg => ?_))
    refine sg_loop (γ := Nat × DS) (fun g => (g.1 ≤ l.length ∧ g.1 ≤ 100 ∧ g.2.wait.length ≤ g.1 ∧ g.2.writes ≤ g.1 ∧ g.2.syncs = 0) ∧ Calm g.2)
      (fun g => [(0, .slice la l.length lc), (1, .slice qa q.length qc), (5, dp d), (7, dp c), (9, i64 g.1)]) (fun g => [DiskRep d g.2, DiskRep c g.2, old W]) (fun g => 100 - g.1) (0, DS.new 16) ⟨⟨Nat.zero_le _, Nat.zero_le _, Nat.le_refl _, Nat.le_refl _, rfl⟩, ⟨rfl, rfl, new_len⟩⟩
      (.cons rfl (.cons rfl (.cons rfl (.cons rfl (.cons rfl .nil))))) (fun w hO => hO.front1) ?_
    rintro ⟨i, S⟩ ⟨hi, hc⟩
    simp only [] at hi hc ⊢
    repeat' (first
      | refine sg_wo ?_
      | refine sg_ps (ps_move rfl) rfl ?_
      | refine sg_ps (ps_assign rfl) rfl ?_
      | refine sg_seq ?_
      | refine sg_region ?_
      | refine sg_nil ?_
      | refine sg_then ?_
      | refine sg_ps (ps_fieldAddr rfl) rfl ?_
      | refine sg_ps (ps_nilCheck rfl) rfl ?_
      | refine sg_load 0 rfl rfl rfl rfl ?_
      | refine sg_load 1 rfl rfl rfl rfl ?_
      | refine sg_load 2 rfl rfl rfl rfl ?_
      | refine sg_load 3 rfl rfl rfl rfl ?_
      | refine sg_load 4 rfl rfl rfl rfl ?_
      | refine sg_load 5 rfl rfl rfl rfl ?_
      | refine sg_load 6 rfl rfl rfl rfl ?_
      | refine sg_load 7 rfl rfl rfl rfl ?_
      | refine sg_ps (ps_add64 rfl rfl (by omega)) rfl ?_
      | refine sg_ps (ps_sub64 rfl rfl (by omega)) rfl ?_
      | refine sg_ps (ps_mul64 rfl rfl (by omega)) rfl ?_
      | refine sg_ps (ps_bin rfl rfl inferInstance) rfl ?_
      | refine sg_ps (ps_rem rfl rfl (by decide)) rfl ?_
      | refine sg_ps (ps_quo64 rfl rfl (by decide) (by omega)) rfl ?_
      | refine sg_ps (ps_not rfl) rfl ?_
      | refine sg_cond_t rfl ?_
      | refine sg_cond_f rfl ?_
      | refine sg_guard_yes rfl rfl ?_
      | refine sg_guard_nf rfl rfl rfl ?_
      | refine sg_guard_nt rfl rfl rfl ?_
      | refine sg_guard_nu rfl rfl rfl ?_
      | refine sg_ps (ps_pick_t rfl rfl) rfl ?_
      | refine sg_ps (ps_pick_f rfl rfl) rfl ?_
      | refine sg_ps (ps_len rfl) rfl ?_
      | refine sg_ps (ps_len_str rfl) rfl ?_
      | refine sg_ps (ps_extract rfl rfl) rfl ?_
      | refine sg_ps (ps_field rfl rfl) rfl ?_
      | refine sg_ps (ps_min2 rfl rfl) rfl ?_
      | refine sg_ps (ps_max2 rfl rfl) rfl ?_
      | refine sg_ps (ps_build rfl rfl) rfl ?_
      | refine sg_box rfl rfl (fun bx => ?_)
      | refine sg_ps (ps_indexAddr rfl rfl rfl (by omega)) rfl ?_
      | refine sg_ps (ps_indexAddr_arr rfl rfl rfl (by omega)) rfl ?_
      | refine sg_block ?_
      | refine sg_skip ?_
      | refine sg_ret ?_
      | refine sg_exit ?_
      | refine ex_then_ret ?_
      | refine ex_then_exit ?_
      | refine ex_block_ret ?_
      | refine ex_block_normal ?_
      | refine ex_block_hit ?_
      | refine ex_block_miss rfl ?_
      | refine sg_store [] rfl rfl rfl (of_decide_eq_true rfl) ?_
      | refine sg_store [_] rfl rfl rfl (of_decide_eq_true rfl) ?_
      | refine sg_store [_, _] rfl rfl rfl (of_decide_eq_true rfl) ?_
      | refine sg_store [_, _, _] rfl rfl rfl (of_decide_eq_true rfl) ?_
      | refine sg_store [_, _, _, _] rfl rfl rfl (of_decide_eq_true rfl) ?_
      | refine sg_store [_, _, _, _, _] rfl rfl rfl (of_decide_eq_true rfl) ?_
      | refine sg_store [_, _, _, _, _, _] rfl rfl rfl (of_decide_eq_true rfl) ?_
      | refine sg_store [_, _, _, _, _, _, _] rfl rfl rfl (of_decide_eq_true rfl) ?_
      | (refine sg_guard_dec rfl rfl (fun hg => ?_) (fun hg => ?_) <;> first | (exfalso; omega) | (exact absurd rfl hg) | skip)
      | (refine sg_guard_ndec rfl rfl (fun hg => ?_) (fun hg => ?_) <;> first | (exfalso; omega) | (exact absurd rfl hg) | skip)
      | (refine sg_cond_dec rfl (fun hg => ?_) (fun hg => ?_) <;> first | (exfalso; omega) | (exact absurd rfl hg) | skip)
      | (refine sg_cond_ndec rfl (fun hg => ?_) (fun hg => ?_) <;> first | (exfalso; omega) | (exact absurd rfl hg) | skip)
      | refine sg_cond_not rfl (fun hg => ?_) (fun hg => ?_)
      | refine sg_cond rfl (fun hg => ?_) (fun hg => ?_))
    · obtain ⟨lb, lo, rfl⟩ := hp (by omega)
      obtain ⟨bb, oa, bc, oc, hb1, hb2, hb3, hb4, r0, r1, r2⟩ := hl i (by omega) lb lo rfl
      refine sg_drawK [old W] [0, 1, 2, 3, 4, 6, 7, 8, 9, 12, 13, 14, 15, 16, 18, 19, 20, 21, 5, 10, 17, 22, 11, 23, 24] (by kernel_rfl) (by kernel_rfl) (fun w hO => hO.tail.tail) ?_
      repeat' (first
        | refine sk_nil ?_
        | refine sk_pure rfl rfl (ps_move rfl) rfl ?_
        | refine sk_pure rfl rfl (ps_assign rfl) rfl ?_
        | refine sk_pure rfl rfl (ps_nilCheck rfl) rfl ?_
        | refine sk_pure rfl rfl (ps_fieldAddr rfl) rfl ?_
        | refine sk_pure rfl rfl (ps_add64 rfl rfl (by omega)) rfl ?_
        | refine sk_pure rfl rfl (ps_sub64 rfl rfl (by omega)) rfl ?_
        | refine sk_pure rfl rfl (ps_bin rfl rfl inferInstance) rfl ?_
        | refine sk_pure rfl rfl (ps_rem rfl rfl (by decide)) rfl ?_
        | refine sk_pure rfl rfl (ps_not rfl) rfl ?_
        | refine sk_pure rfl rfl (ps_len rfl) rfl ?_
        | refine sk_pure rfl rfl (ps_len_str rfl) rfl ?_
        | refine sk_pure rfl rfl (ps_extract rfl rfl) rfl ?_
        | refine sk_pure rfl rfl (ps_field rfl rfl) rfl ?_
        | refine sk_pure rfl rfl (ps_indexAddr rfl rfl rfl (by omega)) rfl ?_
        | refine sk_pure rfl rfl (ps_pick_t rfl rfl) rfl ?_
        | refine sk_pure rfl rfl (ps_pick_f rfl rfl) rfl ?_
        | refine sk_pure rfl rfl (ps_min2 rfl rfl) rfl ?_
        | refine sk_pure rfl rfl (ps_max2 rfl rfl) rfl ?_
        | refine sk_pure rfl rfl (ps_indexAddr_arr rfl rfl rfl (by omega)) rfl ?_
        | refine sk_no rfl rfl rfl rfl rfl ?_
        | refine sk_pure_g rfl rfl rfl rfl (ps_move rfl) rfl ?_
        | refine sk_pure_g rfl rfl rfl rfl (ps_assign rfl) rfl ?_
        | refine sk_pure_g rfl rfl rfl rfl (ps_nilCheck rfl) rfl ?_
        | refine sk_pure_g rfl rfl rfl rfl (ps_fieldAddr rfl) rfl ?_
        | refine sk_pure_g rfl rfl rfl rfl (ps_add64 rfl rfl (by omega)) rfl ?_
        | refine sk_pure_g rfl rfl rfl rfl (ps_sub64 rfl rfl (by omega)) rfl ?_
        | refine sk_pure_g rfl rfl rfl rfl (ps_bin rfl rfl inferInstance) rfl ?_
        | refine sk_pure_g rfl rfl rfl rfl (ps_rem rfl rfl (by decide)) rfl ?_
        | refine sk_pure_g rfl rfl rfl rfl (ps_not rfl) rfl ?_
        | refine sk_pure_g rfl rfl rfl rfl (ps_len rfl) rfl ?_
        | refine sk_pure_g rfl rfl rfl rfl (ps_len_str rfl) rfl ?_
        | refine sk_pure_g rfl rfl rfl rfl (ps_extract rfl rfl) rfl ?_
        | refine sk_pure_g rfl rfl rfl rfl (ps_field rfl rfl) rfl ?_
        | refine sk_pure_g rfl rfl rfl rfl (ps_indexAddr rfl rfl rfl (by omega)) rfl ?_
        | refine sk_pure_g rfl rfl rfl rfl (ps_pick_t rfl rfl) rfl ?_
        | refine sk_pure_g rfl rfl rfl rfl (ps_pick_f rfl rfl) rfl ?_
        | refine sk_pure_g rfl rfl rfl rfl (ps_min2 rfl rfl) rfl ?_
        | refine sk_pure_g rfl rfl rfl rfl (ps_max2 rfl rfl) rfl ?_
        | refine sk_pure_g rfl rfl rfl rfl (ps_indexAddr_arr rfl rfl rfl (by omega)) rfl ?_
        | refine sk_load_rd rfl rfl ((rdo_part r0 (i := 0) rfl).rd 0 rfl) rfl ?_
        | refine sk_load_rd rfl rfl ((rdo_part r0 (i := 1) rfl).rd 0 rfl) rfl ?_
        | refine sk_load_rd rfl rfl ((rdo_part r0 (i := 2) rfl).rd 0 rfl) rfl ?_
        | refine sk_load_rd rfl rfl ((rdo_part r0 (i := 3) rfl).rd 0 rfl) rfl ?_
        | refine sk_eff rfl rfl ?_
        | refine sg_store [] rfl rfl rfl (of_decide_eq_true rfl) ?_
        | refine sg_store [_] rfl rfl rfl (of_decide_eq_true rfl) ?_
        | refine sg_store [_, _] rfl rfl rfl (of_decide_eq_true rfl) ?_
        | refine sg_store [_, _, _] rfl rfl rfl (of_decide_eq_true rfl) ?_
        | refine sg_store [_, _, _, _] rfl rfl rfl (of_decide_eq_true rfl) ?_
        | refine sg_store [_, _, _, _, _] rfl rfl rfl (of_decide_eq_true rfl) ?_
        | refine sg_store [_, _, _, _, _, _] rfl rfl rfl (of_decide_eq_true rfl) ?_
        | refine sg_store [_, _, _, _, _, _, _] rfl rfl rfl (of_decide_eq_true rfl) ?_)
      have hd1 := write_tri (W := W) d S l[i].2.1 l[i].2.2.1 bb bc [DiskRep c S, old W] (by omega) (by omega) (r1.rd 1 rfl) (by omega)
      have hd2 := fun S' => write_tri (W := W) c S l[i].2.1 l[i].2.2.1 bb bc [DiskRep d S', old W] (by omega) (by omega) (r1.rd 1 rfl) (by omega)
      rcases hc.write l[i].2.1 l[i].2.2.1 with ⟨_, _, hw, hk⟩ | hw
      · rw [hw] at hd1 hd2
        refine sg_call hd1 rfl rfl (fun _ _ => ?_)
        refine sk_back (fun w hO => hO.tail.tail) ?_
        repeat' (first
          | refine sk_nil ?_
          | refine sk_pure rfl rfl (ps_move rfl) rfl ?_
          | refine sk_pure rfl rfl (ps_assign rfl) rfl ?_
          | refine sk_pure rfl rfl (ps_nilCheck rfl) rfl ?_
          | refine sk_pure rfl rfl (ps_fieldAddr rfl) rfl ?_
          | refine sk_pure rfl rfl (ps_add64 rfl rfl (by omega)) rfl ?_
          | refine sk_pure rfl rfl (ps_sub64 rfl rfl (by omega)) rfl ?_
          | refine sk_pure rfl rfl (ps_bin rfl rfl inferInstance) rfl ?_
          | refine sk_pure rfl rfl (ps_rem rfl rfl (by decide)) rfl ?_
          | refine sk_pure rfl rfl (ps_not rfl) rfl ?_
          | refine sk_pure rfl rfl (ps_len rfl) rfl ?_
          | refine sk_pure rfl rfl (ps_len_str rfl) rfl ?_
          | refine sk_pure rfl rfl (ps_extract rfl rfl) rfl ?_
          | refine sk_pure rfl rfl (ps_field rfl rfl) rfl ?_
          | refine sk_pure rfl rfl (ps_indexAddr rfl rfl rfl (by omega)) rfl ?_
          | refine sk_pure rfl rfl (ps_pick_t rfl rfl) rfl ?_
          | refine sk_pure rfl rfl (ps_pick_f rfl rfl) rfl ?_
          | refine sk_pure rfl rfl (ps_min2 rfl rfl) rfl ?_
          | refine sk_pure rfl rfl (ps_max2 rfl rfl) rfl ?_
          | refine sk_pure rfl rfl (ps_indexAddr_arr rfl rfl rfl (by omega)) rfl ?_
          | refine sk_no rfl rfl rfl rfl rfl ?_
          | refine sk_pure_g rfl rfl rfl rfl (ps_move rfl) rfl ?_
          | refine sk_pure_g rfl rfl rfl rfl (ps_assign rfl) rfl ?_
          | refine sk_pure_g rfl rfl rfl rfl (ps_nilCheck rfl) rfl ?_
          | refine sk_pure_g rfl rfl rfl rfl (ps_fieldAddr rfl) rfl ?_
          | refine sk_pure_g rfl rfl rfl rfl (ps_add64 rfl rfl (by omega)) rfl ?_
          | refine sk_pure_g rfl rfl rfl rfl (ps_sub64 rfl rfl (by omega)) rfl ?_
          | refine sk_pure_g rfl rfl rfl rfl (ps_bin rfl rfl inferInstance) rfl ?_
          | refine sk_pure_g rfl rfl rfl rfl (ps_rem rfl rfl (by decide)) rfl ?_
          | refine sk_pure_g rfl rfl rfl rfl (ps_not rfl) rfl ?_
          | refine sk_pure_g rfl rfl rfl rfl (ps_len rfl) rfl ?_
          | refine sk_pure_g rfl rfl rfl rfl (ps_len_str rfl) rfl ?_
          | refine sk_pure_g rfl rfl rfl rfl (ps_extract rfl rfl) rfl ?_
          | refine sk_pure_g rfl rfl rfl rfl (ps_field rfl rfl) rfl ?_
          | refine sk_pure_g rfl rfl rfl rfl (ps_indexAddr rfl rfl rfl (by omega)) rfl ?_
          | refine sk_pure_g rfl rfl rfl rfl (ps_pick_t rfl rfl) rfl ?_
          | refine sk_pure_g rfl rfl rfl rfl (ps_pick_f rfl rfl) rfl ?_
          | refine sk_pure_g rfl rfl rfl rfl (ps_min2 rfl rfl) rfl ?_
          | refine sk_pure_g rfl rfl rfl rfl (ps_max2 rfl rfl) rfl ?_
          | refine sk_pure_g rfl rfl rfl rfl (ps_indexAddr_arr rfl rfl rfl (by omega)) rfl ?_
          | refine sk_load_rd rfl rfl ((rdo_part r0 (i := 0) rfl).rd 0 rfl) rfl ?_
          | refine sk_load_rd rfl rfl ((rdo_part r0 (i := 1) rfl).rd 0 rfl) rfl ?_
          | refine sk_load_rd rfl rfl ((rdo_part r0 (i := 2) rfl).rd 0 rfl) rfl ?_
          | refine sk_load_rd rfl rfl ((rdo_part r0 (i := 3) rfl).rd 0 rfl) rfl ?_
          | refine sk_eff rfl rfl ?_
          | refine sg_store [] rfl rfl rfl (of_decide_eq_true rfl) ?_
          | refine sg_store [_] rfl rfl rfl (of_decide_eq_true rfl) ?_
          | refine sg_store [_, _] rfl rfl rfl (of_decide_eq_true rfl) ?_
          | refine sg_store [_, _, _] rfl rfl rfl (of_decide_eq_true rfl) ?_
          | refine sg_store [_, _, _, _] rfl rfl rfl (of_decide_eq_true rfl) ?_
          | refine sg_store [_, _, _, _, _] rfl rfl rfl (of_decide_eq_true rfl) ?_
          | refine sg_store [_, _, _, _, _, _] rfl rfl rfl (of_decide_eq_true rfl) ?_
          | refine sg_store [_, _, _, _, _, _, _] rfl rfl rfl (of_decide_eq_true rfl) ?_)
        refine sg_front1 ?_
        refine sg_call (hd2 _) rfl rfl (fun _ _ => ?_)
        refine sk_back (fun w hO => hO.tail.tail) ?_
        have hpl : (S.put l[i].2.1.toNat l[i].2.2.1).wait.length = S.wait.length + 1 := by simp [DS.put]
        have hpw : (S.put l[i].2.1.toNat l[i].2.2.1).writes = S.writes + 1 ∧ (S.put l[i].2.1.toNat l[i].2.2.1).syncs = S.syncs := ⟨rfl, rfl⟩
        repeat' (first
          | refine sk_nil ?_
          | refine sk_pure rfl rfl (ps_move rfl) rfl ?_
          | refine sk_pure rfl rfl (ps_assign rfl) rfl ?_
          | refine sk_pure rfl rfl (ps_nilCheck rfl) rfl ?_
          | refine sk_pure rfl rfl (ps_fieldAddr rfl) rfl ?_
          | refine sk_pure rfl rfl (ps_add64 rfl rfl (by omega)) rfl ?_
          | refine sk_pure rfl rfl (ps_sub64 rfl rfl (by omega)) rfl ?_
          | refine sk_pure rfl rfl (ps_bin rfl rfl inferInstance) rfl ?_
          | refine sk_pure rfl rfl (ps_rem rfl rfl (by decide)) rfl ?_
          | refine sk_pure rfl rfl (ps_not rfl) rfl ?_
          | refine sk_pure rfl rfl (ps_len rfl) rfl ?_
          | refine sk_pure rfl rfl (ps_len_str rfl) rfl ?_
          | refine sk_pure rfl rfl (ps_extract rfl rfl) rfl ?_
          | refine sk_pure rfl rfl (ps_field rfl rfl) rfl ?_
          | refine sk_pure rfl rfl (ps_indexAddr rfl rfl rfl (by omega)) rfl ?_
          | refine sk_pure rfl rfl (ps_pick_t rfl rfl) rfl ?_
          | refine sk_pure rfl rfl (ps_pick_f rfl rfl) rfl ?_
          | refine sk_pure rfl rfl (ps_min2 rfl rfl) rfl ?_
          | refine sk_pure rfl rfl (ps_max2 rfl rfl) rfl ?_
          | refine sk_pure rfl rfl (ps_indexAddr_arr rfl rfl rfl (by omega)) rfl ?_
          | refine sk_no rfl rfl rfl rfl rfl ?_
          | refine sk_pure_g rfl rfl rfl rfl (ps_move rfl) rfl ?_
          | refine sk_pure_g rfl rfl rfl rfl (ps_assign rfl) rfl ?_
          | refine sk_pure_g rfl rfl rfl rfl (ps_nilCheck rfl) rfl ?_
          | refine sk_pure_g rfl rfl rfl rfl (ps_fieldAddr rfl) rfl ?_
          | refine sk_pure_g rfl rfl rfl rfl (ps_add64 rfl rfl (by omega)) rfl ?_
          | refine sk_pure_g rfl rfl rfl rfl (ps_sub64 rfl rfl (by omega)) rfl ?_
          | refine sk_pure_g rfl rfl rfl rfl (ps_bin rfl rfl inferInstance) rfl ?_
          | refine sk_pure_g rfl rfl rfl rfl (ps_rem rfl rfl (by decide)) rfl ?_
          | refine sk_pure_g rfl rfl rfl rfl (ps_not rfl) rfl ?_
          | refine sk_pure_g rfl rfl rfl rfl (ps_len rfl) rfl ?_
          | refine sk_pure_g rfl rfl rfl rfl (ps_len_str rfl) rfl ?_
          | refine sk_pure_g rfl rfl rfl rfl (ps_extract rfl rfl) rfl ?_
          | refine sk_pure_g rfl rfl rfl rfl (ps_field rfl rfl) rfl ?_
          | refine sk_pure_g rfl rfl rfl rfl (ps_indexAddr rfl rfl rfl (by omega)) rfl ?_
          | refine sk_pure_g rfl rfl rfl rfl (ps_pick_t rfl rfl) rfl ?_
          | refine sk_pure_g rfl rfl rfl rfl (ps_pick_f rfl rfl) rfl ?_
          | refine sk_pure_g rfl rfl rfl rfl (ps_min2 rfl rfl) rfl ?_
          | refine sk_pure_g rfl rfl rfl rfl (ps_max2 rfl rfl) rfl ?_
          | refine sk_pure_g rfl rfl rfl rfl (ps_indexAddr_arr rfl rfl rfl (by omega)) rfl ?_
          | refine sk_load_rd rfl rfl ((rdo_part r0 (i := 0) rfl).rd 0 rfl) rfl ?_
          | refine sk_load_rd rfl rfl ((rdo_part r0 (i := 1) rfl).rd 0 rfl) rfl ?_
          | refine sk_load_rd rfl rfl ((rdo_part r0 (i := 2) rfl).rd 0 rfl) rfl ?_
          | refine sk_load_rd rfl rfl ((rdo_part r0 (i := 3) rfl).rd 0 rfl) rfl ?_
          | refine sk_eff rfl rfl ?_
          | refine sg_store [] rfl rfl rfl (of_decide_eq_true rfl) ?_
          | refine sg_store [_] rfl rfl rfl (of_decide_eq_true rfl) ?_
          | refine sg_store [_, _] rfl rfl rfl (of_decide_eq_true rfl) ?_
          | refine sg_store [_, _, _] rfl rfl rfl (of_decide_eq_true rfl) ?_
          | refine sg_store [_, _, _, _] rfl rfl rfl (of_decide_eq_true rfl) ?_
          | refine sg_store [_, _, _, _, _] rfl rfl rfl (of_decide_eq_true rfl) ?_
          | refine sg_store [_, _, _, _, _, _] rfl rfl rfl (of_decide_eq_true rfl) ?_
          | refine sg_store [_, _, _, _, _, _, _] rfl rfl rfl (of_decide_eq_true rfl) ?_)
        repeat' (first
          | refine sg_wo ?_
          | refine sg_ps (ps_move rfl) rfl ?_
          | refine sg_ps (ps_assign rfl) rfl ?_
          | refine sg_seq ?_
          | refine sg_region ?_
          | refine sg_nil ?_
          | refine sg_then ?_
          | refine sg_ps (ps_fieldAddr rfl) rfl ?_
          | refine sg_ps (ps_nilCheck rfl) rfl ?_
          | refine sg_load 0 rfl rfl rfl rfl ?_
          | refine sg_load 1 rfl rfl rfl rfl ?_
          | refine sg_load 2 rfl rfl rfl rfl ?_
          | refine sg_load 3 rfl rfl rfl rfl ?_
          | refine sg_load 4 rfl rfl rfl rfl ?_
          | refine sg_load 5 rfl rfl rfl rfl ?_
          | refine sg_load 6 rfl rfl rfl rfl ?_
          | refine sg_load 7 rfl rfl rfl rfl ?_
          | refine sg_ps (ps_add64 rfl rfl (by omega)) rfl ?_
          | refine sg_ps (ps_sub64 rfl rfl (by omega)) rfl ?_
          | refine sg_ps (ps_mul64 rfl rfl (by omega)) rfl ?_
          | refine sg_ps (ps_bin rfl rfl inferInstance) rfl ?_
          | refine sg_ps (ps_rem rfl rfl (by decide)) rfl ?_
          | refine sg_ps (ps_quo64 rfl rfl (by decide) (by omega)) rfl ?_
          | refine sg_ps (ps_not rfl) rfl ?_
          | refine sg_cond_t rfl ?_
          | refine sg_cond_f rfl ?_
          | refine sg_guard_yes rfl rfl ?_
          | refine sg_guard_nf rfl rfl rfl ?_
          | refine sg_guard_nt rfl rfl rfl ?_
          | refine sg_guard_nu rfl rfl rfl ?_
          | refine sg_ps (ps_pick_t rfl rfl) rfl ?_
          | refine sg_ps (ps_pick_f rfl rfl) rfl ?_
          | refine sg_ps (ps_len rfl) rfl ?_
          | refine sg_ps (ps_len_str rfl) rfl ?_
          | refine sg_ps (ps_extract rfl rfl) rfl ?_
          | refine sg_ps (ps_field rfl rfl) rfl ?_
          | refine sg_ps (ps_min2 rfl rfl) rfl ?_
          | refine sg_ps (ps_max2 rfl rfl) rfl ?_
          | refine sg_ps (ps_build rfl rfl) rfl ?_
          | refine sg_box rfl rfl (fun bx => ?_)
          | refine sg_ps (ps_indexAddr rfl rfl rfl (by omega)) rfl ?_
          | refine sg_ps (ps_indexAddr_arr rfl rfl rfl (by omega)) rfl ?_
          | refine sg_block ?_
          | refine sg_skip ?_
          | refine sg_ret ?_
          | refine sg_exit ?_
          | refine ex_then_ret ?_
          | refine ex_then_exit ?_
          | refine ex_block_ret ?_
          | refine ex_block_normal ?_
          | refine ex_block_hit ?_
          | refine ex_block_miss rfl ?_
          | refine sg_store [] rfl rfl rfl (of_decide_eq_true rfl) ?_
          | refine sg_store [_] rfl rfl rfl (of_decide_eq_true rfl) ?_
          | refine sg_store [_, _] rfl rfl rfl (of_decide_eq_true rfl) ?_
          | refine sg_store [_, _, _] rfl rfl rfl (of_decide_eq_true rfl) ?_
          | refine sg_store [_, _, _, _] rfl rfl rfl (of_decide_eq_true rfl) ?_
          | refine sg_store [_, _, _, _, _] rfl rfl rfl (of_decide_eq_true rfl) ?_
          | refine sg_store [_, _, _, _, _, _] rfl rfl rfl (of_decide_eq_true rfl) ?_
          | refine sg_store [_, _, _, _, _, _, _] rfl rfl rfl (of_decide_eq_true rfl) ?_
          | (refine sg_guard_dec rfl rfl (fun hg => ?_) (fun hg => ?_) <;> first | (exfalso; omega) | (exact absurd rfl hg) | skip)
          | (refine sg_guard_ndec rfl rfl (fun hg => ?_) (fun hg => ?_) <;> first | (exfalso; omega) | (exact absurd rfl hg) | skip)
          | (refine sg_cond_dec rfl (fun hg => ?_) (fun hg => ?_) <;> first | (exfalso; omega) | (exact absurd rfl hg) | skip)
          | (refine sg_cond_ndec rfl (fun hg => ?_) (fun hg => ?_) <;> first | (exfalso; omega) | (exact absurd rfl hg) | skip)
          | refine sg_cond_not rfl (fun hg => ?_) (fun hg => ?_)
          | refine sg_cond rfl (fun hg => ?_) (fun hg => ?_))
        exact ex_mid (i + 1, S.put l[i].2.1.toNat l[i].2.2.1) ⟨by simp only []; omega, ⟨by simp only []; omega, by simp only []; omega, by simp only []; omega, by simp only []; omega, by simp only []; omega⟩, hc.put _ _⟩ (.cons rfl (.cons rfl (.cons rfl (.cons rfl (.cons rfl .nil))))) (fun w hO => hO.front1)
      · rw [hw] at hd1 hd2
        refine sg_call hd1 rfl rfl (fun _ _ => ?_)
        refine sk_back (fun w hO => hO.tail.tail) ?_
        repeat' (first
          | refine sk_nil ?_
          | refine sk_pure rfl rfl (ps_move rfl) rfl ?_
          | refine sk_pure rfl rfl (ps_assign rfl) rfl ?_
          | refine sk_pure rfl rfl (ps_nilCheck rfl) rfl ?_
          | refine sk_pure rfl rfl (ps_fieldAddr rfl) rfl ?_
          | refine sk_pure rfl rfl (ps_add64 rfl rfl (by omega)) rfl ?_
          | refine sk_pure rfl rfl (ps_sub64 rfl rfl (by omega)) rfl ?_
          | refine sk_pure rfl rfl (ps_bin rfl rfl inferInstance) rfl ?_
          | refine sk_pure rfl rfl (ps_rem rfl rfl (by decide)) rfl ?_
          | refine sk_pure rfl rfl (ps_not rfl) rfl ?_
          | refine sk_pure rfl rfl (ps_len rfl) rfl ?_
          | refine sk_pure rfl rfl (ps_len_str rfl) rfl ?_
          | refine sk_pure rfl rfl (ps_extract rfl rfl) rfl ?_
          | refine sk_pure rfl rfl (ps_field rfl rfl) rfl ?_
          | refine sk_pure rfl rfl (ps_indexAddr rfl rfl rfl (by omega)) rfl ?_
          | refine sk_pure rfl rfl (ps_pick_t rfl rfl) rfl ?_
          | refine sk_pure rfl rfl (ps_pick_f rfl rfl) rfl ?_
          | refine sk_pure rfl rfl (ps_min2 rfl rfl) rfl ?_
          | refine sk_pure rfl rfl (ps_max2 rfl rfl) rfl ?_
          | refine sk_pure rfl rfl (ps_indexAddr_arr rfl rfl rfl (by omega)) rfl ?_
          | refine sk_no rfl rfl rfl rfl rfl ?_
          | refine sk_pure_g rfl rfl rfl rfl (ps_move rfl) rfl ?_
          | refine sk_pure_g rfl rfl rfl rfl (ps_assign rfl) rfl ?_
          | refine sk_pure_g rfl rfl rfl rfl (ps_nilCheck rfl) rfl ?_
          | refine sk_pure_g rfl rfl rfl rfl (ps_fieldAddr rfl) rfl ?_
          | refine sk_pure_g rfl rfl rfl rfl (ps_add64 rfl rfl (by omega)) rfl ?_
          | refine sk_pure_g rfl rfl rfl rfl (ps_sub64 rfl rfl (by omega)) rfl ?_
          | refine sk_pure_g rfl rfl rfl rfl (ps_bin rfl rfl inferInstance) rfl ?_
          | refine sk_pure_g rfl rfl rfl rfl (ps_rem rfl rfl (by decide)) rfl ?_
          | refine sk_pure_g rfl rfl rfl rfl (ps_not rfl) rfl ?_
          | refine sk_pure_g rfl rfl rfl rfl (ps_len rfl) rfl ?_
          | refine sk_pure_g rfl rfl rfl rfl (ps_len_str rfl) rfl ?_
          | refine sk_pure_g rfl rfl rfl rfl (ps_extract rfl rfl) rfl ?_
          | refine sk_pure_g rfl rfl rfl rfl (ps_field rfl rfl) rfl ?_
          | refine sk_pure_g rfl rfl rfl rfl (ps_indexAddr rfl rfl rfl (by omega)) rfl ?_
          | refine sk_pure_g rfl rfl rfl rfl (ps_pick_t rfl rfl) rfl ?_
          | refine sk_pure_g rfl rfl rfl rfl (ps_pick_f rfl rfl) rfl ?_
          | refine sk_pure_g rfl rfl rfl rfl (ps_min2 rfl rfl) rfl ?_
          | refine sk_pure_g rfl rfl rfl rfl (ps_max2 rfl rfl) rfl ?_
          | refine sk_pure_g rfl rfl rfl rfl (ps_indexAddr_arr rfl rfl rfl (by omega)) rfl ?_
          | refine sk_load_rd rfl rfl ((rdo_part r0 (i := 0) rfl).rd 0 rfl) rfl ?_
          | refine sk_load_rd rfl rfl ((rdo_part r0 (i := 1) rfl).rd 0 rfl) rfl ?_
          | refine sk_load_rd rfl rfl ((rdo_part r0 (i := 2) rfl).rd 0 rfl) rfl ?_
          | refine sk_load_rd rfl rfl ((rdo_part r0 (i := 3) rfl).rd 0 rfl) rfl ?_
          | refine sk_eff rfl rfl ?_
          | refine sg_store [] rfl rfl rfl (of_decide_eq_true rfl) ?_
          | refine sg_store [_] rfl rfl rfl (of_decide_eq_true rfl) ?_
          | refine sg_store [_, _] rfl rfl rfl (of_decide_eq_true rfl) ?_
          | refine sg_store [_, _, _] rfl rfl rfl (of_decide_eq_true rfl) ?_
          | refine sg_store [_, _, _, _] rfl rfl rfl (of_decide_eq_true rfl) ?_
          | refine sg_store [_, _, _, _, _] rfl rfl rfl (of_decide_eq_true rfl) ?_
          | refine sg_store [_, _, _, _, _, _] rfl rfl rfl (of_decide_eq_true rfl) ?_
          | refine sg_store [_, _, _, _, _, _, _] rfl rfl rfl (of_decide_eq_true rfl) ?_)
        refine sg_front1 ?_
        refine sg_call (hd2 _) rfl rfl (fun _ _ => ?_)
        refine sk_back (fun w hO => hO.tail.tail) ?_
        repeat' (first
          | refine sk_nil ?_
          | refine sk_pure rfl rfl (ps_move rfl) rfl ?_
          | refine sk_pure rfl rfl (ps_assign rfl) rfl ?_
          | refine sk_pure rfl rfl (ps_nilCheck rfl) rfl ?_
          | refine sk_pure rfl rfl (ps_fieldAddr rfl) rfl ?_
          | refine sk_pure rfl rfl (ps_add64 rfl rfl (by omega)) rfl ?_
          | refine sk_pure rfl rfl (ps_sub64 rfl rfl (by omega)) rfl ?_
          | refine sk_pure rfl rfl (ps_bin rfl rfl inferInstance) rfl ?_
          | refine sk_pure rfl rfl (ps_rem rfl rfl (by decide)) rfl ?_
          | refine sk_pure rfl rfl (ps_not rfl) rfl ?_
          | refine sk_pure rfl rfl (ps_len rfl) rfl ?_
          | refine sk_pure rfl rfl (ps_len_str rfl) rfl ?_
          | refine sk_pure rfl rfl (ps_extract rfl rfl) rfl ?_
          | refine sk_pure rfl rfl (ps_field rfl rfl) rfl ?_
          | refine sk_pure rfl rfl (ps_indexAddr rfl rfl rfl (by omega)) rfl ?_
          | refine sk_pure rfl rfl (ps_pick_t rfl rfl) rfl ?_
          | refine sk_pure rfl rfl (ps_pick_f rfl rfl) rfl ?_
          | refine sk_pure rfl rfl (ps_min2 rfl rfl) rfl ?_
          | refine sk_pure rfl rfl (ps_max2 rfl rfl) rfl ?_
          | refine sk_pure rfl rfl (ps_indexAddr_arr rfl rfl rfl (by omega)) rfl ?_
          | refine sk_no rfl rfl rfl rfl rfl ?_
          | refine sk_pure_g rfl rfl rfl rfl (ps_move rfl) rfl ?_
          | refine sk_pure_g rfl rfl rfl rfl (ps_assign rfl) rfl ?_
          | refine sk_pure_g rfl rfl rfl rfl (ps_nilCheck rfl) rfl ?_
          | refine sk_pure_g rfl rfl rfl rfl (ps_fieldAddr rfl) rfl ?_
          | refine sk_pure_g rfl rfl rfl rfl (ps_add64 rfl rfl (by omega)) rfl ?_
          | refine sk_pure_g rfl rfl rfl rfl (ps_sub64 rfl rfl (by omega)) rfl ?_
          | refine sk_pure_g rfl rfl rfl rfl (ps_bin rfl rfl inferInstance) rfl ?_
          | refine sk_pure_g rfl rfl rfl rfl (ps_rem rfl rfl (by decide)) rfl ?_
          | refine sk_pure_g rfl rfl rfl rfl (ps_not rfl) rfl ?_
          | refine sk_pure_g rfl rfl rfl rfl (ps_len rfl) rfl ?_
          | refine sk_pure_g rfl rfl rfl rfl (ps_len_str rfl) rfl ?_
          | refine sk_pure_g rfl rfl rfl rfl (ps_extract rfl rfl) rfl ?_
          | refine sk_pure_g rfl rfl rfl rfl (ps_field rfl rfl) rfl ?_
          | refine sk_pure_g rfl rfl rfl rfl (ps_indexAddr rfl rfl rfl (by omega)) rfl ?_
          | refine sk_pure_g rfl rfl rfl rfl (ps_pick_t rfl rfl) rfl ?_
          | refine sk_pure_g rfl rfl rfl rfl (ps_pick_f rfl rfl) rfl ?_
          | refine sk_pure_g rfl rfl rfl rfl (ps_min2 rfl rfl) rfl ?_
          | refine sk_pure_g rfl rfl rfl rfl (ps_max2 rfl rfl) rfl ?_
          | refine sk_pure_g rfl rfl rfl rfl (ps_indexAddr_arr rfl rfl rfl (by omega)) rfl ?_
          | refine sk_load_rd rfl rfl ((rdo_part r0 (i := 0) rfl).rd 0 rfl) rfl ?_
          | refine sk_load_rd rfl rfl ((rdo_part r0 (i := 1) rfl).rd 0 rfl) rfl ?_
          | refine sk_load_rd rfl rfl ((rdo_part r0 (i := 2) rfl).rd 0 rfl) rfl ?_
          | refine sk_load_rd rfl rfl ((rdo_part r0 (i := 3) rfl).rd 0 rfl) rfl ?_
          | refine sk_eff rfl rfl ?_
          | refine sg_store [] rfl rfl rfl (of_decide_eq_true rfl) ?_
          | refine sg_store [_] rfl rfl rfl (of_decide_eq_true rfl) ?_
          | refine sg_store [_, _] rfl rfl rfl (of_decide_eq_true rfl) ?_
          | refine sg_store [_, _, _] rfl rfl rfl (of_decide_eq_true rfl) ?_
          | refine sg_store [_, _, _, _] rfl rfl rfl (of_decide_eq_true rfl) ?_
          | refine sg_store [_, _, _, _, _] rfl rfl rfl (of_decide_eq_true rfl) ?_
          | refine sg_store [_, _, _, _, _, _] rfl rfl rfl (of_decide_eq_true rfl) ?_
          | refine sg_store [_, _, _, _, _, _, _] rfl rfl rfl (of_decide_eq_true rfl) ?_)
        repeat' (first
          | refine sg_wo ?_
          | refine sg_ps (ps_move rfl) rfl ?_
          | refine sg_ps (ps_assign rfl) rfl ?_
          | refine sg_seq ?_
          | refine sg_region ?_
          | refine sg_nil ?_
          | refine sg_then ?_
          | refine sg_ps (ps_fieldAddr rfl) rfl ?_
          | refine sg_ps (ps_nilCheck rfl) rfl ?_
          | refine sg_load 0 rfl rfl rfl rfl ?_
          | refine sg_load 1 rfl rfl rfl rfl ?_
          | refine sg_load 2 rfl rfl rfl rfl ?_
          | refine sg_load 3 rfl rfl rfl rfl ?_
          | refine sg_load 4 rfl rfl rfl rfl ?_
          | refine sg_load 5 rfl rfl rfl rfl ?_
          | refine sg_load 6 rfl rfl rfl rfl ?_
          | refine sg_load 7 rfl rfl rfl rfl ?_
          | refine sg_ps (ps_add64 rfl rfl (by omega)) rfl ?_
          | refine sg_ps (ps_sub64 rfl rfl (by omega)) rfl ?_
          | refine sg_ps (ps_mul64 rfl rfl (by omega)) rfl ?_
          | refine sg_ps (ps_bin rfl rfl inferInstance) rfl ?_
          | refine sg_ps (ps_rem rfl rfl (by decide)) rfl ?_
          | refine sg_ps (ps_quo64 rfl rfl (by decide) (by omega)) rfl ?_
          | refine sg_ps (ps_not rfl) rfl ?_
          | refine sg_cond_t rfl ?_
          | refine sg_cond_f rfl ?_
          | refine sg_guard_yes rfl rfl ?_
          | refine sg_guard_nf rfl rfl rfl ?_
          | refine sg_guard_nt rfl rfl rfl ?_
          | refine sg_guard_nu rfl rfl rfl ?_
          | refine sg_ps (ps_pick_t rfl rfl) rfl ?_
          | refine sg_ps (ps_pick_f rfl rfl) rfl ?_
          | refine sg_ps (ps_len rfl) rfl ?_
          | refine sg_ps (ps_len_str rfl) rfl ?_
          | refine sg_ps (ps_extract rfl rfl) rfl ?_
          | refine sg_ps (ps_field rfl rfl) rfl ?_
          | refine sg_ps (ps_min2 rfl rfl) rfl ?_
          | refine sg_ps (ps_max2 rfl rfl) rfl ?_
          | refine sg_ps (ps_build rfl rfl) rfl ?_
          | refine sg_box rfl rfl (fun bx => ?_)
          | refine sg_ps (ps_indexAddr rfl rfl rfl (by omega)) rfl ?_
          | refine sg_ps (ps_indexAddr_arr rfl rfl rfl (by omega)) rfl ?_
          | refine sg_block ?_
          | refine sg_skip ?_
          | refine sg_ret ?_
          | refine sg_exit ?_
          | refine ex_then_ret ?_
          | refine ex_then_exit ?_
          | refine ex_block_ret ?_
          | refine ex_block_normal ?_
          | refine ex_block_hit ?_
          | refine ex_block_miss rfl ?_
          | refine sg_store [] rfl rfl rfl (of_decide_eq_true rfl) ?_
          | refine sg_store [_] rfl rfl rfl (of_decide_eq_true rfl) ?_
          | refine sg_store [_, _] rfl rfl rfl (of_decide_eq_true rfl) ?_
          | refine sg_store [_, _, _] rfl rfl rfl (of_decide_eq_true rfl) ?_
          | refine sg_store [_, _, _, _] rfl rfl rfl (of_decide_eq_true rfl) ?_
          | refine sg_store [_, _, _, _, _] rfl rfl rfl (of_decide_eq_true rfl) ?_
          | refine sg_store [_, _, _, _, _, _] rfl rfl rfl (of_decide_eq_true rfl) ?_
          | refine sg_store [_, _, _, _, _, _, _] rfl rfl rfl (of_decide_eq_true rfl) ?_
          | (refine sg_guard_dec rfl rfl (fun hg => ?_) (fun hg => ?_) <;> first | (exfalso; omega) | (exact absurd rfl hg) | skip)
          | (refine sg_guard_ndec rfl rfl (fun hg => ?_) (fun hg => ?_) <;> first | (exfalso; omega) | (exact absurd rfl hg) | skip)
          | (refine sg_cond_dec rfl (fun hg => ?_) (fun hg => ?_) <;> first | (exfalso; omega) | (exact absurd rfl hg) | skip)
          | (refine sg_cond_ndec rfl (fun hg => ?_) (fun hg => ?_) <;> first | (exfalso; omega) | (exact absurd rfl hg) | skip)
          | refine sg_cond_not rfl (fun hg => ?_) (fun hg => ?_)
          | refine sg_cond rfl (fun hg => ?_) (fun hg => ?_))
        exact ex_mid (i + 1, S) ⟨by simp only []; omega, ⟨by simp only []; omega, by simp only []; omega, by simp only []; omega, by simp only []; omega, by simp only []; omega⟩, hc⟩ (.cons rfl (.cons rfl (.cons rfl (.cons rfl (.cons rfl .nil))))) (fun w hO => hO.front1)
    · exact ex_mid S ⟨hc, by omega, by omega, by omega⟩ (.cons rfl (.cons rfl (.cons rfl .nil))) (fun w hO => hO)
    · exact ex_mid S ⟨hc, by omega, by omega, by omega⟩ (.cons rfl (.cons rfl (.cons rfl .nil))) (fun w hO => hO)
  · rintro S ⟨hc, h1, h2, h3⟩
    have hs1 : S.sync.1 = 0 := by unfold DS.sync; rw [if_neg (by rw [hc.d]; decide)]
    have hs2 : S.sync.2 = { S with wait := [], syncs := S.syncs + 1 } := by unfold DS.sync; rw [if_neg (by rw [hc.d]; decide)]
    have hb : Both S.sync.2.seen S.sync.2 := Both.dry (by rw [hs2]; exact ⟨hc.d, hc.f, hc.n⟩) (by rw [hs2])
    have hw0 : S.sync.2.wait.length = 0 ∧ S.sync.2.writes ≤ 100 := by rw [hs2]; exact ⟨rfl, h2⟩
    have hd1 := sync_tri (W := W) d S [DiskRep c S, old W] (by omega)
    have hd2 := fun S' => sync_tri (W := W) c S [DiskRep d S', old W] (by omega)
    rw [hs1] at hd1 hd2
    generalize S.sync.2 = S1 at hb hw0 hd1 hd2
    repeat' (first
      | refine sg_wo ?_
      | refine sg_ps (ps_move rfl) rfl ?_
      | refine sg_ps (ps_assign rfl) rfl ?_
      | refine sg_seq ?_
      | refine sg_region ?_
      | refine sg_nil ?_
      | refine sg_then ?_
      | refine sg_ps (ps_fieldAddr rfl) rfl ?_
      | refine sg_ps (ps_nilCheck rfl) rfl ?_
      | refine sg_load 0 rfl rfl rfl rfl ?_
      | refine sg_load 1 rfl rfl rfl rfl ?_
      | refine sg_load 2 rfl rfl rfl rfl ?_
      | refine sg_load 3 rfl rfl rfl rfl ?_
      | refine sg_load 4 rfl rfl rfl rfl ?_
      | refine sg_load 5 rfl rfl rfl rfl ?_
      | refine sg_load 6 rfl rfl rfl rfl ?_
      | refine sg_load 7 rfl rfl rfl rfl ?_
      | refine sg_ps (ps_add64 rfl rfl (by omega)) rfl ?_
      | refine sg_ps (ps_sub64 rfl rfl (by omega)) rfl ?_
      | refine sg_ps (ps_mul64 rfl rfl (by omega)) rfl ?_
      | refine sg_ps (ps_bin rfl rfl inferInstance) rfl ?_
      | refine sg_ps (ps_rem rfl rfl (by decide)) rfl ?_
      | refine sg_ps (ps_quo64 rfl rfl (by decide) (by omega)) rfl ?_
      | refine sg_ps (ps_not rfl) rfl ?_
      | refine sg_cond_t rfl ?_
      | refine sg_cond_f rfl ?_
      | refine sg_guard_yes rfl rfl ?_
      | refine sg_guard_nf rfl rfl rfl ?_
      | refine sg_guard_nt rfl rfl rfl ?_
      | refine sg_guard_nu rfl rfl rfl ?_
      | refine sg_ps (ps_pick_t rfl rfl) rfl ?_
      | refine sg_ps (ps_pick_f rfl rfl) rfl ?_
      | refine sg_ps (ps_len rfl) rfl ?_
      | refine sg_ps (ps_len_str rfl) rfl ?_
      | refine sg_ps (ps_extract rfl rfl) rfl ?_
      | refine sg_ps (ps_field rfl rfl) rfl ?_
      | refine sg_ps (ps_min2 rfl rfl) rfl ?_
      | refine sg_ps (ps_max2 rfl rfl) rfl ?_
      | refine sg_ps (ps_build rfl rfl) rfl ?_
      | refine sg_box rfl rfl (fun bx => ?_)
      | refine sg_ps (ps_indexAddr rfl rfl rfl (by omega)) rfl ?_
      | refine sg_ps (ps_indexAddr_arr rfl rfl rfl (by omega)) rfl ?_
      | refine sg_block ?_
      | refine sg_skip ?_
      | refine sg_ret ?_
      | refine sg_exit ?_
      | refine ex_then_ret ?_
      | refine ex_then_exit ?_
      | refine ex_block_ret ?_
      | refine ex_block_normal ?_
      | refine ex_block_hit ?_
      | refine ex_block_miss rfl ?_
      | refine sg_store [] rfl rfl rfl (of_decide_eq_true rfl) ?_
      | refine sg_store [_] rfl rfl rfl (of_decide_eq_true rfl) ?_
      | refine sg_store [_, _] rfl rfl rfl (of_decide_eq_true rfl) ?_
      | refine sg_store [_, _, _] rfl rfl rfl (of_decide_eq_true rfl) ?_
      | refine sg_store [_, _, _, _] rfl rfl rfl (of_decide_eq_true rfl) ?_
      | refine sg_store [_, _, _, _, _] rfl rfl rfl (of_decide_eq_true rfl) ?_
      | refine sg_store [_, _, _, _, _, _] rfl rfl rfl (of_decide_eq_true rfl) ?_
      | refine sg_store [_, _, _, _, _, _, _] rfl rfl rfl (of_decide_eq_true rfl) ?_
      | (refine sg_guard_dec rfl rfl (fun hg => ?_) (fun hg => ?_) <;> first | (exfalso; omega) | (exact absurd rfl hg) | skip)
      | (refine sg_guard_ndec rfl rfl (fun hg => ?_) (fun hg => ?_) <;> first | (exfalso; omega) | (exact absurd rfl hg) | skip)
      | (refine sg_cond_dec rfl (fun hg => ?_) (fun hg => ?_) <;> first | (exfalso; omega) | (exact absurd rfl hg) | skip)
      | (refine sg_cond_ndec rfl (fun hg => ?_) (fun hg => ?_) <;> first | (exfalso; omega) | (exact absurd rfl hg) | skip)
      | refine sg_cond_not rfl (fun hg => ?_) (fun hg => ?_)
      | refine sg_cond rfl (fun hg => ?_) (fun hg => ?_))
    refine sg_call hd1 rfl rfl (fun _ _ => ?_)
    repeat' (first
      | refine sg_wo ?_
      | refine sg_ps (ps_move rfl) rfl ?_
      | refine sg_ps (ps_assign rfl) rfl ?_
      | refine sg_seq ?_
      | refine sg_region ?_
      | refine sg_nil ?_
      | refine sg_then ?_
      | refine sg_ps (ps_fieldAddr rfl) rfl ?_
      | refine sg_ps (ps_nilCheck rfl) rfl ?_
      | refine sg_load 0 rfl rfl rfl rfl ?_
      | refine sg_load 1 rfl rfl rfl rfl ?_
      | refine sg_load 2 rfl rfl rfl rfl ?_
      | refine sg_load 3 rfl rfl rfl rfl ?_
      | refine sg_load 4 rfl rfl rfl rfl ?_
      | refine sg_load 5 rfl rfl rfl rfl ?_
      | refine sg_load 6 rfl rfl rfl rfl ?_
      | refine sg_load 7 rfl rfl rfl rfl ?_
      | refine sg_ps (ps_add64 rfl rfl (by omega)) rfl ?_
      | refine sg_ps (ps_sub64 rfl rfl (by omega)) rfl ?_
      | refine sg_ps (ps_mul64 rfl rfl (by omega)) rfl ?_
      | refine sg_ps (ps_bin rfl rfl inferInstance) rfl ?_
      | refine sg_ps (ps_rem rfl rfl (by decide)) rfl ?_
      | refine sg_ps (ps_quo64 rfl rfl (by decide) (by omega)) rfl ?_
      | refine sg_ps (ps_not rfl) rfl ?_
      | refine sg_cond_t rfl ?_
      | refine sg_cond_f rfl ?_
      | refine sg_guard_yes rfl rfl ?_
      | refine sg_guard_nf rfl rfl rfl ?_
      | refine sg_guard_nt rfl rfl rfl ?_
      | refine sg_guard_nu rfl rfl rfl ?_
      | refine sg_ps (ps_pick_t rfl rfl) rfl ?_
      | refine sg_ps (ps_pick_f rfl rfl) rfl ?_
      | refine sg_ps (ps_len rfl) rfl ?_
      | refine sg_ps (ps_len_str rfl) rfl ?_
      | refine sg_ps (ps_extract rfl rfl) rfl ?_
      | refine sg_ps (ps_field rfl rfl) rfl ?_
      | refine sg_ps (ps_min2 rfl rfl) rfl ?_
      | refine sg_ps (ps_max2 rfl rfl) rfl ?_
      | refine sg_ps (ps_build rfl rfl) rfl ?_
      | refine sg_box rfl rfl (fun bx => ?_)
      | refine sg_ps (ps_indexAddr rfl rfl rfl (by omega)) rfl ?_
      | refine sg_ps (ps_indexAddr_arr rfl rfl rfl (by omega)) rfl ?_
      | refine sg_block ?_
      | refine sg_skip ?_
      | refine sg_ret ?_
      | refine sg_exit ?_
      | refine ex_then_ret ?_
      | refine ex_then_exit ?_
      | refine ex_block_ret ?_
      | refine ex_block_normal ?_
      | refine ex_block_hit ?_
      | refine ex_block_miss rfl ?_
      | refine sg_store [] rfl rfl rfl (of_decide_eq_true rfl) ?_
      | refine sg_store [_] rfl rfl rfl (of_decide_eq_true rfl) ?_
      | refine sg_store [_, _] rfl rfl rfl (of_decide_eq_true rfl) ?_
      | refine sg_store [_, _, _] rfl rfl rfl (of_decide_eq_true rfl) ?_
      | refine sg_store [_, _, _, _] rfl rfl rfl (of_decide_eq_true rfl) ?_
      | refine sg_store [_, _, _, _, _] rfl rfl rfl (of_decide_eq_true rfl) ?_
      | refine sg_store [_, _, _, _, _, _] rfl rfl rfl (of_decide_eq_true rfl) ?_
      | refine sg_store [_, _, _, _, _, _, _] rfl rfl rfl (of_decide_eq_true rfl) ?_
      | (refine sg_guard_dec rfl rfl (fun hg => ?_) (fun hg => ?_) <;> first | (exfalso; omega) | (exact absurd rfl hg) | skip)
      | (refine sg_guard_ndec rfl rfl (fun hg => ?_) (fun hg => ?_) <;> first | (exfalso; omega) | (exact absurd rfl hg) | skip)
      | (refine sg_cond_dec rfl (fun hg => ?_) (fun hg => ?_) <;> first | (exfalso; omega) | (exact absurd rfl hg) | skip)
      | (refine sg_cond_ndec rfl (fun hg => ?_) (fun hg => ?_) <;> first | (exfalso; omega) | (exact absurd rfl hg) | skip)
      | refine sg_cond_not rfl (fun hg => ?_) (fun hg => ?_)
      | refine sg_cond rfl (fun hg => ?_) (fun hg => ?_))
    refine sg_front1 ?_
    refine sg_call (hd2 _) rfl rfl (fun _ _ => ?_)
    repeat' (first
      | refine sg_wo ?_
      | refine sg_ps (ps_move rfl) rfl ?_
      | refine sg_ps (ps_assign rfl) rfl ?_
      | refine sg_seq ?_
      | refine sg_region ?_
      | refine sg_nil ?_
      | refine sg_then ?_
      | refine sg_ps (ps_fieldAddr rfl) rfl ?_
      | refine sg_ps (ps_nilCheck rfl) rfl ?_
      | refine sg_load 0 rfl rfl rfl rfl ?_
      | refine sg_load 1 rfl rfl rfl rfl ?_
      | refine sg_load 2 rfl rfl rfl rfl ?_
      | refine sg_load 3 rfl rfl rfl rfl ?_
      | refine sg_load 4 rfl rfl rfl rfl ?_
      | refine sg_load 5 rfl rfl rfl rfl ?_
      | refine sg_load 6 rfl rfl rfl rfl ?_
      | refine sg_load 7 rfl rfl rfl rfl ?_
      | refine sg_ps (ps_add64 rfl rfl (by omega)) rfl ?_
      | refine sg_ps (ps_sub64 rfl rfl (by omega)) rfl ?_
      | refine sg_ps (ps_mul64 rfl rfl (by omega)) rfl ?_
      | refine sg_ps (ps_bin rfl rfl inferInstance) rfl ?_
      | refine sg_ps (ps_rem rfl rfl (by decide)) rfl ?_
      | refine sg_ps (ps_quo64 rfl rfl (by decide) (by omega)) rfl ?_
      | refine sg_ps (ps_not rfl) rfl ?_
      | refine sg_cond_t rfl ?_
      | refine sg_cond_f rfl ?_
      | refine sg_guard_yes rfl rfl ?_
      | refine sg_guard_nf rfl rfl rfl ?_
      | refine sg_guard_nt rfl rfl rfl ?_
      | refine sg_guard_nu rfl rfl rfl ?_
      | refine sg_ps (ps_pick_t rfl rfl) rfl ?_
      | refine sg_ps (ps_pick_f rfl rfl) rfl ?_
      | refine sg_ps (ps_len rfl) rfl ?_
      | refine sg_ps (ps_len_str rfl) rfl ?_
      | refine sg_ps (ps_extract rfl rfl) rfl ?_
      | refine sg_ps (ps_field rfl rfl) rfl ?_
      | refine sg_ps (ps_min2 rfl rfl) rfl ?_
      | refine sg_ps (ps_max2 rfl rfl) rfl ?_
      | refine sg_ps (ps_build rfl rfl) rfl ?_
      | refine sg_box rfl rfl (fun bx => ?_)
      | refine sg_ps (ps_indexAddr rfl rfl rfl (by omega)) rfl ?_
      | refine sg_ps (ps_indexAddr_arr rfl rfl rfl (by omega)) rfl ?_
      | refine sg_block ?_
      | refine sg_skip ?_
      | refine sg_ret ?_
      | refine sg_exit ?_
      | refine ex_then_ret ?_
      | refine ex_then_exit ?_
      | refine ex_block_ret ?_
      | refine ex_block_normal ?_
      | refine ex_block_hit ?_
      | refine ex_block_miss rfl ?_
      | refine sg_store [] rfl rfl rfl (of_decide_eq_true rfl) ?_
      | refine sg_store [_] rfl rfl rfl (of_decide_eq_true rfl) ?_
      | refine sg_store [_, _] rfl rfl rfl (of_decide_eq_true rfl) ?_
      | refine sg_store [_, _, _] rfl rfl rfl (of_decide_eq_true rfl) ?_
      | refine sg_store [_, _, _, _] rfl rfl rfl (of_decide_eq_true rfl) ?_
      | refine sg_store [_, _, _, _, _] rfl rfl rfl (of_decide_eq_true rfl) ?_
      | refine sg_store [_, _, _, _, _, _] rfl rfl rfl (of_decide_eq_true rfl) ?_
      | refine sg_store [_, _, _, _, _, _, _] rfl rfl rfl (of_decide_eq_true rfl) ?_
      | (refine sg_guard_dec rfl rfl (fun hg => ?_) (fun hg => ?_) <;> first | (exfalso; omega) | (exact absurd rfl hg) | skip)
      | (refine sg_guard_ndec rfl rfl (fun hg => ?_) (fun hg => ?_) <;> first | (exfalso; omega) | (exact absurd rfl hg) | skip)
      | (refine sg_cond_dec rfl (fun hg => ?_) (fun hg => ?_) <;> first | (exfalso; omega) | (exact absurd rfl hg) | skip)
      | (refine sg_cond_ndec rfl (fun hg => ?_) (fun hg => ?_) <;> first | (exfalso; omega) | (exact absurd rfl hg) | skip)
      | refine sg_cond_not rfl (fun hg => ?_) (fun hg => ?_)
      | refine sg_cond rfl (fun hg => ?_) (fun hg => ?_))
    refine sg_alloc rfl (fun wb => ?_)
    repeat' (first
      | refine sg_wo ?_
      | refine sg_ps (ps_move rfl) rfl ?_
      | refine sg_ps (ps_assign rfl) rfl ?_
      | refine sg_seq ?_
      | refine sg_region ?_
      | refine sg_nil ?_
      | refine sg_then ?_
      | refine sg_ps (ps_fieldAddr rfl) rfl ?_
      | refine sg_ps (ps_nilCheck rfl) rfl ?_
      | refine sg_load 0 rfl rfl rfl rfl ?_
      | refine sg_load 1 rfl rfl rfl rfl ?_
      | refine sg_load 2 rfl rfl rfl rfl ?_
      | refine sg_load 3 rfl rfl rfl rfl ?_
      | refine sg_load 4 rfl rfl rfl rfl ?_
      | refine sg_load 5 rfl rfl rfl rfl ?_
      | refine sg_load 6 rfl rfl rfl rfl ?_
      | refine sg_load 7 rfl rfl rfl rfl ?_
      | refine sg_ps (ps_add64 rfl rfl (by omega)) rfl ?_
      | refine sg_ps (ps_sub64 rfl rfl (by omega)) rfl ?_
      | refine sg_ps (ps_mul64 rfl rfl (by omega)) rfl ?_
      | refine sg_ps (ps_bin rfl rfl inferInstance) rfl ?_
      | refine sg_ps (ps_rem rfl rfl (by decide)) rfl ?_
      | refine sg_ps (ps_quo64 rfl rfl (by decide) (by omega)) rfl ?_
      | refine sg_ps (ps_not rfl) rfl ?_
      | refine sg_cond_t rfl ?_
      | refine sg_cond_f rfl ?_
      | refine sg_guard_yes rfl rfl ?_
      | refine sg_guard_nf rfl rfl rfl ?_
      | refine sg_guard_nt rfl rfl rfl ?_
      | refine sg_guard_nu rfl rfl rfl ?_
      | refine sg_ps (ps_pick_t rfl rfl) rfl ?_
      | refine sg_ps (ps_pick_f rfl rfl) rfl ?_
      | refine sg_ps (ps_len rfl) rfl ?_
      | refine sg_ps (ps_len_str rfl) rfl ?_
      | refine sg_ps (ps_extract rfl rfl) rfl ?_
      | refine sg_ps (ps_field rfl rfl) rfl ?_
      | refine sg_ps (ps_min2 rfl rfl) rfl ?_
      | refine sg_ps (ps_max2 rfl rfl) rfl ?_
      | refine sg_ps (ps_build rfl rfl) rfl ?_
      | refine sg_box rfl rfl (fun bx => ?_)
      | refine sg_ps (ps_indexAddr rfl rfl rfl (by omega)) rfl ?_
      | refine sg_ps (ps_indexAddr_arr rfl rfl rfl (by omega)) rfl ?_
      | refine sg_block ?_
      | refine sg_skip ?_
      | refine sg_ret ?_
      | refine sg_exit ?_
      | refine ex_then_ret ?_
      | refine ex_then_exit ?_
      | refine ex_block_ret ?_
      | refine ex_block_normal ?_
      | refine ex_block_hit ?_
      | refine ex_block_miss rfl ?_
      | refine sg_store [] rfl rfl rfl (of_decide_eq_true rfl) ?_
      | refine sg_store [_] rfl rfl rfl (of_decide_eq_true rfl) ?_
      | refine sg_store [_, _] rfl rfl rfl (of_decide_eq_true rfl) ?_
      | refine sg_store [_, _, _] rfl rfl rfl (of_decide_eq_true rfl) ?_
      | refine sg_store [_, _, _, _] rfl rfl rfl (of_decide_eq_true rfl) ?_
      | refine sg_store [_, _, _, _, _] rfl rfl rfl (of_decide_eq_true rfl) ?_
      | refine sg_store [_, _, _, _, _, _] rfl rfl rfl (of_decide_eq_true rfl) ?_
      | refine sg_store [_, _, _, _, _, _, _] rfl rfl rfl (of_decide_eq_true rfl) ?_
      | (refine sg_guard_dec rfl rfl (fun hg => ?_) (fun hg => ?_) <;> first | (exfalso; omega) | (exact absurd rfl hg) | skip)
      | (refine sg_guard_ndec rfl rfl (fun hg => ?_) (fun hg => ?_) <;> first | (exfalso; omega) | (exact absurd rfl hg) | skip)
      | (refine sg_cond_dec rfl (fun hg => ?_) (fun hg => ?_) <;> first | (exfalso; omega) | (exact absurd rfl hg) | skip)
      | (refine sg_cond_ndec rfl (fun hg => ?_) (fun hg => ?_) <;> first | (exfalso; omega) | (exact absurd rfl hg) | skip)
      | refine sg_cond_not rfl (fun hg => ?_) (fun hg => ?_)
      | refine sg_cond rfl (fun hg => ?_) (fun hg => ?_))
    refine sg_alloc rfl (fun vb => ?_)
    have hz : (Value.agg (List.replicate 16 (Value.slice none 0 0)).toArray).cells.toList = List.replicate 16 (Value.slice none 0 0) := rfl
    rw [hz]
    have hn1 := hb.c.n
    repeat' (first
      | refine sg_wo ?_
      | refine sg_ps (ps_move rfl) rfl ?_
      | refine sg_ps (ps_assign rfl) rfl ?_
      | refine sg_seq ?_
      | refine sg_region ?_
      | refine sg_nil ?_
      | refine sg_then ?_
      | refine sg_ps (ps_fieldAddr rfl) rfl ?_
      | refine sg_ps (ps_nilCheck rfl) rfl ?_
      | refine sg_load 0 rfl rfl rfl rfl ?_
      | refine sg_load 1 rfl rfl rfl rfl ?_
      | refine sg_load 2 rfl rfl rfl rfl ?_
      | refine sg_load 3 rfl rfl rfl rfl ?_
      | refine sg_load 4 rfl rfl rfl rfl ?_
      | refine sg_load 5 rfl rfl rfl rfl ?_
      | refine sg_load 6 rfl rfl rfl rfl ?_
      | refine sg_load 7 rfl rfl rfl rfl ?_
      | refine sg_ps (ps_add64 rfl rfl (by omega)) rfl ?_
      | refine sg_ps (ps_sub64 rfl rfl (by omega)) rfl ?_
      | refine sg_ps (ps_mul64 rfl rfl (by omega)) rfl ?_
      | refine sg_ps (ps_bin rfl rfl inferInstance) rfl ?_
      | refine sg_ps (ps_rem rfl rfl (by decide)) rfl ?_
      | refine sg_ps (ps_quo64 rfl rfl (by decide) (by omega)) rfl ?_
      | refine sg_ps (ps_not rfl) rfl ?_
      | refine sg_cond_t rfl ?_
      | refine sg_cond_f rfl ?_
      | refine sg_guard_yes rfl rfl ?_
      | refine sg_guard_nf rfl rfl rfl ?_
      | refine sg_guard_nt rfl rfl rfl ?_
      | refine sg_guard_nu rfl rfl rfl ?_
      | refine sg_ps (ps_pick_t rfl rfl) rfl ?_
      | refine sg_ps (ps_pick_f rfl rfl) rfl ?_
      | refine sg_ps (ps_len rfl) rfl ?_
      | refine sg_ps (ps_len_str rfl) rfl ?_
      | refine sg_ps (ps_extract rfl rfl) rfl ?_
      | refine sg_ps (ps_field rfl rfl) rfl ?_
      | refine sg_ps (ps_min2 rfl rfl) rfl ?_
      | refine sg_ps (ps_max2 rfl rfl) rfl ?_
      | refine sg_ps (ps_build rfl rfl) rfl ?_
      | refine sg_box rfl rfl (fun bx => ?_)
      | refine sg_ps (ps_indexAddr rfl rfl rfl (by omega)) rfl ?_
      | refine sg_ps (ps_indexAddr_arr rfl rfl rfl (by omega)) rfl ?_
      | refine sg_block ?_
      | refine sg_skip ?_
      | refine sg_ret ?_
      | refine sg_exit ?_
      | refine ex_then_ret ?_
      | refine ex_then_exit ?_
      | refine ex_block_ret ?_
      | refine ex_block_normal ?_
      | refine ex_block_hit ?_
      | refine ex_block_miss rfl ?_
      | refine sg_store [] rfl rfl rfl (of_decide_eq_true rfl) ?_
      | refine sg_store [_] rfl rfl rfl (of_decide_eq_true rfl) ?_
      | refine sg_store [_, _] rfl rfl rfl (of_decide_eq_true rfl) ?_
      | refine sg_store [_, _, _] rfl rfl rfl (of_decide_eq_true rfl) ?_
      | refine sg_store [_, _, _, _] rfl rfl rfl (of_decide_eq_true rfl) ?_
      | refine sg_store [_, _, _, _, _] rfl rfl rfl (of_decide_eq_true rfl) ?_
      | refine sg_store [_, _, _, _, _, _] rfl rfl rfl (of_decide_eq_true rfl) ?_
      | refine sg_store [_, _, _, _, _, _, _] rfl rfl rfl (of_decide_eq_true rfl) ?_
      | (refine sg_guard_dec rfl rfl (fun hg => ?_) (fun hg => ?_) <;> first | (exfalso; omega) | (exact absurd rfl hg) | skip)
      | (refine sg_guard_ndec rfl rfl (fun hg => ?_) (fun hg => ?_) <;> first | (exfalso; omega) | (exact absurd rfl hg) | skip)
      | (refine sg_cond_dec rfl (fun hg => ?_) (fun hg => ?_) <;> first | (exfalso; omega) | (exact absurd rfl hg) | skip)
      | (refine sg_cond_ndec rfl (fun hg => ?_) (fun hg => ?_) <;> first | (exfalso; omega) | (exact absurd rfl hg) | skip)
      | refine sg_cond_not rfl (fun hg => ?_) (fun hg => ?_)
      | refine sg_cond rfl (fun hg => ?_) (fun hg => ?_))
    refine sg_loop (γ := Nat × List Value × List (Nat × List Value)) (fun g => g.1 ≤ 16 ∧ Saved S1.seen g.1 g.2.1 g.2.2)
      (fun g => [(1, .slice qa q.length qc), (5, dp d), (7, dp c), (10, dp wb), (11, dp vb), (12, i64 g.1)])
      (fun g => [blk wb g.2.1, blks g.2.2, blk vb (List.replicate 16 (Value.slice none 0 0)), DiskRep c S1, DiskRep d S1, old W]) (fun g => 16 - g.1) (0, List.replicate 16 (Value.slice none 0 0), []) ⟨Nat.zero_le _, Saved.zero _ _⟩
      (.cons rfl (.cons rfl (.cons rfl (.cons rfl (.cons rfl (.cons rfl .nil)))))) (fun w hO => (own_blks_nil hO.front1).front1) ?_
    rintro ⟨i, cs, ls⟩ ⟨hi, hsv⟩
    simp only [] at hi hsv ⊢
    refine sg_seq (sg_seq ?_)
    repeat' (first
      | refine sg_wo ?_
      | refine sg_ps (ps_move rfl) rfl ?_
      | refine sg_ps (ps_assign rfl) rfl ?_
      | refine sg_region ?_
      | refine sg_nil ?_
      | refine sg_then ?_
      | refine sg_ps (ps_fieldAddr rfl) rfl ?_
      | refine sg_ps (ps_nilCheck rfl) rfl ?_
      | refine sg_load 0 rfl rfl rfl rfl ?_
      | refine sg_load 1 rfl rfl rfl rfl ?_
      | refine sg_load 2 rfl rfl rfl rfl ?_
      | refine sg_load 3 rfl rfl rfl rfl ?_
      | refine sg_load 4 rfl rfl rfl rfl ?_
      | refine sg_load 5 rfl rfl rfl rfl ?_
      | refine sg_load 6 rfl rfl rfl rfl ?_
      | refine sg_load 7 rfl rfl rfl rfl ?_
      | refine sg_ps (ps_add64 rfl rfl (by omega)) rfl ?_
      | refine sg_ps (ps_sub64 rfl rfl (by omega)) rfl ?_
      | refine sg_ps (ps_mul64 rfl rfl (by omega)) rfl ?_
      | refine sg_ps (ps_bin rfl rfl inferInstance) rfl ?_
      | refine sg_ps (ps_rem rfl rfl (by decide)) rfl ?_
      | refine sg_ps (ps_quo64 rfl rfl (by decide) (by omega)) rfl ?_
      | refine sg_ps (ps_not rfl) rfl ?_
      | refine sg_cond_t rfl ?_
      | refine sg_cond_f rfl ?_
      | refine sg_guard_yes rfl rfl ?_
      | refine sg_guard_nf rfl rfl rfl ?_
      | refine sg_guard_nt rfl rfl rfl ?_
      | refine sg_guard_nu rfl rfl rfl ?_
      | refine sg_ps (ps_pick_t rfl rfl) rfl ?_
      | refine sg_ps (ps_pick_f rfl rfl) rfl ?_
      | refine sg_ps (ps_len rfl) rfl ?_
      | refine sg_ps (ps_len_str rfl) rfl ?_
      | refine sg_ps (ps_extract rfl rfl) rfl ?_
      | refine sg_ps (ps_field rfl rfl) rfl ?_
      | refine sg_ps (ps_min2 rfl rfl) rfl ?_
      | refine sg_ps (ps_max2 rfl rfl) rfl ?_
      | refine sg_ps (ps_build rfl rfl) rfl ?_
      | refine sg_box rfl rfl (fun bx => ?_)
      | refine sg_ps (ps_indexAddr rfl rfl rfl (by omega)) rfl ?_
      | refine sg_ps (ps_indexAddr_arr rfl rfl rfl (by omega)) rfl ?_
      | refine sg_block ?_
      | refine sg_skip ?_
      | refine sg_ret ?_
      | refine sg_exit ?_
      | refine ex_then_ret ?_
      | refine ex_then_exit ?_
      | refine ex_block_ret ?_
      | refine ex_block_normal ?_
      | refine ex_block_hit ?_
      | refine ex_block_miss rfl ?_
      | refine sg_store [] rfl rfl rfl (of_decide_eq_true rfl) ?_
      | refine sg_store [_] rfl rfl rfl (of_decide_eq_true rfl) ?_
      | refine sg_store [_, _] rfl rfl rfl (of_decide_eq_true rfl) ?_
      | refine sg_store [_, _, _] rfl rfl rfl (of_decide_eq_true rfl) ?_
      | refine sg_store [_, _, _, _] rfl rfl rfl (of_decide_eq_true rfl) ?_
      | refine sg_store [_, _, _, _, _] rfl rfl rfl (of_decide_eq_true rfl) ?_
      | refine sg_store [_, _, _, _, _, _] rfl rfl rfl (of_decide_eq_true rfl) ?_
      | refine sg_store [_, _, _, _, _, _, _] rfl rfl rfl (of_decide_eq_true rfl) ?_
      | (refine sg_guard_dec rfl rfl (fun hg => ?_) (fun hg => ?_) <;> first | (exfalso; omega) | (exact absurd rfl hg) | skip)
      | (refine sg_guard_ndec rfl rfl (fun hg => ?_) (fun hg => ?_) <;> first | (exfalso; omega) | (exact absurd rfl hg) | skip)
      | (refine sg_cond_dec rfl (fun hg => ?_) (fun hg => ?_) <;> first | (exfalso; omega) | (exact absurd rfl hg) | skip)
      | (refine sg_cond_ndec rfl (fun hg => ?_) (fun hg => ?_) <;> first | (exfalso; omega) | (exact absurd rfl hg) | skip)
      | refine sg_cond_not rfl (fun hg => ?_) (fun hg => ?_)
      | refine sg_cond rfl (fun hg => ?_) (fun hg => ?_))
    · skip
      repeat' (first
        | refine sg_wo ?_
        | refine sg_ps (ps_move rfl) rfl ?_
        | refine sg_ps (ps_assign rfl) rfl ?_
        | refine sg_seq ?_
        | refine sg_region ?_
        | refine sg_nil ?_
        | refine sg_then ?_
        | refine sg_ps (ps_fieldAddr rfl) rfl ?_
        | refine sg_ps (ps_nilCheck rfl) rfl ?_
        | refine sg_load 0 rfl rfl rfl rfl ?_
        | refine sg_load 1 rfl rfl rfl rfl ?_
        | refine sg_load 2 rfl rfl rfl rfl ?_
        | refine sg_load 3 rfl rfl rfl rfl ?_
        | refine sg_load 4 rfl rfl rfl rfl ?_
        | refine sg_load 5 rfl rfl rfl rfl ?_
        | refine sg_load 6 rfl rfl rfl rfl ?_
        | refine sg_load 7 rfl rfl rfl rfl ?_
        | refine sg_ps (ps_add64 rfl rfl (by omega)) rfl ?_
        | refine sg_ps (ps_sub64 rfl rfl (by omega)) rfl ?_
        | refine sg_ps (ps_mul64 rfl rfl (by omega)) rfl ?_
        | refine sg_ps (ps_bin rfl rfl inferInstance) rfl ?_
        | refine sg_ps (ps_rem rfl rfl (by decide)) rfl ?_
        | refine sg_ps (ps_quo64 rfl rfl (by decide) (by omega)) rfl ?_
        | refine sg_ps (ps_not rfl) rfl ?_
        | refine sg_cond_t rfl ?_
        | refine sg_cond_f rfl ?_
        | refine sg_guard_yes rfl rfl ?_
        | refine sg_guard_nf rfl rfl rfl ?_
        | refine sg_guard_nt rfl rfl rfl ?_
        | refine sg_guard_nu rfl rfl rfl ?_
        | refine sg_ps (ps_pick_t rfl rfl) rfl ?_
        | refine sg_ps (ps_pick_f rfl rfl) rfl ?_
        | refine sg_ps (ps_len rfl) rfl ?_
        | refine sg_ps (ps_len_str rfl) rfl ?_
        | refine sg_ps (ps_extract rfl rfl) rfl ?_
        | refine sg_ps (ps_field rfl rfl) rfl ?_
        | refine sg_ps (ps_min2 rfl rfl) rfl ?_
        | refine sg_ps (ps_max2 rfl rfl) rfl ?_
        | refine sg_ps (ps_build rfl rfl) rfl ?_
        | refine sg_box rfl rfl (fun bx => ?_)
        | refine sg_ps (ps_indexAddr rfl rfl rfl (by omega)) rfl ?_
        | refine sg_ps (ps_indexAddr_arr rfl rfl rfl (by omega)) rfl ?_
        | refine sg_block ?_
        | refine sg_skip ?_
        | refine sg_ret ?_
        | refine sg_exit ?_
        | refine ex_then_ret ?_
        | refine ex_then_exit ?_
        | refine ex_block_ret ?_
        | refine ex_block_normal ?_
        | refine ex_block_hit ?_
        | refine ex_block_miss rfl ?_
        | refine sg_store [] rfl rfl rfl (of_decide_eq_true rfl) ?_
        | refine sg_store [_] rfl rfl rfl (of_decide_eq_true rfl) ?_
        | refine sg_store [_, _] rfl rfl rfl (of_decide_eq_true rfl) ?_
        | refine sg_store [_, _, _] rfl rfl rfl (of_decide_eq_true rfl) ?_
        | refine sg_store [_, _, _, _] rfl rfl rfl (of_decide_eq_true rfl) ?_
        | refine sg_store [_, _, _, _, _] rfl rfl rfl (of_decide_eq_true rfl) ?_
        | refine sg_store [_, _, _, _, _, _] rfl rfl rfl (of_decide_eq_true rfl) ?_
        | refine sg_store [_, _, _, _, _, _, _] rfl rfl rfl (of_decide_eq_true rfl) ?_
        | (refine sg_guard_dec rfl rfl (fun hg => ?_) (fun hg => ?_) <;> first | (exfalso; omega) | (exact absurd rfl hg) | skip)
        | (refine sg_guard_ndec rfl rfl (fun hg => ?_) (fun hg => ?_) <;> first | (exfalso; omega) | (exact absurd rfl hg) | skip)
        | (refine sg_cond_dec rfl (fun hg => ?_) (fun hg => ?_) <;> first | (exfalso; omega) | (exact absurd rfl hg) | skip)
        | (refine sg_cond_ndec rfl (fun hg => ?_) (fun hg => ?_) <;> first | (exfalso; omega) | (exact absurd rfl hg) | skip)
        | refine sg_cond_not rfl (fun hg => ?_) (fun hg => ?_)
        | refine sg_cond rfl (fun hg => ?_) (fun hg => ?_))
      refine sg_front4 ?_
      refine sg_call (read_tri d S1 i _ (by omega)) rfl rfl (fun rb _ => ?_)
      repeat' (first
        | refine sg_wo ?_
        | refine sg_ps (ps_move rfl) rfl ?_
        | refine sg_ps (ps_assign rfl) rfl ?_
        | refine sg_seq ?_
        | refine sg_region ?_
        | refine sg_nil ?_
        | refine sg_then ?_
        | refine sg_ps (ps_fieldAddr rfl) rfl ?_
        | refine sg_ps (ps_nilCheck rfl) rfl ?_
        | refine sg_load 0 rfl rfl rfl rfl ?_
        | refine sg_load 1 rfl rfl rfl rfl ?_
        | refine sg_load 2 rfl rfl rfl rfl ?_
        | refine sg_load 3 rfl rfl rfl rfl ?_
        | refine sg_load 4 rfl rfl rfl rfl ?_
        | refine sg_load 5 rfl rfl rfl rfl ?_
        | refine sg_load 6 rfl rfl rfl rfl ?_
        | refine sg_load 7 rfl rfl rfl rfl ?_
        | refine sg_ps (ps_add64 rfl rfl (by omega)) rfl ?_
        | refine sg_ps (ps_sub64 rfl rfl (by omega)) rfl ?_
        | refine sg_ps (ps_mul64 rfl rfl (by omega)) rfl ?_
        | refine sg_ps (ps_bin rfl rfl inferInstance) rfl ?_
        | refine sg_ps (ps_rem rfl rfl (by decide)) rfl ?_
        | refine sg_ps (ps_quo64 rfl rfl (by decide) (by omega)) rfl ?_
        | refine sg_ps (ps_not rfl) rfl ?_
        | refine sg_cond_t rfl ?_
        | refine sg_cond_f rfl ?_
        | refine sg_guard_yes rfl rfl ?_
        | refine sg_guard_nf rfl rfl rfl ?_
        | refine sg_guard_nt rfl rfl rfl ?_
        | refine sg_guard_nu rfl rfl rfl ?_
        | refine sg_ps (ps_pick_t rfl rfl) rfl ?_
        | refine sg_ps (ps_pick_f rfl rfl) rfl ?_
        | refine sg_ps (ps_len rfl) rfl ?_
        | refine sg_ps (ps_len_str rfl) rfl ?_
        | refine sg_ps (ps_extract rfl rfl) rfl ?_
        | refine sg_ps (ps_field rfl rfl) rfl ?_
        | refine sg_ps (ps_min2 rfl rfl) rfl ?_
        | refine sg_ps (ps_max2 rfl rfl) rfl ?_
        | refine sg_ps (ps_build rfl rfl) rfl ?_
        | refine sg_box rfl rfl (fun bx => ?_)
        | refine sg_ps (ps_indexAddr rfl rfl rfl (by omega)) rfl ?_
        | refine sg_ps (ps_indexAddr_arr rfl rfl rfl (by omega)) rfl ?_
        | refine sg_block ?_
        | refine sg_skip ?_
        | refine sg_ret ?_
        | refine sg_exit ?_
        | refine ex_then_ret ?_
        | refine ex_then_exit ?_
        | refine ex_block_ret ?_
        | refine ex_block_normal ?_
        | refine ex_block_hit ?_
        | refine ex_block_miss rfl ?_
        | refine sg_store [] rfl rfl rfl (of_decide_eq_true rfl) ?_
        | refine sg_store [_] rfl rfl rfl (of_decide_eq_true rfl) ?_
        | refine sg_store [_, _] rfl rfl rfl (of_decide_eq_true rfl) ?_
        | refine sg_store [_, _, _] rfl rfl rfl (of_decide_eq_true rfl) ?_
        | refine sg_store [_, _, _, _] rfl rfl rfl (of_decide_eq_true rfl) ?_
        | refine sg_store [_, _, _, _, _] rfl rfl rfl (of_decide_eq_true rfl) ?_
        | refine sg_store [_, _, _, _, _, _] rfl rfl rfl (of_decide_eq_true rfl) ?_
        | refine sg_store [_, _, _, _, _, _, _] rfl rfl rfl (of_decide_eq_true rfl) ?_
        | (refine sg_guard_dec rfl rfl (fun hg => ?_) (fun hg => ?_) <;> first | (exfalso; omega) | (exact absurd rfl hg) | skip)
        | (refine sg_guard_ndec rfl rfl (fun hg => ?_) (fun hg => ?_) <;> first | (exfalso; omega) | (exact absurd rfl hg) | skip)
        | (refine sg_cond_dec rfl (fun hg => ?_) (fun hg => ?_) <;> first | (exfalso; omega) | (exact absurd rfl hg) | skip)
        | (refine sg_cond_ndec rfl (fun hg => ?_) (fun hg => ?_) <;> first | (exfalso; omega) | (exact absurd rfl hg) | skip)
        | refine sg_cond_not rfl (fun hg => ?_) (fun hg => ?_)
        | refine sg_cond rfl (fun hg => ?_) (fun hg => ?_))
      refine sg_store [_, _] rfl rfl rfl (by have := hsv.1; omega) ?_
      rw [show 0 + i * 1 = i by omega]
      repeat' (first
        | refine sg_wo ?_
        | refine sg_ps (ps_move rfl) rfl ?_
        | refine sg_ps (ps_assign rfl) rfl ?_
        | refine sg_seq ?_
        | refine sg_region ?_
        | refine sg_nil ?_
        | refine sg_then ?_
        | refine sg_ps (ps_fieldAddr rfl) rfl ?_
        | refine sg_ps (ps_nilCheck rfl) rfl ?_
        | refine sg_load 0 rfl rfl rfl rfl ?_
        | refine sg_load 1 rfl rfl rfl rfl ?_
        | refine sg_load 2 rfl rfl rfl rfl ?_
        | refine sg_load 3 rfl rfl rfl rfl ?_
        | refine sg_load 4 rfl rfl rfl rfl ?_
        | refine sg_load 5 rfl rfl rfl rfl ?_
        | refine sg_load 6 rfl rfl rfl rfl ?_
        | refine sg_load 7 rfl rfl rfl rfl ?_
        | refine sg_ps (ps_add64 rfl rfl (by omega)) rfl ?_
        | refine sg_ps (ps_sub64 rfl rfl (by omega)) rfl ?_
        | refine sg_ps (ps_mul64 rfl rfl (by omega)) rfl ?_
        | refine sg_ps (ps_bin rfl rfl inferInstance) rfl ?_
        | refine sg_ps (ps_rem rfl rfl (by decide)) rfl ?_
        | refine sg_ps (ps_quo64 rfl rfl (by decide) (by omega)) rfl ?_
        | refine sg_ps (ps_not rfl) rfl ?_
        | refine sg_cond_t rfl ?_
        | refine sg_cond_f rfl ?_
        | refine sg_guard_yes rfl rfl ?_
        | refine sg_guard_nf rfl rfl rfl ?_
        | refine sg_guard_nt rfl rfl rfl ?_
        | refine sg_guard_nu rfl rfl rfl ?_
        | refine sg_ps (ps_pick_t rfl rfl) rfl ?_
        | refine sg_ps (ps_pick_f rfl rfl) rfl ?_
        | refine sg_ps (ps_len rfl) rfl ?_
        | refine sg_ps (ps_len_str rfl) rfl ?_
        | refine sg_ps (ps_extract rfl rfl) rfl ?_
        | refine sg_ps (ps_field rfl rfl) rfl ?_
        | refine sg_ps (ps_min2 rfl rfl) rfl ?_
        | refine sg_ps (ps_max2 rfl rfl) rfl ?_
        | refine sg_ps (ps_build rfl rfl) rfl ?_
        | refine sg_box rfl rfl (fun bx => ?_)
        | refine sg_ps (ps_indexAddr rfl rfl rfl (by omega)) rfl ?_
        | refine sg_ps (ps_indexAddr_arr rfl rfl rfl (by omega)) rfl ?_
        | refine sg_block ?_
        | refine sg_skip ?_
        | refine sg_ret ?_
        | refine sg_exit ?_
        | refine ex_then_ret ?_
        | refine ex_then_exit ?_
        | refine ex_block_ret ?_
        | refine ex_block_normal ?_
        | refine ex_block_hit ?_
        | refine ex_block_miss rfl ?_
        | refine sg_store [] rfl rfl rfl (of_decide_eq_true rfl) ?_
        | refine sg_store [_] rfl rfl rfl (of_decide_eq_true rfl) ?_
        | refine sg_store [_, _] rfl rfl rfl (of_decide_eq_true rfl) ?_
        | refine sg_store [_, _, _] rfl rfl rfl (of_decide_eq_true rfl) ?_
        | refine sg_store [_, _, _, _] rfl rfl rfl (of_decide_eq_true rfl) ?_
        | refine sg_store [_, _, _, _, _] rfl rfl rfl (of_decide_eq_true rfl) ?_
        | refine sg_store [_, _, _, _, _, _] rfl rfl rfl (of_decide_eq_true rfl) ?_
        | refine sg_store [_, _, _, _, _, _, _] rfl rfl rfl (of_decide_eq_true rfl) ?_
        | (refine sg_guard_dec rfl rfl (fun hg => ?_) (fun hg => ?_) <;> first | (exfalso; omega) | (exact absurd rfl hg) | skip)
        | (refine sg_guard_ndec rfl rfl (fun hg => ?_) (fun hg => ?_) <;> first | (exfalso; omega) | (exact absurd rfl hg) | skip)
        | (refine sg_cond_dec rfl (fun hg => ?_) (fun hg => ?_) <;> first | (exfalso; omega) | (exact absurd rfl hg) | skip)
        | (refine sg_cond_ndec rfl (fun hg => ?_) (fun hg => ?_) <;> first | (exfalso; omega) | (exact absurd rfl hg) | skip)
        | refine sg_cond_not rfl (fun hg => ?_) (fun hg => ?_)
        | refine sg_cond rfl (fun hg => ?_) (fun hg => ?_))
      exact ex_mid (i + 1, cs.set i (.slice (some ⟨rb, 0, none⟩) 64 64), (rb, S1.seen[i].map bv) :: ls) ⟨by simp only []; omega, ⟨by simp only []; omega, hsv.step (by omega) (by omega) rb⟩⟩ (.cons rfl (.cons rfl (.cons rfl (.cons rfl (.cons rfl (.cons rfl .nil)))))) (fun w hO => (own_blks_push hO.front3.front1).front1.back4.front1)
    · obtain rfl : i = 16 := by omega
      refine sg_seq ?_
      repeat' (first
        | refine sg_wo ?_
        | refine sg_ps (ps_move rfl) rfl ?_
        | refine sg_ps (ps_assign rfl) rfl ?_
        | refine sg_region ?_
        | refine sg_nil ?_
        | refine sg_then ?_
        | refine sg_ps (ps_fieldAddr rfl) rfl ?_
        | refine sg_ps (ps_nilCheck rfl) rfl ?_
        | refine sg_load 0 rfl rfl rfl rfl ?_
        | refine sg_load 1 rfl rfl rfl rfl ?_
        | refine sg_load 2 rfl rfl rfl rfl ?_
        | refine sg_load 3 rfl rfl rfl rfl ?_
        | refine sg_load 4 rfl rfl rfl rfl ?_
        | refine sg_load 5 rfl rfl rfl rfl ?_
        | refine sg_load 6 rfl rfl rfl rfl ?_
        | refine sg_load 7 rfl rfl rfl rfl ?_
        | refine sg_ps (ps_add64 rfl rfl (by omega)) rfl ?_
        | refine sg_ps (ps_sub64 rfl rfl (by omega)) rfl ?_
        | refine sg_ps (ps_mul64 rfl rfl (by omega)) rfl ?_
        | refine sg_ps (ps_bin rfl rfl inferInstance) rfl ?_
        | refine sg_ps (ps_rem rfl rfl (by decide)) rfl ?_
        | refine sg_ps (ps_quo64 rfl rfl (by decide) (by omega)) rfl ?_
        | refine sg_ps (ps_not rfl) rfl ?_
        | refine sg_cond_t rfl ?_
        | refine sg_cond_f rfl ?_
        | refine sg_guard_yes rfl rfl ?_
        | refine sg_guard_nf rfl rfl rfl ?_
        | refine sg_guard_nt rfl rfl rfl ?_
        | refine sg_guard_nu rfl rfl rfl ?_
        | refine sg_ps (ps_pick_t rfl rfl) rfl ?_
        | refine sg_ps (ps_pick_f rfl rfl) rfl ?_
        | refine sg_ps (ps_len rfl) rfl ?_
        | refine sg_ps (ps_len_str rfl) rfl ?_
        | refine sg_ps (ps_extract rfl rfl) rfl ?_
        | refine sg_ps (ps_field rfl rfl) rfl ?_
        | refine sg_ps (ps_min2 rfl rfl) rfl ?_
        | refine sg_ps (ps_max2 rfl rfl) rfl ?_
        | refine sg_ps (ps_build rfl rfl) rfl ?_
        | refine sg_box rfl rfl (fun bx => ?_)
        | refine sg_ps (ps_indexAddr rfl rfl rfl (by omega)) rfl ?_
        | refine sg_ps (ps_indexAddr_arr rfl rfl rfl (by omega)) rfl ?_
        | refine sg_block ?_
        | refine sg_skip ?_
        | refine sg_ret ?_
        | refine sg_exit ?_
        | refine ex_then_ret ?_
        | refine ex_then_exit ?_
        | refine ex_block_ret ?_
        | refine ex_block_normal ?_
        | refine ex_block_hit ?_
        | refine ex_block_miss rfl ?_
        | refine sg_store [] rfl rfl rfl (of_decide_eq_true rfl) ?_
        | refine sg_store [_] rfl rfl rfl (of_decide_eq_true rfl) ?_
        | refine sg_store [_, _] rfl rfl rfl (of_decide_eq_true rfl) ?_
        | refine sg_store [_, _, _] rfl rfl rfl (of_decide_eq_true rfl) ?_
        | refine sg_store [_, _, _, _] rfl rfl rfl (of_decide_eq_true rfl) ?_
        | refine sg_store [_, _, _, _, _] rfl rfl rfl (of_decide_eq_true rfl) ?_
        | refine sg_store [_, _, _, _, _, _] rfl rfl rfl (of_decide_eq_true rfl) ?_
        | refine sg_store [_, _, _, _, _, _, _] rfl rfl rfl (of_decide_eq_true rfl) ?_
        | (refine sg_guard_dec rfl rfl (fun hg => ?_) (fun hg => ?_) <;> first | (exfalso; omega) | (exact absurd rfl hg) | skip)
        | (refine sg_guard_ndec rfl rfl (fun hg => ?_) (fun hg => ?_) <;> first | (exfalso; omega) | (exact absurd rfl hg) | skip)
        | (refine sg_cond_dec rfl (fun hg => ?_) (fun hg => ?_) <;> first | (exfalso; omega) | (exact absurd rfl hg) | skip)
        | (refine sg_cond_ndec rfl (fun hg => ?_) (fun hg => ?_) <;> first | (exfalso; omega) | (exact absurd rfl hg) | skip)
        | refine sg_cond_not rfl (fun hg => ?_) (fun hg => ?_)
        | refine sg_cond rfl (fun hg => ?_) (fun hg => ?_))
      refine sg_front3 ?_
      refine sg_front4 ?_
      refine sg_nil_own 1 ?_
      refine sg_seq_mid (γ := DS × Option Addr × Nat) (fun g => Both S1.seen g.1 ∧ g.1.wait.length ≤ 100)
        (fun g => [(5, dp d), (7, dp c), (10, dp wb), (11, dp vb), (13, .slice g.2.1 g.1.wait.length g.2.2)])
        (fun g => [sown g.2.1 g.1.wait.length g.2.2 1 (List.replicate g.1.wait.length (i64 1)), DiskRep d g.1, DiskRep c g.1, blk wb cs, blks ls, blk vb (List.replicate 16 (Value.slice none 0 0)), old W]) ?_ ?_
      · skip
        repeat' (first
          | refine sg_wo ?_
          | refine sg_ps (ps_move rfl) rfl ?_
          | refine sg_ps (ps_assign rfl) rfl ?_
          | refine sg_seq ?_
          | refine sg_region ?_
          | refine sg_nil ?_
          | refine sg_then ?_
          | refine sg_ps (ps_fieldAddr rfl) rfl ?_
          | refine sg_ps (ps_nilCheck rfl) rfl ?_
          | refine sg_load 0 rfl rfl rfl rfl ?_
          | refine sg_load 1 rfl rfl rfl rfl ?_
          | refine sg_load 2 rfl rfl rfl rfl ?_
          | refine sg_load 3 rfl rfl rfl rfl ?_
          | refine sg_load 4 rfl rfl rfl rfl ?_
          | refine sg_load 5 rfl rfl rfl rfl ?_
          | refine sg_load 6 rfl rfl rfl rfl ?_
          | refine sg_load 7 rfl rfl rfl rfl ?_
          | refine sg_ps (ps_add64 rfl rfl (by omega)) rfl ?_
          | refine sg_ps (ps_sub64 rfl rfl (by omega)) rfl ?_
          | refine sg_ps (ps_mul64 rfl rfl (by omega)) rfl ?_
          | refine sg_ps (ps_bin rfl rfl inferInstance) rfl ?_
          | refine sg_ps (ps_rem rfl rfl (by decide)) rfl ?_
          | refine sg_ps (ps_quo64 rfl rfl (by decide) (by omega)) rfl ?_
          | refine sg_ps (ps_not rfl) rfl ?_
          | refine sg_cond_t rfl ?_
          | refine sg_cond_f rfl ?_
          | refine sg_guard_yes rfl rfl ?_
          | refine sg_guard_nf rfl rfl rfl ?_
          | refine sg_guard_nt rfl rfl rfl ?_
          | refine sg_guard_nu rfl rfl rfl ?_
          | refine sg_ps (ps_pick_t rfl rfl) rfl ?_
          | refine sg_ps (ps_pick_f rfl rfl) rfl ?_
          | refine sg_ps (ps_len rfl) rfl ?_
          | refine sg_ps (ps_len_str rfl) rfl ?_
          | refine sg_ps (ps_extract rfl rfl) rfl ?_
          | refine sg_ps (ps_field rfl rfl) rfl ?_
          | refine sg_ps (ps_min2 rfl rfl) rfl ?_
          | refine sg_ps (ps_max2 rfl rfl) rfl ?_
          | refine sg_ps (ps_build rfl rfl) rfl ?_
          | refine sg_box rfl rfl (fun bx => ?_)
          | refine sg_ps (ps_indexAddr rfl rfl rfl (by omega)) rfl ?_
          | refine sg_ps (ps_indexAddr_arr rfl rfl rfl (by omega)) rfl ?_
          | refine sg_block ?_
          | refine sg_skip ?_
          | refine sg_ret ?_
          | refine sg_exit ?_
          | refine ex_then_ret ?_
          | refine ex_then_exit ?_
          | refine ex_block_ret ?_
          | refine ex_block_normal ?_
          | refine ex_block_hit ?_
          | refine ex_block_miss rfl ?_
          | refine sg_store [] rfl rfl rfl (of_decide_eq_true rfl) ?_
          | refine sg_store [_] rfl rfl rfl (of_decide_eq_true rfl) ?_
          | refine sg_store [_, _] rfl rfl rfl (of_decide_eq_true rfl) ?_
          | refine sg_store [_, _, _] rfl rfl rfl (of_decide_eq_true rfl) ?_
          | refine sg_store [_, _, _, _] rfl rfl rfl (of_decide_eq_true rfl) ?_
          | refine sg_store [_, _, _, _, _] rfl rfl rfl (of_decide_eq_true rfl) ?_
          | refine sg_store [_, _, _, _, _, _] rfl rfl rfl (of_decide_eq_true rfl) ?_
          | refine sg_store [_, _, _, _, _, _, _] rfl rfl rfl (of_decide_eq_true rfl) ?_
          | (refine sg_guard_dec rfl rfl (fun hg => ?_) (fun hg => ?_) <;> first | (exfalso; omega) | (exact absurd rfl hg) | skip)
          | (refine sg_guard_ndec rfl rfl (fun hg => ?_) (fun hg => ?_) <;> first | (exfalso; omega) | (exact absurd rfl hg) | skip)
          | (refine sg_cond_dec rfl (fun hg => ?_) (fun hg => ?_) <;> first | (exfalso; omega) | (exact absurd rfl hg) | skip)
          | (refine sg_cond_ndec rfl (fun hg => ?_) (fun hg => ?_) <;> first | (exfalso; omega) | (exact absurd rfl hg) | skip)
          | refine sg_cond_not rfl (fun hg => ?_) (fun hg => ?_)
          | refine sg_cond rfl (fun hg => ?_) (fun hg => ?_))
        refine sg_loop (γ := Nat × DS × Option Addr × Nat) (fun g => (g.1 ≤ q.length ∧ g.1 ≤ 100 ∧ g.2.1.wait.length ≤ g.1 ∧ g.2.1.writes ≤ 100 + g.1) ∧ Both S1.seen g.2.1)
          (fun g => [(1, .slice qa q.length qc), (5, dp d), (7, dp c), (10, dp wb), (11, dp vb), (13, .slice g.2.2.1 g.2.1.wait.length g.2.2.2), (14, i64 g.1)])
          (fun g => [sown g.2.2.1 g.2.1.wait.length g.2.2.2 1 (List.replicate g.2.1.wait.length (i64 1)), DiskRep d g.2.1, DiskRep c g.2.1, blk wb cs, blks ls, blk vb (List.replicate 16 (Value.slice none 0 0)), old W]) (fun g => 100 - g.1) (0, S1, none, 0)
          ⟨⟨Nat.zero_le _, Nat.zero_le _, by simp only []; omega, by simp only []; omega⟩, hb⟩ (.cons rfl (.cons rfl (.cons rfl (.cons rfl (.cons rfl (.cons (by rw [hw0.1]; rfl) (.cons rfl .nil))))))) (fun w hO => by simp only [hw0.1]; exact hO) ?_
        rintro ⟨i, S, aa, ac⟩ ⟨hi, hB⟩
        simp only [] at hi hB ⊢
        repeat' (first
          | refine sg_wo ?_
          | refine sg_ps (ps_move rfl) rfl ?_
          | refine sg_ps (ps_assign rfl) rfl ?_
          | refine sg_seq ?_
          | refine sg_region ?_
          | refine sg_nil ?_
          | refine sg_then ?_
          | refine sg_ps (ps_fieldAddr rfl) rfl ?_
          | refine sg_ps (ps_nilCheck rfl) rfl ?_
          | refine sg_load 0 rfl rfl rfl rfl ?_
          | refine sg_load 1 rfl rfl rfl rfl ?_
          | refine sg_load 2 rfl rfl rfl rfl ?_
          | refine sg_load 3 rfl rfl rfl rfl ?_
          | refine sg_load 4 rfl rfl rfl rfl ?_
          | refine sg_load 5 rfl rfl rfl rfl ?_
          | refine sg_load 6 rfl rfl rfl rfl ?_
          | refine sg_load 7 rfl rfl rfl rfl ?_
          | refine sg_ps (ps_add64 rfl rfl (by omega)) rfl ?_
          | refine sg_ps (ps_sub64 rfl rfl (by omega)) rfl ?_
          | refine sg_ps (ps_mul64 rfl rfl (by omega)) rfl ?_
          | refine sg_ps (ps_bin rfl rfl inferInstance) rfl ?_
          | refine sg_ps (ps_rem rfl rfl (by decide)) rfl ?_
          | refine sg_ps (ps_quo64 rfl rfl (by decide) (by omega)) rfl ?_
          | refine sg_ps (ps_not rfl) rfl ?_
          | refine sg_cond_t rfl ?_
          | refine sg_cond_f rfl ?_
          | refine sg_guard_yes rfl rfl ?_
          | refine sg_guard_nf rfl rfl rfl ?_
          | refine sg_guard_nt rfl rfl rfl ?_
          | refine sg_guard_nu rfl rfl rfl ?_
          | refine sg_ps (ps_pick_t rfl rfl) rfl ?_
          | refine sg_ps (ps_pick_f rfl rfl) rfl ?_
          | refine sg_ps (ps_len rfl) rfl ?_
          | refine sg_ps (ps_len_str rfl) rfl ?_
          | refine sg_ps (ps_extract rfl rfl) rfl ?_
          | refine sg_ps (ps_field rfl rfl) rfl ?_
          | refine sg_ps (ps_min2 rfl rfl) rfl ?_
          | refine sg_ps (ps_max2 rfl rfl) rfl ?_
          | refine sg_ps (ps_build rfl rfl) rfl ?_
          | refine sg_box rfl rfl (fun bx => ?_)
          | refine sg_ps (ps_indexAddr rfl rfl rfl (by omega)) rfl ?_
          | refine sg_ps (ps_indexAddr_arr rfl rfl rfl (by omega)) rfl ?_
          | refine sg_block ?_
          | refine sg_skip ?_
          | refine sg_ret ?_
          | refine sg_exit ?_
          | refine ex_then_ret ?_
          | refine ex_then_exit ?_
          | refine ex_block_ret ?_
          | refine ex_block_normal ?_
          | refine ex_block_hit ?_
          | refine ex_block_miss rfl ?_
          | refine sg_store [] rfl rfl rfl (of_decide_eq_true rfl) ?_
          | refine sg_store [_] rfl rfl rfl (of_decide_eq_true rfl) ?_
          | refine sg_store [_, _] rfl rfl rfl (of_decide_eq_true rfl) ?_
          | refine sg_store [_, _, _] rfl rfl rfl (of_decide_eq_true rfl) ?_
          | refine sg_store [_, _, _, _] rfl rfl rfl (of_decide_eq_true rfl) ?_
          | refine sg_store [_, _, _, _, _] rfl rfl rfl (of_decide_eq_true rfl) ?_
          | refine sg_store [_, _, _, _, _, _] rfl rfl rfl (of_decide_eq_true rfl) ?_
          | refine sg_store [_, _, _, _, _, _, _] rfl rfl rfl (of_decide_eq_true rfl) ?_
          | (refine sg_guard_dec rfl rfl (fun hg => ?_) (fun hg => ?_) <;> first | (exfalso; omega) | (exact absurd rfl hg) | skip)
          | (refine sg_guard_ndec rfl rfl (fun hg => ?_) (fun hg => ?_) <;> first | (exfalso; omega) | (exact absurd rfl hg) | skip)
          | (refine sg_cond_dec rfl (fun hg => ?_) (fun hg => ?_) <;> first | (exfalso; omega) | (exact absurd rfl hg) | skip)
          | (refine sg_cond_ndec rfl (fun hg => ?_) (fun hg => ?_) <;> first | (exfalso; omega) | (exact absurd rfl hg) | skip)
          | refine sg_cond_not rfl (fun hg => ?_) (fun hg => ?_)
          | refine sg_cond rfl (fun hg => ?_) (fun hg => ?_))
        · obtain ⟨lb, lo, rfl⟩ := hqp (by omega)
          obtain ⟨bb, oa, bc, oc, hb1, hb2, hb3, hb4, r0, r1, r2⟩ := hq i (by omega) lb lo rfl
          refine sg_front1 ?_
          refine sg_drawK [old W] [0, 1, 2, 3, 4, 6, 7, 8, 9, 5, 10, 11] (by kernel_rfl) (by kernel_rfl) (fun w hO => hO.tail.tail.tail.tail.tail.tail) ?_
          repeat' (first
            | refine sk_nil ?_
            | refine sk_pure rfl rfl (ps_move rfl) rfl ?_
            | refine sk_pure rfl rfl (ps_assign rfl) rfl ?_
            | refine sk_pure rfl rfl (ps_nilCheck rfl) rfl ?_
            | refine sk_pure rfl rfl (ps_fieldAddr rfl) rfl ?_
            | refine sk_pure rfl rfl (ps_add64 rfl rfl (by omega)) rfl ?_
            | refine sk_pure rfl rfl (ps_sub64 rfl rfl (by omega)) rfl ?_
            | refine sk_pure rfl rfl (ps_bin rfl rfl inferInstance) rfl ?_
            | refine sk_pure rfl rfl (ps_rem rfl rfl (by decide)) rfl ?_
            | refine sk_pure rfl rfl (ps_not rfl) rfl ?_
            | refine sk_pure rfl rfl (ps_len rfl) rfl ?_
            | refine sk_pure rfl rfl (ps_len_str rfl) rfl ?_
            | refine sk_pure rfl rfl (ps_extract rfl rfl) rfl ?_
            | refine sk_pure rfl rfl (ps_field rfl rfl) rfl ?_
            | refine sk_pure rfl rfl (ps_indexAddr rfl rfl rfl (by omega)) rfl ?_
            | refine sk_pure rfl rfl (ps_pick_t rfl rfl) rfl ?_
            | refine sk_pure rfl rfl (ps_pick_f rfl rfl) rfl ?_
            | refine sk_pure rfl rfl (ps_min2 rfl rfl) rfl ?_
            | refine sk_pure rfl rfl (ps_max2 rfl rfl) rfl ?_
            | refine sk_pure rfl rfl (ps_indexAddr_arr rfl rfl rfl (by omega)) rfl ?_
            | refine sk_no rfl rfl rfl rfl rfl ?_
            | refine sk_pure_g rfl rfl rfl rfl (ps_move rfl) rfl ?_
            | refine sk_pure_g rfl rfl rfl rfl (ps_assign rfl) rfl ?_
            | refine sk_pure_g rfl rfl rfl rfl (ps_nilCheck rfl) rfl ?_
            | refine sk_pure_g rfl rfl rfl rfl (ps_fieldAddr rfl) rfl ?_
            | refine sk_pure_g rfl rfl rfl rfl (ps_add64 rfl rfl (by omega)) rfl ?_
            | refine sk_pure_g rfl rfl rfl rfl (ps_sub64 rfl rfl (by omega)) rfl ?_
            | refine sk_pure_g rfl rfl rfl rfl (ps_bin rfl rfl inferInstance) rfl ?_
            | refine sk_pure_g rfl rfl rfl rfl (ps_rem rfl rfl (by decide)) rfl ?_
            | refine sk_pure_g rfl rfl rfl rfl (ps_not rfl) rfl ?_
            | refine sk_pure_g rfl rfl rfl rfl (ps_len rfl) rfl ?_
            | refine sk_pure_g rfl rfl rfl rfl (ps_len_str rfl) rfl ?_
            | refine sk_pure_g rfl rfl rfl rfl (ps_extract rfl rfl) rfl ?_
            | refine sk_pure_g rfl rfl rfl rfl (ps_field rfl rfl) rfl ?_
            | refine sk_pure_g rfl rfl rfl rfl (ps_indexAddr rfl rfl rfl (by omega)) rfl ?_
            | refine sk_pure_g rfl rfl rfl rfl (ps_pick_t rfl rfl) rfl ?_
            | refine sk_pure_g rfl rfl rfl rfl (ps_pick_f rfl rfl) rfl ?_
            | refine sk_pure_g rfl rfl rfl rfl (ps_min2 rfl rfl) rfl ?_
            | refine sk_pure_g rfl rfl rfl rfl (ps_max2 rfl rfl) rfl ?_
            | refine sk_pure_g rfl rfl rfl rfl (ps_indexAddr_arr rfl rfl rfl (by omega)) rfl ?_
            | refine sk_load_rd rfl rfl ((rdo_part r0 (i := 0) rfl).rd 0 rfl) rfl ?_
            | refine sk_load_rd rfl rfl ((rdo_part r0 (i := 1) rfl).rd 0 rfl) rfl ?_
            | refine sk_load_rd rfl rfl ((rdo_part r0 (i := 2) rfl).rd 0 rfl) rfl ?_
            | refine sk_load_rd rfl rfl ((rdo_part r0 (i := 3) rfl).rd 0 rfl) rfl ?_
            | refine sk_eff rfl rfl ?_
            | refine sg_store [] rfl rfl rfl (of_decide_eq_true rfl) ?_
            | refine sg_store [_] rfl rfl rfl (of_decide_eq_true rfl) ?_
            | refine sg_store [_, _] rfl rfl rfl (of_decide_eq_true rfl) ?_
            | refine sg_store [_, _, _] rfl rfl rfl (of_decide_eq_true rfl) ?_
            | refine sg_store [_, _, _, _] rfl rfl rfl (of_decide_eq_true rfl) ?_
            | refine sg_store [_, _, _, _, _] rfl rfl rfl (of_decide_eq_true rfl) ?_
            | refine sg_store [_, _, _, _, _, _] rfl rfl rfl (of_decide_eq_true rfl) ?_
            | refine sg_store [_, _, _, _, _, _, _] rfl rfl rfl (of_decide_eq_true rfl) ?_)
          have hd1 := write_tri (W := W) d S q[i].2.1 q[i].2.2.1 bb bc [sown aa S.wait.length ac 1 (List.replicate S.wait.length (i64 1)), DiskRep c S, blk wb cs, blks ls, blk vb (List.replicate 16 (Value.slice none 0 0)), old W] (by omega) (by omega) (r1.rd 5 rfl) (by omega)
          have hd2 := fun S' => write_tri (W := W) c S q[i].2.1 q[i].2.2.1 bb bc [DiskRep d S', sown aa S.wait.length ac 1 (List.replicate S.wait.length (i64 1)), blk wb cs, blks ls, blk vb (List.replicate 16 (Value.slice none 0 0)), old W] (by omega) (by omega) (r1.rd 5 rfl) (by omega)
          rcases hB.c.write q[i].2.1 q[i].2.2.1 with ⟨_, _, hw, hk⟩ | hw
          · rw [hw] at hd1 hd2
            refine sg_call hd1 rfl rfl (fun _ _ => ?_)
            refine sk_back (fun w hO => hO.tail.tail.tail.tail.tail.tail) ?_
            repeat' (first
              | refine sk_nil ?_
              | refine sk_pure rfl rfl (ps_move rfl) rfl ?_
              | refine sk_pure rfl rfl (ps_assign rfl) rfl ?_
              | refine sk_pure rfl rfl (ps_nilCheck rfl) rfl ?_
              | refine sk_pure rfl rfl (ps_fieldAddr rfl) rfl ?_
              | refine sk_pure rfl rfl (ps_add64 rfl rfl (by omega)) rfl ?_
              | refine sk_pure rfl rfl (ps_sub64 rfl rfl (by omega)) rfl ?_
              | refine sk_pure rfl rfl (ps_bin rfl rfl inferInstance) rfl ?_
              | refine sk_pure rfl rfl (ps_rem rfl rfl (by decide)) rfl ?_
              | refine sk_pure rfl rfl (ps_not rfl) rfl ?_
              | refine sk_pure rfl rfl (ps_len rfl) rfl ?_
              | refine sk_pure rfl rfl (ps_len_str rfl) rfl ?_
              | refine sk_pure rfl rfl (ps_extract rfl rfl) rfl ?_
              | refine sk_pure rfl rfl (ps_field rfl rfl) rfl ?_
              | refine sk_pure rfl rfl (ps_indexAddr rfl rfl rfl (by omega)) rfl ?_
              | refine sk_pure rfl rfl (ps_pick_t rfl rfl) rfl ?_
              | refine sk_pure rfl rfl (ps_pick_f rfl rfl) rfl ?_
              | refine sk_pure rfl rfl (ps_min2 rfl rfl) rfl ?_
              | refine sk_pure rfl rfl (ps_max2 rfl rfl) rfl ?_
              | refine sk_pure rfl rfl (ps_indexAddr_arr rfl rfl rfl (by omega)) rfl ?_
              | refine sk_no rfl rfl rfl rfl rfl ?_
              | refine sk_pure_g rfl rfl rfl rfl (ps_move rfl) rfl ?_
              | refine sk_pure_g rfl rfl rfl rfl (ps_assign rfl) rfl ?_
              | refine sk_pure_g rfl rfl rfl rfl (ps_nilCheck rfl) rfl ?_
              | refine sk_pure_g rfl rfl rfl rfl (ps_fieldAddr rfl) rfl ?_
              | refine sk_pure_g rfl rfl rfl rfl (ps_add64 rfl rfl (by omega)) rfl ?_
              | refine sk_pure_g rfl rfl rfl rfl (ps_sub64 rfl rfl (by omega)) rfl ?_
              | refine sk_pure_g rfl rfl rfl rfl (ps_bin rfl rfl inferInstance) rfl ?_
              | refine sk_pure_g rfl rfl rfl rfl (ps_rem rfl rfl (by decide)) rfl ?_
              | refine sk_pure_g rfl rfl rfl rfl (ps_not rfl) rfl ?_
              | refine sk_pure_g rfl rfl rfl rfl (ps_len rfl) rfl ?_
              | refine sk_pure_g rfl rfl rfl rfl (ps_len_str rfl) rfl ?_
              | refine sk_pure_g rfl rfl rfl rfl (ps_extract rfl rfl) rfl ?_
              | refine sk_pure_g rfl rfl rfl rfl (ps_field rfl rfl) rfl ?_
              | refine sk_pure_g rfl rfl rfl rfl (ps_indexAddr rfl rfl rfl (by omega)) rfl ?_
              | refine sk_pure_g rfl rfl rfl rfl (ps_pick_t rfl rfl) rfl ?_
              | refine sk_pure_g rfl rfl rfl rfl (ps_pick_f rfl rfl) rfl ?_
              | refine sk_pure_g rfl rfl rfl rfl (ps_min2 rfl rfl) rfl ?_
              | refine sk_pure_g rfl rfl rfl rfl (ps_max2 rfl rfl) rfl ?_
              | refine sk_pure_g rfl rfl rfl rfl (ps_indexAddr_arr rfl rfl rfl (by omega)) rfl ?_
              | refine sk_load_rd rfl rfl ((rdo_part r0 (i := 0) rfl).rd 0 rfl) rfl ?_
              | refine sk_load_rd rfl rfl ((rdo_part r0 (i := 1) rfl).rd 0 rfl) rfl ?_
              | refine sk_load_rd rfl rfl ((rdo_part r0 (i := 2) rfl).rd 0 rfl) rfl ?_
              | refine sk_load_rd rfl rfl ((rdo_part r0 (i := 3) rfl).rd 0 rfl) rfl ?_
              | refine sk_eff rfl rfl ?_
              | refine sg_store [] rfl rfl rfl (of_decide_eq_true rfl) ?_
              | refine sg_store [_] rfl rfl rfl (of_decide_eq_true rfl) ?_
              | refine sg_store [_, _] rfl rfl rfl (of_decide_eq_true rfl) ?_
              | refine sg_store [_, _, _] rfl rfl rfl (of_decide_eq_true rfl) ?_
              | refine sg_store [_, _, _, _] rfl rfl rfl (of_decide_eq_true rfl) ?_
              | refine sg_store [_, _, _, _, _] rfl rfl rfl (of_decide_eq_true rfl) ?_
              | refine sg_store [_, _, _, _, _, _] rfl rfl rfl (of_decide_eq_true rfl) ?_
              | refine sg_store [_, _, _, _, _, _, _] rfl rfl rfl (of_decide_eq_true rfl) ?_)
            repeat' (first
              | refine sg_wo ?_
              | refine sg_ps (ps_move rfl) rfl ?_
              | refine sg_ps (ps_assign rfl) rfl ?_
              | refine sg_seq ?_
              | refine sg_region ?_
              | refine sg_nil ?_
              | refine sg_then ?_
              | refine sg_ps (ps_fieldAddr rfl) rfl ?_
              | refine sg_ps (ps_nilCheck rfl) rfl ?_
              | refine sg_load 0 rfl rfl rfl rfl ?_
              | refine sg_load 1 rfl rfl rfl rfl ?_
              | refine sg_load 2 rfl rfl rfl rfl ?_
              | refine sg_load 3 rfl rfl rfl rfl ?_
              | refine sg_load 4 rfl rfl rfl rfl ?_
              | refine sg_load 5 rfl rfl rfl rfl ?_
              | refine sg_load 6 rfl rfl rfl rfl ?_
              | refine sg_load 7 rfl rfl rfl rfl ?_
              | refine sg_ps (ps_add64 rfl rfl (by omega)) rfl ?_
              | refine sg_ps (ps_sub64 rfl rfl (by omega)) rfl ?_
              | refine sg_ps (ps_mul64 rfl rfl (by omega)) rfl ?_
              | refine sg_ps (ps_bin rfl rfl inferInstance) rfl ?_
              | refine sg_ps (ps_rem rfl rfl (by decide)) rfl ?_
              | refine sg_ps (ps_quo64 rfl rfl (by decide) (by omega)) rfl ?_
              | refine sg_ps (ps_not rfl) rfl ?_
              | refine sg_cond_t rfl ?_
              | refine sg_cond_f rfl ?_
              | refine sg_guard_yes rfl rfl ?_
              | refine sg_guard_nf rfl rfl rfl ?_
              | refine sg_guard_nt rfl rfl rfl ?_
              | refine sg_guard_nu rfl rfl rfl ?_
              | refine sg_ps (ps_pick_t rfl rfl) rfl ?_
              | refine sg_ps (ps_pick_f rfl rfl) rfl ?_
              | refine sg_ps (ps_len rfl) rfl ?_
              | refine sg_ps (ps_len_str rfl) rfl ?_
              | refine sg_ps (ps_extract rfl rfl) rfl ?_
              | refine sg_ps (ps_field rfl rfl) rfl ?_
              | refine sg_ps (ps_min2 rfl rfl) rfl ?_
              | refine sg_ps (ps_max2 rfl rfl) rfl ?_
              | refine sg_ps (ps_build rfl rfl) rfl ?_
              | refine sg_box rfl rfl (fun bx => ?_)
              | refine sg_ps (ps_indexAddr rfl rfl rfl (by omega)) rfl ?_
              | refine sg_ps (ps_indexAddr_arr rfl rfl rfl (by omega)) rfl ?_
              | refine sg_block ?_
              | refine sg_skip ?_
              | refine sg_ret ?_
              | refine sg_exit ?_
              | refine ex_then_ret ?_
              | refine ex_then_exit ?_
              | refine ex_block_ret ?_
              | refine ex_block_normal ?_
              | refine ex_block_hit ?_
              | refine ex_block_miss rfl ?_
              | refine sg_store [] rfl rfl rfl (of_decide_eq_true rfl) ?_
              | refine sg_store [_] rfl rfl rfl (of_decide_eq_true rfl) ?_
              | refine sg_store [_, _] rfl rfl rfl (of_decide_eq_true rfl) ?_
              | refine sg_store [_, _, _] rfl rfl rfl (of_decide_eq_true rfl) ?_
              | refine sg_store [_, _, _, _] rfl rfl rfl (of_decide_eq_true rfl) ?_
              | refine sg_store [_, _, _, _, _] rfl rfl rfl (of_decide_eq_true rfl) ?_
              | refine sg_store [_, _, _, _, _, _] rfl rfl rfl (of_decide_eq_true rfl) ?_
              | refine sg_store [_, _, _, _, _, _, _] rfl rfl rfl (of_decide_eq_true rfl) ?_
              | (refine sg_guard_dec rfl rfl (fun hg => ?_) (fun hg => ?_) <;> first | (exfalso; omega) | (exact absurd rfl hg) | skip)
              | (refine sg_guard_ndec rfl rfl (fun hg => ?_) (fun hg => ?_) <;> first | (exfalso; omega) | (exact absurd rfl hg) | skip)
              | (refine sg_cond_dec rfl (fun hg => ?_) (fun hg => ?_) <;> first | (exfalso; omega) | (exact absurd rfl hg) | skip)
              | (refine sg_cond_ndec rfl (fun hg => ?_) (fun hg => ?_) <;> first | (exfalso; omega) | (exact absurd rfl hg) | skip)
              | refine sg_cond_not rfl (fun hg => ?_) (fun hg => ?_)
              | refine sg_cond rfl (fun hg => ?_) (fun hg => ?_))
            refine sg_drawK [old W] [0, 1, 2, 3, 4, 6, 7, 8, 9, 5, 10, 11, 12] (by kernel_rfl) (by kernel_rfl) (fun w hO => hO.tail.tail.tail.tail.tail.tail) ?_
            repeat' (first
              | refine sk_nil ?_
              | refine sk_pure rfl rfl (ps_move rfl) rfl ?_
              | refine sk_pure rfl rfl (ps_assign rfl) rfl ?_
              | refine sk_pure rfl rfl (ps_nilCheck rfl) rfl ?_
              | refine sk_pure rfl rfl (ps_fieldAddr rfl) rfl ?_
              | refine sk_pure rfl rfl (ps_add64 rfl rfl (by omega)) rfl ?_
              | refine sk_pure rfl rfl (ps_sub64 rfl rfl (by omega)) rfl ?_
              | refine sk_pure rfl rfl (ps_bin rfl rfl inferInstance) rfl ?_
              | refine sk_pure rfl rfl (ps_rem rfl rfl (by decide)) rfl ?_
              | refine sk_pure rfl rfl (ps_not rfl) rfl ?_
              | refine sk_pure rfl rfl (ps_len rfl) rfl ?_
              | refine sk_pure rfl rfl (ps_len_str rfl) rfl ?_
              | refine sk_pure rfl rfl (ps_extract rfl rfl) rfl ?_
              | refine sk_pure rfl rfl (ps_field rfl rfl) rfl ?_
              | refine sk_pure rfl rfl (ps_indexAddr rfl rfl rfl (by omega)) rfl ?_
              | refine sk_pure rfl rfl (ps_pick_t rfl rfl) rfl ?_
              | refine sk_pure rfl rfl (ps_pick_f rfl rfl) rfl ?_
              | refine sk_pure rfl rfl (ps_min2 rfl rfl) rfl ?_
              | refine sk_pure rfl rfl (ps_max2 rfl rfl) rfl ?_
              | refine sk_pure rfl rfl (ps_indexAddr_arr rfl rfl rfl (by omega)) rfl ?_
              | refine sk_no rfl rfl rfl rfl rfl ?_
              | refine sk_pure_g rfl rfl rfl rfl (ps_move rfl) rfl ?_
              | refine sk_pure_g rfl rfl rfl rfl (ps_assign rfl) rfl ?_
              | refine sk_pure_g rfl rfl rfl rfl (ps_nilCheck rfl) rfl ?_
              | refine sk_pure_g rfl rfl rfl rfl (ps_fieldAddr rfl) rfl ?_
              | refine sk_pure_g rfl rfl rfl rfl (ps_add64 rfl rfl (by omega)) rfl ?_
              | refine sk_pure_g rfl rfl rfl rfl (ps_sub64 rfl rfl (by omega)) rfl ?_
              | refine sk_pure_g rfl rfl rfl rfl (ps_bin rfl rfl inferInstance) rfl ?_
              | refine sk_pure_g rfl rfl rfl rfl (ps_rem rfl rfl (by decide)) rfl ?_
              | refine sk_pure_g rfl rfl rfl rfl (ps_not rfl) rfl ?_
              | refine sk_pure_g rfl rfl rfl rfl (ps_len rfl) rfl ?_
              | refine sk_pure_g rfl rfl rfl rfl (ps_len_str rfl) rfl ?_
              | refine sk_pure_g rfl rfl rfl rfl (ps_extract rfl rfl) rfl ?_
              | refine sk_pure_g rfl rfl rfl rfl (ps_field rfl rfl) rfl ?_
              | refine sk_pure_g rfl rfl rfl rfl (ps_indexAddr rfl rfl rfl (by omega)) rfl ?_
              | refine sk_pure_g rfl rfl rfl rfl (ps_pick_t rfl rfl) rfl ?_
              | refine sk_pure_g rfl rfl rfl rfl (ps_pick_f rfl rfl) rfl ?_
              | refine sk_pure_g rfl rfl rfl rfl (ps_min2 rfl rfl) rfl ?_
              | refine sk_pure_g rfl rfl rfl rfl (ps_max2 rfl rfl) rfl ?_
              | refine sk_pure_g rfl rfl rfl rfl (ps_indexAddr_arr rfl rfl rfl (by omega)) rfl ?_
              | refine sk_load_rd rfl rfl ((rdo_part r0 (i := 0) rfl).rd 0 rfl) rfl ?_
              | refine sk_load_rd rfl rfl ((rdo_part r0 (i := 1) rfl).rd 0 rfl) rfl ?_
              | refine sk_load_rd rfl rfl ((rdo_part r0 (i := 2) rfl).rd 0 rfl) rfl ?_
              | refine sk_load_rd rfl rfl ((rdo_part r0 (i := 3) rfl).rd 0 rfl) rfl ?_
              | refine sk_eff rfl rfl ?_
              | refine sg_store [] rfl rfl rfl (of_decide_eq_true rfl) ?_
              | refine sg_store [_] rfl rfl rfl (of_decide_eq_true rfl) ?_
              | refine sg_store [_, _] rfl rfl rfl (of_decide_eq_true rfl) ?_
              | refine sg_store [_, _, _] rfl rfl rfl (of_decide_eq_true rfl) ?_
              | refine sg_store [_, _, _, _] rfl rfl rfl (of_decide_eq_true rfl) ?_
              | refine sg_store [_, _, _, _, _] rfl rfl rfl (of_decide_eq_true rfl) ?_
              | refine sg_store [_, _, _, _, _, _] rfl rfl rfl (of_decide_eq_true rfl) ?_
              | refine sg_store [_, _, _, _, _, _, _] rfl rfl rfl (of_decide_eq_true rfl) ?_)
            refine sg_front2 ?_
            refine sg_call (hd2 _) rfl rfl (fun _ _ => ?_)
            refine sk_back (fun w hO => hO.tail.tail.tail.tail.tail.tail) ?_
            have hpl : (S.put q[i].2.1.toNat q[i].2.2.1).wait.length = S.wait.length + 1 := by simp [DS.put]
            have hpw : (S.put q[i].2.1.toNat q[i].2.2.1).writes = S.writes + 1 := rfl
            have hB2 := hB.put hk q[i].2.2.1
            generalize S.put q[i].2.1.toNat q[i].2.2.1 = S2 at hpl hpw hB2
            repeat' (first
              | refine sk_nil ?_
              | refine sk_pure rfl rfl (ps_move rfl) rfl ?_
              | refine sk_pure rfl rfl (ps_assign rfl) rfl ?_
              | refine sk_pure rfl rfl (ps_nilCheck rfl) rfl ?_
              | refine sk_pure rfl rfl (ps_fieldAddr rfl) rfl ?_
              | refine sk_pure rfl rfl (ps_add64 rfl rfl (by omega)) rfl ?_
              | refine sk_pure rfl rfl (ps_sub64 rfl rfl (by omega)) rfl ?_
              | refine sk_pure rfl rfl (ps_bin rfl rfl inferInstance) rfl ?_
              | refine sk_pure rfl rfl (ps_rem rfl rfl (by decide)) rfl ?_
              | refine sk_pure rfl rfl (ps_not rfl) rfl ?_
              | refine sk_pure rfl rfl (ps_len rfl) rfl ?_
              | refine sk_pure rfl rfl (ps_len_str rfl) rfl ?_
              | refine sk_pure rfl rfl (ps_extract rfl rfl) rfl ?_
              | refine sk_pure rfl rfl (ps_field rfl rfl) rfl ?_
              | refine sk_pure rfl rfl (ps_indexAddr rfl rfl rfl (by omega)) rfl ?_
              | refine sk_pure rfl rfl (ps_pick_t rfl rfl) rfl ?_
              | refine sk_pure rfl rfl (ps_pick_f rfl rfl) rfl ?_
              | refine sk_pure rfl rfl (ps_min2 rfl rfl) rfl ?_
              | refine sk_pure rfl rfl (ps_max2 rfl rfl) rfl ?_
              | refine sk_pure rfl rfl (ps_indexAddr_arr rfl rfl rfl (by omega)) rfl ?_
              | refine sk_no rfl rfl rfl rfl rfl ?_
              | refine sk_pure_g rfl rfl rfl rfl (ps_move rfl) rfl ?_
              | refine sk_pure_g rfl rfl rfl rfl (ps_assign rfl) rfl ?_
              | refine sk_pure_g rfl rfl rfl rfl (ps_nilCheck rfl) rfl ?_
              | refine sk_pure_g rfl rfl rfl rfl (ps_fieldAddr rfl) rfl ?_
              | refine sk_pure_g rfl rfl rfl rfl (ps_add64 rfl rfl (by omega)) rfl ?_
              | refine sk_pure_g rfl rfl rfl rfl (ps_sub64 rfl rfl (by omega)) rfl ?_
              | refine sk_pure_g rfl rfl rfl rfl (ps_bin rfl rfl inferInstance) rfl ?_
              | refine sk_pure_g rfl rfl rfl rfl (ps_rem rfl rfl (by decide)) rfl ?_
              | refine sk_pure_g rfl rfl rfl rfl (ps_not rfl) rfl ?_
              | refine sk_pure_g rfl rfl rfl rfl (ps_len rfl) rfl ?_
              | refine sk_pure_g rfl rfl rfl rfl (ps_len_str rfl) rfl ?_
              | refine sk_pure_g rfl rfl rfl rfl (ps_extract rfl rfl) rfl ?_
              | refine sk_pure_g rfl rfl rfl rfl (ps_field rfl rfl) rfl ?_
              | refine sk_pure_g rfl rfl rfl rfl (ps_indexAddr rfl rfl rfl (by omega)) rfl ?_
              | refine sk_pure_g rfl rfl rfl rfl (ps_pick_t rfl rfl) rfl ?_
              | refine sk_pure_g rfl rfl rfl rfl (ps_pick_f rfl rfl) rfl ?_
              | refine sk_pure_g rfl rfl rfl rfl (ps_min2 rfl rfl) rfl ?_
              | refine sk_pure_g rfl rfl rfl rfl (ps_max2 rfl rfl) rfl ?_
              | refine sk_pure_g rfl rfl rfl rfl (ps_indexAddr_arr rfl rfl rfl (by omega)) rfl ?_
              | refine sk_load_rd rfl rfl ((rdo_part r0 (i := 0) rfl).rd 0 rfl) rfl ?_
              | refine sk_load_rd rfl rfl ((rdo_part r0 (i := 1) rfl).rd 0 rfl) rfl ?_
              | refine sk_load_rd rfl rfl ((rdo_part r0 (i := 2) rfl).rd 0 rfl) rfl ?_
              | refine sk_load_rd rfl rfl ((rdo_part r0 (i := 3) rfl).rd 0 rfl) rfl ?_
              | refine sk_eff rfl rfl ?_
              | refine sg_store [] rfl rfl rfl (of_decide_eq_true rfl) ?_
              | refine sg_store [_] rfl rfl rfl (of_decide_eq_true rfl) ?_
              | refine sg_store [_, _] rfl rfl rfl (of_decide_eq_true rfl) ?_
              | refine sg_store [_, _, _] rfl rfl rfl (of_decide_eq_true rfl) ?_
              | refine sg_store [_, _, _, _] rfl rfl rfl (of_decide_eq_true rfl) ?_
              | refine sg_store [_, _, _, _, _] rfl rfl rfl (of_decide_eq_true rfl) ?_
              | refine sg_store [_, _, _, _, _, _] rfl rfl rfl (of_decide_eq_true rfl) ?_
              | refine sg_store [_, _, _, _, _, _, _] rfl rfl rfl (of_decide_eq_true rfl) ?_)
            repeat' (first
              | refine sg_wo ?_
              | refine sg_ps (ps_move rfl) rfl ?_
              | refine sg_ps (ps_assign rfl) rfl ?_
              | refine sg_seq ?_
              | refine sg_region ?_
              | refine sg_nil ?_
              | refine sg_then ?_
              | refine sg_ps (ps_fieldAddr rfl) rfl ?_
              | refine sg_ps (ps_nilCheck rfl) rfl ?_
              | refine sg_load 0 rfl rfl rfl rfl ?_
              | refine sg_load 1 rfl rfl rfl rfl ?_
              | refine sg_load 2 rfl rfl rfl rfl ?_
              | refine sg_load 3 rfl rfl rfl rfl ?_
              | refine sg_load 4 rfl rfl rfl rfl ?_
              | refine sg_load 5 rfl rfl rfl rfl ?_
              | refine sg_load 6 rfl rfl rfl rfl ?_
              | refine sg_load 7 rfl rfl rfl rfl ?_
              | refine sg_ps (ps_add64 rfl rfl (by omega)) rfl ?_
              | refine sg_ps (ps_sub64 rfl rfl (by omega)) rfl ?_
              | refine sg_ps (ps_mul64 rfl rfl (by omega)) rfl ?_
              | refine sg_ps (ps_bin rfl rfl inferInstance) rfl ?_
              | refine sg_ps (ps_rem rfl rfl (by decide)) rfl ?_
              | refine sg_ps (ps_quo64 rfl rfl (by decide) (by omega)) rfl ?_
              | refine sg_ps (ps_not rfl) rfl ?_
              | refine sg_cond_t rfl ?_
              | refine sg_cond_f rfl ?_
              | refine sg_guard_yes rfl rfl ?_
              | refine sg_guard_nf rfl rfl rfl ?_
              | refine sg_guard_nt rfl rfl rfl ?_
              | refine sg_guard_nu rfl rfl rfl ?_
              | refine sg_ps (ps_pick_t rfl rfl) rfl ?_
              | refine sg_ps (ps_pick_f rfl rfl) rfl ?_
              | refine sg_ps (ps_len rfl) rfl ?_
              | refine sg_ps (ps_len_str rfl) rfl ?_
              | refine sg_ps (ps_extract rfl rfl) rfl ?_
              | refine sg_ps (ps_field rfl rfl) rfl ?_
              | refine sg_ps (ps_min2 rfl rfl) rfl ?_
              | refine sg_ps (ps_max2 rfl rfl) rfl ?_
              | refine sg_ps (ps_build rfl rfl) rfl ?_
              | refine sg_box rfl rfl (fun bx => ?_)
              | refine sg_ps (ps_indexAddr rfl rfl rfl (by omega)) rfl ?_
              | refine sg_ps (ps_indexAddr_arr rfl rfl rfl (by omega)) rfl ?_
              | refine sg_block ?_
              | refine sg_skip ?_
              | refine sg_ret ?_
              | refine sg_exit ?_
              | refine ex_then_ret ?_
              | refine ex_then_exit ?_
              | refine ex_block_ret ?_
              | refine ex_block_normal ?_
              | refine ex_block_hit ?_
              | refine ex_block_miss rfl ?_
              | refine sg_store [] rfl rfl rfl (of_decide_eq_true rfl) ?_
              | refine sg_store [_] rfl rfl rfl (of_decide_eq_true rfl) ?_
              | refine sg_store [_, _] rfl rfl rfl (of_decide_eq_true rfl) ?_
              | refine sg_store [_, _, _] rfl rfl rfl (of_decide_eq_true rfl) ?_
              | refine sg_store [_, _, _, _] rfl rfl rfl (of_decide_eq_true rfl) ?_
              | refine sg_store [_, _, _, _, _] rfl rfl rfl (of_decide_eq_true rfl) ?_
              | refine sg_store [_, _, _, _, _, _] rfl rfl rfl (of_decide_eq_true rfl) ?_
              | refine sg_store [_, _, _, _, _, _, _] rfl rfl rfl (of_decide_eq_true rfl) ?_
              | (refine sg_guard_dec rfl rfl (fun hg => ?_) (fun hg => ?_) <;> first | (exfalso; omega) | (exact absurd rfl hg) | skip)
              | (refine sg_guard_ndec rfl rfl (fun hg => ?_) (fun hg => ?_) <;> first | (exfalso; omega) | (exact absurd rfl hg) | skip)
              | (refine sg_cond_dec rfl (fun hg => ?_) (fun hg => ?_) <;> first | (exfalso; omega) | (exact absurd rfl hg) | skip)
              | (refine sg_cond_ndec rfl (fun hg => ?_) (fun hg => ?_) <;> first | (exfalso; omega) | (exact absurd rfl hg) | skip)
              | refine sg_cond_not rfl (fun hg => ?_) (fun hg => ?_)
              | refine sg_cond rfl (fun hg => ?_) (fun hg => ?_))
            refine sg_buildSlice1 rfl (by decide) rfl rfl rfl (fun kb => ?_)
            repeat' (first
              | refine sg_wo ?_
              | refine sg_ps (ps_move rfl) rfl ?_
              | refine sg_ps (ps_assign rfl) rfl ?_
              | refine sg_seq ?_
              | refine sg_region ?_
              | refine sg_nil ?_
              | refine sg_then ?_
              | refine sg_ps (ps_fieldAddr rfl) rfl ?_
              | refine sg_ps (ps_nilCheck rfl) rfl ?_
              | refine sg_load 0 rfl rfl rfl rfl ?_
              | refine sg_load 1 rfl rfl rfl rfl ?_
              | refine sg_load 2 rfl rfl rfl rfl ?_
              | refine sg_load 3 rfl rfl rfl rfl ?_
              | refine sg_load 4 rfl rfl rfl rfl ?_
              | refine sg_load 5 rfl rfl rfl rfl ?_
              | refine sg_load 6 rfl rfl rfl rfl ?_
              | refine sg_load 7 rfl rfl rfl rfl ?_
              | refine sg_ps (ps_add64 rfl rfl (by omega)) rfl ?_
              | refine sg_ps (ps_sub64 rfl rfl (by omega)) rfl ?_
              | refine sg_ps (ps_mul64 rfl rfl (by omega)) rfl ?_
              | refine sg_ps (ps_bin rfl rfl inferInstance) rfl ?_
              | refine sg_ps (ps_rem rfl rfl (by decide)) rfl ?_
              | refine sg_ps (ps_quo64 rfl rfl (by decide) (by omega)) rfl ?_
              | refine sg_ps (ps_not rfl) rfl ?_
              | refine sg_cond_t rfl ?_
              | refine sg_cond_f rfl ?_
              | refine sg_guard_yes rfl rfl ?_
              | refine sg_guard_nf rfl rfl rfl ?_
              | refine sg_guard_nt rfl rfl rfl ?_
              | refine sg_guard_nu rfl rfl rfl ?_
              | refine sg_ps (ps_pick_t rfl rfl) rfl ?_
              | refine sg_ps (ps_pick_f rfl rfl) rfl ?_
              | refine sg_ps (ps_len rfl) rfl ?_
              | refine sg_ps (ps_len_str rfl) rfl ?_
              | refine sg_ps (ps_extract rfl rfl) rfl ?_
              | refine sg_ps (ps_field rfl rfl) rfl ?_
              | refine sg_ps (ps_min2 rfl rfl) rfl ?_
              | refine sg_ps (ps_max2 rfl rfl) rfl ?_
              | refine sg_ps (ps_build rfl rfl) rfl ?_
              | refine sg_box rfl rfl (fun bx => ?_)
              | refine sg_ps (ps_indexAddr rfl rfl rfl (by omega)) rfl ?_
              | refine sg_ps (ps_indexAddr_arr rfl rfl rfl (by omega)) rfl ?_
              | refine sg_block ?_
              | refine sg_skip ?_
              | refine sg_ret ?_
              | refine sg_exit ?_
              | refine ex_then_ret ?_
              | refine ex_then_exit ?_
              | refine ex_block_ret ?_
              | refine ex_block_normal ?_
              | refine ex_block_hit ?_
              | refine ex_block_miss rfl ?_
              | refine sg_store [] rfl rfl rfl (of_decide_eq_true rfl) ?_
              | refine sg_store [_] rfl rfl rfl (of_decide_eq_true rfl) ?_
              | refine sg_store [_, _] rfl rfl rfl (of_decide_eq_true rfl) ?_
              | refine sg_store [_, _, _] rfl rfl rfl (of_decide_eq_true rfl) ?_
              | refine sg_store [_, _, _, _] rfl rfl rfl (of_decide_eq_true rfl) ?_
              | refine sg_store [_, _, _, _, _] rfl rfl rfl (of_decide_eq_true rfl) ?_
              | refine sg_store [_, _, _, _, _, _] rfl rfl rfl (of_decide_eq_true rfl) ?_
              | refine sg_store [_, _, _, _, _, _, _] rfl rfl rfl (of_decide_eq_true rfl) ?_
              | (refine sg_guard_dec rfl rfl (fun hg => ?_) (fun hg => ?_) <;> first | (exfalso; omega) | (exact absurd rfl hg) | skip)
              | (refine sg_guard_ndec rfl rfl (fun hg => ?_) (fun hg => ?_) <;> first | (exfalso; omega) | (exact absurd rfl hg) | skip)
              | (refine sg_cond_dec rfl (fun hg => ?_) (fun hg => ?_) <;> first | (exfalso; omega) | (exact absurd rfl hg) | skip)
              | (refine sg_cond_ndec rfl (fun hg => ?_) (fun hg => ?_) <;> first | (exfalso; omega) | (exact absurd rfl hg) | skip)
              | refine sg_cond_not rfl (fun hg => ?_) (fun hg => ?_)
              | refine sg_cond rfl (fun hg => ?_) (fun hg => ?_))
            refine sg_front3 ?_
            refine sg_append (by_ := 8) rfl rfl rfl (news := [i64 1]) rfl (by intro u hu; simp only [List.mem_singleton] at hu; rw [hu]; rfl) (rd_blk 1 rfl (fun j u hj => by rw [Nat.zero_add]; exact hj)) (by show S.wait.length + 1 ≤ 9223372036854775807; omega) (by omega) (fun a' c' => ?_)
            have hre : List.replicate S.wait.length (i64 1) ++ [i64 1] = List.replicate S2.wait.length (i64 1) := by rw [hpl, List.replicate_succ']
            rw [hre, ← hpl]
            repeat' (first
              | refine sg_wo ?_
              | refine sg_ps (ps_move rfl) rfl ?_
              | refine sg_ps (ps_assign rfl) rfl ?_
              | refine sg_seq ?_
              | refine sg_region ?_
              | refine sg_nil ?_
              | refine sg_then ?_
              | refine sg_ps (ps_fieldAddr rfl) rfl ?_
              | refine sg_ps (ps_nilCheck rfl) rfl ?_
              | refine sg_load 0 rfl rfl rfl rfl ?_
              | refine sg_load 1 rfl rfl rfl rfl ?_
              | refine sg_load 2 rfl rfl rfl rfl ?_
              | refine sg_load 3 rfl rfl rfl rfl ?_
              | refine sg_load 4 rfl rfl rfl rfl ?_
              | refine sg_load 5 rfl rfl rfl rfl ?_
              | refine sg_load 6 rfl rfl rfl rfl ?_
              | refine sg_load 7 rfl rfl rfl rfl ?_
              | refine sg_ps (ps_add64 rfl rfl (by omega)) rfl ?_
              | refine sg_ps (ps_sub64 rfl rfl (by omega)) rfl ?_
              | refine sg_ps (ps_mul64 rfl rfl (by omega)) rfl ?_
              | refine sg_ps (ps_bin rfl rfl inferInstance) rfl ?_
              | refine sg_ps (ps_rem rfl rfl (by decide)) rfl ?_
              | refine sg_ps (ps_quo64 rfl rfl (by decide) (by omega)) rfl ?_
              | refine sg_ps (ps_not rfl) rfl ?_
              | refine sg_cond_t rfl ?_
              | refine sg_cond_f rfl ?_
              | refine sg_guard_yes rfl rfl ?_
              | refine sg_guard_nf rfl rfl rfl ?_
              | refine sg_guard_nt rfl rfl rfl ?_
              | refine sg_guard_nu rfl rfl rfl ?_
              | refine sg_ps (ps_pick_t rfl rfl) rfl ?_
              | refine sg_ps (ps_pick_f rfl rfl) rfl ?_
              | refine sg_ps (ps_len rfl) rfl ?_
              | refine sg_ps (ps_len_str rfl) rfl ?_
              | refine sg_ps (ps_extract rfl rfl) rfl ?_
              | refine sg_ps (ps_field rfl rfl) rfl ?_
              | refine sg_ps (ps_min2 rfl rfl) rfl ?_
              | refine sg_ps (ps_max2 rfl rfl) rfl ?_
              | refine sg_ps (ps_build rfl rfl) rfl ?_
              | refine sg_box rfl rfl (fun bx => ?_)
              | refine sg_ps (ps_indexAddr rfl rfl rfl (by omega)) rfl ?_
              | refine sg_ps (ps_indexAddr_arr rfl rfl rfl (by omega)) rfl ?_
              | refine sg_block ?_
              | refine sg_skip ?_
              | refine sg_ret ?_
              | refine sg_exit ?_
              | refine ex_then_ret ?_
              | refine ex_then_exit ?_
              | refine ex_block_ret ?_
              | refine ex_block_normal ?_
              | refine ex_block_hit ?_
              | refine ex_block_miss rfl ?_
              | refine sg_store [] rfl rfl rfl (of_decide_eq_true rfl) ?_
              | refine sg_store [_] rfl rfl rfl (of_decide_eq_true rfl) ?_
              | refine sg_store [_, _] rfl rfl rfl (of_decide_eq_true rfl) ?_
              | refine sg_store [_, _, _] rfl rfl rfl (of_decide_eq_true rfl) ?_
              | refine sg_store [_, _, _, _] rfl rfl rfl (of_decide_eq_true rfl) ?_
              | refine sg_store [_, _, _, _, _] rfl rfl rfl (of_decide_eq_true rfl) ?_
              | refine sg_store [_, _, _, _, _, _] rfl rfl rfl (of_decide_eq_true rfl) ?_
              | refine sg_store [_, _, _, _, _, _, _] rfl rfl rfl (of_decide_eq_true rfl) ?_
              | (refine sg_guard_dec rfl rfl (fun hg => ?_) (fun hg => ?_) <;> first | (exfalso; omega) | (exact absurd rfl hg) | skip)
              | (refine sg_guard_ndec rfl rfl (fun hg => ?_) (fun hg => ?_) <;> first | (exfalso; omega) | (exact absurd rfl hg) | skip)
              | (refine sg_cond_dec rfl (fun hg => ?_) (fun hg => ?_) <;> first | (exfalso; omega) | (exact absurd rfl hg) | skip)
              | (refine sg_cond_ndec rfl (fun hg => ?_) (fun hg => ?_) <;> first | (exfalso; omega) | (exact absurd rfl hg) | skip)
              | refine sg_cond_not rfl (fun hg => ?_) (fun hg => ?_)
              | refine sg_cond rfl (fun hg => ?_) (fun hg => ?_))
            exact ex_mid (i + 1, S2, a', c') ⟨by simp only []; omega, ⟨by simp only []; omega, by simp only []; omega, by simp only []; omega, by simp only []; omega⟩, hB2⟩ (.cons rfl (.cons rfl (.cons rfl (.cons rfl (.cons rfl (.cons rfl (.cons rfl .nil))))))) (fun w hO => hO.front1.tail.front2.back1)
          · rw [hw] at hd1 hd2
            refine sg_call hd1 rfl rfl (fun _ _ => ?_)
            refine sk_back (fun w hO => hO.tail.tail.tail.tail.tail.tail) ?_
            repeat' (first
              | refine sk_nil ?_
              | refine sk_pure rfl rfl (ps_move rfl) rfl ?_
              | refine sk_pure rfl rfl (ps_assign rfl) rfl ?_
              | refine sk_pure rfl rfl (ps_nilCheck rfl) rfl ?_
              | refine sk_pure rfl rfl (ps_fieldAddr rfl) rfl ?_
              | refine sk_pure rfl rfl (ps_add64 rfl rfl (by omega)) rfl ?_
              | refine sk_pure rfl rfl (ps_sub64 rfl rfl (by omega)) rfl ?_
              | refine sk_pure rfl rfl (ps_bin rfl rfl inferInstance) rfl ?_
              | refine sk_pure rfl rfl (ps_rem rfl rfl (by decide)) rfl ?_
              | refine sk_pure rfl rfl (ps_not rfl) rfl ?_
              | refine sk_pure rfl rfl (ps_len rfl) rfl ?_
              | refine sk_pure rfl rfl (ps_len_str rfl) rfl ?_
              | refine sk_pure rfl rfl (ps_extract rfl rfl) rfl ?_
              | refine sk_pure rfl rfl (ps_field rfl rfl) rfl ?_
              | refine sk_pure rfl rfl (ps_indexAddr rfl rfl rfl (by omega)) rfl ?_
              | refine sk_pure rfl rfl (ps_pick_t rfl rfl) rfl ?_
              | refine sk_pure rfl rfl (ps_pick_f rfl rfl) rfl ?_
              | refine sk_pure rfl rfl (ps_min2 rfl rfl) rfl ?_
              | refine sk_pure rfl rfl (ps_max2 rfl rfl) rfl ?_
              | refine sk_pure rfl rfl (ps_indexAddr_arr rfl rfl rfl (by omega)) rfl ?_
              | refine sk_no rfl rfl rfl rfl rfl ?_
              | refine sk_pure_g rfl rfl rfl rfl (ps_move rfl) rfl ?_
              | refine sk_pure_g rfl rfl rfl rfl (ps_assign rfl) rfl ?_
              | refine sk_pure_g rfl rfl rfl rfl (ps_nilCheck rfl) rfl ?_
              | refine sk_pure_g rfl rfl rfl rfl (ps_fieldAddr rfl) rfl ?_
              | refine sk_pure_g rfl rfl rfl rfl (ps_add64 rfl rfl (by omega)) rfl ?_
              | refine sk_pure_g rfl rfl rfl rfl (ps_sub64 rfl rfl (by omega)) rfl ?_
              | refine sk_pure_g rfl rfl rfl rfl (ps_bin rfl rfl inferInstance) rfl ?_
              | refine sk_pure_g rfl rfl rfl rfl (ps_rem rfl rfl (by decide)) rfl ?_
              | refine sk_pure_g rfl rfl rfl rfl (ps_not rfl) rfl ?_
              | refine sk_pure_g rfl rfl rfl rfl (ps_len rfl) rfl ?_
              | refine sk_pure_g rfl rfl rfl rfl (ps_len_str rfl) rfl ?_
              | refine sk_pure_g rfl rfl rfl rfl (ps_extract rfl rfl) rfl ?_
              | refine sk_pure_g rfl rfl rfl rfl (ps_field rfl rfl) rfl ?_
              | refine sk_pure_g rfl rfl rfl rfl (ps_indexAddr rfl rfl rfl (by omega)) rfl ?_
              | refine sk_pure_g rfl rfl rfl rfl (ps_pick_t rfl rfl) rfl ?_
              | refine sk_pure_g rfl rfl rfl rfl (ps_pick_f rfl rfl) rfl ?_
              | refine sk_pure_g rfl rfl rfl rfl (ps_min2 rfl rfl) rfl ?_
              | refine sk_pure_g rfl rfl rfl rfl (ps_max2 rfl rfl) rfl ?_
              | refine sk_pure_g rfl rfl rfl rfl (ps_indexAddr_arr rfl rfl rfl (by omega)) rfl ?_
              | refine sk_load_rd rfl rfl ((rdo_part r0 (i := 0) rfl).rd 0 rfl) rfl ?_
              | refine sk_load_rd rfl rfl ((rdo_part r0 (i := 1) rfl).rd 0 rfl) rfl ?_
              | refine sk_load_rd rfl rfl ((rdo_part r0 (i := 2) rfl).rd 0 rfl) rfl ?_
              | refine sk_load_rd rfl rfl ((rdo_part r0 (i := 3) rfl).rd 0 rfl) rfl ?_
              | refine sk_eff rfl rfl ?_
              | refine sg_store [] rfl rfl rfl (of_decide_eq_true rfl) ?_
              | refine sg_store [_] rfl rfl rfl (of_decide_eq_true rfl) ?_
              | refine sg_store [_, _] rfl rfl rfl (of_decide_eq_true rfl) ?_
              | refine sg_store [_, _, _] rfl rfl rfl (of_decide_eq_true rfl) ?_
              | refine sg_store [_, _, _, _] rfl rfl rfl (of_decide_eq_true rfl) ?_
              | refine sg_store [_, _, _, _, _] rfl rfl rfl (of_decide_eq_true rfl) ?_
              | refine sg_store [_, _, _, _, _, _] rfl rfl rfl (of_decide_eq_true rfl) ?_
              | refine sg_store [_, _, _, _, _, _, _] rfl rfl rfl (of_decide_eq_true rfl) ?_)
            repeat' (first
              | refine sg_wo ?_
              | refine sg_ps (ps_move rfl) rfl ?_
              | refine sg_ps (ps_assign rfl) rfl ?_
              | refine sg_seq ?_
              | refine sg_region ?_
              | refine sg_nil ?_
              | refine sg_then ?_
              | refine sg_ps (ps_fieldAddr rfl) rfl ?_
              | refine sg_ps (ps_nilCheck rfl) rfl ?_
              | refine sg_load 0 rfl rfl rfl rfl ?_
              | refine sg_load 1 rfl rfl rfl rfl ?_
              | refine sg_load 2 rfl rfl rfl rfl ?_
              | refine sg_load 3 rfl rfl rfl rfl ?_
              | refine sg_load 4 rfl rfl rfl rfl ?_
              | refine sg_load 5 rfl rfl rfl rfl ?_
              | refine sg_load 6 rfl rfl rfl rfl ?_
              | refine sg_load 7 rfl rfl rfl rfl ?_
              | refine sg_ps (ps_add64 rfl rfl (by omega)) rfl ?_
              | refine sg_ps (ps_sub64 rfl rfl (by omega)) rfl ?_
              | refine sg_ps (ps_mul64 rfl rfl (by omega)) rfl ?_
              | refine sg_ps (ps_bin rfl rfl inferInstance) rfl ?_
              | refine sg_ps (ps_rem rfl rfl (by decide)) rfl ?_
              | refine sg_ps (ps_quo64 rfl rfl (by decide) (by omega)) rfl ?_
              | refine sg_ps (ps_not rfl) rfl ?_
              | refine sg_cond_t rfl ?_
              | refine sg_cond_f rfl ?_
              | refine sg_guard_yes rfl rfl ?_
              | refine sg_guard_nf rfl rfl rfl ?_
              | refine sg_guard_nt rfl rfl rfl ?_
              | refine sg_guard_nu rfl rfl rfl ?_
              | refine sg_ps (ps_pick_t rfl rfl) rfl ?_
              | refine sg_ps (ps_pick_f rfl rfl) rfl ?_
              | refine sg_ps (ps_len rfl) rfl ?_
              | refine sg_ps (ps_len_str rfl) rfl ?_
              | refine sg_ps (ps_extract rfl rfl) rfl ?_
              | refine sg_ps (ps_field rfl rfl) rfl ?_
              | refine sg_ps (ps_min2 rfl rfl) rfl ?_
              | refine sg_ps (ps_max2 rfl rfl) rfl ?_
              | refine sg_ps (ps_build rfl rfl) rfl ?_
              | refine sg_box rfl rfl (fun bx => ?_)
              | refine sg_ps (ps_indexAddr rfl rfl rfl (by omega)) rfl ?_
              | refine sg_ps (ps_indexAddr_arr rfl rfl rfl (by omega)) rfl ?_
              | refine sg_block ?_
              | refine sg_skip ?_
              | refine sg_ret ?_
              | refine sg_exit ?_
              | refine ex_then_ret ?_
              | refine ex_then_exit ?_
              | refine ex_block_ret ?_
              | refine ex_block_normal ?_
              | refine ex_block_hit ?_
              | refine ex_block_miss rfl ?_
              | refine sg_store [] rfl rfl rfl (of_decide_eq_true rfl) ?_
              | refine sg_store [_] rfl rfl rfl (of_decide_eq_true rfl) ?_
              | refine sg_store [_, _] rfl rfl rfl (of_decide_eq_true rfl) ?_
              | refine sg_store [_, _, _] rfl rfl rfl (of_decide_eq_true rfl) ?_
              | refine sg_store [_, _, _, _] rfl rfl rfl (of_decide_eq_true rfl) ?_
              | refine sg_store [_, _, _, _, _] rfl rfl rfl (of_decide_eq_true rfl) ?_
              | refine sg_store [_, _, _, _, _, _] rfl rfl rfl (of_decide_eq_true rfl) ?_
              | refine sg_store [_, _, _, _, _, _, _] rfl rfl rfl (of_decide_eq_true rfl) ?_
              | (refine sg_guard_dec rfl rfl (fun hg => ?_) (fun hg => ?_) <;> first | (exfalso; omega) | (exact absurd rfl hg) | skip)
              | (refine sg_guard_ndec rfl rfl (fun hg => ?_) (fun hg => ?_) <;> first | (exfalso; omega) | (exact absurd rfl hg) | skip)
              | (refine sg_cond_dec rfl (fun hg => ?_) (fun hg => ?_) <;> first | (exfalso; omega) | (exact absurd rfl hg) | skip)
              | (refine sg_cond_ndec rfl (fun hg => ?_) (fun hg => ?_) <;> first | (exfalso; omega) | (exact absurd rfl hg) | skip)
              | refine sg_cond_not rfl (fun hg => ?_) (fun hg => ?_)
              | refine sg_cond rfl (fun hg => ?_) (fun hg => ?_))
            refine sg_drawK [old W] [0, 1, 2, 3, 4, 6, 7, 8, 9, 5, 10, 11, 12] (by kernel_rfl) (by kernel_rfl) (fun w hO => hO.tail.tail.tail.tail.tail.tail) ?_
            repeat' (first
              | refine sk_nil ?_
              | refine sk_pure rfl rfl (ps_move rfl) rfl ?_
              | refine sk_pure rfl rfl (ps_assign rfl) rfl ?_
              | refine sk_pure rfl rfl (ps_nilCheck rfl) rfl ?_
              | refine sk_pure rfl rfl (ps_fieldAddr rfl) rfl ?_
              | refine sk_pure rfl rfl (ps_add64 rfl rfl (by omega)) rfl ?_
              | refine sk_pure rfl rfl (ps_sub64 rfl rfl (by omega)) rfl ?_
              | refine sk_pure rfl rfl (ps_bin rfl rfl inferInstance) rfl ?_
              | refine sk_pure rfl rfl (ps_rem rfl rfl (by decide)) rfl ?_
              | refine sk_pure rfl rfl (ps_not rfl) rfl ?_
              | refine sk_pure rfl rfl (ps_len rfl) rfl ?_
              | refine sk_pure rfl rfl (ps_len_str rfl) rfl ?_
              | refine sk_pure rfl rfl (ps_extract rfl rfl) rfl ?_
              | refine sk_pure rfl rfl (ps_field rfl rfl) rfl ?_
              | refine sk_pure rfl rfl (ps_indexAddr rfl rfl rfl (by omega)) rfl ?_
              | refine sk_pure rfl rfl (ps_pick_t rfl rfl) rfl ?_
              | refine sk_pure rfl rfl (ps_pick_f rfl rfl) rfl ?_
              | refine sk_pure rfl rfl (ps_min2 rfl rfl) rfl ?_
              | refine sk_pure rfl rfl (ps_max2 rfl rfl) rfl ?_
              | refine sk_pure rfl rfl (ps_indexAddr_arr rfl rfl rfl (by omega)) rfl ?_
              | refine sk_no rfl rfl rfl rfl rfl ?_
              | refine sk_pure_g rfl rfl rfl rfl (ps_move rfl) rfl ?_
              | refine sk_pure_g rfl rfl rfl rfl (ps_assign rfl) rfl ?_
              | refine sk_pure_g rfl rfl rfl rfl (ps_nilCheck rfl) rfl ?_
              | refine sk_pure_g rfl rfl rfl rfl (ps_fieldAddr rfl) rfl ?_
              | refine sk_pure_g rfl rfl rfl rfl (ps_add64 rfl rfl (by omega)) rfl ?_
              | refine sk_pure_g rfl rfl rfl rfl (ps_sub64 rfl rfl (by omega)) rfl ?_
              | refine sk_pure_g rfl rfl rfl rfl (ps_bin rfl rfl inferInstance) rfl ?_
              | refine sk_pure_g rfl rfl rfl rfl (ps_rem rfl rfl (by decide)) rfl ?_
              | refine sk_pure_g rfl rfl rfl rfl (ps_not rfl) rfl ?_
              | refine sk_pure_g rfl rfl rfl rfl (ps_len rfl) rfl ?_
              | refine sk_pure_g rfl rfl rfl rfl (ps_len_str rfl) rfl ?_
              | refine sk_pure_g rfl rfl rfl rfl (ps_extract rfl rfl) rfl ?_
              | refine sk_pure_g rfl rfl rfl rfl (ps_field rfl rfl) rfl ?_
              | refine sk_pure_g rfl rfl rfl rfl (ps_indexAddr rfl rfl rfl (by omega)) rfl ?_
              | refine sk_pure_g rfl rfl rfl rfl (ps_pick_t rfl rfl) rfl ?_
              | refine sk_pure_g rfl rfl rfl rfl (ps_pick_f rfl rfl) rfl ?_
              | refine sk_pure_g rfl rfl rfl rfl (ps_min2 rfl rfl) rfl ?_
              | refine sk_pure_g rfl rfl rfl rfl (ps_max2 rfl rfl) rfl ?_
              | refine sk_pure_g rfl rfl rfl rfl (ps_indexAddr_arr rfl rfl rfl (by omega)) rfl ?_
              | refine sk_load_rd rfl rfl ((rdo_part r0 (i := 0) rfl).rd 0 rfl) rfl ?_
              | refine sk_load_rd rfl rfl ((rdo_part r0 (i := 1) rfl).rd 0 rfl) rfl ?_
              | refine sk_load_rd rfl rfl ((rdo_part r0 (i := 2) rfl).rd 0 rfl) rfl ?_
              | refine sk_load_rd rfl rfl ((rdo_part r0 (i := 3) rfl).rd 0 rfl) rfl ?_
              | refine sk_eff rfl rfl ?_
              | refine sg_store [] rfl rfl rfl (of_decide_eq_true rfl) ?_
              | refine sg_store [_] rfl rfl rfl (of_decide_eq_true rfl) ?_
              | refine sg_store [_, _] rfl rfl rfl (of_decide_eq_true rfl) ?_
              | refine sg_store [_, _, _] rfl rfl rfl (of_decide_eq_true rfl) ?_
              | refine sg_store [_, _, _, _] rfl rfl rfl (of_decide_eq_true rfl) ?_
              | refine sg_store [_, _, _, _, _] rfl rfl rfl (of_decide_eq_true rfl) ?_
              | refine sg_store [_, _, _, _, _, _] rfl rfl rfl (of_decide_eq_true rfl) ?_
              | refine sg_store [_, _, _, _, _, _, _] rfl rfl rfl (of_decide_eq_true rfl) ?_)
            refine sg_front2 ?_
            refine sg_call (hd2 _) rfl rfl (fun _ _ => ?_)
            refine sk_back (fun w hO => hO.tail.tail.tail.tail.tail.tail) ?_
            repeat' (first
              | refine sk_nil ?_
              | refine sk_pure rfl rfl (ps_move rfl) rfl ?_
              | refine sk_pure rfl rfl (ps_assign rfl) rfl ?_
              | refine sk_pure rfl rfl (ps_nilCheck rfl) rfl ?_
              | refine sk_pure rfl rfl (ps_fieldAddr rfl) rfl ?_
              | refine sk_pure rfl rfl (ps_add64 rfl rfl (by omega)) rfl ?_
              | refine sk_pure rfl rfl (ps_sub64 rfl rfl (by omega)) rfl ?_
              | refine sk_pure rfl rfl (ps_bin rfl rfl inferInstance) rfl ?_
              | refine sk_pure rfl rfl (ps_rem rfl rfl (by decide)) rfl ?_
              | refine sk_pure rfl rfl (ps_not rfl) rfl ?_
              | refine sk_pure rfl rfl (ps_len rfl) rfl ?_
              | refine sk_pure rfl rfl (ps_len_str rfl) rfl ?_
              | refine sk_pure rfl rfl (ps_extract rfl rfl) rfl ?_
              | refine sk_pure rfl rfl (ps_field rfl rfl) rfl ?_
              | refine sk_pure rfl rfl (ps_indexAddr rfl rfl rfl (by omega)) rfl ?_
              | refine sk_pure rfl rfl (ps_pick_t rfl rfl) rfl ?_
              | refine sk_pure rfl rfl (ps_pick_f rfl rfl) rfl ?_
              | refine sk_pure rfl rfl (ps_min2 rfl rfl) rfl ?_
              | refine sk_pure rfl rfl (ps_max2 rfl rfl) rfl ?_
              | refine sk_pure rfl rfl (ps_indexAddr_arr rfl rfl rfl (by omega)) rfl ?_
              | refine sk_no rfl rfl rfl rfl rfl ?_
              | refine sk_pure_g rfl rfl rfl rfl (ps_move rfl) rfl ?_
              | refine sk_pure_g rfl rfl rfl rfl (ps_assign rfl) rfl ?_
              | refine sk_pure_g rfl rfl rfl rfl (ps_nilCheck rfl) rfl ?_
              | refine sk_pure_g rfl rfl rfl rfl (ps_fieldAddr rfl) rfl ?_
              | refine sk_pure_g rfl rfl rfl rfl (ps_add64 rfl rfl (by omega)) rfl ?_
              | refine sk_pure_g rfl rfl rfl rfl (ps_sub64 rfl rfl (by omega)) rfl ?_
              | refine sk_pure_g rfl rfl rfl rfl (ps_bin rfl rfl inferInstance) rfl ?_
              | refine sk_pure_g rfl rfl rfl rfl (ps_rem rfl rfl (by decide)) rfl ?_
              | refine sk_pure_g rfl rfl rfl rfl (ps_not rfl) rfl ?_
              | refine sk_pure_g rfl rfl rfl rfl (ps_len rfl) rfl ?_
              | refine sk_pure_g rfl rfl rfl rfl (ps_len_str rfl) rfl ?_
              | refine sk_pure_g rfl rfl rfl rfl (ps_extract rfl rfl) rfl ?_
              | refine sk_pure_g rfl rfl rfl rfl (ps_field rfl rfl) rfl ?_
              | refine sk_pure_g rfl rfl rfl rfl (ps_indexAddr rfl rfl rfl (by omega)) rfl ?_
              | refine sk_pure_g rfl rfl rfl rfl (ps_pick_t rfl rfl) rfl ?_
              | refine sk_pure_g rfl rfl rfl rfl (ps_pick_f rfl rfl) rfl ?_
              | refine sk_pure_g rfl rfl rfl rfl (ps_min2 rfl rfl) rfl ?_
              | refine sk_pure_g rfl rfl rfl rfl (ps_max2 rfl rfl) rfl ?_
              | refine sk_pure_g rfl rfl rfl rfl (ps_indexAddr_arr rfl rfl rfl (by omega)) rfl ?_
              | refine sk_load_rd rfl rfl ((rdo_part r0 (i := 0) rfl).rd 0 rfl) rfl ?_
              | refine sk_load_rd rfl rfl ((rdo_part r0 (i := 1) rfl).rd 0 rfl) rfl ?_
              | refine sk_load_rd rfl rfl ((rdo_part r0 (i := 2) rfl).rd 0 rfl) rfl ?_
              | refine sk_load_rd rfl rfl ((rdo_part r0 (i := 3) rfl).rd 0 rfl) rfl ?_
              | refine sk_eff rfl rfl ?_
              | refine sg_store [] rfl rfl rfl (of_decide_eq_true rfl) ?_
              | refine sg_store [_] rfl rfl rfl (of_decide_eq_true rfl) ?_
              | refine sg_store [_, _] rfl rfl rfl (of_decide_eq_true rfl) ?_
              | refine sg_store [_, _, _] rfl rfl rfl (of_decide_eq_true rfl) ?_
              | refine sg_store [_, _, _, _] rfl rfl rfl (of_decide_eq_true rfl) ?_
              | refine sg_store [_, _, _, _, _] rfl rfl rfl (of_decide_eq_true rfl) ?_
              | refine sg_store [_, _, _, _, _, _] rfl rfl rfl (of_decide_eq_true rfl) ?_
              | refine sg_store [_, _, _, _, _, _, _] rfl rfl rfl (of_decide_eq_true rfl) ?_)
            repeat' (first
              | refine sg_wo ?_
              | refine sg_ps (ps_move rfl) rfl ?_
              | refine sg_ps (ps_assign rfl) rfl ?_
              | refine sg_seq ?_
              | refine sg_region ?_
              | refine sg_nil ?_
              | refine sg_then ?_
              | refine sg_ps (ps_fieldAddr rfl) rfl ?_
              | refine sg_ps (ps_nilCheck rfl) rfl ?_
              | refine sg_load 0 rfl rfl rfl rfl ?_
              | refine sg_load 1 rfl rfl rfl rfl ?_
              | refine sg_load 2 rfl rfl rfl rfl ?_
              | refine sg_load 3 rfl rfl rfl rfl ?_
              | refine sg_load 4 rfl rfl rfl rfl ?_
              | refine sg_load 5 rfl rfl rfl rfl ?_
              | refine sg_load 6 rfl rfl rfl rfl ?_
              | refine sg_load 7 rfl rfl rfl rfl ?_
              | refine sg_ps (ps_add64 rfl rfl (by omega)) rfl ?_
              | refine sg_ps (ps_sub64 rfl rfl (by omega)) rfl ?_
              | refine sg_ps (ps_mul64 rfl rfl (by omega)) rfl ?_
              | refine sg_ps (ps_bin rfl rfl inferInstance) rfl ?_
              | refine sg_ps (ps_rem rfl rfl (by decide)) rfl ?_
              | refine sg_ps (ps_quo64 rfl rfl (by decide) (by omega)) rfl ?_
              | refine sg_ps (ps_not rfl) rfl ?_
              | refine sg_cond_t rfl ?_
              | refine sg_cond_f rfl ?_
              | refine sg_guard_yes rfl rfl ?_
              | refine sg_guard_nf rfl rfl rfl ?_
              | refine sg_guard_nt rfl rfl rfl ?_
              | refine sg_guard_nu rfl rfl rfl ?_
              | refine sg_ps (ps_pick_t rfl rfl) rfl ?_
              | refine sg_ps (ps_pick_f rfl rfl) rfl ?_
              | refine sg_ps (ps_len rfl) rfl ?_
              | refine sg_ps (ps_len_str rfl) rfl ?_
              | refine sg_ps (ps_extract rfl rfl) rfl ?_
              | refine sg_ps (ps_field rfl rfl) rfl ?_
              | refine sg_ps (ps_min2 rfl rfl) rfl ?_
              | refine sg_ps (ps_max2 rfl rfl) rfl ?_
              | refine sg_ps (ps_build rfl rfl) rfl ?_
              | refine sg_box rfl rfl (fun bx => ?_)
              | refine sg_ps (ps_indexAddr rfl rfl rfl (by omega)) rfl ?_
              | refine sg_ps (ps_indexAddr_arr rfl rfl rfl (by omega)) rfl ?_
              | refine sg_block ?_
              | refine sg_skip ?_
              | refine sg_ret ?_
              | refine sg_exit ?_
              | refine ex_then_ret ?_
              | refine ex_then_exit ?_
              | refine ex_block_ret ?_
              | refine ex_block_normal ?_
              | refine ex_block_hit ?_
              | refine ex_block_miss rfl ?_
              | refine sg_store [] rfl rfl rfl (of_decide_eq_true rfl) ?_
              | refine sg_store [_] rfl rfl rfl (of_decide_eq_true rfl) ?_
              | refine sg_store [_, _] rfl rfl rfl (of_decide_eq_true rfl) ?_
              | refine sg_store [_, _, _] rfl rfl rfl (of_decide_eq_true rfl) ?_
              | refine sg_store [_, _, _, _] rfl rfl rfl (of_decide_eq_true rfl) ?_
              | refine sg_store [_, _, _, _, _] rfl rfl rfl (of_decide_eq_true rfl) ?_
              | refine sg_store [_, _, _, _, _, _] rfl rfl rfl (of_decide_eq_true rfl) ?_
              | refine sg_store [_, _, _, _, _, _, _] rfl rfl rfl (of_decide_eq_true rfl) ?_
              | (refine sg_guard_dec rfl rfl (fun hg => ?_) (fun hg => ?_) <;> first | (exfalso; omega) | (exact absurd rfl hg) | skip)
              | (refine sg_guard_ndec rfl rfl (fun hg => ?_) (fun hg => ?_) <;> first | (exfalso; omega) | (exact absurd rfl hg) | skip)
              | (refine sg_cond_dec rfl (fun hg => ?_) (fun hg => ?_) <;> first | (exfalso; omega) | (exact absurd rfl hg) | skip)
              | (refine sg_cond_ndec rfl (fun hg => ?_) (fun hg => ?_) <;> first | (exfalso; omega) | (exact absurd rfl hg) | skip)
              | refine sg_cond_not rfl (fun hg => ?_) (fun hg => ?_)
              | refine sg_cond rfl (fun hg => ?_) (fun hg => ?_))
            exact ex_mid (i + 1, S, aa, ac) ⟨by simp only []; omega, ⟨by simp only []; omega, by simp only []; omega, by simp only []; omega, by simp only []; omega⟩, hB⟩ (.cons rfl (.cons rfl (.cons rfl (.cons rfl (.cons rfl (.cons rfl (.cons rfl .nil))))))) (fun w hO => hO.front1.front2)
        · exact ex_mid (S, aa, ac) ⟨hB, by simp only []; omega⟩ (.cons rfl (.cons rfl (.cons rfl (.cons rfl (.cons rfl .nil))))) (fun w hO => hO)
        · exact ex_mid (S, aa, ac) ⟨hB, by simp only []; omega⟩ (.cons rfl (.cons rfl (.cons rfl (.cons rfl (.cons rfl .nil))))) (fun w hO => hO)
      · rintro ⟨S, aa, ac⟩ ⟨hB, hwl⟩
        simp only [] at hB hwl ⊢
        have hn2 := hB.c.n
        refine sg_front4 ?_
        refine sg_front5 ?_
        repeat' (first
          | refine sg_wo ?_
          | refine sg_ps (ps_move rfl) rfl ?_
          | refine sg_ps (ps_assign rfl) rfl ?_
          | refine sg_seq ?_
          | refine sg_region ?_
          | refine sg_nil ?_
          | refine sg_then ?_
          | refine sg_ps (ps_fieldAddr rfl) rfl ?_
          | refine sg_ps (ps_nilCheck rfl) rfl ?_
          | refine sg_load 0 rfl rfl rfl rfl ?_
          | refine sg_load 1 rfl rfl rfl rfl ?_
          | refine sg_load 2 rfl rfl rfl rfl ?_
          | refine sg_load 3 rfl rfl rfl rfl ?_
          | refine sg_load 4 rfl rfl rfl rfl ?_
          | refine sg_load 5 rfl rfl rfl rfl ?_
          | refine sg_load 6 rfl rfl rfl rfl ?_
          | refine sg_load 7 rfl rfl rfl rfl ?_
          | refine sg_ps (ps_add64 rfl rfl (by omega)) rfl ?_
          | refine sg_ps (ps_sub64 rfl rfl (by omega)) rfl ?_
          | refine sg_ps (ps_mul64 rfl rfl (by omega)) rfl ?_
          | refine sg_ps (ps_bin rfl rfl inferInstance) rfl ?_
          | refine sg_ps (ps_rem rfl rfl (by decide)) rfl ?_
          | refine sg_ps (ps_quo64 rfl rfl (by decide) (by omega)) rfl ?_
          | refine sg_ps (ps_not rfl) rfl ?_
          | refine sg_cond_t rfl ?_
          | refine sg_cond_f rfl ?_
          | refine sg_guard_yes rfl rfl ?_
          | refine sg_guard_nf rfl rfl rfl ?_
          | refine sg_guard_nt rfl rfl rfl ?_
          | refine sg_guard_nu rfl rfl rfl ?_
          | refine sg_ps (ps_pick_t rfl rfl) rfl ?_
          | refine sg_ps (ps_pick_f rfl rfl) rfl ?_
          | refine sg_ps (ps_len rfl) rfl ?_
          | refine sg_ps (ps_len_str rfl) rfl ?_
          | refine sg_ps (ps_extract rfl rfl) rfl ?_
          | refine sg_ps (ps_field rfl rfl) rfl ?_
          | refine sg_ps (ps_min2 rfl rfl) rfl ?_
          | refine sg_ps (ps_max2 rfl rfl) rfl ?_
          | refine sg_ps (ps_build rfl rfl) rfl ?_
          | refine sg_box rfl rfl (fun bx => ?_)
          | refine sg_ps (ps_indexAddr rfl rfl rfl (by omega)) rfl ?_
          | refine sg_ps (ps_indexAddr_arr rfl rfl rfl (by omega)) rfl ?_
          | refine sg_block ?_
          | refine sg_skip ?_
          | refine sg_ret ?_
          | refine sg_exit ?_
          | refine ex_then_ret ?_
          | refine ex_then_exit ?_
          | refine ex_block_ret ?_
          | refine ex_block_normal ?_
          | refine ex_block_hit ?_
          | refine ex_block_miss rfl ?_
          | refine sg_store [] rfl rfl rfl (of_decide_eq_true rfl) ?_
          | refine sg_store [_] rfl rfl rfl (of_decide_eq_true rfl) ?_
          | refine sg_store [_, _] rfl rfl rfl (of_decide_eq_true rfl) ?_
          | refine sg_store [_, _, _] rfl rfl rfl (of_decide_eq_true rfl) ?_
          | refine sg_store [_, _, _, _] rfl rfl rfl (of_decide_eq_true rfl) ?_
          | refine sg_store [_, _, _, _, _] rfl rfl rfl (of_decide_eq_true rfl) ?_
          | refine sg_store [_, _, _, _, _, _] rfl rfl rfl (of_decide_eq_true rfl) ?_
          | refine sg_store [_, _, _, _, _, _, _] rfl rfl rfl (of_decide_eq_true rfl) ?_
          | (refine sg_guard_dec rfl rfl (fun hg => ?_) (fun hg => ?_) <;> first | (exfalso; omega) | (exact absurd rfl hg) | skip)
          | (refine sg_guard_ndec rfl rfl (fun hg => ?_) (fun hg => ?_) <;> first | (exfalso; omega) | (exact absurd rfl hg) | skip)
          | (refine sg_cond_dec rfl (fun hg => ?_) (fun hg => ?_) <;> first | (exfalso; omega) | (exact absurd rfl hg) | skip)
          | (refine sg_cond_ndec rfl (fun hg => ?_) (fun hg => ?_) <;> first | (exfalso; omega) | (exact absurd rfl hg) | skip)
          | refine sg_cond_not rfl (fun hg => ?_) (fun hg => ?_)
          | refine sg_cond rfl (fun hg => ?_) (fun hg => ?_))
        refine sg_loop (γ := Nat × List Value × List (Nat × List Value)) (fun g => g.1 ≤ 16 ∧ Saved S.seen g.1 g.2.1 g.2.2 ∧ ∀ p ∈ ls, p ∈ g.2.2)
          (fun g => [(5, dp d), (7, dp c), (10, dp wb), (11, dp vb), (13, .slice aa S.wait.length ac), (15, i64 g.1)])
          (fun g => [blk vb g.2.1, blks g.2.2, sown aa S.wait.length ac 1 (List.replicate S.wait.length (i64 1)), DiskRep d S, DiskRep c S, blk wb cs, old W]) (fun g => 16 - g.1) (0, List.replicate 16 (Value.slice none 0 0), ls) ⟨Nat.zero_le _, Saved.zero _ _, fun p hp => hp⟩
          (.cons rfl (.cons rfl (.cons rfl (.cons rfl (.cons rfl (.cons rfl .nil)))))) (fun w hO => hO) ?_
        rintro ⟨i, vs, ls2⟩ ⟨hi, hsv2, hsub⟩
        simp only [] at hi hsv2 hsub ⊢
        repeat' (first
          | refine sg_wo ?_
          | refine sg_ps (ps_move rfl) rfl ?_
          | refine sg_ps (ps_assign rfl) rfl ?_
          | refine sg_seq ?_
          | refine sg_region ?_
          | refine sg_nil ?_
          | refine sg_then ?_
          | refine sg_ps (ps_fieldAddr rfl) rfl ?_
          | refine sg_ps (ps_nilCheck rfl) rfl ?_
          | refine sg_load 0 rfl rfl rfl rfl ?_
          | refine sg_load 1 rfl rfl rfl rfl ?_
          | refine sg_load 2 rfl rfl rfl rfl ?_
          | refine sg_load 3 rfl rfl rfl rfl ?_
          | refine sg_load 4 rfl rfl rfl rfl ?_
          | refine sg_load 5 rfl rfl rfl rfl ?_
          | refine sg_load 6 rfl rfl rfl rfl ?_
          | refine sg_load 7 rfl rfl rfl rfl ?_
          | refine sg_ps (ps_add64 rfl rfl (by omega)) rfl ?_
          | refine sg_ps (ps_sub64 rfl rfl (by omega)) rfl ?_
          | refine sg_ps (ps_mul64 rfl rfl (by omega)) rfl ?_
          | refine sg_ps (ps_bin rfl rfl inferInstance) rfl ?_
          | refine sg_ps (ps_rem rfl rfl (by decide)) rfl ?_
          | refine sg_ps (ps_quo64 rfl rfl (by decide) (by omega)) rfl ?_
          | refine sg_ps (ps_not rfl) rfl ?_
          | refine sg_cond_t rfl ?_
          | refine sg_cond_f rfl ?_
          | refine sg_guard_yes rfl rfl ?_
          | refine sg_guard_nf rfl rfl rfl ?_
          | refine sg_guard_nt rfl rfl rfl ?_
          | refine sg_guard_nu rfl rfl rfl ?_
          | refine sg_ps (ps_pick_t rfl rfl) rfl ?_
          | refine sg_ps (ps_pick_f rfl rfl) rfl ?_
          | refine sg_ps (ps_len rfl) rfl ?_
          | refine sg_ps (ps_len_str rfl) rfl ?_
          | refine sg_ps (ps_extract rfl rfl) rfl ?_
          | refine sg_ps (ps_field rfl rfl) rfl ?_
          | refine sg_ps (ps_min2 rfl rfl) rfl ?_
          | refine sg_ps (ps_max2 rfl rfl) rfl ?_
          | refine sg_ps (ps_build rfl rfl) rfl ?_
          | refine sg_box rfl rfl (fun bx => ?_)
          | refine sg_ps (ps_indexAddr rfl rfl rfl (by omega)) rfl ?_
          | refine sg_ps (ps_indexAddr_arr rfl rfl rfl (by omega)) rfl ?_
          | refine sg_block ?_
          | refine sg_skip ?_
          | refine sg_ret ?_
          | refine sg_exit ?_
          | refine ex_then_ret ?_
          | refine ex_then_exit ?_
          | refine ex_block_ret ?_
          | refine ex_block_normal ?_
          | refine ex_block_hit ?_
          | refine ex_block_miss rfl ?_
          | refine sg_store [] rfl rfl rfl (of_decide_eq_true rfl) ?_
          | refine sg_store [_] rfl rfl rfl (of_decide_eq_true rfl) ?_
          | refine sg_store [_, _] rfl rfl rfl (of_decide_eq_true rfl) ?_
          | refine sg_store [_, _, _] rfl rfl rfl (of_decide_eq_true rfl) ?_
          | refine sg_store [_, _, _, _] rfl rfl rfl (of_decide_eq_true rfl) ?_
          | refine sg_store [_, _, _, _, _] rfl rfl rfl (of_decide_eq_true rfl) ?_
          | refine sg_store [_, _, _, _, _, _] rfl rfl rfl (of_decide_eq_true rfl) ?_
          | refine sg_store [_, _, _, _, _, _, _] rfl rfl rfl (of_decide_eq_true rfl) ?_
          | (refine sg_guard_dec rfl rfl (fun hg => ?_) (fun hg => ?_) <;> first | (exfalso; omega) | (exact absurd rfl hg) | skip)
          | (refine sg_guard_ndec rfl rfl (fun hg => ?_) (fun hg => ?_) <;> first | (exfalso; omega) | (exact absurd rfl hg) | skip)
          | (refine sg_cond_dec rfl (fun hg => ?_) (fun hg => ?_) <;> first | (exfalso; omega) | (exact absurd rfl hg) | skip)
          | (refine sg_cond_ndec rfl (fun hg => ?_) (fun hg => ?_) <;> first | (exfalso; omega) | (exact absurd rfl hg) | skip)
          | refine sg_cond_not rfl (fun hg => ?_) (fun hg => ?_)
          | refine sg_cond rfl (fun hg => ?_) (fun hg => ?_))
        · refine sg_front4 ?_
          refine sg_call (read_tri c S i _ (by omega)) rfl rfl (fun rb _ => ?_)
          repeat' (first
            | refine sg_wo ?_
            | refine sg_ps (ps_move rfl) rfl ?_
            | refine sg_ps (ps_assign rfl) rfl ?_
            | refine sg_seq ?_
            | refine sg_region ?_
            | refine sg_nil ?_
            | refine sg_then ?_
            | refine sg_ps (ps_fieldAddr rfl) rfl ?_
            | refine sg_ps (ps_nilCheck rfl) rfl ?_
            | refine sg_load 0 rfl rfl rfl rfl ?_
            | refine sg_load 1 rfl rfl rfl rfl ?_
            | refine sg_load 2 rfl rfl rfl rfl ?_
            | refine sg_load 3 rfl rfl rfl rfl ?_
            | refine sg_load 4 rfl rfl rfl rfl ?_
            | refine sg_load 5 rfl rfl rfl rfl ?_
            | refine sg_load 6 rfl rfl rfl rfl ?_
            | refine sg_load 7 rfl rfl rfl rfl ?_
            | refine sg_ps (ps_add64 rfl rfl (by omega)) rfl ?_
            | refine sg_ps (ps_sub64 rfl rfl (by omega)) rfl ?_
            | refine sg_ps (ps_mul64 rfl rfl (by omega)) rfl ?_
            | refine sg_ps (ps_bin rfl rfl inferInstance) rfl ?_
            | refine sg_ps (ps_rem rfl rfl (by decide)) rfl ?_
            | refine sg_ps (ps_quo64 rfl rfl (by decide) (by omega)) rfl ?_
            | refine sg_ps (ps_not rfl) rfl ?_
            | refine sg_cond_t rfl ?_
            | refine sg_cond_f rfl ?_
            | refine sg_guard_yes rfl rfl ?_
            | refine sg_guard_nf rfl rfl rfl ?_
            | refine sg_guard_nt rfl rfl rfl ?_
            | refine sg_guard_nu rfl rfl rfl ?_
            | refine sg_ps (ps_pick_t rfl rfl) rfl ?_
            | refine sg_ps (ps_pick_f rfl rfl) rfl ?_
            | refine sg_ps (ps_len rfl) rfl ?_
            | refine sg_ps (ps_len_str rfl) rfl ?_
            | refine sg_ps (ps_extract rfl rfl) rfl ?_
            | refine sg_ps (ps_field rfl rfl) rfl ?_
            | refine sg_ps (ps_min2 rfl rfl) rfl ?_
            | refine sg_ps (ps_max2 rfl rfl) rfl ?_
            | refine sg_ps (ps_build rfl rfl) rfl ?_
            | refine sg_box rfl rfl (fun bx => ?_)
            | refine sg_ps (ps_indexAddr rfl rfl rfl (by omega)) rfl ?_
            | refine sg_ps (ps_indexAddr_arr rfl rfl rfl (by omega)) rfl ?_
            | refine sg_block ?_
            | refine sg_skip ?_
            | refine sg_ret ?_
            | refine sg_exit ?_
            | refine ex_then_ret ?_
            | refine ex_then_exit ?_
            | refine ex_block_ret ?_
            | refine ex_block_normal ?_
            | refine ex_block_hit ?_
            | refine ex_block_miss rfl ?_
            | refine sg_store [] rfl rfl rfl (of_decide_eq_true rfl) ?_
            | refine sg_store [_] rfl rfl rfl (of_decide_eq_true rfl) ?_
            | refine sg_store [_, _] rfl rfl rfl (of_decide_eq_true rfl) ?_
            | refine sg_store [_, _, _] rfl rfl rfl (of_decide_eq_true rfl) ?_
            | refine sg_store [_, _, _, _] rfl rfl rfl (of_decide_eq_true rfl) ?_
            | refine sg_store [_, _, _, _, _] rfl rfl rfl (of_decide_eq_true rfl) ?_
            | refine sg_store [_, _, _, _, _, _] rfl rfl rfl (of_decide_eq_true rfl) ?_
            | refine sg_store [_, _, _, _, _, _, _] rfl rfl rfl (of_decide_eq_true rfl) ?_
            | (refine sg_guard_dec rfl rfl (fun hg => ?_) (fun hg => ?_) <;> first | (exfalso; omega) | (exact absurd rfl hg) | skip)
            | (refine sg_guard_ndec rfl rfl (fun hg => ?_) (fun hg => ?_) <;> first | (exfalso; omega) | (exact absurd rfl hg) | skip)
            | (refine sg_cond_dec rfl (fun hg => ?_) (fun hg => ?_) <;> first | (exfalso; omega) | (exact absurd rfl hg) | skip)
            | (refine sg_cond_ndec rfl (fun hg => ?_) (fun hg => ?_) <;> first | (exfalso; omega) | (exact absurd rfl hg) | skip)
            | refine sg_cond_not rfl (fun hg => ?_) (fun hg => ?_)
            | refine sg_cond rfl (fun hg => ?_) (fun hg => ?_))
          refine sg_store [_, _] rfl rfl rfl (by have := hsv2.1; omega) ?_
          rw [show 0 + i * 1 = i by omega]
          repeat' (first
            | refine sg_wo ?_
            | refine sg_ps (ps_move rfl) rfl ?_
            | refine sg_ps (ps_assign rfl) rfl ?_
            | refine sg_seq ?_
            | refine sg_region ?_
            | refine sg_nil ?_
            | refine sg_then ?_
            | refine sg_ps (ps_fieldAddr rfl) rfl ?_
            | refine sg_ps (ps_nilCheck rfl) rfl ?_
            | refine sg_load 0 rfl rfl rfl rfl ?_
            | refine sg_load 1 rfl rfl rfl rfl ?_
            | refine sg_load 2 rfl rfl rfl rfl ?_
            | refine sg_load 3 rfl rfl rfl rfl ?_
            | refine sg_load 4 rfl rfl rfl rfl ?_
            | refine sg_load 5 rfl rfl rfl rfl ?_
            | refine sg_load 6 rfl rfl rfl rfl ?_
            | refine sg_load 7 rfl rfl rfl rfl ?_
            | refine sg_ps (ps_add64 rfl rfl (by omega)) rfl ?_
            | refine sg_ps (ps_sub64 rfl rfl (by omega)) rfl ?_
            | refine sg_ps (ps_mul64 rfl rfl (by omega)) rfl ?_
            | refine sg_ps (ps_bin rfl rfl inferInstance) rfl ?_
            | refine sg_ps (ps_rem rfl rfl (by decide)) rfl ?_
            | refine sg_ps (ps_quo64 rfl rfl (by decide) (by omega)) rfl ?_
            | refine sg_ps (ps_not rfl) rfl ?_
            | refine sg_cond_t rfl ?_
            | refine sg_cond_f rfl ?_
            | refine sg_guard_yes rfl rfl ?_
            | refine sg_guard_nf rfl rfl rfl ?_
            | refine sg_guard_nt rfl rfl rfl ?_
            | refine sg_guard_nu rfl rfl rfl ?_
            | refine sg_ps (ps_pick_t rfl rfl) rfl ?_
            | refine sg_ps (ps_pick_f rfl rfl) rfl ?_
            | refine sg_ps (ps_len rfl) rfl ?_
            | refine sg_ps (ps_len_str rfl) rfl ?_
            | refine sg_ps (ps_extract rfl rfl) rfl ?_
            | refine sg_ps (ps_field rfl rfl) rfl ?_
            | refine sg_ps (ps_min2 rfl rfl) rfl ?_
            | refine sg_ps (ps_max2 rfl rfl) rfl ?_
            | refine sg_ps (ps_build rfl rfl) rfl ?_
            | refine sg_box rfl rfl (fun bx => ?_)
            | refine sg_ps (ps_indexAddr rfl rfl rfl (by omega)) rfl ?_
            | refine sg_ps (ps_indexAddr_arr rfl rfl rfl (by omega)) rfl ?_
            | refine sg_block ?_
            | refine sg_skip ?_
            | refine sg_ret ?_
            | refine sg_exit ?_
            | refine ex_then_ret ?_
            | refine ex_then_exit ?_
            | refine ex_block_ret ?_
            | refine ex_block_normal ?_
            | refine ex_block_hit ?_
            | refine ex_block_miss rfl ?_
            | refine sg_store [] rfl rfl rfl (of_decide_eq_true rfl) ?_
            | refine sg_store [_] rfl rfl rfl (of_decide_eq_true rfl) ?_
            | refine sg_store [_, _] rfl rfl rfl (of_decide_eq_true rfl) ?_
            | refine sg_store [_, _, _] rfl rfl rfl (of_decide_eq_true rfl) ?_
            | refine sg_store [_, _, _, _] rfl rfl rfl (of_decide_eq_true rfl) ?_
            | refine sg_store [_, _, _, _, _] rfl rfl rfl (of_decide_eq_true rfl) ?_
            | refine sg_store [_, _, _, _, _, _] rfl rfl rfl (of_decide_eq_true rfl) ?_
            | refine sg_store [_, _, _, _, _, _, _] rfl rfl rfl (of_decide_eq_true rfl) ?_
            | (refine sg_guard_dec rfl rfl (fun hg => ?_) (fun hg => ?_) <;> first | (exfalso; omega) | (exact absurd rfl hg) | skip)
            | (refine sg_guard_ndec rfl rfl (fun hg => ?_) (fun hg => ?_) <;> first | (exfalso; omega) | (exact absurd rfl hg) | skip)
            | (refine sg_cond_dec rfl (fun hg => ?_) (fun hg => ?_) <;> first | (exfalso; omega) | (exact absurd rfl hg) | skip)
            | (refine sg_cond_ndec rfl (fun hg => ?_) (fun hg => ?_) <;> first | (exfalso; omega) | (exact absurd rfl hg) | skip)
            | refine sg_cond_not rfl (fun hg => ?_) (fun hg => ?_)
            | refine sg_cond rfl (fun hg => ?_) (fun hg => ?_))
          exact ex_mid (i + 1, vs.set i (.slice (some ⟨rb, 0, none⟩) 64 64), (rb, S.seen[i].map bv) :: ls2) ⟨by simp only []; omega, ⟨by simp only []; omega, hsv2.step (by omega) (by omega) rb, fun p hp => List.mem_cons_of_mem _ (hsub p hp)⟩⟩ (.cons rfl (.cons rfl (.cons rfl (.cons rfl (.cons rfl (.cons rfl .nil)))))) (fun w hO => (own_blks_push hO.front3.front1).front1.back4.front1)
        · obtain rfl : i = 16 := by omega
          refine sg_front3 ?_
          refine sg_call (waiting_tri d S _) rfl rfl (fun _ _ => ?_)
          repeat' (first
            | refine sg_wo ?_
            | refine sg_ps (ps_move rfl) rfl ?_
            | refine sg_ps (ps_assign rfl) rfl ?_
            | refine sg_seq ?_
            | refine sg_region ?_
            | refine sg_nil ?_
            | refine sg_then ?_
            | refine sg_ps (ps_fieldAddr rfl) rfl ?_
            | refine sg_ps (ps_nilCheck rfl) rfl ?_
            | refine sg_load 0 rfl rfl rfl rfl ?_
            | refine sg_load 1 rfl rfl rfl rfl ?_
            | refine sg_load 2 rfl rfl rfl rfl ?_
            | refine sg_load 3 rfl rfl rfl rfl ?_
            | refine sg_load 4 rfl rfl rfl rfl ?_
            | refine sg_load 5 rfl rfl rfl rfl ?_
            | refine sg_load 6 rfl rfl rfl rfl ?_
            | refine sg_load 7 rfl rfl rfl rfl ?_
            | refine sg_ps (ps_add64 rfl rfl (by omega)) rfl ?_
            | refine sg_ps (ps_sub64 rfl rfl (by omega)) rfl ?_
            | refine sg_ps (ps_mul64 rfl rfl (by omega)) rfl ?_
            | refine sg_ps (ps_bin rfl rfl inferInstance) rfl ?_
            | refine sg_ps (ps_rem rfl rfl (by decide)) rfl ?_
            | refine sg_ps (ps_quo64 rfl rfl (by decide) (by omega)) rfl ?_
            | refine sg_ps (ps_not rfl) rfl ?_
            | refine sg_cond_t rfl ?_
            | refine sg_cond_f rfl ?_
            | refine sg_guard_yes rfl rfl ?_
            | refine sg_guard_nf rfl rfl rfl ?_
            | refine sg_guard_nt rfl rfl rfl ?_
            | refine sg_guard_nu rfl rfl rfl ?_
            | refine sg_ps (ps_pick_t rfl rfl) rfl ?_
            | refine sg_ps (ps_pick_f rfl rfl) rfl ?_
            | refine sg_ps (ps_len rfl) rfl ?_
            | refine sg_ps (ps_len_str rfl) rfl ?_
            | refine sg_ps (ps_extract rfl rfl) rfl ?_
            | refine sg_ps (ps_field rfl rfl) rfl ?_
            | refine sg_ps (ps_min2 rfl rfl) rfl ?_
            | refine sg_ps (ps_max2 rfl rfl) rfl ?_
            | refine sg_ps (ps_build rfl rfl) rfl ?_
            | refine sg_box rfl rfl (fun bx => ?_)
            | refine sg_ps (ps_indexAddr rfl rfl rfl (by omega)) rfl ?_
            | refine sg_ps (ps_indexAddr_arr rfl rfl rfl (by omega)) rfl ?_
            | refine sg_block ?_
            | refine sg_skip ?_
            | refine sg_ret ?_
            | refine sg_exit ?_
            | refine ex_then_ret ?_
            | refine ex_then_exit ?_
            | refine ex_block_ret ?_
            | refine ex_block_normal ?_
            | refine ex_block_hit ?_
            | refine ex_block_miss rfl ?_
            | refine sg_store [] rfl rfl rfl (of_decide_eq_true rfl) ?_
            | refine sg_store [_] rfl rfl rfl (of_decide_eq_true rfl) ?_
            | refine sg_store [_, _] rfl rfl rfl (of_decide_eq_true rfl) ?_
            | refine sg_store [_, _, _] rfl rfl rfl (of_decide_eq_true rfl) ?_
            | refine sg_store [_, _, _, _] rfl rfl rfl (of_decide_eq_true rfl) ?_
            | refine sg_store [_, _, _, _, _] rfl rfl rfl (of_decide_eq_true rfl) ?_
            | refine sg_store [_, _, _, _, _, _] rfl rfl rfl (of_decide_eq_true rfl) ?_
            | refine sg_store [_, _, _, _, _, _, _] rfl rfl rfl (of_decide_eq_true rfl) ?_
            | (refine sg_guard_dec rfl rfl (fun hg => ?_) (fun hg => ?_) <;> first | (exfalso; omega) | (exact absurd rfl hg) | skip)
            | (refine sg_guard_ndec rfl rfl (fun hg => ?_) (fun hg => ?_) <;> first | (exfalso; omega) | (exact absurd rfl hg) | skip)
            | (refine sg_cond_dec rfl (fun hg => ?_) (fun hg => ?_) <;> first | (exfalso; omega) | (exact absurd rfl hg) | skip)
            | (refine sg_cond_ndec rfl (fun hg => ?_) (fun hg => ?_) <;> first | (exfalso; omega) | (exact absurd rfl hg) | skip)
            | refine sg_cond_not rfl (fun hg => ?_) (fun hg => ?_)
            | refine sg_cond rfl (fun hg => ?_) (fun hg => ?_))
          refine sg_call (crash_tri d S [] none 0 _ rd_nil (by decide) (by omega)) rfl rfl (fun _ _ => ?_)
          have a1 := hB.a
          have a2 : (S.crash []).wait = [] := rfl
          generalize S.crash [] = S3 at a1 a2
          repeat' (first
            | refine sg_wo ?_
            | refine sg_ps (ps_move rfl) rfl ?_
            | refine sg_ps (ps_assign rfl) rfl ?_
            | refine sg_seq ?_
            | refine sg_region ?_
            | refine sg_nil ?_
            | refine sg_then ?_
            | refine sg_ps (ps_fieldAddr rfl) rfl ?_
            | refine sg_ps (ps_nilCheck rfl) rfl ?_
            | refine sg_load 0 rfl rfl rfl rfl ?_
            | refine sg_load 1 rfl rfl rfl rfl ?_
            | refine sg_load 2 rfl rfl rfl rfl ?_
            | refine sg_load 3 rfl rfl rfl rfl ?_
            | refine sg_load 4 rfl rfl rfl rfl ?_
            | refine sg_load 5 rfl rfl rfl rfl ?_
            | refine sg_load 6 rfl rfl rfl rfl ?_
            | refine sg_load 7 rfl rfl rfl rfl ?_
            | refine sg_ps (ps_add64 rfl rfl (by omega)) rfl ?_
            | refine sg_ps (ps_sub64 rfl rfl (by omega)) rfl ?_
            | refine sg_ps (ps_mul64 rfl rfl (by omega)) rfl ?_
            | refine sg_ps (ps_bin rfl rfl inferInstance) rfl ?_
            | refine sg_ps (ps_rem rfl rfl (by decide)) rfl ?_
            | refine sg_ps (ps_quo64 rfl rfl (by decide) (by omega)) rfl ?_
            | refine sg_ps (ps_not rfl) rfl ?_
            | refine sg_cond_t rfl ?_
            | refine sg_cond_f rfl ?_
            | refine sg_guard_yes rfl rfl ?_
            | refine sg_guard_nf rfl rfl rfl ?_
            | refine sg_guard_nt rfl rfl rfl ?_
            | refine sg_guard_nu rfl rfl rfl ?_
            | refine sg_ps (ps_pick_t rfl rfl) rfl ?_
            | refine sg_ps (ps_pick_f rfl rfl) rfl ?_
            | refine sg_ps (ps_len rfl) rfl ?_
            | refine sg_ps (ps_len_str rfl) rfl ?_
            | refine sg_ps (ps_extract rfl rfl) rfl ?_
            | refine sg_ps (ps_field rfl rfl) rfl ?_
            | refine sg_ps (ps_min2 rfl rfl) rfl ?_
            | refine sg_ps (ps_max2 rfl rfl) rfl ?_
            | refine sg_ps (ps_build rfl rfl) rfl ?_
            | refine sg_box rfl rfl (fun bx => ?_)
            | refine sg_ps (ps_indexAddr rfl rfl rfl (by omega)) rfl ?_
            | refine sg_ps (ps_indexAddr_arr rfl rfl rfl (by omega)) rfl ?_
            | refine sg_block ?_
            | refine sg_skip ?_
            | refine sg_ret ?_
            | refine sg_exit ?_
            | refine ex_then_ret ?_
            | refine ex_then_exit ?_
            | refine ex_block_ret ?_
            | refine ex_block_normal ?_
            | refine ex_block_hit ?_
            | refine ex_block_miss rfl ?_
            | refine sg_store [] rfl rfl rfl (of_decide_eq_true rfl) ?_
            | refine sg_store [_] rfl rfl rfl (of_decide_eq_true rfl) ?_
            | refine sg_store [_, _] rfl rfl rfl (of_decide_eq_true rfl) ?_
            | refine sg_store [_, _, _] rfl rfl rfl (of_decide_eq_true rfl) ?_
            | refine sg_store [_, _, _, _] rfl rfl rfl (of_decide_eq_true rfl) ?_
            | refine sg_store [_, _, _, _, _] rfl rfl rfl (of_decide_eq_true rfl) ?_
            | refine sg_store [_, _, _, _, _, _] rfl rfl rfl (of_decide_eq_true rfl) ?_
            | refine sg_store [_, _, _, _, _, _, _] rfl rfl rfl (of_decide_eq_true rfl) ?_
            | (refine sg_guard_dec rfl rfl (fun hg => ?_) (fun hg => ?_) <;> first | (exfalso; omega) | (exact absurd rfl hg) | skip)
            | (refine sg_guard_ndec rfl rfl (fun hg => ?_) (fun hg => ?_) <;> first | (exfalso; omega) | (exact absurd rfl hg) | skip)
            | (refine sg_cond_dec rfl (fun hg => ?_) (fun hg => ?_) <;> first | (exfalso; omega) | (exact absurd rfl hg) | skip)
            | (refine sg_cond_ndec rfl (fun hg => ?_) (fun hg => ?_) <;> first | (exfalso; omega) | (exact absurd rfl hg) | skip)
            | refine sg_cond_not rfl (fun hg => ?_) (fun hg => ?_)
            | refine sg_cond rfl (fun hg => ?_) (fun hg => ?_))
          refine sg_front4 ?_
          have hcr := crash_tri (W := W) c S (List.replicate S.wait.length 1) aa ac [DiskRep d S3, blk vb vs, blks ls2, sown aa S.wait.length ac 1 (List.replicate S.wait.length (i64 1)), blk wb cs, old W] (rd_sown 3 rfl (by rw [List.map_replicate]; exact fun j u hj => hj)) (by rw [List.length_replicate]; omega) (by omega)
          rw [List.length_replicate] at hcr
          refine sg_call hcr rfl rfl (fun _ _ => ?_)
          have b1 := hB.b _ (Nat.le_refl _)
          have b2 : (S.crash (List.replicate S.wait.length 1)).wait = [] := rfl
          generalize S.crash (List.replicate S.wait.length 1) = S4 at b1 b2
          clear hcr
          repeat' (first
            | refine sg_wo ?_
            | refine sg_ps (ps_move rfl) rfl ?_
            | refine sg_ps (ps_assign rfl) rfl ?_
            | refine sg_seq ?_
            | refine sg_region ?_
            | refine sg_nil ?_
            | refine sg_then ?_
            | refine sg_ps (ps_fieldAddr rfl) rfl ?_
            | refine sg_ps (ps_nilCheck rfl) rfl ?_
            | refine sg_load 0 rfl rfl rfl rfl ?_
            | refine sg_load 1 rfl rfl rfl rfl ?_
            | refine sg_load 2 rfl rfl rfl rfl ?_
            | refine sg_load 3 rfl rfl rfl rfl ?_
            | refine sg_load 4 rfl rfl rfl rfl ?_
            | refine sg_load 5 rfl rfl rfl rfl ?_
            | refine sg_load 6 rfl rfl rfl rfl ?_
            | refine sg_load 7 rfl rfl rfl rfl ?_
            | refine sg_ps (ps_add64 rfl rfl (by omega)) rfl ?_
            | refine sg_ps (ps_sub64 rfl rfl (by omega)) rfl ?_
            | refine sg_ps (ps_mul64 rfl rfl (by omega)) rfl ?_
            | refine sg_ps (ps_bin rfl rfl inferInstance) rfl ?_
            | refine sg_ps (ps_rem rfl rfl (by decide)) rfl ?_
            | refine sg_ps (ps_quo64 rfl rfl (by decide) (by omega)) rfl ?_
            | refine sg_ps (ps_not rfl) rfl ?_
            | refine sg_cond_t rfl ?_
            | refine sg_cond_f rfl ?_
            | refine sg_guard_yes rfl rfl ?_
            | refine sg_guard_nf rfl rfl rfl ?_
            | refine sg_guard_nt rfl rfl rfl ?_
            | refine sg_guard_nu rfl rfl rfl ?_
            | refine sg_ps (ps_pick_t rfl rfl) rfl ?_
            | refine sg_ps (ps_pick_f rfl rfl) rfl ?_
            | refine sg_ps (ps_len rfl) rfl ?_
            | refine sg_ps (ps_len_str rfl) rfl ?_
            | refine sg_ps (ps_extract rfl rfl) rfl ?_
            | refine sg_ps (ps_field rfl rfl) rfl ?_
            | refine sg_ps (ps_min2 rfl rfl) rfl ?_
            | refine sg_ps (ps_max2 rfl rfl) rfl ?_
            | refine sg_ps (ps_build rfl rfl) rfl ?_
            | refine sg_box rfl rfl (fun bx => ?_)
            | refine sg_ps (ps_indexAddr rfl rfl rfl (by omega)) rfl ?_
            | refine sg_ps (ps_indexAddr_arr rfl rfl rfl (by omega)) rfl ?_
            | refine sg_block ?_
            | refine sg_skip ?_
            | refine sg_ret ?_
            | refine sg_exit ?_
            | refine ex_then_ret ?_
            | refine ex_then_exit ?_
            | refine ex_block_ret ?_
            | refine ex_block_normal ?_
            | refine ex_block_hit ?_
            | refine ex_block_miss rfl ?_
            | refine sg_store [] rfl rfl rfl (of_decide_eq_true rfl) ?_
            | refine sg_store [_] rfl rfl rfl (of_decide_eq_true rfl) ?_
            | refine sg_store [_, _] rfl rfl rfl (of_decide_eq_true rfl) ?_
            | refine sg_store [_, _, _] rfl rfl rfl (of_decide_eq_true rfl) ?_
            | refine sg_store [_, _, _, _] rfl rfl rfl (of_decide_eq_true rfl) ?_
            | refine sg_store [_, _, _, _, _] rfl rfl rfl (of_decide_eq_true rfl) ?_
            | refine sg_store [_, _, _, _, _, _] rfl rfl rfl (of_decide_eq_true rfl) ?_
            | refine sg_store [_, _, _, _, _, _, _] rfl rfl rfl (of_decide_eq_true rfl) ?_
            | (refine sg_guard_dec rfl rfl (fun hg => ?_) (fun hg => ?_) <;> first | (exfalso; omega) | (exact absurd rfl hg) | skip)
            | (refine sg_guard_ndec rfl rfl (fun hg => ?_) (fun hg => ?_) <;> first | (exfalso; omega) | (exact absurd rfl hg) | skip)
            | (refine sg_cond_dec rfl (fun hg => ?_) (fun hg => ?_) <;> first | (exfalso; omega) | (exact absurd rfl hg) | skip)
            | (refine sg_cond_ndec rfl (fun hg => ?_) (fun hg => ?_) <;> first | (exfalso; omega) | (exact absurd rfl hg) | skip)
            | refine sg_cond_not rfl (fun hg => ?_) (fun hg => ?_)
            | refine sg_cond rfl (fun hg => ?_) (fun hg => ?_))
          refine sg_loop (γ := Nat) (fun i => i ≤ 16) (fun i => [(5, dp d), (7, dp c), (10, dp wb), (11, dp vb), (16, i64 i)])
            (fun _ => [DiskRep c S4, DiskRep d S3, blk vb vs, blks ls2, sown aa S.wait.length ac 1 (List.replicate S.wait.length (i64 1)), blk wb cs, old W]) (fun i => 16 - i) 0 (Nat.zero_le _)
            (.cons rfl (.cons rfl (.cons rfl (.cons rfl (.cons rfl .nil))))) (fun w hO => hO) ?_
          intro i hi
          repeat' (first
            | refine sg_wo ?_
            | refine sg_ps (ps_move rfl) rfl ?_
            | refine sg_ps (ps_assign rfl) rfl ?_
            | refine sg_seq ?_
            | refine sg_region ?_
            | refine sg_nil ?_
            | refine sg_then ?_
            | refine sg_ps (ps_fieldAddr rfl) rfl ?_
            | refine sg_ps (ps_nilCheck rfl) rfl ?_
            | refine sg_load 0 rfl rfl rfl rfl ?_
            | refine sg_load 1 rfl rfl rfl rfl ?_
            | refine sg_load 2 rfl rfl rfl rfl ?_
            | refine sg_load 3 rfl rfl rfl rfl ?_
            | refine sg_load 4 rfl rfl rfl rfl ?_
            | refine sg_load 5 rfl rfl rfl rfl ?_
            | refine sg_load 6 rfl rfl rfl rfl ?_
            | refine sg_load 7 rfl rfl rfl rfl ?_
            | refine sg_ps (ps_add64 rfl rfl (by omega)) rfl ?_
            | refine sg_ps (ps_sub64 rfl rfl (by omega)) rfl ?_
            | refine sg_ps (ps_mul64 rfl rfl (by omega)) rfl ?_
            | refine sg_ps (ps_bin rfl rfl inferInstance) rfl ?_
            | refine sg_ps (ps_rem rfl rfl (by decide)) rfl ?_
            | refine sg_ps (ps_quo64 rfl rfl (by decide) (by omega)) rfl ?_
            | refine sg_ps (ps_not rfl) rfl ?_
            | refine sg_cond_t rfl ?_
            | refine sg_cond_f rfl ?_
            | refine sg_guard_yes rfl rfl ?_
            | refine sg_guard_nf rfl rfl rfl ?_
            | refine sg_guard_nt rfl rfl rfl ?_
            | refine sg_guard_nu rfl rfl rfl ?_
            | refine sg_ps (ps_pick_t rfl rfl) rfl ?_
            | refine sg_ps (ps_pick_f rfl rfl) rfl ?_
            | refine sg_ps (ps_len rfl) rfl ?_
            | refine sg_ps (ps_len_str rfl) rfl ?_
            | refine sg_ps (ps_extract rfl rfl) rfl ?_
            | refine sg_ps (ps_field rfl rfl) rfl ?_
            | refine sg_ps (ps_min2 rfl rfl) rfl ?_
            | refine sg_ps (ps_max2 rfl rfl) rfl ?_
            | refine sg_ps (ps_build rfl rfl) rfl ?_
            | refine sg_box rfl rfl (fun bx => ?_)
            | refine sg_ps (ps_indexAddr rfl rfl rfl (by omega)) rfl ?_
            | refine sg_ps (ps_indexAddr_arr rfl rfl rfl (by omega)) rfl ?_
            | refine sg_block ?_
            | refine sg_skip ?_
            | refine sg_ret ?_
            | refine sg_exit ?_
            | refine ex_then_ret ?_
            | refine ex_then_exit ?_
            | refine ex_block_ret ?_
            | refine ex_block_normal ?_
            | refine ex_block_hit ?_
            | refine ex_block_miss rfl ?_
            | refine sg_store [] rfl rfl rfl (of_decide_eq_true rfl) ?_
            | refine sg_store [_] rfl rfl rfl (of_decide_eq_true rfl) ?_
            | refine sg_store [_, _] rfl rfl rfl (of_decide_eq_true rfl) ?_
            | refine sg_store [_, _, _] rfl rfl rfl (of_decide_eq_true rfl) ?_
            | refine sg_store [_, _, _, _] rfl rfl rfl (of_decide_eq_true rfl) ?_
            | refine sg_store [_, _, _, _, _] rfl rfl rfl (of_decide_eq_true rfl) ?_
            | refine sg_store [_, _, _, _, _, _] rfl rfl rfl (of_decide_eq_true rfl) ?_
            | refine sg_store [_, _, _, _, _, _, _] rfl rfl rfl (of_decide_eq_true rfl) ?_
            | (refine sg_guard_dec rfl rfl (fun hg => ?_) (fun hg => ?_) <;> first | (exfalso; omega) | (exact absurd rfl hg) | skip)
            | (refine sg_guard_ndec rfl rfl (fun hg => ?_) (fun hg => ?_) <;> first | (exfalso; omega) | (exact absurd rfl hg) | skip)
            | (refine sg_cond_dec rfl (fun hg => ?_) (fun hg => ?_) <;> first | (exfalso; omega) | (exact absurd rfl hg) | skip)
            | (refine sg_cond_ndec rfl (fun hg => ?_) (fun hg => ?_) <;> first | (exfalso; omega) | (exact absurd rfl hg) | skip)
            | refine sg_cond_not rfl (fun hg => ?_) (fun hg => ?_)
            | refine sg_cond rfl (fun hg => ?_) (fun hg => ?_))
          · have i3 : i < S3.seen.length := by rw [a1]; omega
            have i4 : i < S4.seen.length := by rw [b1]; omega
            refine sg_front1 ?_
            refine sg_disk_ok (fun ok3 => ?_)
            refine sg_call (read_tri d S3 i _ i3) rfl rfl (fun rb _ => ?_)
            repeat' (first
              | refine sg_wo ?_
              | refine sg_ps (ps_move rfl) rfl ?_
              | refine sg_ps (ps_assign rfl) rfl ?_
              | refine sg_seq ?_
              | refine sg_region ?_
              | refine sg_nil ?_
              | refine sg_then ?_
              | refine sg_ps (ps_fieldAddr rfl) rfl ?_
              | refine sg_ps (ps_nilCheck rfl) rfl ?_
              | refine sg_load 0 rfl rfl rfl rfl ?_
              | refine sg_load 1 rfl rfl rfl rfl ?_
              | refine sg_load 2 rfl rfl rfl rfl ?_
              | refine sg_load 3 rfl rfl rfl rfl ?_
              | refine sg_load 4 rfl rfl rfl rfl ?_
              | refine sg_load 5 rfl rfl rfl rfl ?_
              | refine sg_load 6 rfl rfl rfl rfl ?_
              | refine sg_load 7 rfl rfl rfl rfl ?_
              | refine sg_ps (ps_add64 rfl rfl (by omega)) rfl ?_
              | refine sg_ps (ps_sub64 rfl rfl (by omega)) rfl ?_
              | refine sg_ps (ps_mul64 rfl rfl (by omega)) rfl ?_
              | refine sg_ps (ps_bin rfl rfl inferInstance) rfl ?_
              | refine sg_ps (ps_rem rfl rfl (by decide)) rfl ?_
              | refine sg_ps (ps_quo64 rfl rfl (by decide) (by omega)) rfl ?_
              | refine sg_ps (ps_not rfl) rfl ?_
              | refine sg_cond_t rfl ?_
              | refine sg_cond_f rfl ?_
              | refine sg_guard_yes rfl rfl ?_
              | refine sg_guard_nf rfl rfl rfl ?_
              | refine sg_guard_nt rfl rfl rfl ?_
              | refine sg_guard_nu rfl rfl rfl ?_
              | refine sg_ps (ps_pick_t rfl rfl) rfl ?_
              | refine sg_ps (ps_pick_f rfl rfl) rfl ?_
              | refine sg_ps (ps_len rfl) rfl ?_
              | refine sg_ps (ps_len_str rfl) rfl ?_
              | refine sg_ps (ps_extract rfl rfl) rfl ?_
              | refine sg_ps (ps_field rfl rfl) rfl ?_
              | refine sg_ps (ps_min2 rfl rfl) rfl ?_
              | refine sg_ps (ps_max2 rfl rfl) rfl ?_
              | refine sg_ps (ps_build rfl rfl) rfl ?_
              | refine sg_box rfl rfl (fun bx => ?_)
              | refine sg_ps (ps_indexAddr rfl rfl rfl (by omega)) rfl ?_
              | refine sg_ps (ps_indexAddr_arr rfl rfl rfl (by omega)) rfl ?_
              | refine sg_block ?_
              | refine sg_skip ?_
              | refine sg_ret ?_
              | refine sg_exit ?_
              | refine ex_then_ret ?_
              | refine ex_then_exit ?_
              | refine ex_block_ret ?_
              | refine ex_block_normal ?_
              | refine ex_block_hit ?_
              | refine ex_block_miss rfl ?_
              | refine sg_store [] rfl rfl rfl (of_decide_eq_true rfl) ?_
              | refine sg_store [_] rfl rfl rfl (of_decide_eq_true rfl) ?_
              | refine sg_store [_, _] rfl rfl rfl (of_decide_eq_true rfl) ?_
              | refine sg_store [_, _, _] rfl rfl rfl (of_decide_eq_true rfl) ?_
              | refine sg_store [_, _, _, _] rfl rfl rfl (of_decide_eq_true rfl) ?_
              | refine sg_store [_, _, _, _, _] rfl rfl rfl (of_decide_eq_true rfl) ?_
              | refine sg_store [_, _, _, _, _, _] rfl rfl rfl (of_decide_eq_true rfl) ?_
              | refine sg_store [_, _, _, _, _, _, _] rfl rfl rfl (of_decide_eq_true rfl) ?_
              | (refine sg_guard_dec rfl rfl (fun hg => ?_) (fun hg => ?_) <;> first | (exfalso; omega) | (exact absurd rfl hg) | skip)
              | (refine sg_guard_ndec rfl rfl (fun hg => ?_) (fun hg => ?_) <;> first | (exfalso; omega) | (exact absurd rfl hg) | skip)
              | (refine sg_cond_dec rfl (fun hg => ?_) (fun hg => ?_) <;> first | (exfalso; omega) | (exact absurd rfl hg) | skip)
              | (refine sg_cond_ndec rfl (fun hg => ?_) (fun hg => ?_) <;> first | (exfalso; omega) | (exact absurd rfl hg) | skip)
              | refine sg_cond_not rfl (fun hg => ?_) (fun hg => ?_)
              | refine sg_cond rfl (fun hg => ?_) (fun hg => ?_))
            refine sg_front2 ?_
            refine sg_disk_ok (fun ok4 => ?_)
            refine sg_call (read_tri c S4 i _ i4) rfl rfl (fun rb2 _ => ?_)
            obtain ⟨rw1, hc1, hm1⟩ := hsv.2 i (by omega)
            obtain ⟨rv1, hc2, hm2⟩ := hsv2.2 i (by omega)
            have h3 : S3.seen[i].length = 64 := ok3.sec _ (List.getElem_mem _)
            have h4 : S4.seen[i].length = 64 := ok4.sec _ (List.getElem_mem _)
            have e3 : S1.seen.getD i [] = S3.seen[i] := by simp only [← a1]; simp [List.getD, i3]
            have e4 : S.seen.getD i [] = S4.seen[i] := by simp only [← b1]; simp [List.getD, i4]
            rw [e3] at hm1
            rw [e4] at hm2
            have hr1 : Rd W [blk rb2 (S4.seen[i].map bv), DiskRep c S4, blk rb (S3.seen[i].map bv), DiskRep d S3, blk vb vs, blks ls2, sown aa S.wait.length ac 1 (List.replicate S.wait.length (i64 1)), blk wb cs, old W] (some ⟨wb, 0 + i * 1, none⟩) [.slice (some ⟨rw1, 0, none⟩) 64 64] :=
              rd_blk 7 rfl (one_get (by rw [show 0 + i * 1 = i by omega]; exact hc1))
            have hr4 : Rd W [blk rb2 (S4.seen[i].map bv), DiskRep c S4, blk rb (S3.seen[i].map bv), DiskRep d S3, blk vb vs, blks ls2, sown aa S.wait.length ac 1 (List.replicate S.wait.length (i64 1)), blk wb cs, old W] (some ⟨vb, 0 + i * 1, none⟩) [.slice (some ⟨rv1, 0, none⟩) 64 64] :=
              rd_blk 4 rfl (one_get (by rw [show 0 + i * 1 = i by omega]; exact hc2))
            have hbt1 := bytes_tri (W := W) S3.seen[i] S3.seen[i] (some ⟨rb, 0, none⟩) (some ⟨rw1, 0, none⟩) 64 64 [blk rb2 (S4.seen[i].map bv), DiskRep c S4, blk rb (S3.seen[i].map bv), DiskRep d S3, blk vb vs, blks ls2, sown aa S.wait.length ac 1 (List.replicate S.wait.length (i64 1)), blk wb cs, old W]
              (rd_blk 2 rfl (fun q u hq => by rw [Nat.zero_add]; exact hq)) (rd_blks 5 rfl (hsub _ hm1) (fun q u hq => by rw [Nat.zero_add]; exact hq))
            have hbt2 := bytes_tri (W := W) S4.seen[i] S4.seen[i] (some ⟨rb2, 0, none⟩) (some ⟨rv1, 0, none⟩) 64 64 [blk rb2 (S4.seen[i].map bv), DiskRep c S4, blk rb (S3.seen[i].map bv), DiskRep d S3, blk vb vs, blks ls2, sown aa S.wait.length ac 1 (List.replicate S.wait.length (i64 1)), blk wb cs, old W]
              (rd_blk 0 rfl (fun q u hq => by rw [Nat.zero_add]; exact hq)) (rd_blks 5 rfl hm2 (fun q u hq => by rw [Nat.zero_add]; exact hq))
            rw [h3, decide_eq_true rfl] at hbt1
            rw [h4, decide_eq_true rfl] at hbt2
            repeat' (first
              | refine sg_wo ?_
              | refine sg_ps (ps_move rfl) rfl ?_
              | refine sg_ps (ps_assign rfl) rfl ?_
              | refine sg_seq ?_
              | refine sg_region ?_
              | refine sg_nil ?_
              | refine sg_then ?_
              | refine sg_ps (ps_fieldAddr rfl) rfl ?_
              | refine sg_ps (ps_nilCheck rfl) rfl ?_
              | refine sg_load 0 rfl rfl rfl rfl ?_
              | refine sg_load 1 rfl rfl rfl rfl ?_
              | refine sg_load 2 rfl rfl rfl rfl ?_
              | refine sg_load 3 rfl rfl rfl rfl ?_
              | refine sg_load 4 rfl rfl rfl rfl ?_
              | refine sg_load 5 rfl rfl rfl rfl ?_
              | refine sg_load 6 rfl rfl rfl rfl ?_
              | refine sg_load 7 rfl rfl rfl rfl ?_
              | refine sg_ps (ps_add64 rfl rfl (by omega)) rfl ?_
              | refine sg_ps (ps_sub64 rfl rfl (by omega)) rfl ?_
              | refine sg_ps (ps_mul64 rfl rfl (by omega)) rfl ?_
              | refine sg_ps (ps_bin rfl rfl inferInstance) rfl ?_
              | refine sg_ps (ps_rem rfl rfl (by decide)) rfl ?_
              | refine sg_ps (ps_quo64 rfl rfl (by decide) (by omega)) rfl ?_
              | refine sg_ps (ps_not rfl) rfl ?_
              | refine sg_cond_t rfl ?_
              | refine sg_cond_f rfl ?_
              | refine sg_guard_yes rfl rfl ?_
              | refine sg_guard_nf rfl rfl rfl ?_
              | refine sg_guard_nt rfl rfl rfl ?_
              | refine sg_guard_nu rfl rfl rfl ?_
              | refine sg_ps (ps_pick_t rfl rfl) rfl ?_
              | refine sg_ps (ps_pick_f rfl rfl) rfl ?_
              | refine sg_ps (ps_len rfl) rfl ?_
              | refine sg_ps (ps_len_str rfl) rfl ?_
              | refine sg_ps (ps_extract rfl rfl) rfl ?_
              | refine sg_ps (ps_field rfl rfl) rfl ?_
              | refine sg_ps (ps_min2 rfl rfl) rfl ?_
              | refine sg_ps (ps_max2 rfl rfl) rfl ?_
              | refine sg_ps (ps_build rfl rfl) rfl ?_
              | refine sg_box rfl rfl (fun bx => ?_)
              | refine sg_ps (ps_indexAddr rfl rfl rfl (by omega)) rfl ?_
              | refine sg_ps (ps_indexAddr_arr rfl rfl rfl (by omega)) rfl ?_
              | refine sg_block ?_
              | refine sg_skip ?_
              | refine sg_ret ?_
              | refine sg_exit ?_
              | refine ex_then_ret ?_
              | refine ex_then_exit ?_
              | refine ex_block_ret ?_
              | refine ex_block_normal ?_
              | refine ex_block_hit ?_
              | refine ex_block_miss rfl ?_
              | refine sg_store [] rfl rfl rfl (of_decide_eq_true rfl) ?_
              | refine sg_store [_] rfl rfl rfl (of_decide_eq_true rfl) ?_
              | refine sg_store [_, _] rfl rfl rfl (of_decide_eq_true rfl) ?_
              | refine sg_store [_, _, _] rfl rfl rfl (of_decide_eq_true rfl) ?_
              | refine sg_store [_, _, _, _] rfl rfl rfl (of_decide_eq_true rfl) ?_
              | refine sg_store [_, _, _, _, _] rfl rfl rfl (of_decide_eq_true rfl) ?_
              | refine sg_store [_, _, _, _, _, _] rfl rfl rfl (of_decide_eq_true rfl) ?_
              | refine sg_store [_, _, _, _, _, _, _] rfl rfl rfl (of_decide_eq_true rfl) ?_
              | (refine sg_guard_dec rfl rfl (fun hg => ?_) (fun hg => ?_) <;> first | (exfalso; omega) | (exact absurd rfl hg) | skip)
              | (refine sg_guard_ndec rfl rfl (fun hg => ?_) (fun hg => ?_) <;> first | (exfalso; omega) | (exact absurd rfl hg) | skip)
              | (refine sg_cond_dec rfl (fun hg => ?_) (fun hg => ?_) <;> first | (exfalso; omega) | (exact absurd rfl hg) | skip)
              | (refine sg_cond_ndec rfl (fun hg => ?_) (fun hg => ?_) <;> first | (exfalso; omega) | (exact absurd rfl hg) | skip)
              | refine sg_cond_not rfl (fun hg => ?_) (fun hg => ?_)
              | refine sg_cond rfl (fun hg => ?_) (fun hg => ?_))
            refine sg_load_rd rfl hr1 rfl ?_
            repeat' (first
              | refine sg_wo ?_
              | refine sg_ps (ps_move rfl) rfl ?_
              | refine sg_ps (ps_assign rfl) rfl ?_
              | refine sg_seq ?_
              | refine sg_region ?_
              | refine sg_nil ?_
              | refine sg_then ?_
              | refine sg_ps (ps_fieldAddr rfl) rfl ?_
              | refine sg_ps (ps_nilCheck rfl) rfl ?_
              | refine sg_load 0 rfl rfl rfl rfl ?_
              | refine sg_load 1 rfl rfl rfl rfl ?_
              | refine sg_load 2 rfl rfl rfl rfl ?_
              | refine sg_load 3 rfl rfl rfl rfl ?_
              | refine sg_load 4 rfl rfl rfl rfl ?_
              | refine sg_load 5 rfl rfl rfl rfl ?_
              | refine sg_load 6 rfl rfl rfl rfl ?_
              | refine sg_load 7 rfl rfl rfl rfl ?_
              | refine sg_ps (ps_add64 rfl rfl (by omega)) rfl ?_
              | refine sg_ps (ps_sub64 rfl rfl (by omega)) rfl ?_
              | refine sg_ps (ps_mul64 rfl rfl (by omega)) rfl ?_
              | refine sg_ps (ps_bin rfl rfl inferInstance) rfl ?_
              | refine sg_ps (ps_rem rfl rfl (by decide)) rfl ?_
              | refine sg_ps (ps_quo64 rfl rfl (by decide) (by omega)) rfl ?_
              | refine sg_ps (ps_not rfl) rfl ?_
              | refine sg_cond_t rfl ?_
              | refine sg_cond_f rfl ?_
              | refine sg_guard_yes rfl rfl ?_
              | refine sg_guard_nf rfl rfl rfl ?_
              | refine sg_guard_nt rfl rfl rfl ?_
              | refine sg_guard_nu rfl rfl rfl ?_
              | refine sg_ps (ps_pick_t rfl rfl) rfl ?_
              | refine sg_ps (ps_pick_f rfl rfl) rfl ?_
              | refine sg_ps (ps_len rfl) rfl ?_
              | refine sg_ps (ps_len_str rfl) rfl ?_
              | refine sg_ps (ps_extract rfl rfl) rfl ?_
              | refine sg_ps (ps_field rfl rfl) rfl ?_
              | refine sg_ps (ps_min2 rfl rfl) rfl ?_
              | refine sg_ps (ps_max2 rfl rfl) rfl ?_
              | refine sg_ps (ps_build rfl rfl) rfl ?_
              | refine sg_box rfl rfl (fun bx => ?_)
              | refine sg_ps (ps_indexAddr rfl rfl rfl (by omega)) rfl ?_
              | refine sg_ps (ps_indexAddr_arr rfl rfl rfl (by omega)) rfl ?_
              | refine sg_block ?_
              | refine sg_skip ?_
              | refine sg_ret ?_
              | refine sg_exit ?_
              | refine ex_then_ret ?_
              | refine ex_then_exit ?_
              | refine ex_block_ret ?_
              | refine ex_block_normal ?_
              | refine ex_block_hit ?_
              | refine ex_block_miss rfl ?_
              | refine sg_store [] rfl rfl rfl (of_decide_eq_true rfl) ?_
              | refine sg_store [_] rfl rfl rfl (of_decide_eq_true rfl) ?_
              | refine sg_store [_, _] rfl rfl rfl (of_decide_eq_true rfl) ?_
              | refine sg_store [_, _, _] rfl rfl rfl (of_decide_eq_true rfl) ?_
              | refine sg_store [_, _, _, _] rfl rfl rfl (of_decide_eq_true rfl) ?_
              | refine sg_store [_, _, _, _, _] rfl rfl rfl (of_decide_eq_true rfl) ?_
              | refine sg_store [_, _, _, _, _, _] rfl rfl rfl (of_decide_eq_true rfl) ?_
              | refine sg_store [_, _, _, _, _, _, _] rfl rfl rfl (of_decide_eq_true rfl) ?_
              | (refine sg_guard_dec rfl rfl (fun hg => ?_) (fun hg => ?_) <;> first | (exfalso; omega) | (exact absurd rfl hg) | skip)
              | (refine sg_guard_ndec rfl rfl (fun hg => ?_) (fun hg => ?_) <;> first | (exfalso; omega) | (exact absurd rfl hg) | skip)
              | (refine sg_cond_dec rfl (fun hg => ?_) (fun hg => ?_) <;> first | (exfalso; omega) | (exact absurd rfl hg) | skip)
              | (refine sg_cond_ndec rfl (fun hg => ?_) (fun hg => ?_) <;> first | (exfalso; omega) | (exact absurd rfl hg) | skip)
              | refine sg_cond_not rfl (fun hg => ?_) (fun hg => ?_)
              | refine sg_cond rfl (fun hg => ?_) (fun hg => ?_))
            refine sg_call hbt1 rfl rfl (fun _ _ => ?_)
            repeat' (first
              | refine sg_wo ?_
              | refine sg_ps (ps_move rfl) rfl ?_
              | refine sg_ps (ps_assign rfl) rfl ?_
              | refine sg_seq ?_
              | refine sg_region ?_
              | refine sg_nil ?_
              | refine sg_then ?_
              | refine sg_ps (ps_fieldAddr rfl) rfl ?_
              | refine sg_ps (ps_nilCheck rfl) rfl ?_
              | refine sg_load 0 rfl rfl rfl rfl ?_
              | refine sg_load 1 rfl rfl rfl rfl ?_
              | refine sg_load 2 rfl rfl rfl rfl ?_
              | refine sg_load 3 rfl rfl rfl rfl ?_
              | refine sg_load 4 rfl rfl rfl rfl ?_
              | refine sg_load 5 rfl rfl rfl rfl ?_
              | refine sg_load 6 rfl rfl rfl rfl ?_
              | refine sg_load 7 rfl rfl rfl rfl ?_
              | refine sg_ps (ps_add64 rfl rfl (by omega)) rfl ?_
              | refine sg_ps (ps_sub64 rfl rfl (by omega)) rfl ?_
              | refine sg_ps (ps_mul64 rfl rfl (by omega)) rfl ?_
              | refine sg_ps (ps_bin rfl rfl inferInstance) rfl ?_
              | refine sg_ps (ps_rem rfl rfl (by decide)) rfl ?_
              | refine sg_ps (ps_quo64 rfl rfl (by decide) (by omega)) rfl ?_
              | refine sg_ps (ps_not rfl) rfl ?_
              | refine sg_cond_t rfl ?_
              | refine sg_cond_f rfl ?_
              | refine sg_guard_yes rfl rfl ?_
              | refine sg_guard_nf rfl rfl rfl ?_
              | refine sg_guard_nt rfl rfl rfl ?_
              | refine sg_guard_nu rfl rfl rfl ?_
              | refine sg_ps (ps_pick_t rfl rfl) rfl ?_
              | refine sg_ps (ps_pick_f rfl rfl) rfl ?_
              | refine sg_ps (ps_len rfl) rfl ?_
              | refine sg_ps (ps_len_str rfl) rfl ?_
              | refine sg_ps (ps_extract rfl rfl) rfl ?_
              | refine sg_ps (ps_field rfl rfl) rfl ?_
              | refine sg_ps (ps_min2 rfl rfl) rfl ?_
              | refine sg_ps (ps_max2 rfl rfl) rfl ?_
              | refine sg_ps (ps_build rfl rfl) rfl ?_
              | refine sg_box rfl rfl (fun bx => ?_)
              | refine sg_ps (ps_indexAddr rfl rfl rfl (by omega)) rfl ?_
              | refine sg_ps (ps_indexAddr_arr rfl rfl rfl (by omega)) rfl ?_
              | refine sg_block ?_
              | refine sg_skip ?_
              | refine sg_ret ?_
              | refine sg_exit ?_
              | refine ex_then_ret ?_
              | refine ex_then_exit ?_
              | refine ex_block_ret ?_
              | refine ex_block_normal ?_
              | refine ex_block_hit ?_
              | refine ex_block_miss rfl ?_
              | refine sg_store [] rfl rfl rfl (of_decide_eq_true rfl) ?_
              | refine sg_store [_] rfl rfl rfl (of_decide_eq_true rfl) ?_
              | refine sg_store [_, _] rfl rfl rfl (of_decide_eq_true rfl) ?_
              | refine sg_store [_, _, _] rfl rfl rfl (of_decide_eq_true rfl) ?_
              | refine sg_store [_, _, _, _] rfl rfl rfl (of_decide_eq_true rfl) ?_
              | refine sg_store [_, _, _, _, _] rfl rfl rfl (of_decide_eq_true rfl) ?_
              | refine sg_store [_, _, _, _, _, _] rfl rfl rfl (of_decide_eq_true rfl) ?_
              | refine sg_store [_, _, _, _, _, _, _] rfl rfl rfl (of_decide_eq_true rfl) ?_
              | (refine sg_guard_dec rfl rfl (fun hg => ?_) (fun hg => ?_) <;> first | (exfalso; omega) | (exact absurd rfl hg) | skip)
              | (refine sg_guard_ndec rfl rfl (fun hg => ?_) (fun hg => ?_) <;> first | (exfalso; omega) | (exact absurd rfl hg) | skip)
              | (refine sg_cond_dec rfl (fun hg => ?_) (fun hg => ?_) <;> first | (exfalso; omega) | (exact absurd rfl hg) | skip)
              | (refine sg_cond_ndec rfl (fun hg => ?_) (fun hg => ?_) <;> first | (exfalso; omega) | (exact absurd rfl hg) | skip)
              | refine sg_cond_not rfl (fun hg => ?_) (fun hg => ?_)
              | refine sg_cond rfl (fun hg => ?_) (fun hg => ?_))
            refine sg_load_rd rfl hr4 rfl ?_
            repeat' (first
              | refine sg_wo ?_
              | refine sg_ps (ps_move rfl) rfl ?_
              | refine sg_ps (ps_assign rfl) rfl ?_
              | refine sg_seq ?_
              | refine sg_region ?_
              | refine sg_nil ?_
              | refine sg_then ?_
              | refine sg_ps (ps_fieldAddr rfl) rfl ?_
              | refine sg_ps (ps_nilCheck rfl) rfl ?_
              | refine sg_load 0 rfl rfl rfl rfl ?_
              | refine sg_load 1 rfl rfl rfl rfl ?_
              | refine sg_load 2 rfl rfl rfl rfl ?_
              | refine sg_load 3 rfl rfl rfl rfl ?_
              | refine sg_load 4 rfl rfl rfl rfl ?_
              | refine sg_load 5 rfl rfl rfl rfl ?_
              | refine sg_load 6 rfl rfl rfl rfl ?_
              | refine sg_load 7 rfl rfl rfl rfl ?_
              | refine sg_ps (ps_add64 rfl rfl (by omega)) rfl ?_
              | refine sg_ps (ps_sub64 rfl rfl (by omega)) rfl ?_
              | refine sg_ps (ps_mul64 rfl rfl (by omega)) rfl ?_
              | refine sg_ps (ps_bin rfl rfl inferInstance) rfl ?_
              | refine sg_ps (ps_rem rfl rfl (by decide)) rfl ?_
              | refine sg_ps (ps_quo64 rfl rfl (by decide) (by omega)) rfl ?_
              | refine sg_ps (ps_not rfl) rfl ?_
              | refine sg_cond_t rfl ?_
              | refine sg_cond_f rfl ?_
              | refine sg_guard_yes rfl rfl ?_
              | refine sg_guard_nf rfl rfl rfl ?_
              | refine sg_guard_nt rfl rfl rfl ?_
              | refine sg_guard_nu rfl rfl rfl ?_
              | refine sg_ps (ps_pick_t rfl rfl) rfl ?_
              | refine sg_ps (ps_pick_f rfl rfl) rfl ?_
              | refine sg_ps (ps_len rfl) rfl ?_
              | refine sg_ps (ps_len_str rfl) rfl ?_
              | refine sg_ps (ps_extract rfl rfl) rfl ?_
              | refine sg_ps (ps_field rfl rfl) rfl ?_
              | refine sg_ps (ps_min2 rfl rfl) rfl ?_
              | refine sg_ps (ps_max2 rfl rfl) rfl ?_
              | refine sg_ps (ps_build rfl rfl) rfl ?_
              | refine sg_box rfl rfl (fun bx => ?_)
              | refine sg_ps (ps_indexAddr rfl rfl rfl (by omega)) rfl ?_
              | refine sg_ps (ps_indexAddr_arr rfl rfl rfl (by omega)) rfl ?_
              | refine sg_block ?_
              | refine sg_skip ?_
              | refine sg_ret ?_
              | refine sg_exit ?_
              | refine ex_then_ret ?_
              | refine ex_then_exit ?_
              | refine ex_block_ret ?_
              | refine ex_block_normal ?_
              | refine ex_block_hit ?_
              | refine ex_block_miss rfl ?_
              | refine sg_store [] rfl rfl rfl (of_decide_eq_true rfl) ?_
              | refine sg_store [_] rfl rfl rfl (of_decide_eq_true rfl) ?_
              | refine sg_store [_, _] rfl rfl rfl (of_decide_eq_true rfl) ?_
              | refine sg_store [_, _, _] rfl rfl rfl (of_decide_eq_true rfl) ?_
              | refine sg_store [_, _, _, _] rfl rfl rfl (of_decide_eq_true rfl) ?_
              | refine sg_store [_, _, _, _, _] rfl rfl rfl (of_decide_eq_true rfl) ?_
              | refine sg_store [_, _, _, _, _, _] rfl rfl rfl (of_decide_eq_true rfl) ?_
              | refine sg_store [_, _, _, _, _, _, _] rfl rfl rfl (of_decide_eq_true rfl) ?_
              | (refine sg_guard_dec rfl rfl (fun hg => ?_) (fun hg => ?_) <;> first | (exfalso; omega) | (exact absurd rfl hg) | skip)
              | (refine sg_guard_ndec rfl rfl (fun hg => ?_) (fun hg => ?_) <;> first | (exfalso; omega) | (exact absurd rfl hg) | skip)
              | (refine sg_cond_dec rfl (fun hg => ?_) (fun hg => ?_) <;> first | (exfalso; omega) | (exact absurd rfl hg) | skip)
              | (refine sg_cond_ndec rfl (fun hg => ?_) (fun hg => ?_) <;> first | (exfalso; omega) | (exact absurd rfl hg) | skip)
              | refine sg_cond_not rfl (fun hg => ?_) (fun hg => ?_)
              | refine sg_cond rfl (fun hg => ?_) (fun hg => ?_))
            refine sg_call hbt2 rfl rfl (fun _ _ => ?_)
            repeat' (first
              | refine sg_wo ?_
              | refine sg_ps (ps_move rfl) rfl ?_
              | refine sg_ps (ps_assign rfl) rfl ?_
              | refine sg_seq ?_
              | refine sg_region ?_
              | refine sg_nil ?_
              | refine sg_then ?_
              | refine sg_ps (ps_fieldAddr rfl) rfl ?_
              | refine sg_ps (ps_nilCheck rfl) rfl ?_
              | refine sg_load 0 rfl rfl rfl rfl ?_
              | refine sg_load 1 rfl rfl rfl rfl ?_
              | refine sg_load 2 rfl rfl rfl rfl ?_
              | refine sg_load 3 rfl rfl rfl rfl ?_
              | refine sg_load 4 rfl rfl rfl rfl ?_
              | refine sg_load 5 rfl rfl rfl rfl ?_
              | refine sg_load 6 rfl rfl rfl rfl ?_
              | refine sg_load 7 rfl rfl rfl rfl ?_
              | refine sg_ps (ps_add64 rfl rfl (by omega)) rfl ?_
              | refine sg_ps (ps_sub64 rfl rfl (by omega)) rfl ?_
              | refine sg_ps (ps_mul64 rfl rfl (by omega)) rfl ?_
              | refine sg_ps (ps_bin rfl rfl inferInstance) rfl ?_
              | refine sg_ps (ps_rem rfl rfl (by decide)) rfl ?_
              | refine sg_ps (ps_quo64 rfl rfl (by decide) (by omega)) rfl ?_
              | refine sg_ps (ps_not rfl) rfl ?_
              | refine sg_cond_t rfl ?_
              | refine sg_cond_f rfl ?_
              | refine sg_guard_yes rfl rfl ?_
              | refine sg_guard_nf rfl rfl rfl ?_
              | refine sg_guard_nt rfl rfl rfl ?_
              | refine sg_guard_nu rfl rfl rfl ?_
              | refine sg_ps (ps_pick_t rfl rfl) rfl ?_
              | refine sg_ps (ps_pick_f rfl rfl) rfl ?_
              | refine sg_ps (ps_len rfl) rfl ?_
              | refine sg_ps (ps_len_str rfl) rfl ?_
              | refine sg_ps (ps_extract rfl rfl) rfl ?_
              | refine sg_ps (ps_field rfl rfl) rfl ?_
              | refine sg_ps (ps_min2 rfl rfl) rfl ?_
              | refine sg_ps (ps_max2 rfl rfl) rfl ?_
              | refine sg_ps (ps_build rfl rfl) rfl ?_
              | refine sg_box rfl rfl (fun bx => ?_)
              | refine sg_ps (ps_indexAddr rfl rfl rfl (by omega)) rfl ?_
              | refine sg_ps (ps_indexAddr_arr rfl rfl rfl (by omega)) rfl ?_
              | refine sg_block ?_
              | refine sg_skip ?_
              | refine sg_ret ?_
              | refine sg_exit ?_
              | refine ex_then_ret ?_
              | refine ex_then_exit ?_
              | refine ex_block_ret ?_
              | refine ex_block_normal ?_
              | refine ex_block_hit ?_
              | refine ex_block_miss rfl ?_
              | refine sg_store [] rfl rfl rfl (of_decide_eq_true rfl) ?_
              | refine sg_store [_] rfl rfl rfl (of_decide_eq_true rfl) ?_
              | refine sg_store [_, _] rfl rfl rfl (of_decide_eq_true rfl) ?_
              | refine sg_store [_, _, _] rfl rfl rfl (of_decide_eq_true rfl) ?_
              | refine sg_store [_, _, _, _] rfl rfl rfl (of_decide_eq_true rfl) ?_
              | refine sg_store [_, _, _, _, _] rfl rfl rfl (of_decide_eq_true rfl) ?_
              | refine sg_store [_, _, _, _, _, _] rfl rfl rfl (of_decide_eq_true rfl) ?_
              | refine sg_store [_, _, _, _, _, _, _] rfl rfl rfl (of_decide_eq_true rfl) ?_
              | (refine sg_guard_dec rfl rfl (fun hg => ?_) (fun hg => ?_) <;> first | (exfalso; omega) | (exact absurd rfl hg) | skip)
              | (refine sg_guard_ndec rfl rfl (fun hg => ?_) (fun hg => ?_) <;> first | (exfalso; omega) | (exact absurd rfl hg) | skip)
              | (refine sg_cond_dec rfl (fun hg => ?_) (fun hg => ?_) <;> first | (exfalso; omega) | (exact absurd rfl hg) | skip)
              | (refine sg_cond_ndec rfl (fun hg => ?_) (fun hg => ?_) <;> first | (exfalso; omega) | (exact absurd rfl hg) | skip)
              | refine sg_cond_not rfl (fun hg => ?_) (fun hg => ?_)
              | refine sg_cond rfl (fun hg => ?_) (fun hg => ?_))
            exact ex_mid (i + 1) ⟨by omega, by omega⟩ (.cons rfl (.cons rfl (.cons rfl (.cons rfl (.cons rfl .nil))))) (fun w hO => hO.tail.front1.tail)
          · refine sg_front1 ?_
            refine sg_call (waiting_tri d S3 _) rfl rfl (fun _ _ => ?_)
            rw [a2]
            repeat' (first
              | refine sg_wo ?_
              | refine sg_ps (ps_move rfl) rfl ?_
              | refine sg_ps (ps_assign rfl) rfl ?_
              | refine sg_seq ?_
              | refine sg_region ?_
              | refine sg_nil ?_
              | refine sg_then ?_
              | refine sg_ps (ps_fieldAddr rfl) rfl ?_
              | refine sg_ps (ps_nilCheck rfl) rfl ?_
              | refine sg_load 0 rfl rfl rfl rfl ?_
              | refine sg_load 1 rfl rfl rfl rfl ?_
              | refine sg_load 2 rfl rfl rfl rfl ?_
              | refine sg_load 3 rfl rfl rfl rfl ?_
              | refine sg_load 4 rfl rfl rfl rfl ?_
              | refine sg_load 5 rfl rfl rfl rfl ?_
              | refine sg_load 6 rfl rfl rfl rfl ?_
              | refine sg_load 7 rfl rfl rfl rfl ?_
              | refine sg_ps (ps_add64 rfl rfl (by omega)) rfl ?_
              | refine sg_ps (ps_sub64 rfl rfl (by omega)) rfl ?_
              | refine sg_ps (ps_mul64 rfl rfl (by omega)) rfl ?_
              | refine sg_ps (ps_bin rfl rfl inferInstance) rfl ?_
              | refine sg_ps (ps_rem rfl rfl (by decide)) rfl ?_
              | refine sg_ps (ps_quo64 rfl rfl (by decide) (by omega)) rfl ?_
              | refine sg_ps (ps_not rfl) rfl ?_
              | refine sg_cond_t rfl ?_
              | refine sg_cond_f rfl ?_
              | refine sg_guard_yes rfl rfl ?_
              | refine sg_guard_nf rfl rfl rfl ?_
              | refine sg_guard_nt rfl rfl rfl ?_
              | refine sg_guard_nu rfl rfl rfl ?_
              | refine sg_ps (ps_pick_t rfl rfl) rfl ?_
              | refine sg_ps (ps_pick_f rfl rfl) rfl ?_
              | refine sg_ps (ps_len rfl) rfl ?_
              | refine sg_ps (ps_len_str rfl) rfl ?_
              | refine sg_ps (ps_extract rfl rfl) rfl ?_
              | refine sg_ps (ps_field rfl rfl) rfl ?_
              | refine sg_ps (ps_min2 rfl rfl) rfl ?_
              | refine sg_ps (ps_max2 rfl rfl) rfl ?_
              | refine sg_ps (ps_build rfl rfl) rfl ?_
              | refine sg_box rfl rfl (fun bx => ?_)
              | refine sg_ps (ps_indexAddr rfl rfl rfl (by omega)) rfl ?_
              | refine sg_ps (ps_indexAddr_arr rfl rfl rfl (by omega)) rfl ?_
              | refine sg_block ?_
              | refine sg_skip ?_
              | refine sg_ret ?_
              | refine sg_exit ?_
              | refine ex_then_ret ?_
              | refine ex_then_exit ?_
              | refine ex_block_ret ?_
              | refine ex_block_normal ?_
              | refine ex_block_hit ?_
              | refine ex_block_miss rfl ?_
              | refine sg_store [] rfl rfl rfl (of_decide_eq_true rfl) ?_
              | refine sg_store [_] rfl rfl rfl (of_decide_eq_true rfl) ?_
              | refine sg_store [_, _] rfl rfl rfl (of_decide_eq_true rfl) ?_
              | refine sg_store [_, _, _] rfl rfl rfl (of_decide_eq_true rfl) ?_
              | refine sg_store [_, _, _, _] rfl rfl rfl (of_decide_eq_true rfl) ?_
              | refine sg_store [_, _, _, _, _] rfl rfl rfl (of_decide_eq_true rfl) ?_
              | refine sg_store [_, _, _, _, _, _] rfl rfl rfl (of_decide_eq_true rfl) ?_
              | refine sg_store [_, _, _, _, _, _, _] rfl rfl rfl (of_decide_eq_true rfl) ?_
              | (refine sg_guard_dec rfl rfl (fun hg => ?_) (fun hg => ?_) <;> first | (exfalso; omega) | (exact absurd rfl hg) | skip)
              | (refine sg_guard_ndec rfl rfl (fun hg => ?_) (fun hg => ?_) <;> first | (exfalso; omega) | (exact absurd rfl hg) | skip)
              | (refine sg_cond_dec rfl (fun hg => ?_) (fun hg => ?_) <;> first | (exfalso; omega) | (exact absurd rfl hg) | skip)
              | (refine sg_cond_ndec rfl (fun hg => ?_) (fun hg => ?_) <;> first | (exfalso; omega) | (exact absurd rfl hg) | skip)
              | refine sg_cond_not rfl (fun hg => ?_) (fun hg => ?_)
              | refine sg_cond rfl (fun hg => ?_) (fun hg => ?_))
            refine sg_front1 ?_
            refine sg_call (waiting_tri c S4 _) rfl rfl (fun _ _ => ?_)
            rw [b2]
            repeat' (first
              | refine sg_wo ?_
              | refine sg_ps (ps_move rfl) rfl ?_
              | refine sg_ps (ps_assign rfl) rfl ?_
              | refine sg_seq ?_
              | refine sg_region ?_
              | refine sg_nil ?_
              | refine sg_then ?_
              | refine sg_ps (ps_fieldAddr rfl) rfl ?_
              | refine sg_ps (ps_nilCheck rfl) rfl ?_
              | refine sg_load 0 rfl rfl rfl rfl ?_
              | refine sg_load 1 rfl rfl rfl rfl ?_
              | refine sg_load 2 rfl rfl rfl rfl ?_
              | refine sg_load 3 rfl rfl rfl rfl ?_
              | refine sg_load 4 rfl rfl rfl rfl ?_
              | refine sg_load 5 rfl rfl rfl rfl ?_
              | refine sg_load 6 rfl rfl rfl rfl ?_
              | refine sg_load 7 rfl rfl rfl rfl ?_
              | refine sg_ps (ps_add64 rfl rfl (by omega)) rfl ?_
              | refine sg_ps (ps_sub64 rfl rfl (by omega)) rfl ?_
              | refine sg_ps (ps_mul64 rfl rfl (by omega)) rfl ?_
              | refine sg_ps (ps_bin rfl rfl inferInstance) rfl ?_
              | refine sg_ps (ps_rem rfl rfl (by decide)) rfl ?_
              | refine sg_ps (ps_quo64 rfl rfl (by decide) (by omega)) rfl ?_
              | refine sg_ps (ps_not rfl) rfl ?_
              | refine sg_cond_t rfl ?_
              | refine sg_cond_f rfl ?_
              | refine sg_guard_yes rfl rfl ?_
              | refine sg_guard_nf rfl rfl rfl ?_
              | refine sg_guard_nt rfl rfl rfl ?_
              | refine sg_guard_nu rfl rfl rfl ?_
              | refine sg_ps (ps_pick_t rfl rfl) rfl ?_
              | refine sg_ps (ps_pick_f rfl rfl) rfl ?_
              | refine sg_ps (ps_len rfl) rfl ?_
              | refine sg_ps (ps_len_str rfl) rfl ?_
              | refine sg_ps (ps_extract rfl rfl) rfl ?_
              | refine sg_ps (ps_field rfl rfl) rfl ?_
              | refine sg_ps (ps_min2 rfl rfl) rfl ?_
              | refine sg_ps (ps_max2 rfl rfl) rfl ?_
              | refine sg_ps (ps_build rfl rfl) rfl ?_
              | refine sg_box rfl rfl (fun bx => ?_)
              | refine sg_ps (ps_indexAddr rfl rfl rfl (by omega)) rfl ?_
              | refine sg_ps (ps_indexAddr_arr rfl rfl rfl (by omega)) rfl ?_
              | refine sg_block ?_
              | refine sg_skip ?_
              | refine sg_ret ?_
              | refine sg_exit ?_
              | refine ex_then_ret ?_
              | refine ex_then_exit ?_
              | refine ex_block_ret ?_
              | refine ex_block_normal ?_
              | refine ex_block_hit ?_
              | refine ex_block_miss rfl ?_
              | refine sg_store [] rfl rfl rfl (of_decide_eq_true rfl) ?_
              | refine sg_store [_] rfl rfl rfl (of_decide_eq_true rfl) ?_
              | refine sg_store [_, _] rfl rfl rfl (of_decide_eq_true rfl) ?_
              | refine sg_store [_, _, _] rfl rfl rfl (of_decide_eq_true rfl) ?_
              | refine sg_store [_, _, _, _] rfl rfl rfl (of_decide_eq_true rfl) ?_
              | refine sg_store [_, _, _, _, _] rfl rfl rfl (of_decide_eq_true rfl) ?_
              | refine sg_store [_, _, _, _, _, _] rfl rfl rfl (of_decide_eq_true rfl) ?_
              | refine sg_store [_, _, _, _, _, _, _] rfl rfl rfl (of_decide_eq_true rfl) ?_
              | (refine sg_guard_dec rfl rfl (fun hg => ?_) (fun hg => ?_) <;> first | (exfalso; omega) | (exact absurd rfl hg) | skip)
              | (refine sg_guard_ndec rfl rfl (fun hg => ?_) (fun hg => ?_) <;> first | (exfalso; omega) | (exact absurd rfl hg) | skip)
              | (refine sg_cond_dec rfl (fun hg => ?_) (fun hg => ?_) <;> first | (exfalso; omega) | (exact absurd rfl hg) | skip)
              | (refine sg_cond_ndec rfl (fun hg => ?_) (fun hg => ?_) <;> first | (exfalso; omega) | (exact absurd rfl hg) | skip)
              | refine sg_cond_not rfl (fun hg => ?_) (fun hg => ?_)
              | refine sg_cond rfl (fun hg => ?_) (fun hg => ?_))
            exact ex_ret1 rfl rfl () rfl trivial (fun w hO => hO.tail.tail.tail.tail.tail.tail)

theorem diskKeeps_opened (W : World) (vs : List Value) (h : Opens Try.prog W Try.f5.params.toList vs) :
    Tri Try.prog W 5 vs [old W] (X := Unit) (fun _ => .bool true) (fun _ => True) (fun _ => [old W]) := by
  obtain ⟨a0, c0, vs, rfl, e0, h⟩ := Opens.cons (RT.slice 4 64 Try.underlying37 (by kernel_rfl) (by kernel_rfl) (RT.struct (tot := 4) Try.underlying39 (by kernel_rfl) (RF.cons 1 (RT.int .i64 Try.underlying3) rfl (by kernel_rfl) (RF.cons 1 (RT.int .i64 Try.underlying3) rfl (by kernel_rfl) (RF.cons 1 (RT.slice 1 1 Try.underlying30 (by kernel_rfl) (by kernel_rfl) (RT.u8 Try.underlying5)) rfl (by kernel_rfl) (RF.cons 1 (RT.slice 1 8 Try.underlying23 (by kernel_rfl) (by kernel_rfl) (RT.int .i64 Try.underlying3)) rfl (by kernel_rfl) (RF.nil rfl))))))) h
  obtain ⟨a1, c1, vs, rfl, e1, h⟩ := Opens.cons (RT.slice 4 64 Try.underlying37 (by kernel_rfl) (by kernel_rfl) (RT.struct (tot := 4) Try.underlying39 (by kernel_rfl) (RF.cons 1 (RT.int .i64 Try.underlying3) rfl (by kernel_rfl) (RF.cons 1 (RT.int .i64 Try.underlying3) rfl (by kernel_rfl) (RF.cons 1 (RT.slice 1 1 Try.underlying30 (by kernel_rfl) (by kernel_rfl) (RT.u8 Try.underlying5)) rfl (by kernel_rfl) (RF.cons 1 (RT.slice 1 8 Try.underlying23 (by kernel_rfl) (by kernel_rfl) (RT.int .i64 Try.underlying3)) rfl (by kernel_rfl) (RF.nil rfl))))))) h
  obtain rfl := Opens.nil h
  obtain ⟨la, lc, rfl, hl⟩ := opsAt_of e0
  obtain ⟨qa, qc, rfl, hq⟩ := opsAt_of e1
  exact diskKeeps_tri a0 a1 la qa lc qc hl hq
set_option maxRecDepth 100000 in
theorem diskKeeps_lifted (os : Os) (started : os.Started) (H : Type) (enc : TypeId × Value → H) :
    ReturnsInHanded {} Try.checked os 5 .any (Rows.diskKeepsSpec.pre6 enc Try.prog Try.f5 Rows.diskKeepsRow.domain false) (Rows.diskKeepsSpec.post enc Try.prog Try.f5 false true false false) :=
  lift (tb := 4) started law_own law_laidOut (by kernel_rfl) Try.func5
    (ChangeSpec.witness6 (enc := enc) (C := Try.checked) false ⟨#[], #[.slice none 0 0, .slice none 0 0], []⟩ 8 (by kernel_rfl) (by kernel_rfl) (by kernel_rfl) (by kernel_rfl))
    rfl rfl Try.underlying4 (by kernel_rfl) (fun ds h => by
      match ds, h with
      | [d1, d2], _ => rfl) diskKeeps_opened
theorem diskKeeps_over : Rows.diskKeepsRow.holds Try.pinned (OpenSpec.ofChange Rows.diskKeepsSpec) :=
  OpenClaim.holds_of_wide 5 Try.f5 rfl rfl rfl rfl rfl rfl rfl ⟨rfl, rfl, rfl, rfl, rfl⟩ rfl rfl rfl rfl rfl (by kernel_rfl) Try.func5 (by kernel_rfl)
    (of_decide_eq_true (by kernel_rfl)) (by unfold Func.isWrapper; first | (rw [if_pos (by decide +kernel)]; kernel_rfl) | (rw [if_neg (by decide +kernel)]; exact ⟨rfl, rfl⟩))
    (fun os started H enc _ => diskKeeps_lifted os started H enc)
theorem diskKeeps_proved : Rows.DiskKeepsSaid := diskKeeps_over
#print axioms diskKeeps_proved
end Go.Proofs.Ytbimcdkceoflmaa
