/- LockPlays: any calls in any order. -/
import Derived.Test.YtgapgpknghnemaaLRG
namespace Go.Proofs.Ytgapgpknghnemaa
set_option linter.unusedVariables false
set_option linter.unusedSimpArgs false
set_option linter.unusedSectionVars false
set_option linter.unnecessarySimpa false
open Go Go.Proofs
set_option maxRecDepth 20000
set_option maxHeartbeats 8000000
attribute [local irreducible] SG WC WO W1 WD WK PS Rd Tri Exit.then Exit.inBlock bodyPost calmQ Mid sadd bestS
variable {W : World} {n : Nat} {F : Fr} {L : List HP} {G : Act → World → Prop}
theorem P15.l6 {k : Nat} {S : TS} {R : RL} (h : P15 k S R) (hk : k ≤ 200) : ∀ e ∈ S, e.2.length ≤ 1000000 := fun e he => by have := h.ll e he; omega
theorem rdo_tailL {a : Option Addr} {vs : List Value} {R : List HP} (h : RdO W a vs) (j : Nat) (hR : R[j]? = some (old W)) (L : List HP) : Rd W (L ++ R) a vs :=
  h.rd (L.length + j) (by rw [List.getElem?_append_right (Nat.le_add_right _ _), Nat.add_sub_cancel_left]; exact hR)
theorem lockPlays_tri (l : List LO) (la : Option Addr) (lc : Nat) (hl : LOpsK W l la) :
    Tri Try.prog W 5 [.slice la l.length lc] [old W] (X := Unit) (fun _ => .bool true) (fun _ => True) (fun _ => [old W]) := by
  obtain ⟨hp, hll, hl⟩ := hl
  refine tri_enter1 Try.func5 rfl Try.ntmps5 rfl ?_
  repeat' (first | refine sg_wo ?_ | refine sg_ps (ps_assign rfl) rfl ?_ | refine sg_seq ?_ | refine sg_region ?_ | refine sg_nil ?_ | refine sg_then ?_)
  refine sg_call (awake_tri _) rfl rfl (fun _ _ => ?_)
  repeat' (first | refine sg_wo ?_ | refine sg_seq ?_ | refine sg_region ?_ | refine sg_nil ?_ | refine sg_then ?_ | refine sg_ps (ps_not rfl) rfl ?_ | refine sg_cond_f rfl ?_ | refine sg_skip ?_)
  refine sg_call (newt_tri _) rfl rfl (fun t _ => ?_)
  repeat' (first | refine sg_wo ?_ | refine sg_ps (ps_assign rfl) rfl ?_ | refine sg_seq ?_ | refine sg_region ?_ | refine sg_nil ?_ | refine sg_then ?_ | refine sg_ps (ps_build rfl rfl) rfl ?_ | refine sg_box rfl rfl (fun bx => ?_) | refine sg_block ?_)
  refine sg_nil_own 6 ?_
  refine sg_loop (γ := Nat × TS × RL) (fun g => (g.1 ≤ l.length ∧ g.1 ≤ 200) ∧ P15 g.1 g.2.1 g.2.2) (fun g => [(0, .slice la l.length lc), (3, dp t), (4, dp bx), (5, i64 g.1)]) (fun g => [TableRep t g.2.1, RTab bx g.2.2, old W]) (fun g => 200 - g.1) (0, [], [])
    ⟨⟨Nat.zero_le _, Nat.zero_le _⟩, P15.nil⟩ (.cons rfl (.cons rfl (.cons rfl (.cons rfl .nil)))) (fun w hO => (RTab.shut (a := none) (c := 0) (R := []) hO.front1).front1) ?_
  rintro ⟨i, S, R⟩ ⟨⟨hi1, hi2⟩, hI⟩
  dsimp only at hi1 hi2 hI ⊢
  by_cases hi : i < l.length ∧ i < 200
  case neg =>
    repeat' (first | refine sg_wo ?_ | refine sg_ps (ps_move rfl) rfl ?_ | refine sg_ps (ps_assign rfl) rfl ?_ | refine sg_seq ?_ | refine sg_region ?_ | refine sg_nil ?_ | refine sg_then ?_ | refine sg_ps (ps_bin rfl rfl inferInstance) rfl ?_ | refine sg_cond_f rfl ?_ | refine sg_guard_yes rfl rfl ?_ | refine sg_guard_nf rfl rfl rfl ?_ | refine sg_ps (ps_pick_t rfl rfl) rfl ?_ | refine sg_ps (ps_pick_f rfl rfl) rfl ?_ | refine sg_ps (ps_len rfl) rfl ?_ | refine sg_exit ?_ | refine ex_then_exit ?_ | refine ex_block_hit ?_ | (refine sg_guard_dec rfl rfl (fun hg => ?_) (fun hg => ?_) <;> first | (exfalso; omega) | (exact absurd rfl hg) | skip) | (refine sg_cond_dec rfl (fun hg => ?_) (fun hg => ?_) <;> first | (exfalso; omega) | (exact absurd rfl hg) | skip))
    all_goals (
      refine sg_call (try_nil 1 none 0 0 _) rfl rfl (fun _ _ => ?_)
      repeat' (first | refine sg_wo ?_ | refine sg_ps (ps_move rfl) rfl ?_ | refine sg_ps (ps_bin rfl rfl inferInstance) rfl ?_ | refine sg_guard_yes rfl rfl ?_)
      refine sg_call (free_nil 1 none 0 0 _) rfl rfl (fun _ _ => ?_)
      repeat' (first | refine sg_wo ?_ | refine sg_ps (ps_move rfl) rfl ?_ | refine sg_ps (ps_bin rfl rfl inferInstance) rfl ?_ | refine sg_guard_yes rfl rfl ?_ | refine sg_ps (ps_pick_t rfl rfl) rfl ?_)
      refine sg_call (release_nil 1 _) rfl rfl (fun _ _ => ?_)
      repeat' (first | refine sg_wo ?_ | refine sg_ps (ps_move rfl) rfl ?_ | refine sg_ps (ps_bin rfl rfl inferInstance) rfl ?_ | refine sg_guard_yes rfl rfl ?_ | refine sg_ps (ps_pick_t rfl rfl) rfl ?_)
      refine sg_call (held_nil 1 _) rfl rfl (fun _ _ => ?_)
      repeat' (first | refine sg_wo ?_ | refine sg_ps (ps_move rfl) rfl ?_ | refine sg_ps (ps_bin rfl rfl inferInstance) rfl ?_ | refine sg_guard_yes rfl rfl ?_ | refine sg_ps (ps_pick_t rfl rfl) rfl ?_ | refine sg_ps (ps_len rfl) rfl ?_)
      refine sg_call (owners_nil _) rfl rfl (fun _ _ => ?_)
      repeat' (first | refine sg_wo ?_ | refine sg_ps (ps_assign rfl) rfl ?_ | refine sg_nil ?_ | refine sg_then ?_ | refine sg_ps (ps_bin rfl rfl inferInstance) rfl ?_ | refine sg_guard_yes rfl rfl ?_ | refine sg_ps (ps_pick_t rfl rfl) rfl ?_ | refine sg_ps (ps_len rfl) rfl ?_ | refine sg_ret ?_)
      exact ex_ret1 rfl rfl () rfl trivial (fun w hO => hO.tail.tail))
  obtain ⟨hil, hi60⟩ := hi
  obtain ⟨b, ob, rfl⟩ := hp (by omega)
  obtain ⟨ka, kc, hR, hk1, hk2, hzo, hzk⟩ := hl i hil b ob rfl
  obtain ⟨m, hm, hm4⟩ := rem_nat l[i].1 4 (by decide)
  rw [show ((4 : Nat) : Int) = 4 from rfl] at hm
  have hr4 := rem_lt l[i].1 (m := 4) (by decide)
  generalize l[i] = z at hR hk1 hk2 hzo hzk hm hr4
  obtain ⟨zk, zo, zl⟩ := z
  dsimp only at hR hk1 hk2 hzo hzk hm hr4
  by_cases hz : zl.length ≤ 50
  case neg =>
    repeat' (first | refine sg_wo ?_ | refine sg_ps (ps_move rfl) rfl ?_ | refine sg_seq ?_ | refine sg_region ?_ | refine sg_nil ?_ | refine sg_then ?_ | refine sg_ps (ps_bin rfl rfl inferInstance) rfl ?_ | refine sg_guard_yes rfl rfl ?_ | refine sg_ps (ps_pick_t rfl rfl) rfl ?_ | refine sg_ps (ps_len rfl) rfl ?_ | refine sg_ps (ps_indexAddr rfl rfl rfl (by omega)) rfl ?_ | refine sg_block ?_ | refine sg_skip ?_ | (refine sg_guard_dec rfl rfl (fun hg => ?_) (fun hg => ?_) <;> first | (exfalso; omega) | (exact absurd rfl hg) | skip) | (refine sg_cond_dec rfl (fun hg => ?_) (fun hg => ?_) <;> first | (exfalso; omega) | (exact absurd rfl hg) | skip))
    refine sg_load_agg_rd rfl rfl (hR.rd 2 rfl) rfl ?_
    repeat' (first | refine sg_wo ?_ | refine sg_ps (ps_move rfl) rfl ?_ | refine sg_ps (ps_assign rfl) rfl ?_ | refine sg_seq ?_ | refine sg_region ?_ | refine sg_nil ?_ | refine sg_then ?_ | refine sg_ps (ps_fieldAddr rfl) rfl ?_ | refine sg_load 0 rfl rfl rfl rfl ?_ | refine sg_ps (ps_add64 rfl rfl (by omega)) rfl ?_ | refine sg_ps (ps_bin rfl rfl inferInstance) rfl ?_ | refine sg_ps (ps_len rfl) rfl ?_ | refine sg_store_whole [] rfl rfl rfl rfl rfl ?_ | refine sg_alloc rfl (fun al => ?_) | refine sg_exit ?_ | refine ex_then_exit ?_ | refine ex_block_hit ?_ | (refine sg_cond_dec rfl (fun hg => ?_) (fun hg => ?_) <;> first | (exfalso; omega) | (exact absurd rfl hg) | skip))
    exact ex_mid (i + 1, S, R) ⟨by omega, ⟨by omega, by omega⟩, hI.up (Nat.le_succ _)⟩ (.cons rfl (.cons rfl (.cons rfl (.cons rfl .nil)))) (fun w hO => hO.tail)
  refine sg_seq ?_
  refine sg_seq ?_
  repeat' (first | refine sg_wo ?_ | refine sg_ps (ps_move rfl) rfl ?_ | refine sg_region ?_ | refine sg_nil ?_ | refine sg_then ?_ | refine sg_ps (ps_bin rfl rfl inferInstance) rfl ?_ | refine sg_guard_yes rfl rfl ?_ | refine sg_ps (ps_pick_t rfl rfl) rfl ?_ | refine sg_ps (ps_len rfl) rfl ?_ | refine sg_skip ?_ | (refine sg_guard_dec rfl rfl (fun hg => ?_) (fun hg => ?_) <;> first | (exfalso; omega) | (exact absurd rfl hg) | skip) | (refine sg_cond_dec rfl (fun hg => ?_) (fun hg => ?_) <;> first | (exfalso; omega) | (exact absurd rfl hg) | skip))
  refine sg_seq ?_
  repeat' (first | refine sg_block ?_)
  refine sg_seq ?_
  repeat' (first | refine sg_wo ?_ | refine sg_ps (ps_move rfl) rfl ?_ | refine sg_region ?_ | refine sg_ps (ps_indexAddr rfl rfl rfl (by omega)) rfl ?_)
  refine sg_load_agg_rd rfl rfl (hR.rd 2 rfl) rfl ?_
  repeat' (first | refine sg_wo ?_ | refine sg_nil ?_ | refine sg_then ?_ | refine sg_store_whole [] rfl rfl rfl rfl rfl ?_ | refine sg_alloc rfl (fun al => ?_))
  refine sg_seq ?_
  refine sg_seq ?_
  repeat' (first | refine sg_wo ?_ | refine sg_region ?_ | refine sg_nil ?_ | refine sg_then ?_ | refine sg_ps (ps_fieldAddr rfl) rfl ?_ | refine sg_load 0 rfl rfl rfl rfl ?_ | refine sg_ps (ps_bin rfl rfl inferInstance) rfl ?_ | refine sg_ps (ps_len rfl) rfl ?_ | refine sg_skip ?_ | (refine sg_cond_dec rfl (fun hg => ?_) (fun hg => ?_) <;> first | (exfalso; omega) | (exact absurd rfl hg) | skip))
  refine sg_seq ?_
  repeat' (first | refine sg_wo ?_ | refine sg_region ?_)
  refine sg_buildSlice (parts := []) (vs := []) (cells := []) rfl (by omega) rfl rfl (fun b2 => ?_)
  repeat' (first | refine sg_wo ?_ | refine sg_ps (ps_fieldAddr rfl) rfl ?_ | refine sg_load 1 rfl rfl rfl rfl ?_)
  refine sg_own_mk (m := 0) (c := 0) (sz := 5) (xs := []) (Nat.le_refl _) (Nat.zero_le _) rfl rfl ?_
  refine sg_append (news := lcells zl) rfl rfl rfl (lcells_len zl) (lcells_one zl) (hk2.rd 4 rfl) (by simp only [maxLen]; omega) (by omega) fun a' c' => ?_
  rw [List.nil_append, Nat.zero_add]
  repeat' (first | refine sg_wo ?_ | refine sg_ps (ps_assign rfl) rfl ?_ | refine sg_nil ?_ | refine sg_then ?_)
  refine sg_seq ?_
  repeat' (first | refine sg_wo ?_ | refine sg_ps (ps_assign rfl) rfl ?_ | refine sg_region ?_ | refine sg_nil ?_ | refine sg_then ?_)
  refine sg_own (L' := [sown a' zl.length c' 5 (lcells zl), blk al [i64 zk, u64 zo, .slice ka zl.length kc], TableRep t S, RTab bx R, old W]) (fun w hO => hO) ?_
  have hI0 := hI
  refine sg_seq_mid (γ := TS × RL) (fun g => P15 (i + 1) g.1 g.2) (fun _ => [(0, .slice (some ⟨b, ob, none⟩) l.length lc), (3, dp t), (4, dp bx), (5, i64 i), (6, dp al), (7, .slice a' zl.length c'), (8, .bool true)])
    (fun g => [sown a' zl.length c' 5 (lcells zl), blk al [i64 zk, u64 zo, .slice ka zl.length kc], TableRep t g.1, RTab bx g.2, old W]) ?_ ?_
  · refine sg_seq ?_
    repeat' (first | refine sg_wo ?_ | refine sg_region ?_ | refine sg_nil ?_ | refine sg_then ?_ | refine sg_ps (ps_fieldAddr rfl) rfl ?_ | refine sg_load 1 rfl rfl rfl rfl ?_ | refine sg_ps (ps_add64 rfl rfl (by omega)) rfl ?_ | refine sg_ps (ps_rem rfl rfl (by decide)) rfl ?_ | refine sg_block ?_)
    have hl6 := hI.l6 (by omega)
    have hrl := hI.rl
    rw [hm]
    rcases (by omega : m = 0 ∨ m = 1 ∨ m = 2 ∨ m = 3) with rfl | rfl | rfl | rfl
    · have ht := hI.tri (o := zo) (l := zl) hzo (by omega) hzk
      repeat' (first | refine sg_wo ?_ | refine sg_ps (ps_assign rfl) rfl ?_ | refine sg_seq ?_ | refine sg_region ?_ | refine sg_nil ?_ | refine sg_then ?_ | refine sg_ps (ps_bin rfl rfl inferInstance) rfl ?_ | refine sg_cond_t rfl ?_)
      refine sg_drawK [blk al [i64 zk, u64 zo, .slice ka zl.length kc], old W] [0, 1, 3, 5, 6, 8, 2, 7, 9, 4, 10, 11, 12] (by kernel_rfl) (by kernel_rfl) (fun w hO => hO.pick [1, 4] (by decide)) ?_
      repeat' (first | refine sk_pure rfl rfl (ps_move rfl) rfl ?_ | refine sk_pure rfl rfl (ps_fieldAddr rfl) rfl ?_ | refine sk_load 0 rfl rfl rfl rfl rfl ?_ | refine sk_eff rfl rfl ?_)
      refine sg_call ((try_tri t S zo zl a' c' [sown a' zl.length c' 5 (lcells zl), blk al [i64 zk, u64 zo, .slice ka zl.length kc], RTab bx R, old W] (by omega) hl6 rd_tail_sown).pre (fun w hO => hO.pick [2, 0, 1, 3, 4] (by decide))) rfl rfl (fun _ _ => ?_)
      refine sk_back (fun w hO => hO.pick [2, 4] (by decide)) ?_
      repeat' (first | refine sk_eff rfl rfl ?_)
      refine sg_call ((rtry_tri bx R zo zl ka kc [TableRep t (tryS S zo zl).2, sown a' zl.length c' 5 (lcells zl), blk al [i64 zk, u64 zo, .slice ka zl.length kc], old W] (by omega) (by omega) (rdo_tailL hk2 3 rfl)).pre (fun w hO => hO.pick [3, 0, 1, 2, 4] (by decide))) rfl rfl (fun _ _ => ?_)
      refine sk_back (fun w hO => hO.pick [3, 4] (by decide)) ?_
      rw [ht.1]
      have h2 := ht.2
      generalize (tryS S zo zl).2 = S2 at h2 ⊢
      generalize (rtryS R zo zl).2 = R2 at h2 ⊢
      generalize (tryS S zo zl).1 = e
      repeat' (first | refine sk_nil ?_ | refine sk_pure rfl rfl (ps_assign rfl) rfl ?_ | refine sk_pure rfl rfl (ps_bin rfl rfl inferInstance) rfl ?_)
      repeat' (first | refine ex_block_normal ?_)
      exact ex_mid (S2, R2) h2 (.cons rfl (.cons rfl (.cons rfl (.cons rfl (.cons rfl (.cons rfl (.cons (by simp [look]) .nil))))))) (fun w hO => hO.pick [2, 3, 1, 0, 4] (by decide))
    · have ht := hI.rel.free zo zl
      repeat' (first | refine sg_wo ?_ | refine sg_ps (ps_assign rfl) rfl ?_ | refine sg_seq ?_ | refine sg_region ?_ | refine sg_nil ?_ | refine sg_then ?_ | refine sg_ps (ps_bin rfl rfl inferInstance) rfl ?_ | refine sg_cond_t rfl ?_ | refine sg_cond_f rfl ?_)
      refine sg_drawK [blk al [i64 zk, u64 zo, .slice ka zl.length kc], old W] [0, 1, 3, 5, 6, 8, 2, 7, 9, 4, 10, 11, 12] (by kernel_rfl) (by kernel_rfl) (fun w hO => hO.pick [1, 4] (by decide)) ?_
      repeat' (first | refine sk_pure rfl rfl (ps_move rfl) rfl ?_ | refine sk_pure rfl rfl (ps_fieldAddr rfl) rfl ?_ | refine sk_load 0 rfl rfl rfl rfl rfl ?_ | refine sk_eff rfl rfl ?_)
      refine sg_call ((free_tri t S zo zl a' c' [sown a' zl.length c' 5 (lcells zl), blk al [i64 zk, u64 zo, .slice ka zl.length kc], RTab bx R, old W] (by omega) rd_tail_sown).pre (fun w hO => hO.pick [2, 0, 1, 3, 4] (by decide))) rfl rfl (fun _ _ => ?_)
      refine sk_back (fun w hO => hO.pick [2, 4] (by decide)) ?_
      repeat' (first | refine sk_eff rfl rfl ?_)
      refine sg_call ((rfree_tri bx R zo zl ka kc [TableRep t S, sown a' zl.length c' 5 (lcells zl), blk al [i64 zk, u64 zo, .slice ka zl.length kc], old W] (by omega) (by omega) (rdo_tailL hk2 3 rfl)).pre (fun w hO => hO.pick [3, 0, 1, 2, 4] (by decide))) rfl rfl (fun _ _ => ?_)
      refine sk_back (fun w hO => hO.pick [3, 4] (by decide)) ?_
      rw [ht]
      generalize (if freeS S zo zl = true then (0 : Int) else 9) = e
      repeat' (first | refine sk_nil ?_ | refine sk_pure rfl rfl (ps_assign rfl) rfl ?_ | refine sk_pure rfl rfl (ps_bin rfl rfl inferInstance) rfl ?_)
      repeat' (first | refine ex_block_normal ?_)
      exact ex_mid (S, R) (hI.up (Nat.le_succ _)) (.cons rfl (.cons rfl (.cons rfl (.cons rfl (.cons rfl (.cons rfl (.cons (by simp [look]) .nil))))))) (fun w hO => hO.pick [2, 3, 1, 0, 4] (by decide))
    · have ht := hI.rel.held zo
      have hr2 := hI.rel' zo
      repeat' (first | refine sg_wo ?_ | refine sg_ps (ps_assign rfl) rfl ?_ | refine sg_seq ?_ | refine sg_region ?_ | refine sg_nil ?_ | refine sg_then ?_ | refine sg_ps (ps_bin rfl rfl inferInstance) rfl ?_ | refine sg_cond_t rfl ?_ | refine sg_cond_f rfl ?_)
      refine sg_drawK [blk al [i64 zk, u64 zo, .slice ka zl.length kc], old W] [0, 1, 4, 5, 2, 6, 3, 7, 8, 9] (by kernel_rfl) (by kernel_rfl) (fun w hO => hO.pick [1, 4] (by decide)) ?_
      repeat' (first | refine sk_pure rfl rfl (ps_move rfl) rfl ?_ | refine sk_pure rfl rfl (ps_fieldAddr rfl) rfl ?_ | refine sk_load 0 rfl rfl rfl rfl rfl ?_ | refine sk_eff rfl rfl ?_)
      refine sg_call ((release_tri t S zo [sown a' zl.length c' 5 (lcells zl), blk al [i64 zk, u64 zo, .slice ka zl.length kc], RTab bx R, old W] hl6).pre (fun w hO => hO.pick [2, 0, 1, 3, 4] (by decide))) rfl rfl (fun _ _ => ?_)
      refine sk_back (fun w hO => hO.pick [2, 4] (by decide)) ?_
      repeat' (first | refine sk_eff rfl rfl ?_)
      refine sg_call ((rrelease_tri bx R zo [TableRep t (if (heldS S zo).length = 0 then S else relS S zo), sown a' zl.length c' 5 (lcells zl), blk al [i64 zk, u64 zo, .slice ka zl.length kc], old W] (by omega)).pre (fun w hO => hO.pick [3, 0, 1, 2, 4] (by decide))) rfl rfl (fun _ _ => ?_)
      refine sk_back (fun w hO => hO.pick [3, 4] (by decide)) ?_
      rw [← ht]
      have h2 : P15 (i + 1) (if (heldS S zo).length = 0 then S else relS S zo) (if (heldS S zo).length = 0 then R else rrelS R zo) := by
        split
        · exact hI.up (Nat.le_succ _)
        · exact hr2.up (Nat.le_succ _)
      generalize (if (heldS S zo).length = 0 then S else relS S zo) = S2 at h2 ⊢
      generalize (if (heldS S zo).length = 0 then R else rrelS R zo) = R2 at h2 ⊢
      generalize (if (heldS S zo).length = 0 then (5 : Int) else 0) = e
      repeat' (first | refine sk_nil ?_ | refine sk_pure rfl rfl (ps_assign rfl) rfl ?_ | refine sk_pure rfl rfl (ps_bin rfl rfl inferInstance) rfl ?_)
      repeat' (first | refine ex_block_normal ?_)
      exact ex_mid (S2, R2) h2 (.cons rfl (.cons rfl (.cons rfl (.cons rfl (.cons rfl (.cons rfl (.cons (by simp [look]) .nil))))))) (fun w hO => hO.pick [2, 3, 1, 0, 4] (by decide))
    · skip
      repeat' (first | refine sg_wo ?_ | refine sg_ps (ps_assign rfl) rfl ?_ | refine sg_seq ?_ | refine sg_region ?_ | refine sg_nil ?_ | refine sg_then ?_ | refine sg_ps (ps_bin rfl rfl inferInstance) rfl ?_ | refine sg_cond_f rfl ?_ | refine sg_skip ?_ | refine ex_block_normal ?_)
      exact ex_mid (S, R) (hI.up (Nat.le_succ _)) (.cons rfl (.cons rfl (.cons rfl (.cons rfl (.cons rfl (.cons rfl (.cons rfl .nil))))))) (fun w hO => hO)
  · clear hI hI0 hm hr4
    rintro ⟨S2, R2⟩ hI
    dsimp only at hI ⊢
    have hl6 : ∀ e ∈ S2, e.2.length ≤ 1000000 := fun e he => by have := hI.ll e he; omega
    have hrl := hI.rl
    have hlen := hI.len
    have hHok := hI.heldOk zo
    have hHl := hI.heldLen zo
    have hofo := hI.rel.held zo
    have hown := hI.owners
    have hOl : (sortL (S2.map (·.1))).length = S2.length := by rw [sortL_len, List.length_map]
    repeat' (first | refine sg_wo ?_ | refine sg_ps (ps_move rfl) rfl ?_ | refine sg_seq ?_ | refine sg_region ?_ | refine sg_ps (ps_fieldAddr rfl) rfl ?_ | refine sg_load 1 rfl rfl rfl rfl ?_)
    refine sg_call ((held_tri t S2 zo [sown a' zl.length c' 5 (lcells zl), blk al [i64 zk, u64 zo, .slice ka zl.length kc], RTab bx R2, old W] hl6).pre (fun w hO => hO.pick [2, 0, 1, 3, 4] (by decide))) rfl rfl (fun x _ => ?_)
    obtain ⟨ha, hc⟩ := x
    dsimp only
    have hrh := rheld_tri (W := W) bx R2 zo [sown ha (heldS S2 zo).length hc 5 (lcells (heldS S2 zo)), TableRep t S2, sown a' zl.length c' 5 (lcells zl), blk al [i64 zk, u64 zo, .slice ka zl.length kc], old W] (by omega)
    rw [← hofo] at hrh
    generalize heldS S2 zo = H at hHok hHl hrh ⊢
    repeat' (first | refine sg_wo ?_ | refine sg_ps (ps_move rfl) rfl ?_ | refine sg_ps (ps_assign rfl) rfl ?_ | refine sg_seq ?_ | refine sg_region ?_ | refine sg_nil ?_ | refine sg_then ?_ | refine sg_ps (ps_fieldAddr rfl) rfl ?_ | refine sg_load 3 rfl rfl rfl rfl ?_ | refine sg_ps (ps_not rfl) rfl ?_ | refine sg_guard_yes rfl rfl ?_)
    refine sg_call (rawLocks_tri zl a' ka c' kc _ (by omega) hzk (rd_sown 2 rfl (fun _ _ h => h)) (hk2.rd 5 rfl)) rfl rfl (fun _ _ => ?_)
    repeat' (first | refine sg_wo ?_ | refine sg_ps (ps_move rfl) rfl ?_ | refine sg_ps (ps_fieldAddr rfl) rfl ?_ | refine sg_load 3 rfl rfl rfl rfl ?_ | refine sg_ps (ps_not rfl) rfl ?_ | refine sg_guard_yes rfl rfl ?_ | refine sg_ps (ps_pick_f rfl rfl) rfl ?_)
    refine sg_call (hrh.pre (fun w hO => hO.pick [4, 0, 1, 2, 3, 5] (by decide))) rfl rfl (fun y _ => ?_)
    obtain ⟨ya, yc⟩ := y
    dsimp only
    repeat' (first | refine sg_wo ?_ | refine sg_guard_yes rfl rfl ?_)
    refine sg_call (rawLocks_tri H ha ya hc yc _ (by omega) hHok (rd_sown 2 rfl (fun _ _ h => h)) (rd_sown 0 rfl (fun _ _ h => h))) rfl rfl (fun _ _ => ?_)
    repeat' (first | refine sg_wo ?_ | refine sg_ps (ps_move rfl) rfl ?_ | refine sg_ps (ps_not rfl) rfl ?_ | refine sg_guard_yes rfl rfl ?_ | refine sg_ps (ps_pick_f rfl rfl) rfl ?_)
    have hot := owners_tri (W := W) t S2 [sown ya H.length yc 5 (lcells H), RTab bx R2, sown ha H.length hc 5 (lcells H), sown a' zl.length c' 5 (lcells zl), blk al [i64 zk, u64 zo, .slice ka zl.length kc], old W] (by have : bigN = 255 := rfl; omega)
    rw [← hOl] at hot
    obtain ⟨ho1, ho2, ho3⟩ := hown
    generalize sortL (S2.map (·.1)) = O at hot ho1 ho2 ho3 hOl
    refine sg_call (hot.pre (fun w hO => hO.pick [3, 0, 1, 2, 4, 5, 6] (by decide))) rfl rfl (fun y _ => ?_)
    obtain ⟨oa, oc⟩ := y
    dsimp only
    repeat' (first | refine sg_wo ?_ | refine sg_ps (ps_move rfl) rfl ?_ | refine sg_guard_yes rfl rfl ?_)
    refine sg_call ((rowners_tri bx R2 O [sown oa O.length oc 1 (us O), TableRep t S2, sown ya H.length yc 5 (lcells H), sown ha H.length hc 5 (lcells H), sown a' zl.length c' 5 (lcells zl), blk al [i64 zk, u64 zo, .slice ka zl.length kc], old W] (by omega) (by omega) ho1 ho2 ho3).pre (fun w hO => hO.pick [3, 0, 1, 2, 4, 5, 6, 7] (by decide))) rfl rfl (fun y _ => ?_)
    obtain ⟨pa, pc⟩ := y
    dsimp only
    repeat' (first | refine sg_wo ?_ | refine sg_guard_yes rfl rfl ?_)
    refine sg_call (same_tri O oa pa oc pc _ (by omega) (rd_sown 2 rfl (fun _ _ h => h)) (rd_sown 0 rfl (fun _ _ h => h))) rfl rfl (fun _ _ => ?_)
    repeat' (first | refine sg_wo ?_ | refine sg_nil ?_ | refine sg_then ?_ | refine sg_ps (ps_not rfl) rfl ?_ | refine sg_cond_f rfl ?_ | refine sg_guard_yes rfl rfl ?_ | refine sg_ps (ps_pick_f rfl rfl) rfl ?_ | refine sg_skip ?_)
    refine sg_seq_mid (γ := Unit) (fun _ => True) (fun _ => [(0, .slice (some ⟨b, ob, none⟩) l.length lc), (3, dp t), (4, dp bx), (5, i64 i), (9, .slice ha H.length hc)])
      (fun _ => [sown ha H.length hc 5 (lcells H), TableRep t S2, RTab bx R2, old W]) ?_ ?_
    · refine sg_seq ?_
      repeat' (first | refine sg_wo ?_ | refine sg_ps (ps_assign rfl) rfl ?_ | refine sg_region ?_ | refine sg_nil ?_ | refine sg_then ?_ | refine sg_block ?_)
      by_cases hz0 : zl.length = 0
      · refine sg_loop (γ := Unit) (fun _ => True) (fun _ => [(0, .slice (some ⟨b, ob, none⟩) l.length lc), (3, dp t), (4, dp bx), (5, i64 i), (7, .slice a' zl.length c'), (9, .slice ha H.length hc), (10, i64 0)])
          (fun _ => [sown ha H.length hc 5 (lcells H), TableRep t S2, RTab bx R2, old W]) (fun _ => 0) () trivial (.cons rfl (.cons rfl (.cons rfl (.cons rfl (.cons rfl (.cons rfl (.cons rfl .nil))))))) (fun w hO => hO.pick [5, 3, 1, 8] (by decide)) ?_
        intro _ _
        repeat' (first | refine sg_wo ?_ | refine sg_ps (ps_move rfl) rfl ?_ | refine sg_seq ?_ | refine sg_region ?_ | refine sg_nil ?_ | refine sg_then ?_ | refine sg_ps (ps_bin rfl rfl inferInstance) rfl ?_ | refine sg_ps (ps_len rfl) rfl ?_ | refine sg_exit ?_ | refine ex_then_exit ?_ | refine ex_block_hit ?_ | (refine sg_cond_dec rfl (fun hg => ?_) (fun hg => ?_) <;> first | (exfalso; omega) | (exact absurd rfl hg) | skip))
        exact ex_mid () trivial (.cons rfl (.cons rfl (.cons rfl (.cons rfl (.cons rfl .nil))))) (fun w hO => hO)
      · refine sg_open (fun w hO => own_block (by omega) (hO.pick [6, 5, 3, 1, 8] (by decide))) ?_
        rintro ⟨g, cur⟩ ⟨hg0, h3, h4, h5, h6⟩
        dsimp only at hg0 h3 h4 h5 h6 ⊢
        subst hg0
        refine sg_loop (γ := Nat × List Value) (fun y => y.1 ≤ zl.length ∧ y.2.length = cur.length) (fun y => [(0, .slice (some ⟨b, ob, none⟩) l.length lc), (3, dp t), (4, dp bx), (5, i64 i), (7, .slice (some ⟨g, 0, none⟩) zl.length c'), (9, .slice ha H.length hc), (10, i64 y.1)])
          (fun y => [blk g y.2, sown ha H.length hc 5 (lcells H), TableRep t S2, RTab bx R2, old W]) (fun y => zl.length - y.1) (0, cur) ⟨Nat.zero_le _, rfl⟩ (.cons rfl (.cons rfl (.cons rfl (.cons rfl (.cons rfl (.cons rfl (.cons rfl .nil))))))) (fun w hO => hO) ?_
        rintro ⟨j, c2⟩ ⟨hj, hc2⟩
        dsimp only at hj hc2 ⊢
        by_cases hjl : j < zl.length
        · skip
          repeat' (first | refine sg_wo ?_ | refine sg_ps (ps_move rfl) rfl ?_ | refine sg_seq ?_ | refine sg_region ?_ | refine sg_nil ?_ | refine sg_then ?_ | refine sg_ps (ps_bin rfl rfl inferInstance) rfl ?_ | refine sg_ps (ps_len rfl) rfl ?_ | refine sg_ps (ps_build rfl rfl) rfl ?_ | refine sg_ps (ps_indexAddr rfl rfl rfl (by omega)) rfl ?_ | refine sg_block ?_ | refine sg_skip ?_ | (refine sg_cond_dec rfl (fun hg => ?_) (fun hg => ?_) <;> first | (exfalso; omega) | (exact absurd rfl hg) | skip))
          refine sg_store_agg [] (vs := [_, _, _, _, _]) rfl rfl rfl (allOne_spec rfl) (by simp only [List.length_cons, List.length_nil]; omega) ?_
          repeat' (first | refine sg_wo ?_ | refine sg_ps (ps_move rfl) rfl ?_ | refine sg_ps (ps_assign rfl) rfl ?_ | refine sg_region ?_ | refine sg_nil ?_ | refine sg_then ?_ | refine sg_ps (ps_add64 rfl rfl (by omega)) rfl ?_ | refine ex_block_normal ?_)
          exact ex_mid (j + 1, _) ⟨by show zl.length - (j + 1) < zl.length - j; omega, by show j + 1 ≤ zl.length; omega, by show (splice c2 _ _).length = _; rw [splice_length]; exact hc2⟩ (.cons rfl (.cons rfl (.cons rfl (.cons rfl (.cons rfl (.cons rfl (.cons rfl .nil))))))) (fun w hO => hO)
        · skip
          repeat' (first | refine sg_wo ?_ | refine sg_ps (ps_move rfl) rfl ?_ | refine sg_seq ?_ | refine sg_region ?_ | refine sg_nil ?_ | refine sg_then ?_ | refine sg_ps (ps_bin rfl rfl inferInstance) rfl ?_ | refine sg_ps (ps_len rfl) rfl ?_ | refine sg_exit ?_ | refine ex_then_exit ?_ | refine ex_block_hit ?_ | (refine sg_cond_dec rfl (fun hg => ?_) (fun hg => ?_) <;> first | (exfalso; omega) | (exact absurd rfl hg) | skip))
          exact ex_mid () trivial (.cons rfl (.cons rfl (.cons rfl (.cons rfl (.cons rfl .nil))))) (fun w hO => hO.tail)
    · intro _ _
      refine sg_seq ?_
      repeat' (first | refine sg_wo ?_ | refine sg_ps (ps_assign rfl) rfl ?_ | refine sg_region ?_ | refine sg_nil ?_ | refine sg_then ?_ | refine sg_block ?_)
      by_cases hz0 : H.length = 0
      · refine sg_loop (γ := Unit) (fun _ => True) (fun _ => [(0, .slice (some ⟨b, ob, none⟩) l.length lc), (3, dp t), (4, dp bx), (5, i64 i), (9, .slice ha H.length hc), (11, i64 0)])
          (fun _ => [TableRep t S2, RTab bx R2, old W]) (fun _ => 0) () trivial (.cons rfl (.cons rfl (.cons rfl (.cons rfl (.cons rfl (.cons rfl .nil)))))) (fun w hO => hO.tail) ?_
        intro _ _
        repeat' (first | refine sg_wo ?_ | refine sg_ps (ps_move rfl) rfl ?_ | refine sg_ps (ps_assign rfl) rfl ?_ | refine sg_seq ?_ | refine sg_region ?_ | refine sg_nil ?_ | refine sg_then ?_ | refine sg_ps (ps_add64 rfl rfl (by omega)) rfl ?_ | refine sg_ps (ps_bin rfl rfl inferInstance) rfl ?_ | refine sg_ps (ps_len rfl) rfl ?_ | refine sg_exit ?_ | refine ex_then_exit ?_ | refine ex_block_normal ?_ | refine ex_block_hit ?_ | (refine sg_cond_dec rfl (fun hg => ?_) (fun hg => ?_) <;> first | (exfalso; omega) | (exact absurd rfl hg) | skip))
        exact ex_mid (i + 1, S2, R2) ⟨by omega, ⟨by omega, by omega⟩, hI⟩ (.cons rfl (.cons rfl (.cons rfl (.cons rfl .nil)))) (fun w hO => hO)
      · refine sg_open (fun w hO => own_block (by omega) hO) ?_
        rintro ⟨g, cur⟩ ⟨hg0, h3, h4, h5, h6⟩
        dsimp only at hg0 h3 h4 h5 h6 ⊢
        subst hg0
        refine sg_loop (γ := Nat × List Value) (fun y => y.1 ≤ H.length ∧ y.2.length = cur.length) (fun y => [(0, .slice (some ⟨b, ob, none⟩) l.length lc), (3, dp t), (4, dp bx), (5, i64 i), (9, .slice (some ⟨g, 0, none⟩) H.length hc), (11, i64 y.1)])
          (fun y => [blk g y.2, TableRep t S2, RTab bx R2, old W]) (fun y => H.length - y.1) (0, cur) ⟨Nat.zero_le _, rfl⟩ (.cons rfl (.cons rfl (.cons rfl (.cons rfl (.cons rfl (.cons rfl .nil)))))) (fun w hO => hO) ?_
        rintro ⟨j, c2⟩ ⟨hj, hc2⟩
        dsimp only at hj hc2 ⊢
        by_cases hjl : j < H.length
        · skip
          repeat' (first | refine sg_wo ?_ | refine sg_ps (ps_move rfl) rfl ?_ | refine sg_seq ?_ | refine sg_region ?_ | refine sg_nil ?_ | refine sg_then ?_ | refine sg_ps (ps_bin rfl rfl inferInstance) rfl ?_ | refine sg_ps (ps_len rfl) rfl ?_ | refine sg_ps (ps_build rfl rfl) rfl ?_ | refine sg_ps (ps_indexAddr rfl rfl rfl (by omega)) rfl ?_ | refine sg_block ?_ | refine sg_skip ?_ | (refine sg_cond_dec rfl (fun hg => ?_) (fun hg => ?_) <;> first | (exfalso; omega) | (exact absurd rfl hg) | skip))
          refine sg_store_agg [] (vs := [_, _, _, _, _]) rfl rfl rfl (allOne_spec rfl) (by simp only [List.length_cons, List.length_nil]; omega) ?_
          repeat' (first | refine sg_wo ?_ | refine sg_ps (ps_move rfl) rfl ?_ | refine sg_ps (ps_assign rfl) rfl ?_ | refine sg_region ?_ | refine sg_nil ?_ | refine sg_then ?_ | refine sg_ps (ps_add64 rfl rfl (by omega)) rfl ?_ | refine ex_block_normal ?_)
          exact ex_mid (j + 1, _) ⟨by show H.length - (j + 1) < H.length - j; omega, by show j + 1 ≤ H.length; omega, by show (splice c2 _ _).length = _; rw [splice_length]; exact hc2⟩ (.cons rfl (.cons rfl (.cons rfl (.cons rfl (.cons rfl (.cons rfl .nil)))))) (fun w hO => hO)
        · skip
          repeat' (first | refine sg_wo ?_ | refine sg_ps (ps_move rfl) rfl ?_ | refine sg_ps (ps_assign rfl) rfl ?_ | refine sg_seq ?_ | refine sg_region ?_ | refine sg_nil ?_ | refine sg_then ?_ | refine sg_ps (ps_add64 rfl rfl (by omega)) rfl ?_ | refine sg_ps (ps_bin rfl rfl inferInstance) rfl ?_ | refine sg_ps (ps_len rfl) rfl ?_ | refine sg_exit ?_ | refine ex_then_exit ?_ | refine ex_block_normal ?_ | refine ex_block_hit ?_ | (refine sg_cond_dec rfl (fun hg => ?_) (fun hg => ?_) <;> first | (exfalso; omega) | (exact absurd rfl hg) | skip))
          exact ex_mid (i + 1, S2, R2) ⟨by omega, ⟨by omega, by omega⟩, hI⟩ (.cons rfl (.cons rfl (.cons rfl (.cons rfl .nil)))) (fun w hO => hO.tail)
theorem lockPlays_opened (W : World) (vs : List Value) (h : Opens Try.prog W Try.f5.params.toList vs) :
    Tri Try.prog W 5 vs [old W] (X := Unit) (fun _ => .bool true) (fun _ => True) (fun _ => [old W]) := by
  obtain ⟨a0, c0, vs, rfl, e0, h⟩ := Opens.cons (RT.slice 3 40 Try.underlying22 (by kernel_rfl) (by kernel_rfl) (RT.struct (tot := 3) Try.underlying33 (by kernel_rfl) (RF.cons 1 (RT.int .i64 Try.underlying3) rfl (by kernel_rfl) (RF.cons 1 (RT.int .u64 Try.underlying27) rfl (by kernel_rfl) (RF.cons 1 (RT.slice 5 56 Try.underlying31 (by kernel_rfl) (by kernel_rfl) (RT.struct (tot := 5) Try.underlying26 (by kernel_rfl) (RF.cons 1 (RT.int .i64 Try.underlying3) rfl (by kernel_rfl) (RF.cons 3 (RT.struct (tot := 3) Try.underlying24 (by kernel_rfl) (RF.cons 1 (RT.str Try.underlying9) rfl (by kernel_rfl) (RF.cons 1 (RT.str Try.underlying9) rfl (by kernel_rfl) (RF.cons 1 (RT.bool Try.underlying4) rfl (by kernel_rfl) (RF.nil rfl))))) rfl (by kernel_rfl) (RF.cons 1 (RT.bool Try.underlying4) rfl (by kernel_rfl) (RF.nil rfl)))))) rfl (by kernel_rfl) (RF.nil rfl)))))) h
  obtain rfl := Opens.nil h
  obtain ⟨l, la, lc, rfl, hl⟩ := lopsK_of e0
  exact lockPlays_tri l la lc hl
set_option maxRecDepth 100000 in
theorem lockPlays_lifted (os : Os) (started : os.Started) (H : Type) (enc : TypeId × Value → H) :
    ReturnsInHanded {} Try.checked os 5 .any (Rows.lockPlaysSpec.pre6 enc Try.prog Try.f5 Rows.lockPlaysRow.domain false) (Rows.lockPlaysSpec.post enc Try.prog Try.f5 false true false false) :=
  lift (tb := 4) started law_own law_laidOut (by kernel_rfl) Try.func5
    (ChangeSpec.witness6 (enc := enc) (C := Try.checked) false ⟨#[], #[.slice none 0 0], []⟩ 8 (by kernel_rfl) (by kernel_rfl) (by kernel_rfl) (by kernel_rfl))
    rfl rfl Try.underlying4 (by kernel_rfl) (fun ds h => by
      match ds, h with
      | [d1], _ => rfl) lockPlays_opened
theorem lockPlays_over : Rows.lockPlaysRow.holds Try.pinned (OpenSpec.ofChange Rows.lockPlaysSpec) :=
  OpenClaim.holds_of_wide 5 Try.f5 rfl rfl rfl rfl rfl rfl rfl ⟨rfl, rfl, rfl, rfl, rfl⟩ rfl rfl rfl rfl rfl (by kernel_rfl) Try.func5 (by kernel_rfl)
    (of_decide_eq_true (by kernel_rfl)) (by unfold Func.isWrapper; first | (rw [if_pos (by decide +kernel)]; kernel_rfl) | (rw [if_neg (by decide +kernel)]; exact ⟨rfl, rfl⟩))
    (fun os started H enc _ => lockPlays_lifted os started H enc)
theorem lockPlays_proved : Rows.LockPlaysSaid := lockPlays_over
#print axioms lockPlays_proved
end Go.Proofs.Ytgapgpknghnemaa
