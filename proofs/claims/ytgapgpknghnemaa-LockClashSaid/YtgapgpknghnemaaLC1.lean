/- LockClash: the walk. -/
import Derived.Test.YtgapgpknghnemaaLCP
import Derived.Test.YtgapgpknghnemaaDR4
namespace Go.Proofs.Ytgapgpknghnemaa
set_option linter.unusedVariables false
set_option linter.unusedSimpArgs false
set_option linter.unusedSectionVars false
set_option linter.unnecessarySimpa false
open Go Go.Proofs
section
variable {P : Program} [BS P] {W : World} {n : Nat} {F : Fr} {L LR : List HP} {ops : Array Oper} {Q : Exit → Act → World → Prop} {K : Act → World → Prop} {l : List Oper} {π : List Nat} {i : Nat}
variable {d : Nat} {ty : TypeId} {pos : String} {af : Array Edge}
theorem sk_lwg_rd {t sz j t' : Nat} {gb : Bool} {x : Operand} {ad : Addr} {vs : List Value} [Agg P t sz] (hi : l[i]? = some ⟨some d, .load t x, ty, pos, af, some (j, gb)⟩) (hj : (l[j]?).bind (·.dst) = some t') (ht : look F t' = some (.bool gb)) (hx : ev F x = some (.pointer (some ad))) (hl : vs.length = sz) (hr : Rd W LR (some ad) vs) (hd : Nat.blt d n = true) (h : SG W n ((d, .agg vs.toArray) :: F) L (WK P l.toArray Q (fun w => Own W w LR) π)) :
    SG W n F L (WK P l.toArray Q (fun w => Own W w LR) (i :: π)) :=
  sk_lw_g hi (fun a ha => by
    have hy : yielded l.toArray a.tmps j = some gb := by simp [yielded, hj, ha.get t' _ ht]
    simp [Region.wanted, hy]) hx hl hr hd h
end
set_option maxRecDepth 20000
set_option maxHeartbeats 4000000
attribute [local irreducible] SG WC WO W1 WD WK PS Rd Tri Exit.then Exit.inBlock bodyPost calmQ Mid sadd
variable {W : World} {n : Nat} {F : Fr} {L : List HP} {G : Act → World → Prop}
theorem sub3' {v0 v1 v2 v3 v4 : Value} : ∀ (j : Nat) (u : Value), [v1, v2, v3][j]? = some u → [v0, v1, v2, v3, v4][1 + j]? = some u := by
  intro j u hj
  match j, hj with
  | 0, hj => exact hj
  | 1, hj => exact hj
  | 2, hj => exact hj
abbrev ocells (S : TS) : List Value := (sortL (S.map (·.1))).map fun x => Value.int .u64 x
theorem CI.l6 {S : TS} {k : Nat} (h : CI S k) (hk : k ≤ 100) : ∀ e ∈ S, e.2.length ≤ 1000000 := fun e he => by have := h.ll e he; omega
theorem lockClash_tri (l : List LO) (la : Option Addr) (lc : Nat) (k : List UInt8) (hl : LOpsAt W l la) :
    Tri Try.prog W 6 [.slice la l.length lc, str k] [old W] (X := Unit) (fun _ => .bool true) (fun _ => True) (fun _ => [old W]) := by
  obtain ⟨hp, hll, hl⟩ := hl
  refine tri_enter2 Try.func6 rfl Try.ntmps6 rfl ?_
  repeat' (first | refine sg_wo ?_ | refine sg_ps (ps_assign rfl) rfl ?_ | refine sg_seq ?_ | refine sg_region ?_ | refine sg_nil ?_ | refine sg_then ?_)
  refine sg_call (awake_tri _) rfl rfl (fun _ _ => ?_)
  repeat' (first | refine sg_wo ?_ | refine sg_seq ?_ | refine sg_region ?_ | refine sg_nil ?_ | refine sg_then ?_ | refine sg_ps (ps_not rfl) rfl ?_ | refine sg_cond_f rfl ?_ | refine sg_skip ?_)
  refine sg_call (newt_tri _) rfl rfl (fun t _ => ?_)
  repeat' (first | refine sg_wo ?_ | refine sg_ps (ps_assign rfl) rfl ?_ | refine sg_seq ?_ | refine sg_region ?_ | refine sg_nil ?_ | refine sg_then ?_ | refine sg_block ?_)
  refine sg_loop (γ := Nat × TS) (fun g => (g.1 ≤ l.length ∧ g.1 ≤ 60) ∧ CI g.2 g.1) (fun g => [(0, .slice la l.length lc), (1, str k), (5, dp t), (6, i64 g.1)]) (fun g => [TableRep t g.2, old W]) (fun g => 60 - g.1) (0, [])
    ⟨⟨Nat.zero_le _, Nat.zero_le _⟩, CI.nil⟩ (.cons rfl (.cons rfl (.cons rfl (.cons rfl .nil)))) (fun w hO => hO) ?_
  rintro ⟨i, S⟩ ⟨⟨hi1, hi2⟩, hI⟩
  dsimp only at hi1 hi2 hI ⊢
  by_cases hi : i < l.length ∧ i < 60
  case neg =>
    repeat' (first | refine sg_wo ?_ | refine sg_ps (ps_move rfl) rfl ?_ | refine sg_ps (ps_assign rfl) rfl ?_ | refine sg_seq ?_ | refine sg_region ?_ | refine sg_nil ?_ | refine sg_then ?_ | refine sg_ps (ps_bin rfl rfl inferInstance) rfl ?_ | refine sg_cond_f rfl ?_ | refine sg_guard_yes rfl rfl ?_ | refine sg_guard_nf rfl rfl rfl ?_ | refine sg_ps (ps_pick_t rfl rfl) rfl ?_ | refine sg_ps (ps_pick_f rfl rfl) rfl ?_ | refine sg_ps (ps_len rfl) rfl ?_ | refine sg_ret ?_ | refine sg_exit ?_ | refine ex_then_exit ?_ | refine ex_block_hit ?_ | (refine sg_guard_dec rfl rfl (fun hg => ?_) (fun hg => ?_) <;> first | (exfalso; omega) | (exact absurd rfl hg) | skip) | (refine sg_cond_dec rfl (fun hg => ?_) (fun hg => ?_) <;> first | (exfalso; omega) | (exact absurd rfl hg) | skip))
    all_goals exact ex_ret1 rfl rfl () rfl trivial (fun w hO => hO.tail)
  obtain ⟨hil, hi60⟩ := hi
  obtain ⟨b, ob, rfl⟩ := hp (by omega)
  obtain ⟨ka, kc, hR, hk1, hk2⟩ := hl i hil b ob rfl
  generalize l[i] = z at hR hk1 hk2
  obtain ⟨zk, zo, zl⟩ := z
  simp only at hR hk1 hk2
  by_cases hz : zl.length ≤ 20
  case neg =>
    repeat' (first | refine sg_wo ?_ | refine sg_ps (ps_move rfl) rfl ?_ | refine sg_seq ?_ | refine sg_region ?_ | refine sg_nil ?_ | refine sg_then ?_ | refine sg_ps (ps_bin rfl rfl inferInstance) rfl ?_ | refine sg_guard_yes rfl rfl ?_ | refine sg_ps (ps_pick_t rfl rfl) rfl ?_ | refine sg_ps (ps_len rfl) rfl ?_ | refine sg_ps (ps_indexAddr rfl rfl rfl (by omega)) rfl ?_ | refine sg_block ?_ | refine sg_skip ?_ | (refine sg_guard_dec rfl rfl (fun hg => ?_) (fun hg => ?_) <;> first | (exfalso; omega) | (exact absurd rfl hg) | skip) | (refine sg_cond_dec rfl (fun hg => ?_) (fun hg => ?_) <;> first | (exfalso; omega) | (exact absurd rfl hg) | skip))
    refine sg_load_agg_rd rfl rfl (hR.rd 1 rfl) rfl ?_
    repeat' (first | refine sg_wo ?_ | refine sg_ps (ps_move rfl) rfl ?_ | refine sg_ps (ps_assign rfl) rfl ?_ | refine sg_seq ?_ | refine sg_region ?_ | refine sg_nil ?_ | refine sg_then ?_ | refine sg_ps (ps_fieldAddr rfl) rfl ?_ | refine sg_load 0 rfl rfl rfl rfl ?_ | refine sg_ps (ps_add64 rfl rfl (by omega)) rfl ?_ | refine sg_ps (ps_bin rfl rfl inferInstance) rfl ?_ | refine sg_ps (ps_len rfl) rfl ?_ | refine sg_store_whole [] rfl rfl rfl rfl rfl ?_ | refine sg_alloc rfl (fun al => ?_) | refine sg_exit ?_ | refine ex_then_exit ?_ | refine ex_block_hit ?_ | (refine sg_cond_dec rfl (fun hg => ?_) (fun hg => ?_) <;> first | (exfalso; omega) | (exact absurd rfl hg) | skip))
    exact ex_mid (i + 1, S) ⟨by omega, ⟨by omega, by omega⟩, hI.up (Nat.le_succ _)⟩ (.cons rfl (.cons rfl (.cons rfl (.cons rfl .nil)))) (fun w hO => hO.tail)
  refine sg_seq ?_
  refine sg_seq ?_
  repeat' (first | refine sg_wo ?_ | refine sg_ps (ps_move rfl) rfl ?_ | refine sg_region ?_ | refine sg_nil ?_ | refine sg_then ?_ | refine sg_ps (ps_bin rfl rfl inferInstance) rfl ?_ | refine sg_guard_yes rfl rfl ?_ | refine sg_ps (ps_pick_t rfl rfl) rfl ?_ | refine sg_ps (ps_len rfl) rfl ?_ | refine sg_skip ?_ | (refine sg_guard_dec rfl rfl (fun hg => ?_) (fun hg => ?_) <;> first | (exfalso; omega) | (exact absurd rfl hg) | skip) | (refine sg_cond_dec rfl (fun hg => ?_) (fun hg => ?_) <;> first | (exfalso; omega) | (exact absurd rfl hg) | skip))
  refine sg_seq ?_
  repeat' (first | refine sg_block ?_)
  refine sg_seq ?_
  repeat' (first | refine sg_wo ?_ | refine sg_ps (ps_move rfl) rfl ?_ | refine sg_region ?_ | refine sg_ps (ps_indexAddr rfl rfl rfl (by omega)) rfl ?_)
  refine sg_load_agg_rd rfl rfl (hR.rd 1 rfl) rfl ?_
  repeat' (first | refine sg_wo ?_ | refine sg_nil ?_ | refine sg_then ?_ | refine sg_store_whole [] rfl rfl rfl rfl rfl ?_ | refine sg_alloc rfl (fun al => ?_))
  refine sg_seq ?_
  refine sg_seq ?_
  repeat' (first | refine sg_wo ?_ | refine sg_region ?_ | refine sg_nil ?_ | refine sg_then ?_ | refine sg_ps (ps_fieldAddr rfl) rfl ?_ | refine sg_load 0 rfl rfl rfl rfl ?_ | refine sg_ps (ps_bin rfl rfl inferInstance) rfl ?_ | refine sg_ps (ps_len rfl) rfl ?_ | refine sg_skip ?_ | (refine sg_cond_dec rfl (fun hg => ?_) (fun hg => ?_) <;> first | (exfalso; omega) | (exact absurd rfl hg) | skip))
  refine sg_seq_mid (γ := TS) (fun S => CI S i) (fun _ => [(0, .slice (some ⟨b, ob, none⟩) l.length lc), (1, str k), (5, dp t), (6, i64 i), (7, dp al)]) (fun S => [blk al [i64 zk, u64 zo, .slice ka zl.length kc], TableRep t S, old W]) ?_ ?_
  · refine sg_seq ?_
    repeat' (first | refine sg_wo ?_ | refine sg_ps (ps_move rfl) rfl ?_ | refine sg_region ?_ | refine sg_nil ?_ | refine sg_then ?_ | refine sg_ps (ps_fieldAddr rfl) rfl ?_ | refine sg_load 0 rfl rfl rfl rfl ?_ | refine sg_ps (ps_bin rfl rfl inferInstance) rfl ?_ | refine sg_ps (ps_rem rfl rfl (by decide)) rfl ?_ | refine sg_skip ?_ | (refine sg_cond_dec rfl (fun hg => ?_) (fun hg => ?_) <;> first | (exfalso; omega) | (exact absurd rfl hg) | skip))
    · refine sg_call ((release_tri t S zo [blk al [i64 zk, u64 zo, .slice ka zl.length kc], old W] (hI.l6 (by omega))).pre (fun w hO => hO.front1)) rfl rfl (fun _ _ => ?_)
      repeat' (first | refine sg_nil ?_)
      refine ex_mid (if (heldS S zo).length = 0 then S else relS S zo) ?_ (.cons rfl (.cons rfl (.cons rfl (.cons rfl (.cons rfl .nil))))) (fun w hO => hO.front1)
      split
      · exact hI
      · exact hI.rel zo
    · exact ex_mid S hI (.cons rfl (.cons rfl (.cons rfl (.cons rfl (.cons rfl .nil))))) (fun w hO => hO)
  clear hI
  rintro S hI
  refine sg_seq ?_
  refine sg_drawK [blk al [i64 zk, u64 zo, .slice ka zl.length kc], TableRep t S, old W] [0, 1, 4, 5, 2, 3, 6, 7, 8] (by kernel_rfl) (by kernel_rfl) (fun w hO => hO) ?_
  repeat' (first | refine sk_pure rfl rfl (ps_move rfl) rfl ?_ | refine sk_pure rfl rfl (ps_fieldAddr rfl) rfl ?_ | refine sk_load 0 rfl rfl rfl rfl rfl ?_ | refine sk_eff rfl rfl ?_)
  refine sg_buildSlice (parts := []) (vs := []) (cells := []) rfl (by omega) rfl rfl (fun b2 => ?_)
  refine sk_back (fun w hO => hO.tail) ?_
  repeat' (first | refine sk_eff rfl rfl ?_)
  refine sg_own_mk (m := 0) (c := 0) (sz := 5) (xs := []) (Nat.le_refl _) (Nat.zero_le _) rfl rfl ?_
  refine sg_append (news := lcells zl) rfl rfl rfl (lcells_len zl) (lcells_one zl) (hk2.rd 3 rfl) (by simp only [maxLen]; omega) (by omega) fun a' c' => ?_
  rw [List.nil_append, Nat.zero_add]
  refine sk_back (fun w hO => hO.tail) ?_
  repeat' (first | refine sk_eff rfl rfl ?_)
  refine sg_call ((try_tri t S zo zl a' c' (sown a' zl.length c' 5 (lcells zl) :: [blk al [i64 zk, u64 zo, .slice ka zl.length kc], old W]) (by omega) (hI.l6 (by omega)) rd_tail_sown).pre (fun w hO => Own.pickA [_, _, _] hO [2, 0, 1] (by decide))) rfl rfl (fun _ _ => ?_)
  refine sk_end (by kernel_rfl) ?_
  repeat' (first | refine sk_nil ?_ | refine sk_pure rfl rfl (ps_assign rfl) rfl ?_)
  have hI2 := hI.tri (o := zo) (l := zl) hz
  have hag := tryS_again (S := S) (o := zo) (l := zl)
  have hc := tryS_codes S zo zl
  generalize (tryS S zo zl).2 = S2 at hI2 ⊢
  generalize (tryS S zo zl).1 = e at hag hc ⊢
  clear hI
  repeat' (first | refine sg_then ?_)
  refine sg_seq_mid (γ := Unit) (fun _ => True) (fun _ => [(0, .slice (some ⟨b, ob, none⟩) l.length lc), (1, str k), (5, dp t), (6, i64 i)]) (fun _ => [TableRep t S2, old W]) ?_ ?_
  · refine sg_seq ?_
    rcases hc with rfl | rfl | rfl
    · refine sg_drawT [TableRep t S2, sown a' zl.length c' 5 (lcells zl), blk al [i64 zk, u64 zo, .slice ka zl.length kc], old W] (.fork [0, 1, 2, 4, 5, 7, 8] 6 (.done [3, 9, 10, 11, 12]) 3 (.done [6, 9, 10, 11, 12])) (by kernel_rfl) (by kernel_rfl) (fun w hO => hO) ?_
      refine st_pre ?_
      repeat' (first | refine sk_nil ?_ | refine sk_pure rfl rfl (ps_move rfl) rfl ?_ | refine sk_pure rfl rfl (ps_bin rfl rfl inferInstance) rfl ?_ | refine sk_no rfl rfl rfl rfl rfl ?_)
      refine st_fork rfl rfl ?_ ?_
      all_goals (
        refine sg_guard_nf rfl rfl rfl ?_
        refine st_back [TableRep t S2, sown a' zl.length c' 5 (lcells zl), blk al [i64 zk, u64 zo, .slice ka zl.length kc], old W] (fun w h => h) (fun w hO => hO) ?_
        refine st_done ?_
        repeat' (first | refine sk_nil ?_ | refine sk_pure rfl rfl (ps_pick_f rfl rfl) rfl ?_ | refine sk_no rfl rfl rfl rfl rfl ?_ | refine sk_eff rfl rfl ?_ | refine sg_guard_nf rfl rfl rfl ?_ | refine sk_back (fun w hO => hO) ?_)
        repeat' (first | refine sg_then ?_ | refine sg_cond_f rfl ?_ | refine sg_skip ?_)
        exact ex_mid () trivial (.cons rfl (.cons rfl (.cons rfl (.cons rfl .nil)))) (fun w hO => hO.pick [0, 3] (by decide)))
    · refine sg_drawT [TableRep t S2, sown a' zl.length c' 5 (lcells zl), blk al [i64 zk, u64 zo, .slice ka zl.length kc], old W] (.fork [0, 1, 2, 4, 5, 7, 8] 6 (.done [3, 9, 10, 11, 12]) 3 (.done [6, 9, 10, 11, 12])) (by kernel_rfl) (by kernel_rfl) (fun w hO => hO) ?_
      refine st_pre ?_
      repeat' (first | refine sk_nil ?_ | refine sk_pure rfl rfl (ps_move rfl) rfl ?_ | refine sk_pure rfl rfl (ps_bin rfl rfl inferInstance) rfl ?_ | refine sk_no rfl rfl rfl rfl rfl ?_)
      refine st_fork rfl rfl ?_ ?_
      all_goals (
        refine sg_guard_nf rfl rfl rfl ?_
        refine st_back [TableRep t S2, sown a' zl.length c' 5 (lcells zl), blk al [i64 zk, u64 zo, .slice ka zl.length kc], old W] (fun w h => h) (fun w hO => hO) ?_
        refine st_done ?_
        repeat' (first | refine sk_nil ?_ | refine sk_pure rfl rfl (ps_pick_f rfl rfl) rfl ?_ | refine sk_no rfl rfl rfl rfl rfl ?_ | refine sk_eff rfl rfl ?_ | refine sg_guard_nf rfl rfl rfl ?_ | refine sk_back (fun w hO => hO) ?_)
        repeat' (first | refine sg_then ?_ | refine sg_cond_f rfl ?_ | refine sg_skip ?_)
        exact ex_mid () trivial (.cons rfl (.cons rfl (.cons rfl (.cons rfl .nil)))) (fun w hO => hO.pick [0, 3] (by decide)))
    · have hag := hag rfl
      refine sg_drawT [TableRep t S2, sown a' zl.length c' 5 (lcells zl), blk al [i64 zk, u64 zo, .slice ka zl.length kc], old W] (.fork [0, 1, 2, 4, 5, 7, 8] 6 (.done [3, 9, 10, 11, 12]) 3 (.done [6, 9, 10, 11, 12])) (by kernel_rfl) (by kernel_rfl) (fun w hO => hO) ?_
      refine st_pre ?_
      repeat' (first | refine sk_nil ?_ | refine sk_pure rfl rfl (ps_move rfl) rfl ?_ | refine sk_pure rfl rfl (ps_bin rfl rfl inferInstance) rfl ?_ | refine sk_pure_g rfl rfl rfl rfl (ps_fieldAddr rfl) rfl ?_ | refine sk_load_g 2 rfl rfl rfl rfl rfl rfl rfl ?_)
      refine st_fork rfl rfl ?_ ?_
      · refine sg_guard_yes rfl rfl ?_
        refine sg_buildSlice (parts := []) (vs := []) (cells := []) rfl (by omega) rfl rfl (fun b3 => ?_)
        refine sg_own_mk (m := 0) (c := 0) (sz := 5) (xs := []) (Nat.le_refl _) (Nat.zero_le _) rfl rfl ?_
        refine st_back [TableRep t S2, sown a' zl.length c' 5 (lcells zl), blk al [i64 zk, u64 zo, .slice ka zl.length kc], old W] (fun w h => h) (fun w hO => hO.tail) ?_
        refine st_done ?_
        repeat' (first | refine sk_eff rfl rfl ?_ | refine sg_guard_yes rfl rfl ?_)
        refine sg_call (newt_tri _) rfl rfl (fun t2 _ => ?_)
        refine sg_front1 ?_
        refine sk_back (fun w hO => hO.tail.tail) ?_
        repeat' (first | refine sk_eff rfl rfl ?_ | refine sg_guard_yes rfl rfl ?_)
        refine sg_append (news := lcells zl) rfl rfl rfl (lcells_len zl) (lcells_one zl) (hk2.rd 5 rfl) (by simp only [maxLen]; omega) (by omega) fun a3 c3 => ?_
        rw [List.nil_append, Nat.zero_add]
        refine sk_back (fun w hO => hO.tail.tail) ?_
        repeat' (first | refine sk_eff rfl rfl ?_ | refine sg_guard_yes rfl rfl ?_)
        refine sg_call ((try_tri t2 [] zo zl a3 c3 (sown a3 zl.length c3 5 (lcells zl) :: [TableRep t S2, sown a' zl.length c' 5 (lcells zl), blk al [i64 zk, u64 zo, .slice ka zl.length kc], old W]) (by omega) (fun e he => by simp at he) rd_tail_sown).pre (fun w hO => hO.front1)) rfl rfl (fun _ _ => ?_)
        rw [hag]
        refine sk_end (by kernel_rfl) ?_
        repeat' (first | refine sk_nil ?_ | refine sk_pure rfl rfl (ps_pick_t rfl rfl) rfl ?_ | refine sk_pure_g rfl rfl rfl rfl (ps_bin rfl rfl inferInstance) rfl ?_)
        repeat' (first | refine sg_then ?_ | refine sg_cond_f rfl ?_ | refine sg_skip ?_)
        exact ex_mid () trivial (.cons rfl (.cons rfl (.cons rfl (.cons rfl .nil)))) (fun w hO => hO.pick [2, 5] (by decide))
      · refine sg_guard_yes rfl rfl ?_
        refine sg_call (newt_tri _) rfl rfl (fun t2 _ => ?_)
        refine st_back [TableRep t S2, sown a' zl.length c' 5 (lcells zl), blk al [i64 zk, u64 zo, .slice ka zl.length kc], old W] (fun w h => h) (fun w hO => hO.tail) ?_
        refine st_done ?_
        repeat' (first | refine sk_eff rfl rfl ?_ | refine sg_guard_yes rfl rfl ?_)
        refine sg_buildSlice (parts := []) (vs := []) (cells := []) rfl (by omega) rfl rfl (fun b3 => ?_)
        refine sg_own_mk (m := 0) (c := 0) (sz := 5) (xs := []) (Nat.le_refl _) (Nat.zero_le _) rfl rfl ?_
        refine sk_back (fun w hO => hO.tail.tail) ?_
        repeat' (first | refine sk_eff rfl rfl ?_ | refine sg_guard_yes rfl rfl ?_)
        refine sg_append (news := lcells zl) rfl rfl rfl (lcells_len zl) (lcells_one zl) (hk2.rd 5 rfl) (by simp only [maxLen]; omega) (by omega) fun a3 c3 => ?_
        rw [List.nil_append, Nat.zero_add]
        refine sk_back (fun w hO => hO.tail.tail) ?_
        repeat' (first | refine sk_eff rfl rfl ?_ | refine sg_guard_yes rfl rfl ?_)
        refine sg_call ((try_tri t2 [] zo zl a3 c3 (sown a3 zl.length c3 5 (lcells zl) :: [TableRep t S2, sown a' zl.length c' 5 (lcells zl), blk al [i64 zk, u64 zo, .slice ka zl.length kc], old W]) (by omega) (fun e he => by simp at he) rd_tail_sown).pre (fun w hO => hO.front1)) rfl rfl (fun _ _ => ?_)
        rw [hag]
        refine sk_end (by kernel_rfl) ?_
        repeat' (first | refine sk_nil ?_ | refine sk_pure rfl rfl (ps_pick_t rfl rfl) rfl ?_ | refine sk_pure_g rfl rfl rfl rfl (ps_bin rfl rfl inferInstance) rfl ?_)
        repeat' (first | refine sg_then ?_ | refine sg_cond_f rfl ?_ | refine sg_skip ?_)
        exact ex_mid () trivial (.cons rfl (.cons rfl (.cons rfl (.cons rfl .nil)))) (fun w hO => hO.pick [2, 5] (by decide))
  · rintro ⟨⟩ -
    clear hc hag hz hR hk1 hk2
    have hl6 := hI2.l6 (by omega)
    have hlen := hI2.len
    repeat' (first | refine sg_wo ?_ | refine sg_ps (ps_move rfl) rfl ?_ | refine sg_seq ?_ | refine sg_region ?_)
    refine sg_call (owners_tri t S2 [old W] (by have : bigN = 255 := rfl; omega)) rfl rfl (fun x _ => ?_)
    obtain ⟨oa, oc⟩ := x
    have hOl : (sortL (S2.map (·.1))).length = S2.length := by rw [sortL_len, List.length_map]
    have hne : ∀ (i j : Nat) (hi : i < (sortL (S2.map (·.1))).length) (hj : j < (sortL (S2.map (·.1))).length), i ≠ j → (sortL (S2.map (·.1)))[i] ≠ (sortL (S2.map (·.1)))[j] := fun i j hi hj h => hI2.own_ne hi hj h
    have hkey : ∀ (a b : Int), a ≠ b → ∀ (x y : Lk), x ∈ heldS S2 a → y ∈ heldS S2 b → x.space = y.space → x.own = true → inS x.lo x.hi x.op k = true → inS y.lo y.hi y.op k = true → False := fun a b hab x y hx hy hs ho h1 h2 => hI2.key hab hx hy hs ho h1 h2
    generalize sortL (S2.map (·.1)) = O at hOl hne ⊢
    repeat' (first | refine sg_wo ?_ | refine sg_ps (ps_assign rfl) rfl ?_ | refine sg_seq ?_ | refine sg_region ?_ | refine sg_nil ?_ | refine sg_then ?_ | refine sg_block ?_)
    refine sg_loop (γ := Nat) (fun a => a ≤ S2.length) (fun a => [(0, .slice (some ⟨b, ob, none⟩) l.length lc), (1, str k), (5, dp t), (6, i64 i), (9, .slice oa S2.length oc), (10, i64 a)]) (fun _ => [sown oa S2.length oc 1 (O.map fun x => Value.int .u64 x), TableRep t S2, old W]) (fun a => S2.length - a) 0 (Nat.zero_le _)
      (.cons rfl (.cons rfl (.cons rfl (.cons rfl (.cons rfl (.cons rfl .nil)))))) (fun w hO => hO) ?_
    rintro a ha
    by_cases ha2 : a < S2.length
    case neg =>
      repeat' (first | refine sg_wo ?_ | refine sg_ps (ps_move rfl) rfl ?_ | refine sg_ps (ps_assign rfl) rfl ?_ | refine sg_seq ?_ | refine sg_region ?_ | refine sg_nil ?_ | refine sg_then ?_ | refine sg_ps (ps_add64 rfl rfl (by omega)) rfl ?_ | refine sg_ps (ps_bin rfl rfl inferInstance) rfl ?_ | refine sg_ps (ps_len rfl) rfl ?_ | refine sg_exit ?_ | refine ex_then_exit ?_ | refine ex_block_normal ?_ | refine ex_block_hit ?_ | (refine sg_cond_dec rfl (fun hg => ?_) (fun hg => ?_) <;> first | (exfalso; omega) | (exact absurd rfl hg) | skip))
      exact ex_mid (i + 1, S2) ⟨by omega, ⟨by omega, by omega⟩, hI2⟩ (.cons rfl (.cons rfl (.cons rfl (.cons rfl .nil)))) (fun w hO => hO.tail)
    have haO : a < O.length := by omega
    refine sg_rd_some (rd_sown 0 rfl (fun _ _ h => h)) (by intro e; have := congrArg List.length e; rw [List.length_map, List.length_nil] at this; omega) fun zb zo2 he => ?_
    subst he
    have hro : ∀ (L : List HP) (j : Nat), L[j]? = some (sown (some ⟨zb, zo2, none⟩) S2.length oc 1 (O.map fun x => Value.int .u64 x)) → ∀ (c : Nat) (h : c < O.length), Rd W L (some ⟨zb, zo2 + c * 1, none⟩) [u64 O[c]] := fun L j hL c h =>
      (rd_sown j hL (fun _ _ h => h)).get c (by rw [List.getElem?_map, List.getElem?_eq_getElem h]; rfl)
    repeat' (first | refine sg_wo ?_ | refine sg_ps (ps_move rfl) rfl ?_ | refine sg_seq ?_ | refine sg_region ?_ | refine sg_nil ?_ | refine sg_then ?_ | refine sg_ps (ps_bin rfl rfl inferInstance) rfl ?_ | refine sg_ps (ps_len rfl) rfl ?_ | refine sg_ps (ps_indexAddr rfl rfl rfl (by omega)) rfl ?_ | refine sg_block ?_ | refine sg_skip ?_ | (refine sg_cond_dec rfl (fun hg => ?_) (fun hg => ?_) <;> first | (exfalso; omega) | (exact absurd rfl hg) | skip))
    refine sg_load_rd rfl (hro _ 0 rfl a haO) rfl ?_
    repeat' (first | refine sg_wo ?_)
    refine sg_call ((held_tri t S2 O[a] [sown (some ⟨zb, zo2, none⟩) S2.length oc 1 (O.map fun x => Value.int .u64 x), old W] hl6).pre (fun w hO => hO.front1)) rfl rfl (fun x _ => ?_)
    obtain ⟨xa, xc⟩ := x
    have hXl : (heldS S2 O[a]).length ≤ 1000000 := heldS_len hl6
    generalize hX : heldS S2 O[a] = X at hXl ⊢
    repeat' (first | refine sg_wo ?_ | refine sg_ps (ps_assign rfl) rfl ?_ | refine sg_seq ?_ | refine sg_region ?_ | refine sg_nil ?_ | refine sg_then ?_ | refine sg_block ?_)
    refine sg_loop (γ := Nat) (fun c => c ≤ S2.length) (fun c => [(0, .slice (some ⟨b, ob, none⟩) l.length lc), (1, str k), (5, dp t), (6, i64 i), (9, .slice (some ⟨zb, zo2, none⟩) S2.length oc), (10, i64 a), (11, .slice xa X.length xc), (12, i64 c)]) (fun _ => [sown xa X.length xc 5 (lcells X), TableRep t S2, sown (some ⟨zb, zo2, none⟩) S2.length oc 1 (O.map fun x => Value.int .u64 x), old W]) (fun c => S2.length - c) 0 (Nat.zero_le _)
      (.cons rfl (.cons rfl (.cons rfl (.cons rfl (.cons rfl (.cons rfl (.cons rfl (.cons rfl .nil)))))))) (fun w hO => hO) ?_
    rintro c hc
    by_cases hc2 : c < S2.length
    case neg =>
      repeat' (first | refine sg_wo ?_ | refine sg_ps (ps_move rfl) rfl ?_ | refine sg_ps (ps_assign rfl) rfl ?_ | refine sg_seq ?_ | refine sg_region ?_ | refine sg_nil ?_ | refine sg_then ?_ | refine sg_ps (ps_add64 rfl rfl (by omega)) rfl ?_ | refine sg_ps (ps_bin rfl rfl inferInstance) rfl ?_ | refine sg_ps (ps_len rfl) rfl ?_ | refine sg_exit ?_ | refine ex_then_exit ?_ | refine ex_block_normal ?_ | refine ex_block_hit ?_ | (refine sg_cond_dec rfl (fun hg => ?_) (fun hg => ?_) <;> first | (exfalso; omega) | (exact absurd rfl hg) | skip))
      exact ex_mid (a + 1) ⟨by omega, by omega⟩ (.cons rfl (.cons rfl (.cons rfl (.cons rfl (.cons rfl (.cons rfl .nil)))))) (fun w hO => hO.pick [2, 1, 3] (by decide))
    have hcO : c < O.length := by omega
    repeat' (first | refine sg_wo ?_ | refine sg_ps (ps_move rfl) rfl ?_ | refine sg_seq ?_ | refine sg_region ?_ | refine sg_nil ?_ | refine sg_then ?_ | refine sg_ps (ps_bin rfl rfl inferInstance) rfl ?_ | refine sg_ps (ps_len rfl) rfl ?_ | refine sg_ps (ps_indexAddr rfl rfl rfl (by omega)) rfl ?_ | refine sg_block ?_ | refine sg_skip ?_ | (refine sg_cond_dec rfl (fun hg => ?_) (fun hg => ?_) <;> first | (exfalso; omega) | (exact absurd rfl hg) | skip))
    refine sg_load_rd rfl (hro _ 2 rfl c hcO) rfl ?_
    repeat' (first | refine sg_wo ?_)
    refine sg_call ((held_tri t S2 O[c] [sown xa X.length xc 5 (lcells X), sown (some ⟨zb, zo2, none⟩) S2.length oc 1 (O.map fun x => Value.int .u64 x), old W] hl6).pre (fun w hO => hO.front1)) rfl rfl (fun x _ => ?_)
    obtain ⟨ya, yc⟩ := x
    have hYl : (heldS S2 O[c]).length ≤ 1000000 := heldS_len hl6
    generalize hY : heldS S2 O[c] = Y at hYl ⊢
    repeat' (first | refine sg_wo ?_ | refine sg_ps (ps_assign rfl) rfl ?_ | refine sg_seq ?_ | refine sg_region ?_ | refine sg_nil ?_ | refine sg_then ?_ | refine sg_block ?_)
    refine sg_loop (γ := Nat) (fun p => p ≤ X.length) (fun p => [(0, .slice (some ⟨b, ob, none⟩) l.length lc), (1, str k), (5, dp t), (6, i64 i), (9, .slice (some ⟨zb, zo2, none⟩) S2.length oc), (10, i64 a), (11, .slice xa X.length xc), (12, i64 c), (13, .slice ya Y.length yc), (14, i64 p)]) (fun _ => [sown ya Y.length yc 5 (lcells Y), TableRep t S2, sown xa X.length xc 5 (lcells X), sown (some ⟨zb, zo2, none⟩) S2.length oc 1 (O.map fun x => Value.int .u64 x), old W]) (fun p => X.length - p) 0 (Nat.zero_le _)
      (.cons rfl (.cons rfl (.cons rfl (.cons rfl (.cons rfl (.cons rfl (.cons rfl (.cons rfl (.cons rfl (.cons rfl .nil)))))))))) (fun w hO => hO) ?_
    rintro p hp
    by_cases hpc : p < X.length ∧ a ≠ c
    case neg =>
      repeat' (first | refine sg_wo ?_ | refine sg_ps (ps_move rfl) rfl ?_ | refine sg_ps (ps_assign rfl) rfl ?_ | refine sg_seq ?_ | refine sg_region ?_ | refine sg_nil ?_ | refine sg_then ?_ | refine sg_ps (ps_add64 rfl rfl (by omega)) rfl ?_ | refine sg_ps (ps_bin rfl rfl inferInstance) rfl ?_ | refine sg_cond_f rfl ?_ | refine sg_guard_yes rfl rfl ?_ | refine sg_guard_nf rfl rfl rfl ?_ | refine sg_ps (ps_pick_t rfl rfl) rfl ?_ | refine sg_ps (ps_pick_f rfl rfl) rfl ?_ | refine sg_ps (ps_len rfl) rfl ?_ | refine sg_exit ?_ | refine ex_then_exit ?_ | refine ex_block_normal ?_ | refine ex_block_hit ?_ | (refine sg_guard_dec rfl rfl (fun hg => ?_) (fun hg => ?_) <;> first | (exfalso; omega) | (exact absurd rfl hg) | skip) | (refine sg_cond_ndec rfl (fun hg => ?_) (fun hg => ?_) <;> first | (exfalso; omega) | (exact absurd rfl hg) | skip))
      all_goals exact ex_mid (c + 1) ⟨by omega, by omega⟩ (.cons rfl (.cons rfl (.cons rfl (.cons rfl (.cons rfl (.cons rfl (.cons rfl (.cons rfl .nil)))))))) (fun w hO => hO.pick [2, 1, 3, 4] (by decide))
    obtain ⟨hp2, hac⟩ := hpc
    refine sg_rd_some (rd_sown 2 rfl (fun _ _ h => h)) (lcells_ne (by omega)) fun xb xo he => ?_
    subst he
    repeat' (first | refine sg_wo ?_ | refine sg_ps (ps_move rfl) rfl ?_ | refine sg_ps (ps_assign rfl) rfl ?_ | refine sg_seq ?_ | refine sg_region ?_ | refine sg_nil ?_ | refine sg_then ?_ | refine sg_ps (ps_bin rfl rfl inferInstance) rfl ?_ | refine sg_guard_yes rfl rfl ?_ | refine sg_ps (ps_pick_t rfl rfl) rfl ?_ | refine sg_ps (ps_len rfl) rfl ?_ | refine sg_block ?_ | refine sg_skip ?_ | (refine sg_guard_dec rfl rfl (fun hg => ?_) (fun hg => ?_) <;> first | (exfalso; omega) | (exact absurd rfl hg) | skip) | (refine sg_cond_ndec rfl (fun hg => ?_) (fun hg => ?_) <;> first | (exfalso; omega) | (exact absurd rfl hg) | skip))
    refine sg_loop (γ := Nat) (fun q => q ≤ Y.length) (fun q => [(0, .slice (some ⟨b, ob, none⟩) l.length lc), (1, str k), (5, dp t), (6, i64 i), (9, .slice (some ⟨zb, zo2, none⟩) S2.length oc), (10, i64 a), (11, .slice (some ⟨xb, xo, none⟩) X.length xc), (12, i64 c), (13, .slice ya Y.length yc), (14, i64 p), (15, i64 q)]) (fun _ => [sown ya Y.length yc 5 (lcells Y), TableRep t S2, sown (some ⟨xb, xo, none⟩) X.length xc 5 (lcells X), sown (some ⟨zb, zo2, none⟩) S2.length oc 1 (O.map fun x => Value.int .u64 x), old W]) (fun q => Y.length - q) 0 (Nat.zero_le _)
      (.cons rfl (.cons rfl (.cons rfl (.cons rfl (.cons rfl (.cons rfl (.cons rfl (.cons rfl (.cons rfl (.cons rfl (.cons rfl .nil))))))))))) (fun w hO => hO) ?_
    rintro q hq
    by_cases hq2 : q < Y.length
    case neg =>
      repeat' (first | refine sg_wo ?_ | refine sg_ps (ps_move rfl) rfl ?_ | refine sg_ps (ps_assign rfl) rfl ?_ | refine sg_seq ?_ | refine sg_region ?_ | refine sg_nil ?_ | refine sg_then ?_ | refine sg_ps (ps_add64 rfl rfl (by omega)) rfl ?_ | refine sg_ps (ps_bin rfl rfl inferInstance) rfl ?_ | refine sg_ps (ps_len rfl) rfl ?_ | refine sg_exit ?_ | refine ex_then_exit ?_ | refine ex_block_normal ?_ | refine ex_block_hit ?_ | (refine sg_cond_dec rfl (fun hg => ?_) (fun hg => ?_) <;> first | (exfalso; omega) | (exact absurd rfl hg) | skip))
      exact ex_mid (p + 1) ⟨by omega, by omega⟩ (.cons rfl (.cons rfl (.cons rfl (.cons rfl (.cons rfl (.cons rfl (.cons rfl (.cons rfl (.cons rfl (.cons rfl .nil)))))))))) (fun w hO => hO)
    refine sg_rd_some (rd_sown 0 rfl (fun _ _ h => h)) (lcells_ne (by omega)) fun yb yo he => ?_
    subst he
    have hx := Rd.at5 (W := W) (L := [sown (some ⟨yb, yo, none⟩) Y.length yc 5 (lcells Y), TableRep t S2, sown (some ⟨xb, xo, none⟩) X.length xc 5 (lcells X), sown (some ⟨zb, zo2, none⟩) S2.length oc 1 (O.map fun x => Value.int .u64 x), old W]) (rd_sown 2 rfl (fun _ _ h => h)) rfl p hp2
    have hy := Rd.at5 (W := W) (L := [sown (some ⟨yb, yo, none⟩) Y.length yc 5 (lcells Y), TableRep t S2, sown (some ⟨xb, xo, none⟩) X.length xc 5 (lcells X), sown (some ⟨zb, zo2, none⟩) S2.length oc 1 (O.map fun x => Value.int .u64 x), old W]) (rd_sown 0 rfl (fun _ _ h => h)) rfl q hq2
    have hxm : X[p] ∈ heldS S2 O[a] := by rw [hX]; exact List.getElem_mem hp2
    have hym : Y[q] ∈ heldS S2 O[c] := by rw [hY]; exact List.getElem_mem hq2
    have hfin := hkey _ _ (hne a c haO hcO hac) _ _ hxm hym
    generalize X[p] = x at hx hfin
    generalize Y[q] = y at hy hfin
    obtain ⟨xs, xlo, xhi, xop, xown⟩ := x
    obtain ⟨ys, ylo, yhi, yop, yown⟩ := y
    dsimp only [Lk.cells] at hx hy hfin
    have hx0 := hx.at 0 (ws := [i64 xs]) (fun j u hj => by match j, hj with | 0, hj => exact hj)
    have hx4 := hx.at 4 (ws := [.bool xown]) (fun j u hj => by match j, hj with | 0, hj => exact hj)
    have hx1 := hx.at 1 (ws := [str xlo, str xhi, .bool xop]) sub3'
    have hy0 := hy.at 0 (ws := [i64 ys]) (fun j u hj => by match j, hj with | 0, hj => exact hj)
    have hy1 := hy.at 1 (ws := [str ylo, str yhi, .bool yop]) sub3'
    clear hx hy hxm hym
    repeat' (first | refine sg_wo ?_ | refine sg_ps (ps_move rfl) rfl ?_ | refine sg_seq ?_ | refine sg_region ?_ | refine sg_nil ?_ | refine sg_then ?_ | refine sg_ps (ps_bin rfl rfl inferInstance) rfl ?_ | refine sg_ps (ps_len rfl) rfl ?_ | refine sg_block ?_ | refine sg_skip ?_ | (refine sg_cond_dec rfl (fun hg => ?_) (fun hg => ?_) <;> first | (exfalso; omega) | (exact absurd rfl hg) | skip))
    refine sg_drawK [sown (some ⟨yb, yo, none⟩) Y.length yc 5 (lcells Y), TableRep t S2, sown (some ⟨xb, xo, none⟩) X.length xc 5 (lcells X), sown (some ⟨zb, zo2, none⟩) S2.length oc 1 (O.map fun x => Value.int .u64 x), old W] [0, 1, 2, 3, 5, 6, 7, 8, 4, 9, 10, 11, 12, 13, 14, 15, 16, 17, 18, 19, 20, 21, 22, 24, 23, 25, 26, 27, 28, 29, 30, 31, 33, 32, 34, 35] (by kernel_rfl) (by kernel_rfl) (fun w hO => hO) ?_
    repeat' (first | refine sk_pure rfl rfl (ps_move rfl) rfl ?_ | refine sk_pure rfl rfl (ps_fieldAddr rfl) rfl ?_ | refine sk_pure rfl rfl (ps_indexAddr rfl rfl rfl (by omega)) rfl ?_)
    refine sk_load_rd rfl rfl hx0 rfl ?_
    skip
    refine sk_load_rd rfl rfl hy0 rfl ?_
    repeat' (first | refine sk_pure rfl rfl (ps_move rfl) rfl ?_ | refine sk_pure rfl rfl (ps_bin rfl rfl inferInstance) rfl ?_)
    refine sg_know 120 rfl (fun hs => ?_) (fun hs => ?_)
    case refine_2 =>
      repeat' (first | refine sk_nil ?_ | refine sk_pure rfl rfl (ps_move rfl) rfl ?_ | refine sk_pure rfl rfl (ps_pick_f rfl rfl) rfl ?_ | refine sk_no rfl rfl rfl rfl rfl ?_ | refine sk_eff rfl rfl ?_ | refine sg_guard_nf rfl rfl rfl ?_ | refine sk_back (fun w hO => hO) ?_)
      repeat' (first | refine sg_wo ?_ | refine sg_ps (ps_move rfl) rfl ?_ | refine sg_ps (ps_assign rfl) rfl ?_ | refine sg_region ?_ | refine sg_nil ?_ | refine sg_then ?_ | refine sg_ps (ps_add64 rfl rfl (by omega)) rfl ?_ | refine sg_cond_f rfl ?_ | refine sg_skip ?_ | refine ex_block_normal ?_)
      exact ex_mid (q + 1) ⟨by omega, by omega⟩ (.cons rfl (.cons rfl (.cons rfl (.cons rfl (.cons rfl (.cons rfl (.cons rfl (.cons rfl (.cons rfl (.cons rfl (.cons rfl .nil))))))))))) (fun w hO => hO)
    repeat' (first | refine sk_pure_g rfl rfl rfl rfl (ps_move rfl) rfl ?_ | refine sk_pure_g rfl rfl rfl rfl (ps_fieldAddr rfl) rfl ?_ | refine sk_pure_g rfl rfl rfl rfl (ps_indexAddr rfl rfl rfl (by omega)) rfl ?_)
    cases xown
    · refine sk_load_rd_g rfl rfl rfl rfl hx4 rfl ?_
      repeat' (first | refine sk_nil ?_ | refine sk_pure rfl rfl (ps_move rfl) rfl ?_ | refine sk_pure rfl rfl (ps_pick_t rfl rfl) rfl ?_ | refine sk_pure rfl rfl (ps_pick_f rfl rfl) rfl ?_ | refine sk_no rfl rfl rfl rfl rfl ?_ | refine sk_eff rfl rfl ?_ | refine sg_guard_nf rfl rfl rfl ?_ | refine sk_back (fun w hO => hO) ?_)
      repeat' (first | refine sg_wo ?_ | refine sg_ps (ps_move rfl) rfl ?_ | refine sg_ps (ps_assign rfl) rfl ?_ | refine sg_region ?_ | refine sg_nil ?_ | refine sg_then ?_ | refine sg_ps (ps_add64 rfl rfl (by omega)) rfl ?_ | refine sg_cond_f rfl ?_ | refine sg_skip ?_ | refine ex_block_normal ?_)
      exact ex_mid (q + 1) ⟨by omega, by omega⟩ (.cons rfl (.cons rfl (.cons rfl (.cons rfl (.cons rfl (.cons rfl (.cons rfl (.cons rfl (.cons rfl (.cons rfl (.cons rfl .nil))))))))))) (fun w hO => hO)
    refine sk_load_rd_g rfl rfl rfl rfl hx4 rfl ?_
    repeat' (first | refine sk_pure rfl rfl (ps_move rfl) rfl ?_ | refine sk_pure rfl rfl (ps_pick_t rfl rfl) rfl ?_ | refine sk_pure_g rfl rfl rfl rfl (ps_move rfl) rfl ?_ | refine sk_pure_g rfl rfl rfl rfl (ps_fieldAddr rfl) rfl ?_ | refine sk_pure_g rfl rfl rfl rfl (ps_indexAddr rfl rfl rfl (by omega)) rfl ?_)
    refine sk_lwg_rd rfl rfl rfl rfl rfl hx1 rfl ?_
    repeat' (first | refine sk_eff rfl rfl ?_ | refine sg_guard_yes rfl rfl ?_)
    refine sg_call (in_tri xlo xhi k xop _) rfl rfl (fun _ _ => ?_)
    cases h1 : inS xlo xhi xop k
    · skip
      repeat' (first | refine sk_nil ?_ | refine sk_pure rfl rfl (ps_move rfl) rfl ?_ | refine sk_pure rfl rfl (ps_pick_t rfl rfl) rfl ?_ | refine sk_pure rfl rfl (ps_pick_f rfl rfl) rfl ?_ | refine sk_no rfl rfl rfl rfl rfl ?_ | refine sk_eff rfl rfl ?_ | refine sg_guard_nf rfl rfl rfl ?_ | refine sk_back (fun w hO => hO) ?_)
      repeat' (first | refine sg_wo ?_ | refine sg_ps (ps_move rfl) rfl ?_ | refine sg_ps (ps_assign rfl) rfl ?_ | refine sg_region ?_ | refine sg_nil ?_ | refine sg_then ?_ | refine sg_ps (ps_add64 rfl rfl (by omega)) rfl ?_ | refine sg_cond_f rfl ?_ | refine sg_skip ?_ | refine ex_block_normal ?_)
      exact ex_mid (q + 1) ⟨by omega, by omega⟩ (.cons rfl (.cons rfl (.cons rfl (.cons rfl (.cons rfl (.cons rfl (.cons rfl (.cons rfl (.cons rfl (.cons rfl (.cons rfl .nil))))))))))) (fun w hO => hO)
    repeat' (first | refine sk_pure rfl rfl (ps_move rfl) rfl ?_ | refine sk_pure rfl rfl (ps_pick_t rfl rfl) rfl ?_ | refine sk_pure_g rfl rfl rfl rfl (ps_move rfl) rfl ?_ | refine sk_pure_g rfl rfl rfl rfl (ps_fieldAddr rfl) rfl ?_ | refine sk_pure_g rfl rfl rfl rfl (ps_indexAddr rfl rfl rfl (by omega)) rfl ?_ | refine sk_back (fun w hO => hO) ?_)
    refine sk_lwg_rd rfl rfl rfl rfl rfl hy1 rfl ?_
    repeat' (first | refine sk_eff rfl rfl ?_ | refine sg_guard_yes rfl rfl ?_)
    refine sg_call (in_tri ylo yhi k yop _) rfl rfl (fun _ _ => ?_)
    cases h2 : inS ylo yhi yop k
    · skip
      repeat' (first | refine sk_nil ?_ | refine sk_pure rfl rfl (ps_pick_t rfl rfl) rfl ?_ | refine sk_back (fun w hO => hO) ?_)
      repeat' (first | refine sg_wo ?_ | refine sg_ps (ps_move rfl) rfl ?_ | refine sg_ps (ps_assign rfl) rfl ?_ | refine sg_region ?_ | refine sg_nil ?_ | refine sg_then ?_ | refine sg_ps (ps_add64 rfl rfl (by omega)) rfl ?_ | refine sg_cond_f rfl ?_ | refine sg_skip ?_ | refine ex_block_normal ?_)
      exact ex_mid (q + 1) ⟨by omega, by omega⟩ (.cons rfl (.cons rfl (.cons rfl (.cons rfl (.cons rfl (.cons rfl (.cons rfl (.cons rfl (.cons rfl (.cons rfl (.cons rfl .nil))))))))))) (fun w hO => hO)
    exact (hfin (of_decide_eq_true hs) rfl h1 h2).elim
theorem lockClash_opened (W : World) (vs : List Value) (h : Opens Try.prog W Try.f6.params.toList vs) :
    Tri Try.prog W 6 vs [old W] (X := Unit) (fun _ => .bool true) (fun _ => True) (fun _ => [old W]) := by
  obtain ⟨a1, c1, vs, rfl, e1, h⟩ := Opens.cons (RT.slice 3 40 Try.underlying22 (by kernel_rfl) (by kernel_rfl) (RT.struct (tot := 3) Try.underlying33 (by kernel_rfl) (RF.cons 1 (RT.int .i64 Try.underlying3) rfl (by kernel_rfl) (RF.cons 1 (RT.int .u64 Try.underlying27) rfl (by kernel_rfl) (RF.cons 1 (RT.slice 5 56 Try.underlying31 (by kernel_rfl) (by kernel_rfl) (RT.struct (tot := 5) Try.underlying26 (by kernel_rfl) (RF.cons 1 (RT.int .i64 Try.underlying3) rfl (by kernel_rfl) (RF.cons 3 (RT.struct (tot := 3) Try.underlying24 (by kernel_rfl) (RF.cons 1 (RT.str Try.underlying9) rfl (by kernel_rfl) (RF.cons 1 (RT.str Try.underlying9) rfl (by kernel_rfl) (RF.cons 1 (RT.bool Try.underlying4) rfl (by kernel_rfl) (RF.nil rfl))))) rfl (by kernel_rfl) (RF.cons 1 (RT.bool Try.underlying4) rfl (by kernel_rfl) (RF.nil rfl)))))) rfl (by kernel_rfl) (RF.nil rfl)))))) h
  obtain ⟨a2, c2, vs, rfl, e2, h⟩ := Opens.cons (RT.str Try.underlying9) h
  obtain rfl := Opens.nil h
  obtain ⟨rfl, _⟩ := e2
  obtain ⟨l, la, lc, rfl, hl⟩ := lopsAt_of e1
  exact lockClash_tri l la lc a2 hl
set_option maxRecDepth 100000 in
theorem lockClash_lifted (os : Os) (started : os.Started) (H : Type) (enc : TypeId × Value → H) :
    ReturnsInHanded {} Try.checked os 6 .any (Rows.lockClashSpec.pre6 enc Try.prog Try.f6 Rows.lockClashRow.domain false) (Rows.lockClashSpec.post enc Try.prog Try.f6 false true false false) :=
  lift (tb := 4) started law_own law_laidOut (by kernel_rfl) Try.func6
    (ChangeSpec.witness6 (enc := enc) (C := Try.checked) false ⟨#[], #[.slice none 0 0, .string ByteArray.empty], []⟩ 8 (by kernel_rfl) (by kernel_rfl) (by kernel_rfl) (by kernel_rfl))
    rfl rfl Try.underlying4 (by kernel_rfl) (fun ds h => by
      match ds, h with
      | [d1, d2], _ => rfl) lockClash_opened
theorem lockClash_over : Rows.lockClashRow.holds Try.pinned (OpenSpec.ofChange Rows.lockClashSpec) :=
  OpenClaim.holds_of_wide 6 Try.f6 rfl rfl rfl rfl rfl rfl rfl ⟨rfl, rfl, rfl, rfl, rfl⟩ rfl rfl rfl rfl rfl (by kernel_rfl) Try.func6 (by kernel_rfl)
    (of_decide_eq_true (by kernel_rfl)) (by unfold Func.isWrapper; first | (rw [if_pos (by decide +kernel)]; kernel_rfl) | (rw [if_neg (by decide +kernel)]; exact ⟨rfl, rfl⟩))
    (fun os started H enc _ => lockClash_lifted os started H enc)
theorem lockClash_proved : Rows.LockClashSaid := lockClash_over
#print axioms lockClash_proved
end Go.Proofs.Ytgapgpknghnemaa
