/- DiskPlays: any calls in any order: the document's answers. -/
import Derived.Test.YtbimcdkceoflmaaLW
import Derived.Test.YtbimcdkceoflmaaDKN
import Derived.Test.YtbimcdkceoflmaaRWL
import Derived.Test.YtbimcdkceoflmaaRWB
namespace Go.Proofs.Ytbimcdkceoflmaa
set_option linter.unusedVariables false
set_option linter.unusedSimpArgs false
set_option linter.unusedSectionVars false
set_option linter.unnecessarySimpa false
open Go Go.Proofs
set_option maxRecDepth 20000
set_option maxHeartbeats 4000000
attribute [local irreducible] SG WC WO W1 WD WK PS Rd Tri Exit.then Exit.inBlock bodyPost calmQ Mid sadd
variable {W : World} {n : Nat} {F : Fr} {L : List HP} {G : Act → World → Prop}
theorem opsAt6_of {cs : List Value} {l : List OpX} (h : ((RT.slice 4 64 Try.underlying37 (by kernel_rfl) (by kernel_rfl) (RT.struct (tot := 4) Try.underlying39 (by kernel_rfl) (RF.cons 1 (RT.int .i64 Try.underlying3) rfl (by kernel_rfl) (RF.cons 1 (RT.int .i64 Try.underlying3) rfl (by kernel_rfl) (RF.cons 1 (RT.slice 1 1 Try.underlying30 (by kernel_rfl) (by kernel_rfl) (RT.u8 Try.underlying5)) rfl (by kernel_rfl) (RF.cons 1 (RT.slice 1 8 Try.underlying23 (by kernel_rfl) (by kernel_rfl) (RT.int .i64 Try.underlying3)) rfl (by kernel_rfl) (RF.nil rfl))))))) : RT Try.prog 37 (List OpX)).E W l cs) : ∃ (la : Option Addr) (lc : Nat), cs = [.slice la l.length lc] ∧ OpsAt W l la := by
  obtain ⟨ad, cap, rfl, _, _, h1, hp, r1⟩ := SliceE.at (by decide) h
  refine ⟨ad, cap, rfl, hp, by omega, fun i hi b o e => ?_⟩
  obtain ⟨vs, _, ⟨_, c1, c2, rfl, ⟨rfl, w1⟩, c3, c4, rfl, ⟨rfl, w2⟩, c5, c6, rfl, e3, c7, c8, rfl, e4, rfl⟩, hR⟩ := r1 i hi b o e
  obtain ⟨bb, bc, rfl, _, _, h3, h4⟩ := SliceE.one bv (fun x vs h => h) e3
  obtain ⟨ka, kc, rfl, _, _, h5, h6⟩ := SliceE.one (.int .i64) (fun x vs h => h.1) e4
  exact ⟨bb, ka, bc, kc, by omega, h5, wf_i64 w1, wf_i64 w2, hR, h4, h6⟩
structure D6 (k i : Nat) (D : DS) : Prop where
  len : D.seen.length = k
  writes : D.writes ≤ i
  wait : D.wait.length ≤ i
  syncs : D.syncs ≤ i
theorem D6.mono {k i : Nat} {D : DS} (h : D6 k i D) : D6 k (i + 1) D := ⟨h.len, by have := h.writes; omega, by have := h.wait; omega, by have := h.syncs; omega⟩
theorem D6.write {k i : Nat} {D : DS} (h : D6 k i D) (j : Int) (bs : List UInt8) : D6 k (i + 1) (D.write j bs).2 := by
  obtain ⟨h1, h2, h3, h4⟩ := write_keeps D j bs
  exact ⟨by rw [h3]; exact h.len, by have := h.writes; omega, by have := h.wait; omega, by have := h.syncs; omega⟩
theorem D6.sync {k i : Nat} {D : DS} (h : D6 k i D) : D6 k (i + 1) D.sync.2 := by
  obtain ⟨h1, h2, h3, h4⟩ := sync_keeps D
  exact ⟨by rw [h3]; exact h.len, by have := h.writes; omega, by have := h.wait; omega, by have := h.syncs; omega⟩
theorem D6.fuse {k i : Nat} {D : DS} (h : D6 k i D) (j : Int) : D6 k (i + 1) (D.setFuse j) := by
  unfold DS.setFuse
  split
  · exact h.mono
  · have := h.mono; exact ⟨this.len, this.writes, this.wait, this.syncs⟩
theorem D6.crash {k i : Nat} {D : DS} (h : D6 k i D) (keep : List Int) : D6 k (i + 1) (D.crash keep) :=
  ⟨by rw [crash_len]; exact h.len, h.mono.writes, Nat.zero_le _, h.mono.syncs⟩
theorem diskPlays_tri (a : Int) (ha : -9223372036854775808 ≤ a ∧ a ≤ 9223372036854775807) (l : List OpX) (la : Option Addr) (lc : Nat) (hl : OpsAt W l la) :
    Tri Try.prog W 8 [i64 a, .slice la l.length lc] [old W] (X := Unit) (fun _ => .bool true) (fun _ => True) (fun _ => [old W]) := by
  obtain ⟨hp, hll, hl⟩ := hl
  refine tri_enter2 Try.func8 rfl Try.ntmps8 rfl ?_
  skip
  refine sg_seq ?_
  repeat' (first | refine sg_wo ?_ | refine sg_ps (ps_assign rfl) rfl ?_ | refine sg_region ?_ | refine sg_nil ?_ | refine sg_then ?_)
  refine sg_seq ?_
  refine sg_seq ?_
  repeat' (first | refine sg_wo ?_ | refine sg_region ?_)
  refine sg_call (awake_tri _) rfl rfl (fun _ _ => ?_)
  repeat' (first | refine sg_wo ?_ | refine sg_nil ?_ | refine sg_then ?_ | refine sg_ps (ps_not rfl) rfl ?_ | refine sg_cond_f rfl ?_ | refine sg_skip ?_)
  refine sg_seq_mid (γ := Int) (fun s => (8 ≤ s ∧ s ≤ 64) ∨ s < 8 ∨ 4096 < s) (fun s => [(0, i64 s), (1, .slice la l.length lc)]) (fun _ => [old W]) ?_ ?_
  · have h57 := rem_lt a (m := 57) (by decide)
    by_cases h1 : 64 < a ∧ a ≤ 4096
    · have h2 : 0 ≤ a.tmod 57 := Int.tmod_nonneg _ (by omega)
      have h3 : a.tmod 57 < 57 := Int.tmod_lt_of_pos _ (by decide)
      repeat' (first | refine sg_wo ?_ | refine sg_ps (ps_move rfl) rfl ?_ | refine sg_ps (ps_assign rfl) rfl ?_ | refine sg_seq ?_ | refine sg_region ?_ | refine sg_nil ?_ | refine sg_then ?_ | refine sg_ps (ps_add64 rfl rfl (by omega)) rfl ?_ | refine sg_ps (ps_bin rfl rfl inferInstance) rfl ?_ | refine sg_ps (ps_rem rfl rfl (by decide)) rfl ?_ | refine sg_guard_yes rfl rfl ?_ | refine sg_ps (ps_pick_t rfl rfl) rfl ?_ | (refine sg_guard_dec rfl rfl (fun hg => ?_) (fun hg => ?_) <;> first | (exfalso; omega) | (exact absurd rfl hg) | skip) | (refine sg_cond_dec rfl (fun hg => ?_) (fun hg => ?_) <;> first | (exfalso; omega) | (exact absurd rfl hg) | skip))
      exact ex_mid (8 + a.tmod 57) (.inl ⟨by omega, by omega⟩) (.cons rfl (.cons rfl .nil)) (fun w hO => hO)
    · skip
      repeat' (first | refine sg_wo ?_ | refine sg_ps (ps_move rfl) rfl ?_ | refine sg_seq ?_ | refine sg_region ?_ | refine sg_nil ?_ | refine sg_then ?_ | refine sg_ps (ps_bin rfl rfl inferInstance) rfl ?_ | refine sg_cond_f rfl ?_ | refine sg_guard_yes rfl rfl ?_ | refine sg_guard_nf rfl rfl rfl ?_ | refine sg_ps (ps_pick_t rfl rfl) rfl ?_ | refine sg_ps (ps_pick_f rfl rfl) rfl ?_ | refine sg_skip ?_ | (refine sg_guard_dec rfl rfl (fun hg => ?_) (fun hg => ?_) <;> first | (exfalso; omega) | (exact absurd rfl hg) | skip) | (refine sg_cond_dec rfl (fun hg => ?_) (fun hg => ?_) <;> first | (exfalso; omega) | (exact absurd rfl hg) | skip))
      all_goals exact ex_mid a (by omega) (.cons rfl (.cons rfl .nil)) (fun w hO => hO)
  · rintro s hs
    by_cases hbad : s < 8 ∨ 4096 < s
    · skip
      repeat' (first | refine sg_wo ?_ | refine sg_ps (ps_move rfl) rfl ?_ | refine sg_seq ?_ | refine sg_region ?_)
      refine sg_call (new_bad s _ hbad) rfl rfl (fun _ _ => ?_)
      repeat' (first | refine sg_wo ?_ | refine sg_ps (ps_move rfl) rfl ?_ | refine sg_ps (ps_assign rfl) rfl ?_ | refine sg_seq ?_ | refine sg_region ?_ | refine sg_nil ?_ | refine sg_then ?_ | refine sg_ps (ps_extract rfl rfl) rfl ?_)
      refine sg_call (rnew_bad s _ hbad) rfl rfl (fun _ _ => ?_)
      repeat' (first | refine sg_wo ?_ | refine sg_ps (ps_move rfl) rfl ?_ | refine sg_ps (ps_assign rfl) rfl ?_ | refine sg_seq ?_ | refine sg_region ?_ | refine sg_nil ?_ | refine sg_then ?_ | refine sg_ps (ps_bin rfl rfl inferInstance) rfl ?_ | refine sg_cond_t rfl ?_ | refine sg_cond_f rfl ?_ | refine sg_guard_yes rfl rfl ?_ | refine sg_ps (ps_pick_f rfl rfl) rfl ?_ | refine sg_ps (ps_extract rfl rfl) rfl ?_ | refine sg_skip ?_)
      refine sg_call (dread_nil _ _) rfl rfl (fun _ _ => ?_)
      repeat' (first | refine sg_wo ?_ | refine sg_ps (ps_move rfl) rfl ?_ | refine sg_ps (ps_assign rfl) rfl ?_ | refine sg_seq ?_ | refine sg_region ?_ | refine sg_nil ?_ | refine sg_then ?_ | refine sg_ps (ps_extract rfl rfl) rfl ?_)
      refine sg_call (dcrash_nil _ _ _ _) rfl rfl (fun _ _ => ?_)
      repeat' (first | refine sg_wo ?_ | refine sg_ps (ps_move rfl) rfl ?_ | refine sg_seq ?_ | refine sg_region ?_ | refine sg_nil ?_ | refine sg_then ?_)
      refine sg_call (dfuse_nil _ _) rfl rfl (fun _ _ => ?_)
      repeat' (first | refine sg_wo ?_ | refine sg_ps (ps_move rfl) rfl ?_ | refine sg_seq ?_ | refine sg_region ?_ | refine sg_nil ?_ | refine sg_then ?_ | refine sg_ps (ps_bin rfl rfl inferInstance) rfl ?_ | refine sg_guard_yes rfl rfl ?_)
      refine sg_call (dwrite_nil _ _ _ _ _) rfl rfl (fun _ _ => ?_)
      repeat' (first | refine sg_wo ?_ | refine sg_ps (ps_move rfl) rfl ?_ | refine sg_ps (ps_bin rfl rfl inferInstance) rfl ?_ | refine sg_guard_yes rfl rfl ?_ | refine sg_ps (ps_pick_t rfl rfl) rfl ?_)
      refine sg_call (dsync_nil _) rfl rfl (fun _ _ => ?_)
      repeat' (first | refine sg_wo ?_ | refine sg_ps (ps_move rfl) rfl ?_ | refine sg_ps (ps_bin rfl rfl inferInstance) rfl ?_ | refine sg_guard_yes rfl rfl ?_ | refine sg_ps (ps_pick_t rfl rfl) rfl ?_)
      refine sg_call (dsize_nil _) rfl rfl (fun _ _ => ?_)
      repeat' (first | refine sg_wo ?_ | refine sg_ps (ps_move rfl) rfl ?_ | refine sg_ps (ps_bin rfl rfl inferInstance) rfl ?_ | refine sg_guard_yes rfl rfl ?_ | refine sg_ps (ps_pick_t rfl rfl) rfl ?_)
      refine sg_call (dwaiting_nil _) rfl rfl (fun _ _ => ?_)
      repeat' (first | refine sg_wo ?_ | refine sg_ps (ps_move rfl) rfl ?_ | refine sg_ps (ps_bin rfl rfl inferInstance) rfl ?_ | refine sg_guard_yes rfl rfl ?_ | refine sg_ps (ps_pick_t rfl rfl) rfl ?_)
      refine sg_call (dwrites_nil _) rfl rfl (fun _ _ => ?_)
      repeat' (first | refine sg_wo ?_ | refine sg_ps (ps_move rfl) rfl ?_ | refine sg_ps (ps_bin rfl rfl inferInstance) rfl ?_ | refine sg_guard_yes rfl rfl ?_ | refine sg_ps (ps_pick_t rfl rfl) rfl ?_)
      refine sg_call (dsyncs_nil _) rfl rfl (fun _ _ => ?_)
      repeat' (first | refine sg_wo ?_ | refine sg_ps (ps_move rfl) rfl ?_ | refine sg_ps (ps_bin rfl rfl inferInstance) rfl ?_ | refine sg_guard_yes rfl rfl ?_ | refine sg_ps (ps_pick_t rfl rfl) rfl ?_)
      refine sg_call (ddown_nil _) rfl rfl (fun _ _ => ?_)
      repeat' (first | refine sg_wo ?_ | refine sg_ps (ps_assign rfl) rfl ?_ | refine sg_nil ?_ | refine sg_then ?_ | refine sg_ps (ps_not rfl) rfl ?_ | refine sg_guard_yes rfl rfl ?_ | refine sg_ps (ps_pick_t rfl rfl) rfl ?_ | refine sg_ret ?_ | refine ex_then_ret ?_)
      exact ex_ret1 rfl rfl () rfl trivial (fun w hO => hO)
    · obtain ⟨k, rfl⟩ : ∃ k : Nat, s = (k : Int) := ⟨s.toNat, by omega⟩
      have hk : 8 ≤ k ∧ k ≤ 64 := by omega
      clear hs hbad ha
      repeat' (first | refine sg_wo ?_ | refine sg_ps (ps_move rfl) rfl ?_ | refine sg_seq ?_ | refine sg_region ?_)
      refine sg_call (new_tri k _ (by omega) (by omega)) rfl rfl (fun d _ => ?_)
      repeat' (first | refine sg_wo ?_ | refine sg_ps (ps_move rfl) rfl ?_ | refine sg_ps (ps_assign rfl) rfl ?_ | refine sg_seq ?_ | refine sg_region ?_ | refine sg_nil ?_ | refine sg_then ?_ | refine sg_ps (ps_extract rfl rfl) rfl ?_)
      refine sg_call (rnew_tri k _ (by omega) (by omega)) rfl rfl (fun r _ => ?_)
      repeat' (first | refine sg_wo ?_ | refine sg_ps (ps_move rfl) rfl ?_ | refine sg_ps (ps_assign rfl) rfl ?_ | refine sg_nil ?_ | refine sg_then ?_ | refine sg_ps (ps_extract rfl rfl) rfl ?_)
      refine sg_seq ?_
      refine sg_seq ?_
      repeat' (first | refine sg_wo ?_ | refine sg_ps (ps_move rfl) rfl ?_ | refine sg_region ?_ | refine sg_nil ?_ | refine sg_then ?_ | refine sg_ps (ps_bin rfl rfl inferInstance) rfl ?_ | refine sg_cond_f rfl ?_ | refine sg_guard_yes rfl rfl ?_ | refine sg_ps (ps_pick_f rfl rfl) rfl ?_ | refine sg_skip ?_)
      refine sg_seq ?_
      refine sg_seq ?_
      repeat' (first | refine sg_wo ?_ | refine sg_ps (ps_move rfl) rfl ?_ | refine sg_region ?_ | refine sg_nil ?_ | refine sg_then ?_ | refine sg_ps (ps_bin rfl rfl inferInstance) rfl ?_ | refine sg_cond_f rfl ?_ | refine sg_skip ?_)
      refine sg_seq_mid (γ := DS × Nat) (fun g => D6 k g.2 g.1 ∧ g.2 ≤ 200) (fun _ => [(5, dp d), (7, dp r)]) (fun g => [DiskRep d g.1, RefRep r g.1, old W]) ?_ ?_
      · skip
        repeat' (first | refine sg_wo ?_ | refine sg_ps (ps_assign rfl) rfl ?_ | refine sg_seq ?_ | refine sg_region ?_ | refine sg_nil ?_ | refine sg_then ?_ | refine sg_block ?_)
        refine sg_loop (γ := Nat × DS) (fun g => (g.1 ≤ l.length ∧ g.1 ≤ 200) ∧ D6 k g.1 g.2) (fun g => [(1, .slice la l.length lc), (5, dp d), (7, dp r), (11, i64 g.1)]) (fun g => [DiskRep d g.2, RefRep r g.2, old W]) (fun g => 200 - g.1) (0, DS.new k) ⟨⟨Nat.zero_le _, Nat.zero_le _⟩, new_len, Nat.le_refl _, Nat.le_refl _, Nat.le_refl _⟩
          (.cons rfl (.cons rfl (.cons rfl (.cons rfl .nil)))) (fun w hO => hO.front1) ?_
        rintro ⟨i, D⟩ ⟨⟨hi1, hi2⟩, hD⟩
        dsimp only at hi1 hi2 hD ⊢
        have g1 := hD.len
        have g2 := hD.writes
        have g3 := hD.wait
        have g4 := hD.syncs
        by_cases hc : i < l.length ∧ i < 200
        · obtain ⟨hc1, hc2⟩ := hc
          obtain ⟨lb, lo, rfl⟩ := hp (by omega)
          obtain ⟨bb, ka, bc, kc, hb1, hb2, hb3, hb4, r0, r1, r2⟩ := hl i hc1 lb lo rfl
          have hr5 := rem_lt l[i].1 (m := 5) (by decide)
          obtain ⟨m, hm, hm5⟩ := rem_nat l[i].1 5 (by decide)
          rw [show ((5 : Nat) : Int) = 5 from rfl] at hm
          generalize l[i] = x at *
          obtain ⟨x1, x2, bs, keep, u⟩ := x
          dsimp only at hb1 hb2 hb3 hb4 r0 r1 r2 hr5 hm
          skip
          refine sg_seq ?_
          refine sg_seq ?_
          repeat' (first | refine sg_wo ?_ | refine sg_ps (ps_move rfl) rfl ?_ | refine sg_region ?_ | refine sg_nil ?_ | refine sg_then ?_ | refine sg_ps (ps_bin rfl rfl inferInstance) rfl ?_ | refine sg_guard_yes rfl rfl ?_ | refine sg_ps (ps_pick_t rfl rfl) rfl ?_ | refine sg_ps (ps_len rfl) rfl ?_ | refine sg_skip ?_ | (refine sg_guard_dec rfl rfl (fun hg => ?_) (fun hg => ?_) <;> first | (exfalso; omega) | (exact absurd rfl hg) | skip) | (refine sg_cond_dec rfl (fun hg => ?_) (fun hg => ?_) <;> first | (exfalso; omega) | (exact absurd rfl hg) | skip))
          refine sg_seq ?_
          repeat' (first | refine sg_block ?_)
          refine sg_seq ?_
          repeat' (first | refine sg_wo ?_ | refine sg_ps (ps_move rfl) rfl ?_ | refine sg_region ?_ | refine sg_ps (ps_indexAddr rfl rfl rfl (by omega)) rfl ?_)
          refine sg_load_agg_rd rfl rfl (r0.rd 2 rfl) rfl ?_
          repeat' (first | refine sg_wo ?_ | refine sg_nil ?_ | refine sg_then ?_ | refine sg_store_whole [] rfl rfl rfl rfl rfl ?_ | refine sg_alloc rfl (fun al => ?_))
          refine sg_seq_mid (γ := DS) (fun E => D6 k (i + 1) E) (fun _ => [(1, .slice (some ⟨lb, lo, none⟩) l.length lc), (5, dp d), (7, dp r), (11, i64 i)]) (fun E => [DiskRep d E, RefRep r E, old W]) ?_ ?_
          · refine sg_seq ?_
            repeat' (first | refine sg_wo ?_ | refine sg_region ?_ | refine sg_nil ?_ | refine sg_then ?_ | refine sg_ps (ps_fieldAddr rfl) rfl ?_ | refine sg_load 0 rfl rfl rfl rfl ?_ | refine sg_ps (ps_add64 rfl rfl (by omega)) rfl ?_ | refine sg_ps (ps_rem rfl rfl (by decide)) rfl ?_ | refine sg_block ?_)
            rw [hm]
            rcases (by omega : m = 0 ∨ m = 1 ∨ m = 2 ∨ m = 3 ∨ m = 4) with rfl | rfl | rfl | rfl | rfl
            · skip
              repeat' (first | refine sg_wo ?_ | refine sg_ps (ps_assign rfl) rfl ?_ | refine sg_seq ?_ | refine sg_region ?_ | refine sg_nil ?_ | refine sg_then ?_ | refine sg_ps (ps_fieldAddr rfl) rfl ?_ | refine sg_load 0 rfl rfl rfl rfl ?_ | refine sg_ps (ps_bin rfl rfl inferInstance) rfl ?_ | refine sg_cond_t rfl ?_)
              refine sg_call (rawLent_tri bs bb bc (by omega) _ (r1.rd 3 rfl)) rfl rfl (fun x hx => ?_)
              obtain ⟨g, c, cur⟩ := x
              dsimp only at hx ⊢
              repeat' (first | refine sg_wo ?_ | refine sg_ps (ps_assign rfl) rfl ?_ | refine sg_seq ?_ | refine sg_nil ?_ | refine sg_then ?_)
              refine sg_drawK [blk al [i64 x1, i64 x2, .slice bb bs.length bc, .slice ka keep.length kc], old W] [0, 1, 3, 5, 6, 8, 2, 7, 9, 4, 10, 11, 12, 13, 14, 15, 16, 17, 18] (by kernel_rfl) (by kernel_rfl) (fun w hO => hO.pick [1, 4] (by decide)) ?_
              repeat' (first | refine sk_pure rfl rfl (ps_move rfl) rfl ?_ | refine sk_pure rfl rfl (ps_fieldAddr rfl) rfl ?_ | refine sk_load 0 rfl rfl rfl rfl rfl ?_ | refine sk_eff rfl rfl ?_)
              refine sg_call ((write_tri d D x2 bs (some ⟨g, 0, none⟩) c [blk g cur, blk al [i64 x1, i64 x2, .slice bb bs.length bc, .slice ka keep.length kc], RefRep r D, old W] (by omega) (by omega) (rd_blk 0 rfl hx.get) (by omega)).pre (fun w hO => hO.pick [2, 0, 1, 3, 4] (by decide))) rfl rfl (fun _ _ => ?_)
              refine sk_back (fun w hO => hO.pick [2, 4] (by decide)) ?_
              repeat' (first | refine sk_eff rfl rfl ?_)
              refine sg_call ((rwrite_tri r D x2 bs bb bc [DiskRep d (D.write x2 bs).2, blk g cur, blk al [i64 x1, i64 x2, .slice bb bs.length bc, .slice ka keep.length kc], old W] (by omega) (by omega) (rdo_tail r1 3 rfl) (by omega)).pre (fun w hO => hO.pick [3, 0, 1, 2, 4] (by decide))) rfl rfl (fun _ _ => ?_)
              refine sk_back (fun w hO => hO.pick [3, 4] (by decide)) ?_
              have hE := hD.write x2 bs
              generalize D.write x2 bs = q at hE
              obtain ⟨q1, E⟩ := q
              dsimp only at hE ⊢
              repeat' (first | refine sk_pure rfl rfl (ps_move rfl) rfl ?_ | refine sk_pure rfl rfl (ps_bin rfl rfl inferInstance) rfl ?_ | refine sk_pure_g rfl rfl rfl rfl (ps_move rfl) rfl ?_ | refine sk_pure_g rfl rfl rfl rfl (ps_fieldAddr rfl) rfl ?_ | refine sk_load_g 0 rfl rfl rfl rfl rfl rfl rfl ?_ | refine sk_eff rfl rfl ?_ | refine sg_guard_yes rfl rfl ?_ | (refine sk_ndec rfl rfl rfl rfl (fun hg => ?_) (fun hg => ?_) <;> first | (exfalso; omega) | (exact absurd rfl hg) | skip))
              refine sg_call ((rawKept_tri bs g c cur hx bb bc [RefRep r E, DiskRep d E, blk al [i64 x1, i64 x2, .slice bb bs.length bc, .slice ka keep.length kc], old W] (r1.rd 3 rfl)).pre (fun w hO => hO.pick [2, 0, 1, 3, 4] (by decide))) rfl rfl (fun _ _ => ?_)
              refine sk_back (fun w hO => hO.pick [3, 4] (by decide)) ?_
              repeat' (first | refine sk_nil ?_ | refine sk_pure rfl rfl (ps_pick_f rfl rfl) rfl ?_ | refine sk_pure_g rfl rfl rfl rfl (ps_not rfl) rfl ?_)
              repeat' (first | refine sg_wo ?_ | refine sg_ps (ps_assign rfl) rfl ?_ | refine sg_seq ?_ | refine sg_region ?_ | refine sg_nil ?_ | refine sg_then ?_ | refine sg_cond_f rfl ?_ | refine sg_block ?_ | refine sg_skip ?_)
              refine sg_loop (γ := Nat × List Value) (fun y => y.1 ≤ bs.length ∧ y.2.length = cur.length) (fun y => [(1, .slice (some ⟨lb, lo, none⟩) l.length lc), (5, dp d), (7, dp r), (11, i64 i), (13, .slice (some ⟨g, 0, none⟩) bs.length c), (14, i64 y.1)])
                (fun y => [blk g y.2, RefRep r E, DiskRep d E, old W]) (fun y => bs.length - y.1) (0, cur) ⟨Nat.zero_le _, rfl⟩ (.cons rfl (.cons rfl (.cons rfl (.cons rfl (.cons rfl (.cons rfl .nil)))))) (fun w hO => hO.pick [0, 1, 2, 4] (by decide)) ?_
              rintro ⟨j, c2⟩ ⟨hj, hc2⟩
              dsimp only at hj hc2 ⊢
              have hxl := hx.len
              have hxr := hx.room
              by_cases hjl : j < bs.length
              · skip
                repeat' (first | refine sg_wo ?_ | refine sg_ps (ps_move rfl) rfl ?_ | refine sg_seq ?_ | refine sg_region ?_ | refine sg_nil ?_ | refine sg_then ?_ | refine sg_ps (ps_bin rfl rfl inferInstance) rfl ?_ | refine sg_ps (ps_len rfl) rfl ?_ | refine sg_ps (ps_indexAddr rfl rfl rfl (by omega)) rfl ?_ | refine sg_block ?_ | refine sg_skip ?_ | (refine sg_cond_dec rfl (fun hg => ?_) (fun hg => ?_) <;> first | (exfalso; omega) | (exact absurd rfl hg) | skip))
                refine sg_store [] rfl rfl rfl (by omega) ?_
                repeat' (first | refine sg_wo ?_ | refine sg_ps (ps_move rfl) rfl ?_ | refine sg_ps (ps_assign rfl) rfl ?_ | refine sg_region ?_ | refine sg_nil ?_ | refine sg_then ?_ | refine sg_ps (ps_add64 rfl rfl (by omega)) rfl ?_ | refine ex_block_normal ?_)
                exact ex_mid (j + 1, _) ⟨by show bs.length - (j + 1) < bs.length - j; omega, by show j + 1 ≤ bs.length; omega, by show (c2.set _ _).length = _; rw [List.length_set]; exact hc2⟩ (.cons rfl (.cons rfl (.cons rfl (.cons rfl (.cons rfl (.cons rfl .nil)))))) (fun w hO => hO)
              · skip
                repeat' (first | refine sg_wo ?_ | refine sg_ps (ps_move rfl) rfl ?_ | refine sg_seq ?_ | refine sg_region ?_ | refine sg_nil ?_ | refine sg_then ?_ | refine sg_ps (ps_bin rfl rfl inferInstance) rfl ?_ | refine sg_ps (ps_len rfl) rfl ?_ | refine sg_exit ?_ | refine ex_then_exit ?_ | refine ex_block_normal ?_ | refine ex_block_hit ?_ | (refine sg_cond_dec rfl (fun hg => ?_) (fun hg => ?_) <;> first | (exfalso; omega) | (exact absurd rfl hg) | skip))
                exact ex_mid E hE (.cons rfl (.cons rfl (.cons rfl (.cons rfl .nil)))) (fun w hO => hO.pick [2, 1, 3] (by decide))
            · by_cases hin : 0 ≤ x2 ∧ x2 < D.seen.length
              · obtain ⟨j, rfl⟩ : ∃ j : Nat, x2 = (j : Int) := ⟨x2.toNat, by omega⟩
                have hj : j < D.seen.length := by omega
                repeat' (first | refine sg_wo ?_ | refine sg_ps (ps_move rfl) rfl ?_ | refine sg_ps (ps_assign rfl) rfl ?_ | refine sg_seq ?_ | refine sg_region ?_ | refine sg_nil ?_ | refine sg_then ?_ | refine sg_ps (ps_fieldAddr rfl) rfl ?_ | refine sg_load 0 rfl rfl rfl rfl ?_ | refine sg_ps (ps_bin rfl rfl inferInstance) rfl ?_ | refine sg_cond_t rfl ?_ | refine sg_cond_f rfl ?_)
                refine sg_call ((read_tri d D j [blk al [i64 x1, i64 (j : Int), .slice bb bs.length bc, .slice ka keep.length kc], RefRep r D, old W] hj).pre (fun w hO => hO.pick [1, 0, 2, 3] (by decide))) rfl rfl (fun rb _ => ?_)
                repeat' (first | refine sg_wo ?_ | refine sg_ps (ps_move rfl) rfl ?_ | refine sg_ps (ps_assign rfl) rfl ?_ | refine sg_seq ?_ | refine sg_region ?_ | refine sg_nil ?_ | refine sg_then ?_ | refine sg_ps (ps_fieldAddr rfl) rfl ?_ | refine sg_load 2 rfl rfl rfl rfl ?_ | refine sg_ps (ps_extract rfl rfl) rfl ?_)
                refine sg_call ((rread_tri r D j [blk rb (D.seen[j].map bv), DiskRep d D, blk al [i64 x1, i64 (j : Int), .slice bb bs.length bc, .slice ka keep.length kc], old W] hj).pre (fun w hO => hO.pick [3, 0, 1, 2, 4] (by decide))) rfl rfl (fun y _ => ?_)
                obtain ⟨ya, yc⟩ := y
                dsimp only
                refine sg_front1 ?_
                refine sg_ref_ok (fun hok => ?_)
                have h64 : D.seen[j].length = 64 := hok.sec _ (List.getElem_mem hj)
                have hby := rawBytes_tri (W := W) D.seen[j] D.seen[j] (some ⟨rb, 0, none⟩) ya 64 yc [RefRep r D, sown ya 64 yc 1 (D.seen[j].map bv), blk rb (D.seen[j].map bv), DiskRep d D, blk al [i64 x1, i64 (j : Int), .slice bb bs.length bc, .slice ka keep.length kc], old W] (rd_blk 2 rfl (fun q u h => by rw [Nat.zero_add]; exact h)) (rd_sown 1 rfl (fun _ _ h => h))
                rw [h64, decide_eq_true rfl] at hby
                have hzl : (D.seen[j].map bv).length = 64 := by rw [List.length_map, h64]
                generalize D.seen[j].map bv = zs at *
                repeat' (first | refine sg_wo ?_ | refine sg_ps (ps_move rfl) rfl ?_ | refine sg_ps (ps_assign rfl) rfl ?_ | refine sg_seq ?_ | refine sg_region ?_ | refine sg_nil ?_ | refine sg_then ?_ | refine sg_ps (ps_bin rfl rfl inferInstance) rfl ?_ | refine sg_guard_yes rfl rfl ?_ | refine sg_ps (ps_extract rfl rfl) rfl ?_)
                refine sg_call hby rfl rfl (fun _ _ => ?_)
                repeat' (first | refine sg_wo ?_ | refine sg_ps (ps_assign rfl) rfl ?_ | refine sg_seq ?_ | refine sg_region ?_ | refine sg_nil ?_ | refine sg_then ?_ | refine sg_ps (ps_not rfl) rfl ?_ | refine sg_cond_f rfl ?_ | refine sg_guard_yes rfl rfl ?_ | refine sg_ps (ps_pick_f rfl rfl) rfl ?_ | refine sg_block ?_ | refine sg_skip ?_)
                refine sg_loop (γ := Nat × List Value) (fun y => y.1 ≤ 64 ∧ y.2.length = 64) (fun y => [(1, .slice (some ⟨lb, lo, none⟩) l.length lc), (5, dp d), (7, dp r), (11, i64 i), (15, .slice (some ⟨rb, 0, none⟩) 64 64), (19, i64 y.1)])
                  (fun y => [blk rb y.2, RefRep r D, DiskRep d D, old W]) (fun y => 64 - y.1) (0, zs) ⟨Nat.zero_le _, hzl⟩ (.cons rfl (.cons rfl (.cons rfl (.cons rfl (.cons rfl (.cons rfl .nil)))))) (fun w hO => hO.pick [2, 0, 3, 5] (by decide)) ?_
                rintro ⟨q, c2⟩ ⟨hq, hc2⟩
                dsimp only at hq hc2 ⊢
                by_cases hql : q < 64
                · skip
                  repeat' (first | refine sg_wo ?_ | refine sg_ps (ps_move rfl) rfl ?_ | refine sg_seq ?_ | refine sg_region ?_ | refine sg_nil ?_ | refine sg_then ?_ | refine sg_ps (ps_bin rfl rfl inferInstance) rfl ?_ | refine sg_ps (ps_len rfl) rfl ?_ | refine sg_ps (ps_indexAddr rfl rfl rfl (by omega)) rfl ?_ | refine sg_block ?_ | refine sg_skip ?_ | (refine sg_cond_dec rfl (fun hg => ?_) (fun hg => ?_) <;> first | (exfalso; omega) | (exact absurd rfl hg) | skip))
                  refine sg_store [] rfl rfl rfl (by omega) ?_
                  repeat' (first | refine sg_wo ?_ | refine sg_ps (ps_move rfl) rfl ?_ | refine sg_ps (ps_assign rfl) rfl ?_ | refine sg_region ?_ | refine sg_nil ?_ | refine sg_then ?_ | refine sg_ps (ps_add64 rfl rfl (by omega)) rfl ?_ | refine ex_block_normal ?_)
                  exact ex_mid (q + 1, _) ⟨by show 64 - (q + 1) < 64 - q; omega, by show q + 1 ≤ 64; omega, by show (c2.set _ _).length = _; rw [List.length_set]; exact hc2⟩ (.cons rfl (.cons rfl (.cons rfl (.cons rfl (.cons rfl (.cons rfl .nil)))))) (fun w hO => hO)
                · skip
                  repeat' (first | refine sg_wo ?_ | refine sg_ps (ps_move rfl) rfl ?_ | refine sg_seq ?_ | refine sg_region ?_ | refine sg_nil ?_ | refine sg_then ?_ | refine sg_ps (ps_bin rfl rfl inferInstance) rfl ?_ | refine sg_ps (ps_len rfl) rfl ?_ | refine sg_exit ?_ | refine ex_then_exit ?_ | refine ex_block_normal ?_ | refine ex_block_hit ?_ | (refine sg_cond_dec rfl (fun hg => ?_) (fun hg => ?_) <;> first | (exfalso; omega) | (exact absurd rfl hg) | skip))
                  exact ex_mid D hD.mono (.cons rfl (.cons rfl (.cons rfl (.cons rfl .nil)))) (fun w hO => hO.pick [2, 1, 3] (by decide))
              · skip
                repeat' (first | refine sg_wo ?_ | refine sg_ps (ps_move rfl) rfl ?_ | refine sg_ps (ps_assign rfl) rfl ?_ | refine sg_seq ?_ | refine sg_region ?_ | refine sg_nil ?_ | refine sg_then ?_ | refine sg_ps (ps_fieldAddr rfl) rfl ?_ | refine sg_load 0 rfl rfl rfl rfl ?_ | refine sg_ps (ps_bin rfl rfl inferInstance) rfl ?_ | refine sg_cond_t rfl ?_ | refine sg_cond_f rfl ?_)
                refine sg_call ((dread_bad d D x2 [blk al [i64 x1, i64 x2, .slice bb bs.length bc, .slice ka keep.length kc], RefRep r D, old W] hin).pre (fun w hO => hO.pick [1, 0, 2, 3] (by decide))) rfl rfl (fun _ _ => ?_)
                repeat' (first | refine sg_wo ?_ | refine sg_ps (ps_move rfl) rfl ?_ | refine sg_ps (ps_assign rfl) rfl ?_ | refine sg_seq ?_ | refine sg_region ?_ | refine sg_nil ?_ | refine sg_then ?_ | refine sg_ps (ps_fieldAddr rfl) rfl ?_ | refine sg_load 1 rfl rfl rfl rfl ?_ | refine sg_ps (ps_extract rfl rfl) rfl ?_)
                refine sg_call ((rread_bad r D x2 [DiskRep d D, blk al [i64 x1, i64 x2, .slice bb bs.length bc, .slice ka keep.length kc], old W] hin).pre (fun w hO => hO.pick [2, 0, 1, 3] (by decide))) rfl rfl (fun _ _ => ?_)
                have hby := rawBytes_tri (W := W) [] [] none none 0 0 [RefRep r D, DiskRep d D, blk al [i64 x1, i64 x2, .slice bb bs.length bc, .slice ka keep.length kc], old W] rd_nil rd_nil
                repeat' (first | refine sg_wo ?_ | refine sg_ps (ps_move rfl) rfl ?_ | refine sg_ps (ps_assign rfl) rfl ?_ | refine sg_seq ?_ | refine sg_region ?_ | refine sg_nil ?_ | refine sg_then ?_ | refine sg_ps (ps_bin rfl rfl inferInstance) rfl ?_ | refine sg_guard_yes rfl rfl ?_ | refine sg_ps (ps_extract rfl rfl) rfl ?_)
                refine sg_call hby rfl rfl (fun _ _ => ?_)
                repeat' (first | refine sg_wo ?_ | refine sg_ps (ps_assign rfl) rfl ?_ | refine sg_seq ?_ | refine sg_region ?_ | refine sg_nil ?_ | refine sg_then ?_ | refine sg_ps (ps_not rfl) rfl ?_ | refine sg_cond_f rfl ?_ | refine sg_guard_yes rfl rfl ?_ | refine sg_ps (ps_pick_f rfl rfl) rfl ?_ | refine sg_block ?_ | refine sg_skip ?_)
                refine sg_loop (γ := Unit) (fun _ => True) (fun _ => [(1, .slice (some ⟨lb, lo, none⟩) l.length lc), (5, dp d), (7, dp r), (11, i64 i), (15, .slice none 0 0), (19, i64 0)])
                  (fun _ => [RefRep r D, DiskRep d D, old W]) (fun _ => 0) () trivial (.cons rfl (.cons rfl (.cons rfl (.cons rfl (.cons rfl (.cons rfl .nil)))))) (fun w hO => hO.pick [0, 1, 3] (by decide)) ?_
                intro _ _
                repeat' (first | refine sg_wo ?_ | refine sg_ps (ps_move rfl) rfl ?_ | refine sg_seq ?_ | refine sg_region ?_ | refine sg_nil ?_ | refine sg_then ?_ | refine sg_ps (ps_bin rfl rfl inferInstance) rfl ?_ | refine sg_cond_f rfl ?_ | refine sg_ps (ps_len rfl) rfl ?_ | refine sg_exit ?_ | refine ex_then_exit ?_ | refine ex_block_normal ?_ | refine ex_block_hit ?_)
                exact ex_mid D hD.mono (.cons rfl (.cons rfl (.cons rfl (.cons rfl .nil)))) (fun w hO => hO.front1)
            · skip
              repeat' (first | refine sg_wo ?_ | refine sg_ps (ps_move rfl) rfl ?_ | refine sg_ps (ps_assign rfl) rfl ?_ | refine sg_seq ?_ | refine sg_region ?_ | refine sg_nil ?_ | refine sg_then ?_ | refine sg_ps (ps_bin rfl rfl inferInstance) rfl ?_ | refine sg_cond_t rfl ?_ | refine sg_cond_f rfl ?_)
              have h1 := sync_tri (W := W) d D [blk al [i64 x1, i64 x2, .slice bb bs.length bc, .slice ka keep.length kc], RefRep r D, old W] (by omega)
              have h2 := fun E => rsync_tri (W := W) r D [DiskRep d E, blk al [i64 x1, i64 x2, .slice bb bs.length bc, .slice ka keep.length kc], old W] (by omega)
              have hE := hD.sync
              generalize D.sync = q at hE h1 h2
              obtain ⟨q1, E⟩ := q
              dsimp only at hE h1 h2
              refine sg_call (h1.pre (fun w hO => hO.pick [1, 0, 2, 3] (by decide))) rfl rfl (fun _ _ => ?_)
              repeat' (first | refine sg_wo ?_ | refine sg_ps (ps_move rfl) rfl ?_)
              refine sg_call ((h2 E).pre (fun w hO => hO.pick [2, 0, 1, 3] (by decide))) rfl rfl (fun _ _ => ?_)
              repeat' (first | refine sg_wo ?_ | refine sg_nil ?_ | refine sg_then ?_ | refine sg_ps (ps_bin rfl rfl inferInstance) rfl ?_ | refine sg_skip ?_ | refine ex_block_normal ?_ | (refine sg_cond_ndec rfl (fun hg => ?_) (fun hg => ?_) <;> first | (exfalso; omega) | (exact absurd rfl hg) | skip))
              exact ex_mid E hE (.cons rfl (.cons rfl (.cons rfl (.cons rfl .nil)))) (fun w hO => hO.pick [1, 0, 3] (by decide))
            · skip
              repeat' (first | refine sg_wo ?_ | refine sg_ps (ps_move rfl) rfl ?_ | refine sg_ps (ps_assign rfl) rfl ?_ | refine sg_seq ?_ | refine sg_region ?_ | refine sg_nil ?_ | refine sg_then ?_ | refine sg_ps (ps_fieldAddr rfl) rfl ?_ | refine sg_load 0 rfl rfl rfl rfl ?_ | refine sg_ps (ps_bin rfl rfl inferInstance) rfl ?_ | refine sg_cond_t rfl ?_ | refine sg_cond_f rfl ?_)
              refine sg_call ((fuse_tri d D x2 [blk al [i64 x1, i64 x2, .slice bb bs.length bc, .slice ka keep.length kc], RefRep r D, old W] hb4.2).pre (fun w hO => hO.pick [1, 0, 2, 3] (by decide))) rfl rfl (fun _ _ => ?_)
              repeat' (first | refine sg_wo ?_ | refine sg_ps (ps_move rfl) rfl ?_ | refine sg_region ?_ | refine sg_nil ?_ | refine sg_then ?_ | refine sg_ps (ps_fieldAddr rfl) rfl ?_ | refine sg_load 1 rfl rfl rfl rfl ?_)
              refine sg_call ((rfuse_tri r D x2 [DiskRep d (D.setFuse x2), blk al [i64 x1, i64 x2, .slice bb bs.length bc, .slice ka keep.length kc], old W] hb4.2).pre (fun w hO => hO.pick [2, 0, 1, 3] (by decide))) rfl rfl (fun _ _ => ?_)
              repeat' (first | refine sg_nil ?_ | refine ex_block_normal ?_)
              exact ex_mid (D.setFuse x2) (hD.fuse x2) (.cons rfl (.cons rfl (.cons rfl (.cons rfl .nil)))) (fun w hO => hO.pick [1, 0, 3] (by decide))
            · skip
              repeat' (first | refine sg_wo ?_ | refine sg_ps (ps_move rfl) rfl ?_ | refine sg_ps (ps_assign rfl) rfl ?_ | refine sg_seq ?_ | refine sg_region ?_ | refine sg_nil ?_ | refine sg_then ?_ | refine sg_ps (ps_bin rfl rfl inferInstance) rfl ?_ | refine sg_cond_f rfl ?_)
              refine sg_buildSlice rfl (by decide) rfl rfl (fun kb => ?_)
              repeat' (first | refine sg_wo ?_ | refine sg_ps (ps_fieldAddr rfl) rfl ?_ | refine sg_load 1 rfl rfl rfl rfl ?_)
              refine sg_own_mk (m := 0) (c := 0) (sz := 1) (xs := []) (Nat.le_refl _) (by decide) rfl rfl ?_
              refine sg_append (by_ := 8) rfl rfl rfl (news := keep.map (Value.int .i64)) (by simp) (by intro u hu; obtain ⟨x, _, rfl⟩ := List.mem_map.1 hu; rfl) (r2.rd 4 rfl) (by show 0 + keep.length ≤ 9223372036854775807; omega) (by omega) (fun a' c' => ?_)
              rw [Nat.zero_add, List.nil_append]
              refine sg_wo (sg_call ((crash_tri d D keep a' c' [sown a' keep.length c' 1 (keep.map (Value.int .i64)), blk al [i64 x1, i64 x2, .slice bb bs.length bc, .slice ka keep.length kc], RefRep r D, old W] (rd_sown 0 rfl (fun j u hj => hj)) (by omega) (by omega)).pre (fun w hO => hO.pick [2, 0, 1, 3, 4] (by decide))) rfl rfl (fun _ _ => ?_))
              repeat' (first | refine sg_wo ?_ | refine sg_ps (ps_move rfl) rfl ?_ | refine sg_region ?_ | refine sg_nil ?_ | refine sg_then ?_ | refine sg_ps (ps_fieldAddr rfl) rfl ?_ | refine sg_load 2 rfl rfl rfl rfl ?_)
              refine sg_call ((rcrash_tri r D keep ka kc [DiskRep d (D.crash keep), blk al [i64 x1, i64 x2, .slice bb bs.length bc, .slice ka keep.length kc], old W] (rdo_tail r2 2 rfl) (by omega) (by omega)).pre (fun w hO => hO.pick [3, 0, 2, 4] (by decide))) rfl rfl (fun _ _ => ?_)
              repeat' (first | refine sg_nil ?_ | refine ex_block_normal ?_)
              exact ex_mid (D.crash keep) (hD.crash keep) (.cons rfl (.cons rfl (.cons rfl (.cons rfl .nil)))) (fun w hO => hO.pick [1, 0, 3] (by decide))
          · rintro E hE
            have e1 := hE.writes
            have e2 := hE.wait
            have e3 := hE.syncs
            refine sg_front1 ?_
            refine RefRep.open fun x hx => ?_
            obtain ⟨l1, l2, l3⟩ := hx.lens
            obtain ⟨KK, hKK⟩ : ∃ KK, KK = sown (some ⟨x.kb, 0, none⟩) x.ks.length x.kc 1 (x.ks.map shdr) := ⟨_, rfl⟩
            obtain ⟨SS, hSS⟩ : ∃ SS, SS = sown (some ⟨x.sb, 0, none⟩) x.ss.length x.sc 1 (x.ss.map shdr) := ⟨_, rfl⟩
            obtain ⟨TT, hTT⟩ : ∃ TT, TT = sown x.wa x.ws.length x.wc 2 (x.ws.flatMap putc) := ⟨_, rfl⟩
            obtain ⟨BB, hBB⟩ : ∃ BB, BB = blks x.ls := ⟨_, rfl⟩
            rw [← hKK, ← hSS, ← hTT, ← hBB]
            repeat' (first | refine sg_seq ?_)
            refine sg_drawK [blk r (rdcells E x), KK, SS, TT, BB, DiskRep d E, old W] [0, 2, 3, 4, 5, 1, 6, 7, 8, 10, 11, 12, 13, 14, 9, 15, 16, 17, 18, 20, 21, 22, 23, 19, 24, 25, 26, 27, 29, 30, 31, 32, 28, 33, 34, 35, 36, 38, 39, 40, 41, 42, 37, 43, 44] (by kernel_rfl) (by kernel_rfl) (fun w hO => hO) ?_
            repeat' (first | refine sk_pure rfl rfl (ps_move rfl) rfl ?_ | refine sk_pure rfl rfl (ps_nilCheck rfl) rfl ?_ | refine sk_pure rfl rfl (ps_fieldAddr rfl) rfl ?_ | refine sk_load 0 rfl rfl rfl rfl rfl ?_ | refine sk_eff rfl rfl ?_)
            refine sg_call ((down_tri d E [blk r (rdcells E x), KK, SS, TT, BB, old W]).pre (fun w hO => hO.pick [5, 0, 1, 2, 3, 4, 6] (by decide))) rfl rfl (fun _ _ => ?_)
            refine sk_back (fun w hO => hO.pick [1, 2, 3, 4, 5, 0, 6] (by decide)) ?_
            repeat' (first | refine sk_pure rfl rfl (ps_move rfl) rfl ?_ | refine sk_pure rfl rfl (ps_bin rfl rfl inferInstance) rfl ?_ | refine sk_pure_g rfl rfl rfl rfl (ps_move rfl) rfl ?_ | refine sk_pure_g rfl rfl rfl rfl (ps_nilCheck rfl) rfl ?_ | refine sk_pure_g rfl rfl rfl rfl (ps_fieldAddr rfl) rfl ?_ | refine sk_pure_g rfl rfl rfl rfl (ps_len rfl) rfl ?_ | refine sk_load_g 0 rfl rfl rfl rfl rfl rfl rfl ?_ | refine sk_eff rfl rfl ?_ | refine sg_guard_yes rfl rfl ?_ | (refine sk_ndec rfl rfl rfl rfl (fun hg => ?_) (fun hg => ?_) <;> first | (exfalso; omega) | (exact absurd rfl hg) | skip))
            refine sg_call (waiting_tri d E [blk r (rdcells E x), KK, SS, TT, BB, old W]) rfl rfl (fun _ _ => ?_)
            refine sk_back (fun w hO => hO.pick [1, 2, 3, 4, 5, 0, 6] (by decide)) ?_
            repeat' (first | refine sk_pure rfl rfl (ps_move rfl) rfl ?_ | refine sk_pure rfl rfl (ps_pick_f rfl rfl) rfl ?_ | refine sk_pure_g rfl rfl rfl rfl (ps_move rfl) rfl ?_ | refine sk_pure_g rfl rfl rfl rfl (ps_nilCheck rfl) rfl ?_ | refine sk_pure_g rfl rfl rfl rfl (ps_fieldAddr rfl) rfl ?_ | refine sk_pure_g rfl rfl rfl rfl (ps_bin rfl rfl inferInstance) rfl ?_ | refine sk_load_g 0 rfl rfl rfl rfl rfl rfl rfl ?_ | refine sk_eff rfl rfl ?_ | refine sg_guard_yes rfl rfl ?_ | (refine sk_ndec rfl rfl rfl rfl (fun hg => ?_) (fun hg => ?_) <;> first | (exfalso; omega) | (exact absurd rfl hg) | skip))
            refine sg_call (writes_tri d E [blk r (rdcells E x), KK, SS, TT, BB, old W]) rfl rfl (fun _ _ => ?_)
            refine sk_back (fun w hO => hO.pick [1, 2, 3, 4, 5, 0, 6] (by decide)) ?_
            repeat' (first | refine sk_pure rfl rfl (ps_move rfl) rfl ?_ | refine sk_pure rfl rfl (ps_pick_f rfl rfl) rfl ?_ | refine sk_pure_g rfl rfl rfl rfl (ps_move rfl) rfl ?_ | refine sk_pure_g rfl rfl rfl rfl (ps_nilCheck rfl) rfl ?_ | refine sk_pure_g rfl rfl rfl rfl (ps_fieldAddr rfl) rfl ?_ | refine sk_pure_g rfl rfl rfl rfl (ps_bin rfl rfl inferInstance) rfl ?_ | refine sk_load_g 0 rfl rfl rfl rfl rfl rfl rfl ?_ | refine sk_eff rfl rfl ?_ | refine sg_guard_yes rfl rfl ?_ | (refine sk_ndec rfl rfl rfl rfl (fun hg => ?_) (fun hg => ?_) <;> first | (exfalso; omega) | (exact absurd rfl hg) | skip))
            refine sg_call (syncs_tri d E [blk r (rdcells E x), KK, SS, TT, BB, old W]) rfl rfl (fun _ _ => ?_)
            refine sk_back (fun w hO => hO.pick [1, 2, 3, 4, 5, 0, 6] (by decide)) ?_
            repeat' (first | refine sk_pure rfl rfl (ps_move rfl) rfl ?_ | refine sk_pure rfl rfl (ps_pick_f rfl rfl) rfl ?_ | refine sk_pure_g rfl rfl rfl rfl (ps_move rfl) rfl ?_ | refine sk_pure_g rfl rfl rfl rfl (ps_nilCheck rfl) rfl ?_ | refine sk_pure_g rfl rfl rfl rfl (ps_fieldAddr rfl) rfl ?_ | refine sk_pure_g rfl rfl rfl rfl (ps_bin rfl rfl inferInstance) rfl ?_ | refine sk_pure_g rfl rfl rfl rfl (ps_len rfl) rfl ?_ | refine sk_load_g 0 rfl rfl rfl rfl rfl rfl rfl ?_ | refine sk_eff rfl rfl ?_ | refine sg_guard_yes rfl rfl ?_ | (refine sk_ndec rfl rfl rfl rfl (fun hg => ?_) (fun hg => ?_) <;> first | (exfalso; omega) | (exact absurd rfl hg) | skip))
            refine sg_call (size_tri d E [blk r (rdcells E x), KK, SS, TT, BB, old W]) rfl rfl (fun _ _ => ?_)
            refine sk_back (fun w hO => hO.pick [1, 2, 3, 4, 5, 0, 6] (by decide)) ?_
            repeat' (first | refine sk_nil ?_ | refine sk_pure rfl rfl (ps_pick_f rfl rfl) rfl ?_ | refine sk_pure_g rfl rfl rfl rfl (ps_bin rfl rfl inferInstance) rfl ?_)
            repeat' (first | refine sg_wo ?_ | refine sg_ps (ps_move rfl) rfl ?_ | refine sg_ps (ps_assign rfl) rfl ?_ | refine sg_region ?_ | refine sg_nil ?_ | refine sg_then ?_ | refine sg_ps (ps_add64 rfl rfl (by omega)) rfl ?_ | refine sg_skip ?_ | refine ex_block_normal ?_ | (refine sg_cond_ndec rfl (fun hg => ?_) (fun hg => ?_) <;> first | (exfalso; omega) | (exact absurd rfl hg) | skip))
            refine ex_mid (i + 1, E) ⟨by show 200 - (i + 1) < 200 - i; omega, ⟨by show i + 1 ≤ l.length; omega, by show i + 1 ≤ 200; omega⟩, hE⟩ (.cons rfl (.cons rfl (.cons rfl (.cons rfl .nil)))) (fun w hO => ?_)
            rw [hKK, hSS, hTT, hBB] at hO
            exact (RefRep.shut (L := [DiskRep d E, old W]) x hx (hO.pick [1, 2, 3, 4, 5, 0, 6] (by decide))).front1
        · skip
          repeat' (first | refine sg_wo ?_ | refine sg_ps (ps_move rfl) rfl ?_ | refine sg_seq ?_ | refine sg_region ?_ | refine sg_nil ?_ | refine sg_then ?_ | refine sg_ps (ps_bin rfl rfl inferInstance) rfl ?_ | refine sg_cond_f rfl ?_ | refine sg_guard_yes rfl rfl ?_ | refine sg_guard_nf rfl rfl rfl ?_ | refine sg_ps (ps_pick_t rfl rfl) rfl ?_ | refine sg_ps (ps_pick_f rfl rfl) rfl ?_ | refine sg_ps (ps_len rfl) rfl ?_ | refine sg_exit ?_ | refine ex_then_exit ?_ | refine ex_block_hit ?_ | (refine sg_guard_dec rfl rfl (fun hg => ?_) (fun hg => ?_) <;> first | (exfalso; omega) | (exact absurd rfl hg) | skip) | (refine sg_cond_dec rfl (fun hg => ?_) (fun hg => ?_) <;> first | (exfalso; omega) | (exact absurd rfl hg) | skip))
          all_goals exact ex_mid (D, i) ⟨hD, hi2⟩ (.cons rfl (.cons rfl .nil)) (fun w hO => hO)
      · rintro ⟨D, i⟩ ⟨hD, hi⟩
        dsimp only at hD hi ⊢
        have g1 := hD.len
        refine sg_front1 ?_
        refine RefRep.open fun x hx => ?_
        obtain ⟨l1, l2, l3⟩ := hx.lens
        repeat' (first | refine sg_wo ?_ | refine sg_ps (ps_assign rfl) rfl ?_ | refine sg_seq ?_ | refine sg_region ?_ | refine sg_nil ?_ | refine sg_then ?_ | refine sg_block ?_)
        refine sg_loop (γ := Nat) (fun j => j ≤ k) (fun j => [(5, dp d), (7, dp r), (20, i64 j)])
          (fun _ => [blk r (rdcells D x), sown (some ⟨x.kb, 0, none⟩) x.ks.length x.kc 1 (x.ks.map shdr), sown (some ⟨x.sb, 0, none⟩) x.ss.length x.sc 1 (x.ss.map shdr), sown x.wa x.ws.length x.wc 2 (x.ws.flatMap putc), blks x.ls, DiskRep d D, old W]) (fun j => k - j) 0 (Nat.zero_le _) (.cons rfl (.cons rfl (.cons rfl .nil))) (fun w hO => hO) ?_
        intro j hj
        by_cases hjk : j < k
        · have hjs : j < x.ss.length := by omega
          have hjd : j < D.seen.length := by omega
          have hsk : x.ss[j].2 = D.seen[j] := by
            have h9 := congrArg (fun l => l[j]?) hx.seen
            simp only [List.getElem?_map, List.getElem?_eq_getElem hjs, List.getElem?_eq_getElem hjd, Option.map_some, Option.some.injEq] at h9
            exact h9
          have h64 : x.ss[j].2.length = 64 := by rw [hsk]; exact hx.dok.sec _ (List.getElem_mem hjd)
          have hin := hx.sin _ (List.getElem_mem hjs)
          repeat' (first | refine sg_wo ?_ | refine sg_ps (ps_move rfl) rfl ?_ | refine sg_seq ?_ | refine sg_region ?_ | refine sg_nil ?_ | refine sg_then ?_ | refine sg_ps (ps_fieldAddr rfl) rfl ?_ | refine sg_ps (ps_nilCheck rfl) rfl ?_ | refine sg_load 0 rfl rfl rfl rfl ?_ | refine sg_ps (ps_bin rfl rfl inferInstance) rfl ?_ | refine sg_ps (ps_len rfl) rfl ?_ | refine sg_block ?_ | refine sg_skip ?_ | (refine sg_cond_dec rfl (fun hg => ?_) (fun hg => ?_) <;> first | (exfalso; omega) | (exact absurd rfl hg) | skip))
          refine sg_call ((read_tri d D j [blk r (rdcells D x), sown (some ⟨x.kb, 0, none⟩) x.ks.length x.kc 1 (x.ks.map shdr), sown (some ⟨x.sb, 0, none⟩) x.ss.length x.sc 1 (x.ss.map shdr), sown x.wa x.ws.length x.wc 2 (x.ws.flatMap putc), blks x.ls, old W] hjd).pre (fun w hO => hO.pick [5, 0, 1, 2, 3, 4, 6] (by decide))) rfl rfl (fun rb _ => ?_)
          rw [← hsk]
          repeat' (first | refine sg_wo ?_ | refine sg_ps (ps_move rfl) rfl ?_ | refine sg_ps (ps_assign rfl) rfl ?_ | refine sg_seq ?_ | refine sg_region ?_ | refine sg_nil ?_ | refine sg_then ?_ | refine sg_ps (ps_fieldAddr rfl) rfl ?_ | refine sg_ps (ps_nilCheck rfl) rfl ?_ | refine sg_load 2 rfl rfl rfl rfl ?_ | refine sg_ps (ps_bin rfl rfl inferInstance) rfl ?_ | refine sg_guard_yes rfl rfl ?_ | refine sg_ps (ps_extract rfl rfl) rfl ?_ | refine sg_ps (ps_indexAddr rfl rfl rfl (by omega)) rfl ?_)
          refine sg_load_rd rfl ((rd_sown 4 rfl (fun _ _ h => h)).get j (v := shdr x.ss[j]) (by rw [List.getElem?_map, List.getElem?_eq_getElem hjs]; rfl)) rfl ?_
          repeat' (first | refine sg_wo ?_ | refine sg_guard_yes rfl rfl ?_)
          have hby := rawBytes_tri (W := W) x.ss[j].2 x.ss[j].2 (some ⟨rb, 0, none⟩) (some ⟨x.ss[j].1, 0, none⟩) 64 64 [blk rb (x.ss[j].2.map bv), DiskRep d D, blk r (rdcells D x), sown (some ⟨x.kb, 0, none⟩) x.ks.length x.kc 1 (x.ks.map shdr), sown (some ⟨x.sb, 0, none⟩) x.ss.length x.sc 1 (x.ss.map shdr), sown x.wa x.ws.length x.wc 2 (x.ws.flatMap putc), blks x.ls, old W]
            (rd_blk 0 rfl (fun q u h => by rw [Nat.zero_add]; exact h)) (rd_blks 6 rfl hin (fun q u h => by rw [Nat.zero_add]; exact h))
          rw [h64, decide_eq_true rfl] at hby
          refine sg_call hby rfl rfl (fun _ _ => ?_)
          repeat' (first | refine sg_wo ?_ | refine sg_ps (ps_move rfl) rfl ?_ | refine sg_ps (ps_assign rfl) rfl ?_ | refine sg_region ?_ | refine sg_nil ?_ | refine sg_then ?_ | refine sg_ps (ps_add64 rfl rfl (by omega)) rfl ?_ | refine sg_ps (ps_not rfl) rfl ?_ | refine sg_cond_f rfl ?_ | refine sg_guard_yes rfl rfl ?_ | refine sg_ps (ps_pick_f rfl rfl) rfl ?_ | refine sg_skip ?_ | refine ex_block_normal ?_)
          exact ex_mid (j + 1) ⟨by omega, by omega⟩ (.cons rfl (.cons rfl (.cons rfl .nil))) (fun w hO => hO.pick [2, 3, 4, 5, 6, 1, 7] (by decide))
        · skip
          repeat' (first | refine sg_wo ?_ | refine sg_ps (ps_move rfl) rfl ?_ | refine sg_ps (ps_assign rfl) rfl ?_ | refine sg_seq ?_ | refine sg_region ?_ | refine sg_nil ?_ | refine sg_then ?_ | refine sg_ps (ps_fieldAddr rfl) rfl ?_ | refine sg_ps (ps_nilCheck rfl) rfl ?_ | refine sg_load 0 rfl rfl rfl rfl ?_ | refine sg_ps (ps_bin rfl rfl inferInstance) rfl ?_ | refine sg_ps (ps_len rfl) rfl ?_ | refine sg_ret ?_ | refine sg_exit ?_ | refine ex_then_exit ?_ | refine ex_block_hit ?_ | (refine sg_cond_dec rfl (fun hg => ?_) (fun hg => ?_) <;> first | (exfalso; omega) | (exact absurd rfl hg) | skip))
          exact ex_ret1 rfl rfl () rfl trivial (fun w hO => hO.pick [6] (by decide))
theorem diskPlays_opened (W : World) (vs : List Value) (h : Opens Try.prog W Try.f8.params.toList vs) :
    Tri Try.prog W 8 vs [old W] (X := Unit) (fun _ => .bool true) (fun _ => True) (fun _ => [old W]) := by
  obtain ⟨a0, c0, vs, rfl, e0, h⟩ := Opens.cons (RT.int .i64 Try.underlying3) h
  obtain ⟨a1, c1, vs, rfl, e1, h⟩ := Opens.cons (RT.slice 4 64 Try.underlying37 (by kernel_rfl) (by kernel_rfl) (RT.struct (tot := 4) Try.underlying39 (by kernel_rfl) (RF.cons 1 (RT.int .i64 Try.underlying3) rfl (by kernel_rfl) (RF.cons 1 (RT.int .i64 Try.underlying3) rfl (by kernel_rfl) (RF.cons 1 (RT.slice 1 1 Try.underlying30 (by kernel_rfl) (by kernel_rfl) (RT.u8 Try.underlying5)) rfl (by kernel_rfl) (RF.cons 1 (RT.slice 1 8 Try.underlying23 (by kernel_rfl) (by kernel_rfl) (RT.int .i64 Try.underlying3)) rfl (by kernel_rfl) (RF.nil rfl))))))) h
  obtain rfl := Opens.nil h
  obtain ⟨rfl, hw0⟩ := e0
  obtain ⟨la, lc, rfl, hl⟩ := opsAt6_of e1
  exact diskPlays_tri a0 (wf_i64 hw0) a1 la lc hl
set_option maxRecDepth 100000 in
theorem diskPlays_lifted (os : Os) (started : os.Started) (H : Type) (enc : TypeId × Value → H) :
    ReturnsInHanded {} Try.checked os 8 .any (Rows.diskPlaysSpec.pre6 enc Try.prog Try.f8 Rows.diskPlaysRow.domain false) (Rows.diskPlaysSpec.post enc Try.prog Try.f8 false true false false) :=
  lift (tb := 4) started law_own law_laidOut (by kernel_rfl) Try.func8
    (ChangeSpec.witness6 (enc := enc) (C := Try.checked) false ⟨#[], #[.int .i64 0, .slice none 0 0], []⟩ 8 (by kernel_rfl) (by kernel_rfl) (by kernel_rfl) (by kernel_rfl))
    rfl rfl Try.underlying4 (by kernel_rfl) (fun ds h => by
      match ds, h with
      | [d1, d2], _ => rfl) diskPlays_opened
theorem diskPlays_over : Rows.diskPlaysRow.holds Try.pinned (OpenSpec.ofChange Rows.diskPlaysSpec) :=
  OpenClaim.holds_of_wide 8 Try.f8 rfl rfl rfl rfl rfl rfl rfl ⟨rfl, rfl, rfl, rfl, rfl⟩ rfl rfl rfl rfl rfl (by kernel_rfl) Try.func8 (by kernel_rfl)
    (of_decide_eq_true (by kernel_rfl)) (by unfold Func.isWrapper; first | (rw [if_pos (by decide +kernel)]; kernel_rfl) | (rw [if_neg (by decide +kernel)]; exact ⟨rfl, rfl⟩))
    (fun os started H enc _ => diskPlays_lifted os started H enc)
theorem diskPlays_proved : Rows.DiskPlaysSaid := diskPlays_over
#print axioms diskPlays_proved
end Go.Proofs.Ytbimcdkceoflmaa
