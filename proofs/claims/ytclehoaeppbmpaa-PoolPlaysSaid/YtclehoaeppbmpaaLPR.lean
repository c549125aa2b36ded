/- PoolPlays: any calls in any order, and just these questions to the back. -/
import Derived.Test.YtclehoaeppbmpaaLPQ
import Derived.Test.YtclehoaeppbmpaaRWB
import Derived.Test.YtclehoaeppbmpaaRWL
namespace Go.Proofs.Ytclehoaeppbmpaa
set_option linter.unusedVariables false
set_option linter.unusedSimpArgs false
set_option linter.unusedSectionVars false
set_option linter.unnecessarySimpa false
open Go Go.Proofs
set_option maxRecDepth 20000
set_option maxHeartbeats 8000000
attribute [local irreducible] SG WC WO W1 WD WK PS Rd Tri Exit.then Exit.inBlock bodyPost calmQ Mid sadd
variable {W : World} {n : Nat} {F : Fr} {L : List HP} {G : Act → World → Prop}
theorem pnew_bad (bp : Nat) (most : Int) (R : List HP) (hm : most < 1 ∨ 4096 < most) :
    Tri Try.prog W 9 [.iface 24 (dp bp), i64 most] R (X := Unit) (fun _ => .tuple #[.pointer none, i64 1]) (fun _ => True) (fun _ => R) := by
  refine tri_enter2 Try.func9 rfl Try.ntmps9 rfl ?_
  rcases hm with hm | hm
  · skip
    repeat' (first | refine sg_wo ?_ | refine sg_ps (ps_move rfl) rfl ?_ | refine sg_ps (ps_assign rfl) rfl ?_ | refine sg_seq ?_ | refine sg_region ?_ | refine sg_nil ?_ | refine sg_then ?_ | refine sg_ps (ps_bin rfl rfl inferInstance) rfl ?_ | refine sg_cond_t rfl ?_ | refine sg_guard_nt rfl rfl rfl ?_ | refine sg_ps (ps_pick_t rfl rfl) rfl ?_ | refine sg_ret ?_ | refine ex_then_ret ?_ | (refine sg_guard_dec rfl rfl (fun hg => ?_) (fun hg => ?_) <;> first | (exfalso; omega) | (exact absurd rfl hg) | skip))
    exact ex_ret2 rfl rfl rfl () rfl trivial (fun w hO => hO)
  · skip
    repeat' (first | refine sg_wo ?_ | refine sg_ps (ps_move rfl) rfl ?_ | refine sg_ps (ps_assign rfl) rfl ?_ | refine sg_seq ?_ | refine sg_region ?_ | refine sg_nil ?_ | refine sg_then ?_ | refine sg_ps (ps_bin rfl rfl inferInstance) rfl ?_ | refine sg_guard_yes rfl rfl ?_ | refine sg_ps (ps_pick_f rfl rfl) rfl ?_ | refine sg_ret ?_ | refine ex_then_ret ?_ | (refine sg_guard_dec rfl rfl (fun hg => ?_) (fun hg => ?_) <;> first | (exfalso; omega) | (exact absurd rfl hg) | skip) | (refine sg_cond_dec rfl (fun hg => ?_) (fun hg => ?_) <;> first | (exfalso; omega) | (exact absurd rfl hg) | skip))
    exact ex_ret2 rfl rfl rfl () rfl trivial (fun w hO => hO)
theorem own_sep_nil {w : World} {L : List HP} (hO : Own W w L) : Own W w (sepL [] :: L) := Own.join (L1 := []) hO
theorem poolPlays_tri (most : Int) (la : Option Addr) (lc : Nat) (l : List OpP) (hl : OpsPAt W l la) :
    Tri Try.prog W 6 [i64 most, .slice la l.length lc] [old W] (X := Unit) (fun _ => .bool true) (fun _ => True) (fun _ => [old W]) := by
  obtain ⟨hl0, hll, hl⟩ := hl
  refine tri_enter2 Try.func6 rfl Try.ntmps6 rfl ?_
  repeat' (first | refine sg_wo ?_ | refine sg_ps (ps_assign rfl) rfl ?_ | refine sg_seq ?_ | refine sg_region ?_ | refine sg_nil ?_ | refine sg_then ?_)
  refine sg_call (awake_tri _) rfl rfl (fun _ _ => ?_)
  repeat' (first | refine sg_wo ?_ | refine sg_seq ?_ | refine sg_region ?_ | refine sg_nil ?_ | refine sg_then ?_ | refine sg_ps (ps_not rfl) rfl ?_ | refine sg_cond_f rfl ?_ | refine sg_skip ?_)
  refine sg_call (lback_tri _) rfl rfl (fun b1 _ => ?_)
  repeat' (first | refine sg_wo ?_ | refine sg_ps (ps_assign rfl) rfl ?_ | refine sg_seq ?_ | refine sg_region ?_ | refine sg_nil ?_ | refine sg_then ?_)
  refine sg_call (lback_tri _) rfl rfl (fun b2 _ => ?_)
  repeat' (first | refine sg_wo ?_ | refine sg_ps (ps_move rfl) rfl ?_ | refine sg_ps (ps_assign rfl) rfl ?_ | refine sg_seq ?_ | refine sg_region ?_ | refine sg_nil ?_ | refine sg_then ?_)
  refine sg_ps (ps_makeIf Try.underlying24 rfl) rfl ?_
  repeat' (first | refine sg_wo ?_ | refine sg_ps (ps_move rfl) rfl ?_)
  by_cases hm : most < 1 ∨ 4096 < most
  · refine sg_call (pnew_bad b1 most _ hm) rfl rfl (fun _ _ => ?_)
    rcases hm with hm | hm
    · skip
      repeat' (first | refine sg_wo ?_ | refine sg_ps (ps_move rfl) rfl ?_ | refine sg_ps (ps_assign rfl) rfl ?_ | refine sg_seq ?_ | refine sg_region ?_ | refine sg_nil ?_ | refine sg_then ?_ | refine sg_ps (ps_bin rfl rfl inferInstance) rfl ?_ | refine sg_cond_t rfl ?_ | refine sg_guard_yes rfl rfl ?_ | refine sg_guard_nt rfl rfl rfl ?_ | refine sg_ps (ps_pick_t rfl rfl) rfl ?_ | refine sg_ps (ps_extract rfl rfl) rfl ?_ | refine sg_ret ?_ | refine ex_then_ret ?_ | (refine sg_guard_dec rfl rfl (fun hg => ?_) (fun hg => ?_) <;> first | (exfalso; omega) | (exact absurd rfl hg) | skip))
      exact ex_ret1 rfl rfl () rfl trivial (fun w hO => hO.tail.tail)
    · skip
      repeat' (first | refine sg_wo ?_ | refine sg_ps (ps_move rfl) rfl ?_ | refine sg_ps (ps_assign rfl) rfl ?_ | refine sg_seq ?_ | refine sg_region ?_ | refine sg_nil ?_ | refine sg_then ?_ | refine sg_ps (ps_bin rfl rfl inferInstance) rfl ?_ | refine sg_guard_yes rfl rfl ?_ | refine sg_ps (ps_pick_t rfl rfl) rfl ?_ | refine sg_ps (ps_pick_f rfl rfl) rfl ?_ | refine sg_ps (ps_extract rfl rfl) rfl ?_ | refine sg_ret ?_ | refine ex_then_ret ?_ | (refine sg_guard_dec rfl rfl (fun hg => ?_) (fun hg => ?_) <;> first | (exfalso; omega) | (exact absurd rfl hg) | skip) | (refine sg_cond_dec rfl (fun hg => ?_) (fun hg => ?_) <;> first | (exfalso; omega) | (exact absurd rfl hg) | skip))
      exact ex_ret1 rfl rfl () rfl trivial (fun w hO => hO.tail.tail)
  refine sg_call (pnew_tri b1 most _ (by omega)) rfl rfl (fun p _ => ?_)
  have hm2 : 1 ≤ most ∧ most ≤ 4096 := by omega
  clear hm
  repeat' (first | refine sg_wo ?_ | refine sg_ps (ps_move rfl) rfl ?_ | refine sg_ps (ps_assign rfl) rfl ?_ | refine sg_seq ?_ | refine sg_region ?_ | refine sg_nil ?_ | refine sg_then ?_ | refine sg_ps (ps_bin rfl rfl inferInstance) rfl ?_ | refine sg_cond_f rfl ?_ | refine sg_guard_yes rfl rfl ?_ | refine sg_ps (ps_pick_f rfl rfl) rfl ?_ | refine sg_ps (ps_extract rfl rfl) rfl ?_ | refine sg_ps (ps_build rfl rfl) rfl ?_ | refine sg_box rfl rfl (fun bx => ?_) | refine sg_block ?_ | refine sg_skip ?_ | (refine sg_guard_dec rfl rfl (fun hg => ?_) (fun hg => ?_) <;> first | (exfalso; omega) | (exact absurd rfl hg) | skip) | (refine sg_cond_dec rfl (fun hg => ?_) (fun hg => ?_) <;> first | (exfalso; omega) | (exact absurd rfl hg) | skip))
  refine sg_loop (γ := Nat × PlS × BkS) (fun g => (g.1 ≤ l.length ∧ g.1 ≤ 200) ∧ P13 g.1 g.2.1 g.2.2) (fun g => [(1, .slice la l.length lc), (5, dp b1), (6, dp b2), (7, dp p), (9, dp bx), (10, i64 g.1)]) (fun g => [PoolRep p b1 g.2.1, BackRep b1 g.2.2, RPool bx b2 g.2.1, BackRep b2 g.2.2, old W]) (fun g => 200 - g.1) (0, ⟨most, [], 0⟩, backK 6)
    ⟨⟨Nat.zero_le _, Nat.zero_le _⟩, P13.start⟩ (.cons rfl (.cons rfl (.cons rfl (.cons rfl (.cons rfl (.cons rfl .nil)))))) (fun w hO => ?_) ?_
  · have k1 : Own W w (blk bx [dp b2, i64 most, .slice none 0 0, i64 0] :: PoolRep p b1 ⟨most, [], 0⟩ :: BackRep b2 (backK 6) :: BackRep b1 (backK 6) :: [old W]) := hO
    have k2 := own_sep_nil (own_nil (sz := 5) k1)
    have k3 : Own W w (RPool bx b2 ⟨most, [], 0⟩ :: _) := RPool.shut (T := []) (ra := none) (rc := 0) rfl (Own.pickA [_, _, _] k2 [2, 1, 0] (by decide))
    exact k3.pick [1, 3, 0, 2, 4] (by decide)
  rintro ⟨i, S, B⟩ ⟨⟨hi1, hi2⟩, hI⟩
  dsimp only at hi1 hi2 hI ⊢
  by_cases hi : i < l.length ∧ i < 200
  case neg =>
    repeat' (first | refine sg_wo ?_ | refine sg_ps (ps_move rfl) rfl ?_ | refine sg_ps (ps_assign rfl) rfl ?_ | refine sg_seq ?_ | refine sg_region ?_ | refine sg_nil ?_ | refine sg_then ?_ | refine sg_ps (ps_bin rfl rfl inferInstance) rfl ?_ | refine sg_cond_f rfl ?_ | refine sg_guard_yes rfl rfl ?_ | refine sg_guard_nf rfl rfl rfl ?_ | refine sg_ps (ps_pick_t rfl rfl) rfl ?_ | refine sg_ps (ps_pick_f rfl rfl) rfl ?_ | refine sg_ps (ps_len rfl) rfl ?_ | refine sg_ret ?_ | refine sg_exit ?_ | refine ex_then_exit ?_ | refine ex_block_hit ?_ | (refine sg_guard_dec rfl rfl (fun hg => ?_) (fun hg => ?_) <;> first | (exfalso; omega) | (exact absurd rfl hg) | skip) | (refine sg_cond_dec rfl (fun hg => ?_) (fun hg => ?_) <;> first | (exfalso; omega) | (exact absurd rfl hg) | skip))
    all_goals exact ex_ret1 rfl rfl () rfl trivial (fun w hO => hO.pick [4] (by decide))
  obtain ⟨hil, hi200⟩ := hi
  obtain ⟨lb, lo, rfl⟩ := hl0 (by omega)
  obtain ⟨bb, bc, id, hid, hid2, hb2, hb3, hb4, r0, r1, hbn⟩ := hl i hil lb lo rfl
  generalize l[i] = x at hid hb2 hb3 hb4 r0 r1 hbn
  obtain ⟨kd, nn, id0, bs, u⟩ := x
  dsimp only at hid hb2 hb3 hb4 r0 r1 hbn
  obtain ⟨kk, hkk0, hkk8⟩ := rem_nat kd 8 (by omega)
  have hkk : (kd.tmod 8 + 8).tmod 8 = (kk : Int) := hkk0
  have hkrl := rem_lt kd (m := 8) (by omega)
  have hbl : bs.length ≤ bigB := by unfold bigB; omega
  refine sg_seq ?_
  refine sg_seq ?_
  repeat' (first | refine sg_wo ?_ | refine sg_ps (ps_move rfl) rfl ?_ | refine sg_region ?_ | refine sg_nil ?_ | refine sg_then ?_ | refine sg_ps (ps_bin rfl rfl inferInstance) rfl ?_ | refine sg_guard_yes rfl rfl ?_ | refine sg_ps (ps_pick_t rfl rfl) rfl ?_ | refine sg_ps (ps_len rfl) rfl ?_ | refine sg_skip ?_ | (refine sg_guard_dec rfl rfl (fun hg => ?_) (fun hg => ?_) <;> first | (exfalso; omega) | (exact absurd rfl hg) | skip) | (refine sg_cond_dec rfl (fun hg => ?_) (fun hg => ?_) <;> first | (exfalso; omega) | (exact absurd rfl hg) | skip))
  refine sg_seq ?_
  repeat' (first | refine sg_block ?_)
  refine sg_seq ?_
  repeat' (first | refine sg_wo ?_ | refine sg_ps (ps_move rfl) rfl ?_ | refine sg_region ?_ | refine sg_ps (ps_indexAddr rfl rfl rfl (by omega)) rfl ?_)
  refine sg_load_agg_rd rfl rfl (r0.rd 4 rfl) rfl ?_
  repeat' (first | refine sg_wo ?_ | refine sg_nil ?_ | refine sg_then ?_ | refine sg_store_whole [] rfl rfl rfl rfl rfl ?_ | refine sg_alloc rfl (fun al => ?_))
  refine sg_seq ?_
  repeat' (first | refine sg_wo ?_ | refine sg_ps (ps_assign rfl) rfl ?_ | refine sg_region ?_ | refine sg_nil ?_ | refine sg_then ?_)
  refine sg_own (L' := [PoolRep p b1 S, BackRep b1 B, RPool bx b2 S, BackRep b2 B, blk al [i64 kd, i64 nn, u64 id, .slice bb bs.length bc], old W]) (fun w hO => hO.pick [1, 2, 3, 4, 0, 5] (by decide)) ?_
  refine sg_seq_mid (γ := PlS × BkS × Int) (fun g => P13 (i + 1) g.1 g.2.1) (fun g => [(1, .slice (some ⟨lb, lo, none⟩) l.length lc), (5, dp b1), (6, dp b2), (7, dp p), (9, dp bx), (10, i64 i), (12, i64 g.2.2), (13, i64 g.2.2)])
    (fun g => [PoolRep p b1 g.1, BackRep b1 g.2.1, RPool bx b2 g.1, BackRep b2 g.2.1, old W]) ?_ ?_
  · refine sg_seq ?_
    repeat' (first | refine sg_wo ?_ | refine sg_region ?_ | refine sg_nil ?_ | refine sg_then ?_ | refine sg_ps (ps_fieldAddr rfl) rfl ?_ | refine sg_load 4 rfl rfl rfl rfl ?_ | refine sg_ps (ps_add64 rfl rfl (by omega)) rfl ?_ | refine sg_ps (ps_rem rfl rfl (by decide)) rfl ?_ | refine sg_block ?_)
    rw [hkk]
    have hF := hI.fit
    have hpos := QP.pos hI.pins
    have hw64 : ∀ z : Int, z = z := fun z => rfl
    rcases (by omega : kk = 0 ∨ kk = 1 ∨ kk = 2 ∨ kk = 3 ∨ kk = 4 ∨ kk = 5 ∨ kk = 6 ∨ kk = 7) with rfl | rfl | rfl | rfl | rfl | rfl | rfl | rfl
    · have hE := hI.get id
      have hg1 := pget_tri (W := W) p b1 S B id [RPool bx b2 S, BackRep b2 B, blk al [i64 kd, i64 nn, u64 id, .slice bb bs.length bc], old W] hF (by omega)
      have hg2 := fun R => rget_tri (W := W) bx b2 S B id 0 R hF (by omega) hpos (pinK_pos hI.pins (by omega) id 0 (.inl rfl))
      rw [rget_get hI.pins (by omega) id] at hg2
      generalize getS S B id = q at hE hg1 hg2
      obtain ⟨ov, S2, B2⟩ := q
      dsimp only at hE hg1 hg2
      repeat' (first | refine sg_wo ?_ | refine sg_ps (ps_move rfl) rfl ?_ | refine sg_ps (ps_assign rfl) rfl ?_ | refine sg_seq ?_ | refine sg_region ?_ | refine sg_nil ?_ | refine sg_then ?_ | refine sg_ps (ps_fieldAddr rfl) rfl ?_ | refine sg_load 4 rfl rfl rfl rfl ?_ | refine sg_ps (ps_bin rfl rfl inferInstance) rfl ?_ | refine sg_cond_t rfl ?_)
      refine sg_call hg1 rfl rfl (fun z _ => ?_)
      obtain ⟨za, zc⟩ := z
      dsimp only
      repeat' (first | refine sg_wo ?_ | refine sg_ps (ps_move rfl) rfl ?_ | refine sg_ps (ps_assign rfl) rfl ?_ | refine sg_seq ?_ | refine sg_region ?_ | refine sg_nil ?_ | refine sg_then ?_ | refine sg_ps (ps_fieldAddr rfl) rfl ?_ | refine sg_load 5 rfl rfl rfl rfl ?_ | refine sg_ps (ps_extract rfl rfl) rfl ?_)
      refine sg_call ((hg2 [sown za (ov.getD []).length zc 1 ((ov.getD []).map bv), PoolRep p b1 S2, BackRep b1 B2, blk al [i64 kd, i64 nn, u64 id, .slice bb bs.length bc], old W]).pre (fun w hO => hO.pick [3, 4, 0, 1, 2, 5, 6] (by decide))) rfl rfl (fun y _ => ?_)
      obtain ⟨ya, yc⟩ := y
      dsimp only
      generalize ov.getD [] = v
      generalize (if ov.isSome = true then (0 : Int) else 2) = e
      repeat' (first | refine sg_wo ?_ | refine sg_ps (ps_move rfl) rfl ?_ | refine sg_ps (ps_assign rfl) rfl ?_ | refine sg_seq ?_ | refine sg_region ?_ | refine sg_nil ?_ | refine sg_then ?_ | refine sg_ps (ps_extract rfl rfl) rfl ?_)
      refine sg_call (rawBytes_tri v v za ya zc yc _ (rd_sown 3 rfl fun _ _ h => h) (rd_sown 0 rfl fun _ _ h => h)) rfl rfl (fun _ _ => ?_)
      rw [show decide (v = v) = true from decide_eq_true rfl]
      repeat' (first | refine sg_wo ?_ | refine sg_ps (ps_assign rfl) rfl ?_ | refine sg_seq ?_ | refine sg_region ?_ | refine sg_nil ?_ | refine sg_then ?_ | refine sg_ps (ps_not rfl) rfl ?_ | refine sg_cond_f rfl ?_ | refine sg_block ?_ | refine sg_skip ?_)
      by_cases hz0 : v.length = 0
      · refine sg_loop (γ := Unit) (fun _ => True) (fun _ => [(1, .slice (some ⟨lb, lo, none⟩) l.length lc), (5, dp b1), (6, dp b2), (7, dp p), (9, dp bx), (10, i64 i), (12, i64 e), (13, i64 e), (14, .slice za v.length zc), (16, i64 0)])
          (fun _ => [PoolRep p b1 S2, BackRep b1 B2, RPool bx b2 S2, BackRep b2 B2, old W]) (fun _ => 0) () trivial (.cons rfl (.cons rfl (.cons rfl (.cons rfl (.cons rfl (.cons rfl (.cons rfl (.cons rfl (.cons rfl (.cons rfl .nil)))))))))) (fun w hO => hO.pick [4, 5, 1, 2, 7] (by decide)) ?_
        intro _ _
        repeat' (first | refine sg_wo ?_ | refine sg_ps (ps_move rfl) rfl ?_ | refine sg_seq ?_ | refine sg_region ?_ | refine sg_nil ?_ | refine sg_then ?_ | refine sg_ps (ps_bin rfl rfl inferInstance) rfl ?_ | refine sg_ps (ps_len rfl) rfl ?_ | refine sg_exit ?_ | refine ex_then_exit ?_ | refine ex_block_normal ?_ | refine ex_block_hit ?_ | (refine sg_cond_dec rfl (fun hg => ?_) (fun hg => ?_) <;> first | (exfalso; omega) | (exact absurd rfl hg) | skip))
        exact ex_mid (S2, B2, e) hE (.cons rfl (.cons rfl (.cons rfl (.cons rfl (.cons rfl (.cons rfl (.cons rfl (.cons rfl .nil)))))))) (fun w hO => hO)
      · refine sg_open (fun w hO => own_block (by omega) (hO.pick [3, 4, 5, 1, 2, 7] (by decide))) ?_
        rintro ⟨g, cur⟩ ⟨hg0, h3, h4, h5, h6⟩
        dsimp only at hg0 h3 h4 h5 h6 ⊢
        subst hg0
        refine sg_loop (γ := Nat × List Value) (fun y => y.1 ≤ v.length ∧ y.2.length = cur.length) (fun y => [(1, .slice (some ⟨lb, lo, none⟩) l.length lc), (5, dp b1), (6, dp b2), (7, dp p), (9, dp bx), (10, i64 i), (12, i64 e), (13, i64 e), (14, .slice (some ⟨g, 0, none⟩) v.length zc), (16, i64 y.1)])
          (fun y => [blk g y.2, PoolRep p b1 S2, BackRep b1 B2, RPool bx b2 S2, BackRep b2 B2, old W]) (fun y => v.length - y.1) (0, cur) ⟨Nat.zero_le _, rfl⟩ (.cons rfl (.cons rfl (.cons rfl (.cons rfl (.cons rfl (.cons rfl (.cons rfl (.cons rfl (.cons rfl (.cons rfl .nil)))))))))) (fun w hO => hO) ?_
        rintro ⟨j, c2⟩ ⟨hj, hc2⟩
        dsimp only at hj hc2 ⊢
        by_cases hjl : j < v.length
        · skip
          repeat' (first | refine sg_wo ?_ | refine sg_ps (ps_move rfl) rfl ?_ | refine sg_seq ?_ | refine sg_region ?_ | refine sg_nil ?_ | refine sg_then ?_ | refine sg_ps (ps_bin rfl rfl inferInstance) rfl ?_ | refine sg_ps (ps_len rfl) rfl ?_ | refine sg_ps (ps_indexAddr rfl rfl rfl (by omega)) rfl ?_ | refine sg_block ?_ | refine sg_skip ?_ | (refine sg_cond_dec rfl (fun hg => ?_) (fun hg => ?_) <;> first | (exfalso; omega) | (exact absurd rfl hg) | skip))
          refine sg_store [] rfl rfl rfl (by omega) ?_
          repeat' (first | refine sg_wo ?_ | refine sg_ps (ps_move rfl) rfl ?_ | refine sg_ps (ps_assign rfl) rfl ?_ | refine sg_region ?_ | refine sg_nil ?_ | refine sg_then ?_ | refine sg_ps (ps_add64 rfl rfl (by omega)) rfl ?_ | refine ex_block_normal ?_)
          exact ex_mid (j + 1, _) ⟨by show v.length - (j + 1) < v.length - j; omega, by show j + 1 ≤ v.length; omega, by show (c2.set _ _).length = _; rw [List.length_set]; exact hc2⟩ (.cons rfl (.cons rfl (.cons rfl (.cons rfl (.cons rfl (.cons rfl (.cons rfl (.cons rfl (.cons rfl (.cons rfl .nil)))))))))) (fun w hO => hO)
        · skip
          repeat' (first | refine sg_wo ?_ | refine sg_ps (ps_move rfl) rfl ?_ | refine sg_seq ?_ | refine sg_region ?_ | refine sg_nil ?_ | refine sg_then ?_ | refine sg_ps (ps_bin rfl rfl inferInstance) rfl ?_ | refine sg_ps (ps_len rfl) rfl ?_ | refine sg_exit ?_ | refine ex_then_exit ?_ | refine ex_block_normal ?_ | refine ex_block_hit ?_ | (refine sg_cond_dec rfl (fun hg => ?_) (fun hg => ?_) <;> first | (exfalso; omega) | (exact absurd rfl hg) | skip))
          exact ex_mid (S2, B2, e) hE (.cons rfl (.cons rfl (.cons rfl (.cons rfl (.cons rfl (.cons rfl (.cons rfl (.cons rfl .nil)))))))) (fun w hO => hO.tail)
    · have hE := hI.put id hbl
      have hg1 := fun xa xc R hr hn => pput_tri (W := W) p b1 S B id bs xa xc R hF (by omega) hbl hr hn
      have hg2 := fun R hr => rput_tri (W := W) bx b2 S B id bs bb bc R hF (by omega) hbl hpos hr
      generalize putP S B id bs = q at hE hg1 hg2
      obtain ⟨S2, B2⟩ := q
      dsimp only at hE hg1 hg2
      repeat' (first | refine sg_wo ?_ | refine sg_ps (ps_assign rfl) rfl ?_ | refine sg_seq ?_ | refine sg_region ?_ | refine sg_nil ?_ | refine sg_then ?_ | refine sg_ps (ps_fieldAddr rfl) rfl ?_ | refine sg_load 4 rfl rfl rfl rfl ?_ | refine sg_ps (ps_bin rfl rfl inferInstance) rfl ?_ | refine sg_cond_t rfl ?_ | refine sg_cond_f rfl ?_)
      refine sg_call (rawLent_tri bs bb bc (by omega) _ (r1.rd 5 rfl)) rfl rfl (fun x hx => ?_)
      obtain ⟨g, c, cur⟩ := x
      dsimp only at hx ⊢
      repeat' (first | refine sg_wo ?_ | refine sg_ps (ps_move rfl) rfl ?_ | refine sg_ps (ps_assign rfl) rfl ?_ | refine sg_seq ?_ | refine sg_region ?_ | refine sg_nil ?_ | refine sg_then ?_ | refine sg_ps (ps_fieldAddr rfl) rfl ?_ | refine sg_load 5 rfl rfl rfl rfl ?_)
      refine sg_call ((hg1 (some ⟨g, 0, none⟩) c [blk g cur, RPool bx b2 S, BackRep b2 B, blk al [i64 kd, i64 nn, u64 id, .slice bb bs.length bc], old W] (fun L => rd_blk L.length (by rw [List.getElem?_append_right (Nat.le_refl _), Nat.sub_self]; rfl) hx.get) (fun h => by cases h)).pre (fun w hO => hO.pick [1, 2, 0, 3, 4, 5, 6] (by decide))) rfl rfl (fun _ _ => ?_)
      repeat' (first | refine sg_wo ?_ | refine sg_ps (ps_move rfl) rfl ?_ | refine sg_seq ?_ | refine sg_region ?_ | refine sg_nil ?_ | refine sg_then ?_ | refine sg_ps (ps_fieldAddr rfl) rfl ?_ | refine sg_load 5 rfl rfl rfl rfl ?_)
      refine sg_call ((hg2 [PoolRep p b1 S2, BackRep b1 B2, blk g cur, blk al [i64 kd, i64 nn, u64 id, .slice bb bs.length bc], old W] (rdo_tailP r1 4 rfl)).pre (fun w hO => hO.pick [3, 4, 0, 1, 2, 5, 6] (by decide))) rfl rfl (fun _ _ => ?_)
      repeat' (first | refine sg_wo ?_ | refine sg_ps (ps_move rfl) rfl ?_ | refine sg_seq ?_ | refine sg_region ?_ | refine sg_nil ?_ | refine sg_then ?_ | refine sg_ps (ps_fieldAddr rfl) rfl ?_ | refine sg_load 5 rfl rfl rfl rfl ?_)
      refine sg_call ((rawKept_tri bs g c cur hx bb bc [RPool bx b2 S2, BackRep b2 B2, PoolRep p b1 S2, BackRep b1 B2, blk al [i64 kd, i64 nn, u64 id, .slice bb bs.length bc], old W] (r1.rd 5 rfl)).pre (fun w hO => hO.pick [4, 0, 1, 2, 3, 5, 6] (by decide))) rfl rfl (fun _ _ => ?_)
      have hxl := hx.len
      have hxr := hx.room
      repeat' (first | refine sg_wo ?_ | refine sg_ps (ps_assign rfl) rfl ?_ | refine sg_seq ?_ | refine sg_region ?_ | refine sg_nil ?_ | refine sg_then ?_ | refine sg_ps (ps_not rfl) rfl ?_ | refine sg_cond_f rfl ?_ | refine sg_block ?_ | refine sg_skip ?_)
      refine sg_loop (γ := Nat × List Value) (fun y => y.1 ≤ bs.length ∧ y.2.length = cur.length) (fun y => [(1, .slice (some ⟨lb, lo, none⟩) l.length lc), (5, dp b1), (6, dp b2), (7, dp p), (9, dp bx), (10, i64 i), (12, i64 0), (13, i64 0), (17, .slice (some ⟨g, 0, none⟩) bs.length c), (18, i64 y.1)])
        (fun y => [blk g y.2, PoolRep p b1 S2, BackRep b1 B2, RPool bx b2 S2, BackRep b2 B2, old W]) (fun y => bs.length - y.1) (0, cur) ⟨Nat.zero_le _, rfl⟩ (.cons rfl (.cons rfl (.cons rfl (.cons rfl (.cons rfl (.cons rfl (.cons rfl (.cons rfl (.cons rfl (.cons rfl .nil)))))))))) (fun w hO => hO.pick [0, 3, 4, 1, 2, 6] (by decide)) ?_
      rintro ⟨j, c2⟩ ⟨hj, hc2⟩
      dsimp only at hj hc2 ⊢
      by_cases hjl : j < bs.length
      · skip
        repeat' (first | refine sg_wo ?_ | refine sg_ps (ps_move rfl) rfl ?_ | refine sg_seq ?_ | refine sg_region ?_ | refine sg_nil ?_ | refine sg_then ?_ | refine sg_ps (ps_bin rfl rfl inferInstance) rfl ?_ | refine sg_ps (ps_len rfl) rfl ?_ | refine sg_ps (ps_indexAddr rfl rfl rfl (by omega)) rfl ?_ | refine sg_block ?_ | refine sg_skip ?_ | (refine sg_cond_dec rfl (fun hg => ?_) (fun hg => ?_) <;> first | (exfalso; omega) | (exact absurd rfl hg) | skip))
        refine sg_store [] rfl rfl rfl (by omega) ?_
        repeat' (first | refine sg_wo ?_ | refine sg_ps (ps_move rfl) rfl ?_ | refine sg_ps (ps_assign rfl) rfl ?_ | refine sg_region ?_ | refine sg_nil ?_ | refine sg_then ?_ | refine sg_ps (ps_add64 rfl rfl (by omega)) rfl ?_ | refine ex_block_normal ?_)
        exact ex_mid (j + 1, _) ⟨by show bs.length - (j + 1) < bs.length - j; omega, by show j + 1 ≤ bs.length; omega, by show (c2.set _ _).length = _; rw [List.length_set]; exact hc2⟩ (.cons rfl (.cons rfl (.cons rfl (.cons rfl (.cons rfl (.cons rfl (.cons rfl (.cons rfl (.cons rfl (.cons rfl .nil)))))))))) (fun w hO => hO)
      · skip
        repeat' (first | refine sg_wo ?_ | refine sg_ps (ps_move rfl) rfl ?_ | refine sg_seq ?_ | refine sg_region ?_ | refine sg_nil ?_ | refine sg_then ?_ | refine sg_ps (ps_bin rfl rfl inferInstance) rfl ?_ | refine sg_ps (ps_len rfl) rfl ?_ | refine sg_exit ?_ | refine ex_then_exit ?_ | refine ex_block_normal ?_ | refine ex_block_hit ?_ | (refine sg_cond_dec rfl (fun hg => ?_) (fun hg => ?_) <;> first | (exfalso; omega) | (exact absurd rfl hg) | skip))
        exact ex_mid (S2, B2, 0) hE (.cons rfl (.cons rfl (.cons rfl (.cons rfl (.cons rfl (.cons rfl (.cons rfl (.cons rfl .nil)))))))) (fun w hO => hO.tail)
    · have hE := hI.drop id
      repeat' (first | refine sg_wo ?_ | refine sg_ps (ps_move rfl) rfl ?_ | refine sg_ps (ps_assign rfl) rfl ?_ | refine sg_seq ?_ | refine sg_region ?_ | refine sg_nil ?_ | refine sg_then ?_ | refine sg_ps (ps_fieldAddr rfl) rfl ?_ | refine sg_load 4 rfl rfl rfl rfl ?_ | refine sg_ps (ps_bin rfl rfl inferInstance) rfl ?_ | refine sg_cond_t rfl ?_ | refine sg_cond_f rfl ?_)
      refine sg_call (pdrop_tri p b1 S id _ (by have := hI.len; omega) (by have := hI.len; rcases hF.hand with h | ⟨_, h⟩ <;> omega)) rfl rfl (fun _ _ => ?_)
      repeat' (first | refine sg_wo ?_ | refine sg_ps (ps_move rfl) rfl ?_ | refine sg_region ?_ | refine sg_nil ?_ | refine sg_then ?_ | refine sg_ps (ps_fieldAddr rfl) rfl ?_ | refine sg_load 4 rfl rfl rfl rfl ?_)
      refine sg_call ((rdrop_tri bx b2 S id [PoolRep p b1 (dropS S id), BackRep b1 B, BackRep b2 B, blk al [i64 kd, i64 nn, u64 id, .slice bb bs.length bc], old W] (by have := hI.len; omega) (by have := hI.len; rcases hF.hand with h | ⟨_, h⟩ <;> omega)).pre (fun w hO => hO.pick [2, 0, 1, 3, 4, 5] (by decide))) rfl rfl (fun _ _ => ?_)
      repeat' (first | refine sg_nil ?_ | refine ex_block_normal ?_)
      exact ex_mid (dropS S id, B, 0) hE (.cons rfl (.cons rfl (.cons rfl (.cons rfl (.cons rfl (.cons rfl (.cons rfl (.cons rfl .nil)))))))) (fun w hO => hO.pick [1, 2, 0, 3, 5] (by decide))
    · have hE := hI.pin (by omega) id
      have hg1 := ppin_tri (W := W) p b1 S B id [RPool bx b2 S, BackRep b2 B, blk al [i64 kd, i64 nn, u64 id, .slice bb bs.length bc], old W] hF (by omega)
      have hg2 := fun R => rget_tri (W := W) bx b2 S B id 1 R hF (by omega) hpos (pinK_pos hI.pins (by omega) id 1 (.inr rfl))
      obtain ⟨e1, e2⟩ := rget_pin S B id
      generalize rgetS S B id 1 = q2 at hg2 e1 e2
      obtain ⟨ov, SB⟩ := q2
      dsimp only at e1 e2
      subst e1
      generalize pinS S B id = q at hE hg1 hg2 e2
      obtain ⟨e, S2, B2⟩ := q
      dsimp only at hE hg1 hg2 e2
      rw [e2] at hg2
      repeat' (first | refine sg_wo ?_ | refine sg_ps (ps_move rfl) rfl ?_ | refine sg_ps (ps_assign rfl) rfl ?_ | refine sg_seq ?_ | refine sg_region ?_ | refine sg_nil ?_ | refine sg_then ?_ | refine sg_ps (ps_fieldAddr rfl) rfl ?_ | refine sg_load 4 rfl rfl rfl rfl ?_ | refine sg_ps (ps_bin rfl rfl inferInstance) rfl ?_ | refine sg_cond_t rfl ?_ | refine sg_cond_f rfl ?_)
      refine sg_call hg1 rfl rfl (fun _ _ => ?_)
      repeat' (first | refine sg_wo ?_ | refine sg_ps (ps_move rfl) rfl ?_ | refine sg_ps (ps_assign rfl) rfl ?_ | refine sg_region ?_ | refine sg_nil ?_ | refine sg_then ?_ | refine sg_ps (ps_fieldAddr rfl) rfl ?_ | refine sg_load 4 rfl rfl rfl rfl ?_)
      refine sg_call ((hg2 [PoolRep p b1 S2, BackRep b1 B2, blk al [i64 kd, i64 nn, u64 id, .slice bb bs.length bc], old W]).pre (fun w hO => hO.pick [2, 3, 0, 1, 4, 5] (by decide))) rfl rfl (fun y _ => ?_)
      repeat' (first | refine sg_wo ?_ | refine sg_ps (ps_move rfl) rfl ?_ | refine sg_ps (ps_assign rfl) rfl ?_ | refine sg_nil ?_ | refine sg_ps (ps_extract rfl rfl) rfl ?_ | refine ex_block_normal ?_)
      exact ex_mid (S2, B2, e) hE (.cons rfl (.cons rfl (.cons rfl (.cons rfl (.cons rfl (.cons rfl (.cons rfl (.cons rfl .nil)))))))) (fun w hO => hO.pick [3, 4, 1, 2, 6] (by decide))
    · have hE := hI.unpin (by omega) id
      have hg1 := punpin_tri (W := W) p b1 S B id [RPool bx b2 S, BackRep b2 B, blk al [i64 kd, i64 nn, u64 id, .slice bb bs.length bc], old W] hF (by omega)
      have hg2 := fun R => runpin_tri (W := W) bx b2 S B id R hF (by omega) hpos (fun j => by
        by_cases hp : pinsAt S j = 0
        · exact .inr hp
        · exact .inl (QP.pos (unpin_row (by omega) hI.pins j hp)))
      generalize unpinS S B id = q at hE hg1 hg2
      obtain ⟨e, S2, B2⟩ := q
      dsimp only at hE hg1 hg2
      repeat' (first | refine sg_wo ?_ | refine sg_ps (ps_move rfl) rfl ?_ | refine sg_ps (ps_assign rfl) rfl ?_ | refine sg_seq ?_ | refine sg_region ?_ | refine sg_nil ?_ | refine sg_then ?_ | refine sg_ps (ps_fieldAddr rfl) rfl ?_ | refine sg_load 4 rfl rfl rfl rfl ?_ | refine sg_ps (ps_bin rfl rfl inferInstance) rfl ?_ | refine sg_cond_t rfl ?_ | refine sg_cond_f rfl ?_)
      refine sg_call hg1 rfl rfl (fun _ _ => ?_)
      repeat' (first | refine sg_wo ?_ | refine sg_ps (ps_move rfl) rfl ?_ | refine sg_ps (ps_assign rfl) rfl ?_ | refine sg_region ?_ | refine sg_nil ?_ | refine sg_then ?_ | refine sg_ps (ps_fieldAddr rfl) rfl ?_ | refine sg_load 4 rfl rfl rfl rfl ?_)
      refine sg_call ((hg2 [PoolRep p b1 S2, BackRep b1 B2, blk al [i64 kd, i64 nn, u64 id, .slice bb bs.length bc], old W]).pre (fun w hO => hO.pick [2, 3, 0, 1, 4, 5] (by decide))) rfl rfl (fun y _ => ?_)
      repeat' (first | refine sg_wo ?_ | refine sg_ps (ps_assign rfl) rfl ?_ | refine sg_nil ?_ | refine ex_block_normal ?_)
      exact ex_mid (S2, B2, e) hE (.cons rfl (.cons rfl (.cons rfl (.cons rfl (.cons rfl (.cons rfl (.cons rfl (.cons rfl .nil)))))))) (fun w hO => hO.pick [2, 3, 0, 1, 5] (by decide))
    · have hE := hI.evict
      have hg1 := pevict_tri (W := W) p b1 S B [RPool bx b2 S, BackRep b2 B, blk al [i64 kd, i64 nn, u64 id, .slice bb bs.length bc], old W] hF (by omega)
      have hg2 := fun R => revict_tri (W := W) bx b2 S B R hF (by omega) hpos
      generalize evictS S B = q at hE hg1 hg2
      obtain ⟨⟨v, e⟩, S2, B2⟩ := q
      dsimp only at hE hg1 hg2
      repeat' (first | refine sg_wo ?_ | refine sg_ps (ps_move rfl) rfl ?_ | refine sg_ps (ps_assign rfl) rfl ?_ | refine sg_seq ?_ | refine sg_region ?_ | refine sg_nil ?_ | refine sg_then ?_ | refine sg_ps (ps_bin rfl rfl inferInstance) rfl ?_ | refine sg_cond_t rfl ?_ | refine sg_cond_f rfl ?_)
      refine sg_call hg1 rfl rfl (fun _ _ => ?_)
      repeat' (first | refine sg_wo ?_ | refine sg_ps (ps_move rfl) rfl ?_ | refine sg_ps (ps_assign rfl) rfl ?_ | refine sg_seq ?_ | refine sg_region ?_ | refine sg_nil ?_ | refine sg_then ?_ | refine sg_ps (ps_extract rfl rfl) rfl ?_)
      refine sg_call ((hg2 [PoolRep p b1 S2, BackRep b1 B2, blk al [i64 kd, i64 nn, u64 id, .slice bb bs.length bc], old W]).pre (fun w hO => hO.pick [2, 3, 0, 1, 4, 5] (by decide))) rfl rfl (fun y _ => ?_)
      repeat' (first | refine sg_wo ?_ | refine sg_ps (ps_move rfl) rfl ?_ | refine sg_ps (ps_assign rfl) rfl ?_ | refine sg_seq ?_ | refine sg_region ?_ | refine sg_nil ?_ | refine sg_then ?_ | refine sg_ps (ps_bin rfl rfl inferInstance) rfl ?_ | refine sg_ps (ps_extract rfl rfl) rfl ?_ | refine sg_skip ?_ | refine ex_block_normal ?_ | (refine sg_cond_ndec rfl (fun hg => ?_) (fun hg => ?_) <;> first | (exfalso; omega) | (exact absurd rfl hg) | skip))
      exact ex_mid (S2, B2, e) hE (.cons rfl (.cons rfl (.cons rfl (.cons rfl (.cons rfl (.cons rfl (.cons rfl (.cons rfl .nil)))))))) (fun w hO => hO.pick [2, 3, 0, 1, 5] (by decide))
    · have hE := hI.clean id
      have hg1 := pclean_tri (W := W) p b1 S B id [RPool bx b2 S, BackRep b2 B, blk al [i64 kd, i64 nn, u64 id, .slice bb bs.length bc], old W] hF (by omega)
      have hg2 := fun R => rclean_tri (W := W) bx b2 S B id R hF (by omega)
      generalize cleanS S B id = q at hE hg1 hg2
      obtain ⟨e, S2, B2⟩ := q
      dsimp only at hE hg1 hg2
      repeat' (first | refine sg_wo ?_ | refine sg_ps (ps_move rfl) rfl ?_ | refine sg_ps (ps_assign rfl) rfl ?_ | refine sg_seq ?_ | refine sg_region ?_ | refine sg_nil ?_ | refine sg_then ?_ | refine sg_ps (ps_fieldAddr rfl) rfl ?_ | refine sg_load 4 rfl rfl rfl rfl ?_ | refine sg_ps (ps_bin rfl rfl inferInstance) rfl ?_ | refine sg_cond_t rfl ?_ | refine sg_cond_f rfl ?_)
      refine sg_call hg1 rfl rfl (fun _ _ => ?_)
      repeat' (first | refine sg_wo ?_ | refine sg_ps (ps_move rfl) rfl ?_ | refine sg_ps (ps_assign rfl) rfl ?_ | refine sg_region ?_ | refine sg_nil ?_ | refine sg_then ?_ | refine sg_ps (ps_fieldAddr rfl) rfl ?_ | refine sg_load 4 rfl rfl rfl rfl ?_)
      refine sg_call ((hg2 [PoolRep p b1 S2, BackRep b1 B2, blk al [i64 kd, i64 nn, u64 id, .slice bb bs.length bc], old W]).pre (fun w hO => hO.pick [2, 3, 0, 1, 4, 5] (by decide))) rfl rfl (fun y _ => ?_)
      repeat' (first | refine sg_wo ?_ | refine sg_ps (ps_assign rfl) rfl ?_ | refine sg_nil ?_ | refine ex_block_normal ?_)
      exact ex_mid (S2, B2, e) hE (.cons rfl (.cons rfl (.cons rfl (.cons rfl (.cons rfl (.cons rfl (.cons rfl (.cons rfl .nil)))))))) (fun w hO => hO.pick [2, 3, 0, 1, 5] (by decide))
    · have hE := hI.fulls nn
      refine sg_own (fun w hO => hO.pick [1, 0, 2, 3, 4, 5] (by decide)) ?_
      refine BackRep.open fun T1 ia1 ic1 ba1 bc1 aa1 ac1 hS1 => ?_
      refine sg_own (L' := BackRep b2 B :: blk b1 [.slice ia1 B.ent.length ic1, .slice ba1 B.ent.length bc1, .slice aa1 B.asked.length ac1, i64 B.full] :: sown ia1 B.ent.length ic1 1 (B.ent.map fun e : Int × List UInt8 => u64 e.1) :: sown ba1 B.ent.length bc1 1 (T1.map BE.sl) :: sown aa1 B.asked.length ac1 1 (B.asked.map u64) :: sepL (T1.map BE.own) :: PoolRep p b1 S :: RPool bx b2 S :: blk al [i64 kd, i64 nn, u64 id, .slice bb bs.length bc] :: [old W]) (fun w hO => Own.pickA [_, _, _, _, _, _, _, _, _] hO [7, 0, 1, 2, 3, 4, 5, 6, 8] (by decide)) ?_
      refine BackRep.open fun T2 ia2 ic2 ba2 bc2 aa2 ac2 hS2 => ?_
      refine sg_own (L' := blk b2 [.slice ia2 B.ent.length ic2, .slice ba2 B.ent.length bc2, .slice aa2 B.asked.length ac2, i64 B.full] :: blk b1 [.slice ia1 B.ent.length ic1, .slice ba1 B.ent.length bc1, .slice aa1 B.asked.length ac1, i64 B.full] :: blk al [i64 kd, i64 nn, u64 id, .slice bb bs.length bc] :: sown ia2 B.ent.length ic2 1 (B.ent.map fun e : Int × List UInt8 => u64 e.1) :: sown ba2 B.ent.length bc2 1 (T2.map BE.sl) :: sown aa2 B.asked.length ac2 1 (B.asked.map u64) :: sepL (T2.map BE.own) :: sown ia1 B.ent.length ic1 1 (B.ent.map fun e : Int × List UInt8 => u64 e.1) :: sown ba1 B.ent.length bc1 1 (T1.map BE.sl) :: sown aa1 B.asked.length ac1 1 (B.asked.map u64) :: sepL (T1.map BE.own) :: PoolRep p b1 S :: RPool bx b2 S :: [old W]) (fun w hO => Own.pickA [_, _, _, _, _, _, _, _, _, _, _, _, _] hO [0, 5, 12, 1, 2, 3, 4, 6, 7, 8, 9, 10, 11] (by decide)) ?_
      repeat' (first | refine sg_wo ?_ | refine sg_ps (ps_move rfl) rfl ?_ | refine sg_ps (ps_assign rfl) rfl ?_ | refine sg_seq ?_ | refine sg_region ?_ | refine sg_nil ?_ | refine sg_then ?_ | refine sg_ps (ps_fieldAddr rfl) rfl ?_ | refine sg_ps (ps_nilCheck rfl) rfl ?_ | refine sg_load 2 rfl rfl rfl rfl ?_ | refine sg_ps (ps_bin rfl rfl inferInstance) rfl ?_ | refine sg_cond_f rfl ?_ | refine ex_block_normal ?_ | refine sg_store [] rfl rfl rfl (of_decide_eq_true rfl) ?_ | refine sg_store [_] rfl rfl rfl (of_decide_eq_true rfl) ?_)
      refine ex_mid (S, fullS B nn, 0) hE (.cons rfl (.cons rfl (.cons rfl (.cons rfl (.cons rfl (.cons rfl (.cons rfl (.cons rfl .nil)))))))) (fun w hO => ?_)
      have k1 := Own.pickA [_, _, _, _, _, _, _, _, _, _, _, _, _] hO [0, 3, 4, 5, 6, 1, 7, 8, 9, 10, 11, 12] (by decide)
      have k2 : Own W w (BackRep b2 (fullS B nn) :: _) := BackRep.shut (S := fullS B nn) hS2 k1
      have k3 : Own W w (BackRep b1 (fullS B nn) :: _) := BackRep.shut (S := fullS B nn) hS1 (Own.pickA [_, _, _, _, _, _, _, _] k2 [1, 2, 3, 4, 5, 0, 6, 7] (by decide))
      exact k3.pick [2, 0, 3, 1, 4] (by decide)
  · clear hI hkk0 hkk hkrl
    rintro ⟨S2, B2, e⟩ hI
    dsimp only at hI ⊢
    have hlen := hI.len
    have hF := hI.fit
    refine sg_own (L' := [RPool bx b2 S2, PoolRep p b1 S2, BackRep b1 B2, BackRep b2 B2, old W]) (fun w hO => hO.pick [2, 0, 1, 3, 4] (by decide)) ?_
    refine RPool.open fun T ra rc hT => ?_
    have hTl : T.length = S2.rows.length := by rw [← hT, List.length_map]
    have hdl : (dirtyS S2).length ≤ 1000000 := by
      rw [dirtyS_len]; have := dirtyR_len S2.rows; omega
    refine sg_seq ?_
    skip
    refine sg_drawK [blk bx (rpc b2 S2 T.length ra rc)] [0, 1, 2, 3, 4, 6, 7, 8, 9, 10, 5, 11, 12, 13, 14, 16, 15, 17, 18, 19, 20, 21, 22, 23, 24, 25, 26] (by kernel_rfl) (by kernel_rfl) (fun w hO => hO.pick [0] (by decide)) ?_
    unfold rpc
    repeat' (first | refine sk_pure rfl rfl (ps_move rfl) rfl ?_ | refine sk_pure rfl rfl (ps_bin rfl rfl inferInstance) rfl ?_ | refine sk_pure_g rfl rfl rfl rfl (ps_move rfl) rfl ?_ | refine sk_pure_g rfl rfl rfl rfl (ps_nilCheck rfl) rfl ?_ | refine sk_pure_g rfl rfl rfl rfl (ps_fieldAddr rfl) rfl ?_ | refine sk_pure_g rfl rfl rfl rfl (ps_len rfl) rfl ?_ | refine sk_load_g 0 rfl rfl rfl rfl rfl rfl rfl ?_ | refine sk_eff rfl rfl ?_ | refine sg_guard_yes rfl rfl ?_ | (refine sk_ndec rfl rfl rfl rfl (fun hg => ?_) (fun hg => ?_) <;> first | (exfalso; omega) | (exact absurd rfl hg) | skip))
    refine sg_call ((plen_tri p b1 S2 [blk bx [dp b2, i64 S2.most, .slice ra T.length rc, i64 S2.hand], sown ra T.length rc 5 (recs T), sepL (T.map RE.own), BackRep b1 B2, BackRep b2 B2, old W]).pre (fun w hO => hO.pick [3, 0, 1, 2, 4, 5, 6] (by decide))) rfl rfl (fun _ _ => ?_)
    refine sk_back (fun w hO => hO.pick [1] (by decide)) ?_
    repeat' (first | refine sk_pure rfl rfl (ps_move rfl) rfl ?_ | refine sk_pure rfl rfl (ps_pick_f rfl rfl) rfl ?_ | refine sk_pure_g rfl rfl rfl rfl (ps_move rfl) rfl ?_ | refine sk_pure_g rfl rfl rfl rfl (ps_bin rfl rfl inferInstance) rfl ?_ | refine sk_eff rfl rfl ?_ | refine sg_guard_yes rfl rfl ?_ | (refine sk_ndec rfl rfl rfl rfl (fun hg => ?_) (fun hg => ?_) <;> first | (exfalso; omega) | (exact absurd rfl hg) | skip))
    refine sg_call (pdirty_tri p b1 S2 _ (by have : bigN = 255 := rfl; omega)) rfl rfl (fun y _ => ?_)
    obtain ⟨ya, yc⟩ := y
    refine sk_back (fun w hO => hO.pick [2] (by decide)) ?_
    repeat' (first | refine sk_eff rfl rfl ?_ | refine sg_guard_yes rfl rfl ?_)
    have hrd := rdirty_tri (W := W) bx b2 S2 [sown ya (dirtyS S2).length yc 1 ((dirtyS S2).map u64), PoolRep p b1 S2, BackRep b1 B2, BackRep b2 B2, old W] (by omega) T ra rc hT
    unfold rpc at hrd
    refine sg_call (hrd.pre (fun w hO => hO.pick [2, 3, 4, 0, 1, 5, 6, 7] (by decide))) rfl rfl (fun z _ => ?_)
    obtain ⟨za, zc⟩ := z
    refine sk_back (fun w hO => hO.pick [1] (by decide)) ?_
    dsimp only
    generalize dirtyS S2 = D at hdl
    repeat' (first | refine sk_eff rfl rfl ?_ | refine sg_guard_yes rfl rfl ?_)
    refine sg_call (same_tri D ya za yc zc _ hdl (rd_sown 4 rfl fun _ _ h => h) (rd_sown 0 rfl fun _ _ h => h)) rfl rfl (fun _ _ => ?_)
    refine sk_back (fun w hO => hO.pick [1] (by decide)) ?_
    repeat' (first | refine sk_pure rfl rfl (ps_move rfl) rfl ?_ | refine sk_pure rfl rfl (ps_pick_f rfl rfl) rfl ?_ | refine sk_pure_g rfl rfl rfl rfl (ps_move rfl) rfl ?_ | refine sk_pure_g rfl rfl rfl rfl (ps_not rfl) rfl ?_ | refine sk_eff rfl rfl ?_ | refine sg_guard_yes rfl rfl ?_)
    refine sg_call ((asked_tri b1 b2 B2 B2 [sown za D.length zc 1 (D.map u64), blk bx [dp b2, i64 S2.most, .slice ra T.length rc, i64 S2.hand], sown ra T.length rc 5 (recs T), sepL (T.map RE.own), sown ya D.length yc 1 (D.map u64), PoolRep p b1 S2, old W] (by have := hF.asked; omega) rfl).pre (fun w hO => hO.pick [6, 7, 0, 1, 2, 3, 4, 5, 8] (by decide))) rfl rfl (fun _ _ => ?_)
    refine sk_back (fun w hO => hO.pick [3] (by decide)) ?_
    repeat' (first | refine sk_nil ?_ | refine sk_pure rfl rfl (ps_pick_f rfl rfl) rfl ?_ | refine sk_pure_g rfl rfl rfl rfl (ps_not rfl) rfl ?_)
    repeat' (first | refine sg_wo ?_ | refine sg_ps (ps_move rfl) rfl ?_ | refine sg_ps (ps_assign rfl) rfl ?_ | refine sg_region ?_ | refine sg_nil ?_ | refine sg_then ?_ | refine sg_ps (ps_add64 rfl rfl (by omega)) rfl ?_ | refine sg_cond_f rfl ?_ | refine sg_skip ?_ | refine ex_block_normal ?_)
    refine ex_mid (i + 1, S2, B2) ⟨by show 200 - (i + 1) < 200 - i; omega, ⟨by show i + 1 ≤ l.length; omega, by show i + 1 ≤ 200; omega⟩, hI⟩ (.cons rfl (.cons rfl (.cons rfl (.cons rfl (.cons rfl (.cons rfl .nil)))))) (fun w hO => ?_)
    have k1 : Own W w (RPool bx b2 S2 :: _) := RPool.shut hT (Own.pickA [_, _, _, _, _, _, _, _] hO [3, 4, 5, 0, 1, 7] (by decide))
    exact k1.pick [3, 1, 0, 2, 4] (by decide)
theorem poolPlays_opened (W : World) (vs : List Value) (h : Opens Try.prog W Try.f6.params.toList vs) :
    Tri Try.prog W 6 vs [old W] (X := Unit) (fun _ => .bool true) (fun _ => True) (fun _ => [old W]) := by
  obtain ⟨a0, c0, vs, rfl, e0, h⟩ := Opens.cons (RT.int .i64 Try.underlying3) h
  obtain ⟨a1, c1, vs, rfl, e1, h⟩ := Opens.cons (RT.slice 4 48 Try.underlying44 (by kernel_rfl) (by kernel_rfl) (RT.struct (tot := 4) Try.underlying46 (by kernel_rfl) (RF.cons 1 (RT.int .i64 Try.underlying3) rfl (by kernel_rfl) (RF.cons 1 (RT.int .i64 Try.underlying3) rfl (by kernel_rfl) (RF.cons 1 (RT.int .u64 Try.underlying32) rfl (by kernel_rfl) (RF.cons 1 (RT.slice 1 1 Try.underlying37 (by kernel_rfl) (by kernel_rfl) (RT.u8 Try.underlying5)) rfl (by kernel_rfl) (RF.nil rfl))))))) h
  obtain rfl := Opens.nil h
  obtain ⟨rfl, hw0⟩ := e0
  obtain ⟨la, lc, rfl, hl⟩ := opsPAt_of e1
  exact poolPlays_tri a0 la lc a1 hl
set_option maxRecDepth 100000 in
theorem poolPlays_lifted (os : Os) (started : os.Started) (H : Type) (enc : TypeId × Value → H) :
    ReturnsInHanded {} Try.checked os 6 .any (Rows.poolPlaysSpec.pre6 enc Try.prog Try.f6 Rows.poolPlaysRow.domain false) (Rows.poolPlaysSpec.post enc Try.prog Try.f6 false true false false) :=
  lift (tb := 4) started law_own law_laidOut (by kernel_rfl) Try.func6
    (ChangeSpec.witness6 (enc := enc) (C := Try.checked) false ⟨#[], #[.int .i64 0, .slice none 0 0], []⟩ 8 (by kernel_rfl) (by kernel_rfl) (by kernel_rfl) (by kernel_rfl))
    rfl rfl Try.underlying4 (by kernel_rfl) (fun ds h => by
      match ds, h with
      | [d1, d2], _ => rfl) poolPlays_opened
theorem poolPlays_over : Rows.poolPlaysRow.holds Try.pinned (OpenSpec.ofChange Rows.poolPlaysSpec) :=
  OpenClaim.holds_of_wide 6 Try.f6 rfl rfl rfl rfl rfl rfl rfl ⟨rfl, rfl, rfl, rfl, rfl⟩ rfl rfl rfl rfl rfl (by kernel_rfl) Try.func6 (by kernel_rfl)
    (of_decide_eq_true (by kernel_rfl)) (by unfold Func.isWrapper; first | (rw [if_pos (by decide +kernel)]; kernel_rfl) | (rw [if_neg (by decide +kernel)]; exact ⟨rfl, rfl⟩))
    (fun os started H enc _ => poolPlays_lifted os started H enc)
theorem poolPlays_proved : Rows.PoolPlaysSaid := poolPlays_over
#print axioms poolPlays_proved
end Go.Proofs.Ytclehoaeppbmpaa
