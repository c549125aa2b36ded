/- WalPlays: appended, trimmed, synced, torn and opened anew: the document's answers. -/
import Derived.Test.YtdehkdmnddflhaaLX7A
import Derived.Test.YtdehkdmnddflhaaWRC2
import Derived.Test.YtdehkdmnddflhaaRWL
namespace Go.Proofs.Ytdehkdmnddflhaa
set_option linter.unusedVariables false
set_option linter.unusedSimpArgs false
set_option linter.unusedSectionVars false
set_option linter.unnecessarySimpa false
open Go Go.Proofs
set_option maxRecDepth 20000
set_option maxHeartbeats 4000000
attribute [local irreducible] SG WC WO W1 WD WK PS Rd Tri Exit.then Exit.inBlock bodyPost calmQ Mid sadd
variable {W : World} {n : Nat} {F : Fr} {L : List HP} {G : Act → World → Prop}
abbrev G7 := Nat × Nat × Nat × Nat × Nat × DS
theorem walPlays_tri (base size : Int) (least mount head : Nat) (l : List OpX) (la : Option Addr) (lc : Nat) (hb : -9223372036854775808 ≤ base ∧ base ≤ 9223372036854775807) (hm : mount < 4294967296) (hl : OpsAt W l la) :
    Tri Try.prog W 9 [i64 base, i64 size, u32v least, u32v mount, u64v head, .slice la l.length lc] [old W] (X := Unit) (fun _ => .bool true) (fun _ => True) (fun _ => [old W]) := by
  obtain ⟨hp, hll, hl⟩ := hl
  obtain ⟨k, hk1, hk2⟩ := counts5 (W := W) base hb
  refine tri_enter (n := _) (F := [(0, i64 base), (1, i64 size), (2, u32v least), (3, u32v mount), (4, u64v head), (5, .slice la l.length lc)]) Try.func9 rfl Try.ntmps9 rfl (fun i u hi => by simp only [look] at hi; (repeat' split at hi) <;> simp_all [Nat.beq_eq]) ?_
  repeat' (first | refine sg_wo ?_ | refine sg_ps (ps_assign rfl) rfl ?_ | refine sg_seq ?_ | refine sg_region ?_ | refine sg_nil ?_ | refine sg_then ?_)
  refine sg_call (awake_tri _) rfl rfl (fun _ _ => ?_)
  repeat' (first | refine sg_wo ?_ | refine sg_ps (ps_move rfl) rfl ?_ | refine sg_ps (ps_not rfl) rfl ?_ | refine sg_guard_yes rfl rfl ?_)
  refine sg_call (hk1 _) rfl rfl (fun _ _ => ?_)
  repeat' (first | refine sg_wo ?_ | refine sg_ps (ps_move rfl) rfl ?_ | refine sg_guard_yes rfl rfl ?_)
  refine sg_call (hk2 _) rfl rfl (fun _ _ => ?_)
  clear hk1 hk2 hb
  repeat' (first | refine sg_wo ?_ | refine sg_seq ?_ | refine sg_region ?_ | refine sg_nil ?_ | refine sg_then ?_ | refine sg_ps (ps_bin rfl rfl inferInstance) rfl ?_ | refine sg_guard_yes rfl rfl ?_ | refine sg_ps (ps_pick_f rfl rfl) rfl ?_ | refine sg_skip ?_ | (refine sg_cond_ndec rfl (fun hg => ?_) (fun hg => ?_) <;> first | (exfalso; omega) | (exact absurd rfl hg) | skip))
  refine sg_call (new_tri 40 _ (by omega) (by omega)) rfl rfl (fun d _ => ?_)
  repeat' (first | refine sg_wo ?_ | refine sg_ps (ps_move rfl) rfl ?_ | refine sg_ps (ps_assign rfl) rfl ?_ | refine sg_seq ?_ | refine sg_region ?_ | refine sg_nil ?_ | refine sg_then ?_ | refine sg_ps (ps_extract rfl rfl) rfl ?_)
  refine sg_call (rnew_tri 40 _ (by omega) (by omega)) rfl rfl (fun r _ => ?_)
  have hD0 : (DS.new 40).seen.length = 40 := new_seen 40
  by_cases hbad : badOpen 40 base size least mount head
  · skip
    repeat' (first | refine sg_wo ?_ | refine sg_ps (ps_move rfl) rfl ?_ | refine sg_ps (ps_assign rfl) rfl ?_ | refine sg_seq ?_ | refine sg_region ?_ | refine sg_nil ?_ | refine sg_then ?_ | refine sg_ps (ps_extract rfl rfl) rfl ?_)
    refine sg_call ((wopen_bad d (DS.new 40) base size least mount head [RefRep r (DS.new 40), old W] (by omega) (by rw [hD0]; exact hbad)).pre (fun w hO => hO.pick [1, 0, 2] (by decide))) rfl rfl (fun _ _ => ?_)
    repeat' (first | refine sg_wo ?_ | refine sg_ps (ps_move rfl) rfl ?_ | refine sg_ps (ps_assign rfl) rfl ?_ | refine sg_seq ?_ | refine sg_region ?_ | refine sg_nil ?_ | refine sg_then ?_ | refine sg_ps (ps_extract rfl rfl) rfl ?_)
    refine sg_call ((r5open_bad r (DS.new 40) base size least mount head [DiskRep d (DS.new 40), old W] (by omega) (by rw [hD0]; exact hbad)).pre (fun w hO => hO.pick [1, 0, 2] (by decide))) rfl rfl (fun _ _ => ?_)
    repeat' (first | refine sg_wo ?_ | refine sg_ps (ps_move rfl) rfl ?_ | refine sg_ps (ps_assign rfl) rfl ?_ | refine sg_seq ?_ | refine sg_region ?_ | refine sg_nil ?_ | refine sg_then ?_ | refine sg_ps (ps_bin rfl rfl inferInstance) rfl ?_ | refine sg_guard_yes rfl rfl ?_ | refine sg_ps (ps_extract rfl rfl) rfl ?_)
    refine sg_own (L' := [RecsRep none 0 [], RecsRep none 0 [], RefRep r (DS.new 40), DiskRep d (DS.new 40), old W]) (fun w hO => recs_nil (recs_nil hO)) ?_
    refine sg_call (same_tri [] [] none none 0 0 rfl (by decide) _) rfl rfl (fun _ _ => ?_)
    repeat' (first | refine sg_wo ?_ | refine sg_ps (ps_move rfl) rfl ?_ | refine sg_seq ?_ | refine sg_region ?_ | refine sg_nil ?_ | refine sg_then ?_ | refine sg_ps (ps_bin rfl rfl inferInstance) rfl ?_ | refine sg_ps (ps_not rfl) rfl ?_ | refine sg_cond_t rfl ?_ | refine sg_cond_f rfl ?_ | refine sg_guard_yes rfl rfl ?_ | refine sg_ps (ps_pick_f rfl rfl) rfl ?_ | refine sg_skip ?_)
    refine sg_call (wappend_nil none 0 0 (by decide) _) rfl rfl (fun _ _ => ?_)
    repeat' (first | refine sg_wo ?_ | refine sg_ps (ps_move rfl) rfl ?_ | refine sg_ps (ps_assign rfl) rfl ?_ | refine sg_seq ?_ | refine sg_region ?_ | refine sg_nil ?_ | refine sg_then ?_ | refine sg_ps (ps_bin rfl rfl inferInstance) rfl ?_ | refine sg_guard_yes rfl rfl ?_ | refine sg_ps (ps_extract rfl rfl) rfl ?_)
    refine sg_call (trim_nil 0 _) rfl rfl (fun _ _ => ?_)
    repeat' (first | refine sg_wo ?_ | refine sg_ps (ps_move rfl) rfl ?_ | refine sg_ps (ps_bin rfl rfl inferInstance) rfl ?_ | refine sg_guard_yes rfl rfl ?_ | refine sg_ps (ps_pick_t rfl rfl) rfl ?_)
    refine sg_call (head_nil _) rfl rfl (fun _ _ => ?_)
    repeat' (first | refine sg_wo ?_ | refine sg_ps (ps_move rfl) rfl ?_ | refine sg_ps (ps_bin rfl rfl inferInstance) rfl ?_ | refine sg_guard_yes rfl rfl ?_ | refine sg_ps (ps_pick_t rfl rfl) rfl ?_)
    refine sg_call (next_nil _) rfl rfl (fun _ _ => ?_)
    repeat' (first | refine sg_wo ?_ | refine sg_ps (ps_move rfl) rfl ?_ | refine sg_ps (ps_bin rfl rfl inferInstance) rfl ?_ | refine sg_guard_yes rfl rfl ?_ | refine sg_ps (ps_pick_t rfl rfl) rfl ?_)
    refine sg_call (room_nil _) rfl rfl (fun _ _ => ?_)
    repeat' (first | refine sg_wo ?_ | refine sg_ps (ps_assign rfl) rfl ?_ | refine sg_nil ?_ | refine sg_then ?_ | refine sg_ps (ps_bin rfl rfl inferInstance) rfl ?_ | refine sg_guard_yes rfl rfl ?_ | refine sg_ps (ps_pick_t rfl rfl) rfl ?_ | refine sg_ret ?_ | refine ex_then_ret ?_)
    exact ex_ret1 rfl rfl () rfl trivial (fun w hO => hO.pick [4] (by decide))
  obtain ⟨b, s, rfl, rfl, c4, c5, c6, c7, c8, c9⟩ := good_of hbad
  clear hbad
  repeat' (first | refine sg_wo ?_ | refine sg_ps (ps_move rfl) rfl ?_ | refine sg_ps (ps_assign rfl) rfl ?_ | refine sg_seq ?_ | refine sg_region ?_ | refine sg_nil ?_ | refine sg_then ?_ | refine sg_ps (ps_extract rfl rfl) rfl ?_)
  refine sg_call ((wopen_tri d (DS.new 40) b s least mount head [RefRep r (DS.new 40), old W] c4 (by omega) (by omega) c6 c7 hm c8 c9).pre (fun w hO => hO.pick [1, 0, 2] (by decide))) rfl rfl (fun x hx => ?_)
  obtain ⟨lg, oa, oc, p⟩ := x
  dsimp only at hx ⊢
  repeat' (first | refine sg_wo ?_ | refine sg_ps (ps_move rfl) rfl ?_ | refine sg_ps (ps_assign rfl) rfl ?_ | refine sg_seq ?_ | refine sg_region ?_ | refine sg_nil ?_ | refine sg_then ?_ | refine sg_ps (ps_extract rfl rfl) rfl ?_)
  refine sg_call ((r5open_tri r (DS.new 40) b s least mount head [RecsRep oa oc p, blk lg (lcells d ⟨b, s, mount, head, (wfound (DS.new 40) b s mount head least).2⟩), DiskRep d (DS.new 40), old W] c4 (by omega) (by omega) c6 c7 hm c8 c9).pre (fun w hO => hO.pick [3, 0, 1, 2, 4] (by decide))) rfl rfl (fun y hy => ?_)
  obtain ⟨lm, ob, obc, q⟩ := y
  dsimp only at hy ⊢
  have hP := P7.new (base := b) (size := s) (least := least) hm c9
  have hpl : p.length ≤ 4096 := by
    have h1 := congrArg List.length hx
    have h2 := (wfound_bounds (DS.new 40) b s mount head least).2
    rw [List.length_map] at h1
    omega
  have hpq := hx.trans hy.symm
  clear hx hy
  generalize (wfound (DS.new 40) b s mount head least).2 = nx at *
  repeat' (first | refine sg_wo ?_ | refine sg_ps (ps_move rfl) rfl ?_ | refine sg_ps (ps_assign rfl) rfl ?_ | refine sg_seq ?_ | refine sg_region ?_ | refine sg_nil ?_ | refine sg_then ?_ | refine sg_ps (ps_bin rfl rfl inferInstance) rfl ?_ | refine sg_guard_yes rfl rfl ?_ | refine sg_ps (ps_extract rfl rfl) rfl ?_)
  refine sg_call ((same_tri p q oa ob oc obc hpq hpl [blk lm (lcells r ⟨b, s, mount, head, nx⟩), RefRep r (DS.new 40), blk lg (lcells d ⟨b, s, mount, head, nx⟩), DiskRep d (DS.new 40), old W]).pre (fun w hO => hO.pick [3, 0, 1, 2, 4, 5, 6] (by decide))) rfl rfl (fun _ _ => ?_)
  clear hpq hpl
  repeat' (first | refine sg_wo ?_ | refine sg_ps (ps_move rfl) rfl ?_ | refine sg_nil ?_ | refine sg_then ?_ | refine sg_ps (ps_bin rfl rfl inferInstance) rfl ?_ | refine sg_ps (ps_not rfl) rfl ?_ | refine sg_cond_f rfl ?_ | refine sg_guard_yes rfl rfl ?_ | refine sg_ps (ps_pick_f rfl rfl) rfl ?_ | refine sg_skip ?_)
  refine sg_seq ?_
  refine sg_seq ?_
  repeat' (first | refine sg_wo ?_ | refine sg_ps (ps_move rfl) rfl ?_ | refine sg_region ?_ | refine sg_nil ?_ | refine sg_then ?_ | refine sg_ps (ps_bin rfl rfl inferInstance) rfl ?_ | refine sg_cond_f rfl ?_ | refine sg_skip ?_)
  refine sg_seq_mid (γ := DS) (fun D => D.seen.length = 40) (fun _ => [(13, dp d), (15, dp r)]) (fun D => [DiskRep d D, RefRep r D, old W]) ?_ ?_
  · skip
    repeat' (first | refine sg_wo ?_ | refine sg_ps (ps_assign rfl) rfl ?_ | refine sg_seq ?_ | refine sg_region ?_ | refine sg_nil ?_ | refine sg_then ?_ | refine sg_block ?_)
    refine sg_loop (γ := G7 × Nat) (fun g => (g.2 ≤ l.length ∧ g.2 ≤ 80) ∧ P7 s g.2 g.1.2.2.1 g.1.2.2.2.1 g.1.2.2.2.2.1 g.1.2.2.2.2.2)
      (fun g => [(0, i64 b), (1, i64 s), (2, u32v least), (5, .slice la l.length lc), (13, dp d), (15, dp r), (17, dp g.1.1), (20, dp g.1.2.1), (25, i64 g.2)])
      (fun g => [blk g.1.1 (lcells d ⟨b, s, g.1.2.2.1, g.1.2.2.2.1, g.1.2.2.2.2.1⟩), blk g.1.2.1 (lcells r ⟨b, s, g.1.2.2.1, g.1.2.2.2.1, g.1.2.2.2.2.1⟩), DiskRep d g.1.2.2.2.2.2, RefRep r g.1.2.2.2.2.2, old W]) (fun g => 80 - g.2) ((lg, lm, mount, head, nx, DS.new 40), 0) ⟨⟨Nat.zero_le _, Nat.zero_le _⟩, hP⟩
      (.cons rfl (.cons rfl (.cons rfl (.cons rfl (.cons rfl (.cons rfl (.cons rfl (.cons rfl (.cons rfl .nil))))))))) (fun w hO => hO.pick [4, 2, 5, 3, 6] (by decide)) ?_
    clear hP hD0
    clear lg lm nx
    rintro ⟨⟨lg, lm, mt, hd, nx, D⟩, i⟩ ⟨⟨hi1, hi2⟩, hP⟩
    dsimp only at hi1 hi2 hP ⊢
    have g1 := hP.len
    have g2 := hP.writes
    have g3 := hP.wait
    have g4 := hP.syncs
    have g5 := hP.mtl
    have g6 := hP.hdl
    obtain ⟨g7, g8⟩ := hP.nxb
    by_cases hc : i < l.length ∧ i < 80
    · obtain ⟨hc1, hc2⟩ := hc
      obtain ⟨lb, lo, rfl⟩ := hp (by omega)
      obtain ⟨bb, ka, bc, kc, hb1, hb2, hb3, hb4, hb5, r0, r1, r2⟩ := hl i hc1 lb lo rfl
      have hr5 := rem_lt l[i].1 (m := 7) (by decide)
      obtain ⟨m, hm, hm5⟩ := rem_nat l[i].1 7 (by decide)
      rw [show ((7 : Nat) : Int) = 7 from rfl] at hm
      generalize l[i] = x at *
      obtain ⟨x1, x2, x3, bs, keep, u⟩ := x
      dsimp only at hb1 hb2 hb3 hb4 hb5 r0 r1 r2 hr5 hm
      skip
      refine sg_seq ?_
      refine sg_seq ?_
      repeat' (first | refine sg_wo ?_ | refine sg_ps (ps_move rfl) rfl ?_ | refine sg_region ?_ | refine sg_nil ?_ | refine sg_then ?_ | refine sg_ps (ps_bin rfl rfl inferInstance) rfl ?_ | refine sg_guard_yes rfl rfl ?_ | refine sg_ps (ps_pick_t rfl rfl) rfl ?_ | refine sg_ps (ps_len rfl) rfl ?_ | refine sg_skip ?_ | (refine sg_guard_dec rfl rfl (fun hg => ?_) (fun hg => ?_) <;> first | (exfalso; omega) | (exact absurd rfl hg) | skip) | (refine sg_cond_dec rfl (fun hg => ?_) (fun hg => ?_) <;> first | (exfalso; omega) | (exact absurd rfl hg) | skip))
      refine sg_seq ?_
      repeat' (first | refine sg_block ?_)
      refine sg_seq ?_
      repeat' (first | refine sg_wo ?_ | refine sg_ps (ps_move rfl) rfl ?_ | refine sg_region ?_ | refine sg_ps (ps_indexAddr rfl rfl rfl (by omega)) rfl ?_)
      refine sg_load_agg_rd rfl rfl (r0.rd 4 rfl) rfl ?_
      repeat' (first | refine sg_wo ?_ | refine sg_nil ?_ | refine sg_then ?_ | refine sg_store_whole [] rfl rfl rfl rfl rfl ?_ | refine sg_alloc rfl (fun al => ?_))
      refine sg_seq_mid (γ := G7) (fun g => P7 s (i + 1) g.2.2.1 g.2.2.2.1 g.2.2.2.2.1 g.2.2.2.2.2)
        (fun g => [(0, i64 b), (1, i64 s), (2, u32v least), (5, .slice (some ⟨lb, lo, none⟩) l.length lc), (13, dp d), (15, dp r), (17, dp g.1), (20, dp g.2.1), (25, i64 i)])
        (fun g => [blk g.1 (lcells d ⟨b, s, g.2.2.1, g.2.2.2.1, g.2.2.2.2.1⟩), blk g.2.1 (lcells r ⟨b, s, g.2.2.1, g.2.2.2.1, g.2.2.2.2.1⟩), DiskRep d g.2.2.2.2.2, RefRep r g.2.2.2.2.2, old W]) ?_ ?_
      · refine sg_seq ?_
        repeat' (first | refine sg_wo ?_ | refine sg_region ?_ | refine sg_nil ?_ | refine sg_then ?_ | refine sg_ps (ps_fieldAddr rfl) rfl ?_ | refine sg_load 0 rfl rfl rfl rfl ?_ | refine sg_ps (ps_add64 rfl rfl (by omega)) rfl ?_ | refine sg_ps (ps_rem rfl rfl (by decide)) rfl ?_ | refine sg_block ?_)
        rw [hm]
        rcases (by omega : m = 0 ∨ m = 1 ∨ m = 2 ∨ m = 4 ∨ m = 5 ∨ m = 3 ∨ m = 6) with rfl | rfl | rfl | rfl | rfl | h36
        · skip
          repeat' (first | refine sg_wo ?_ | refine sg_ps (ps_assign rfl) rfl ?_ | refine sg_seq ?_ | refine sg_region ?_ | refine sg_nil ?_ | refine sg_then ?_ | refine sg_ps (ps_fieldAddr rfl) rfl ?_ | refine sg_load 0 rfl rfl rfl rfl ?_ | refine sg_ps (ps_bin rfl rfl inferInstance) rfl ?_ | refine sg_cond_t rfl ?_)
          refine sg_call (rawLent_tri bs bb bc (by omega) _ (r1.rd 5 rfl)) rfl rfl (fun x hx => ?_)
          obtain ⟨g, c, cur⟩ := x
          dsimp only at hx ⊢
          obtain ⟨a, e, nx2, E, e1, hJ⟩ := hP.append b bs
          have hok : LS.ok ⟨b, s, mt, hd, nx⟩ D := ok_mk g1 c4 c5 (by decide) g5 (by omega) (by omega)
          have hap := wappend_tri (W := W) lg d ⟨b, s, mt, hd, nx⟩ D bs (some ⟨g, 0, none⟩) c [blk g cur, blk al [i64 x1, i64 x2, .int .u32 x3, .slice bb bs.length bc, .slice ka keep.length kc], blk lm (lcells r ⟨b, s, mt, hd, nx⟩), RefRep r D, old W] hok g7 (by show nx - hd ≤ s; omega) (by show nx + 700 < _; omega) (by have := hx.room; omega) (by omega) (rd_blk 0 rfl hx.get) (by omega) (by omega)
          have hap2 := r5append_tri (W := W) lm r ⟨b, s, mt, hd, nx⟩ D bs bb bc [blk lg (lcells d ⟨b, s, mt, hd, nx2⟩), DiskRep d E, blk g cur, blk al [i64 x1, i64 x2, .int .u32 x3, .slice bb bs.length bc, .slice ka keep.length kc], old W] hok g7 (by show nx - hd ≤ s; omega) (by show nx + 700 < _; omega) hb1 (by omega) (rdo_tail r1 4 rfl) (by omega) (by omega)
          rw [e1] at hap hap2
          repeat' (first | refine sg_wo ?_ | refine sg_ps (ps_move rfl) rfl ?_ | refine sg_ps (ps_assign rfl) rfl ?_ | refine sg_seq ?_ | refine sg_region ?_ | refine sg_nil ?_ | refine sg_then ?_)
          refine sg_call (hap.pre (fun w hO => hO.pick [2, 4, 0, 1, 3, 5, 6] (by decide))) rfl rfl (fun _ _ => ?_)
          repeat' (first | refine sg_wo ?_ | refine sg_ps (ps_move rfl) rfl ?_ | refine sg_ps (ps_assign rfl) rfl ?_ | refine sg_seq ?_ | refine sg_region ?_ | refine sg_nil ?_ | refine sg_then ?_ | refine sg_ps (ps_fieldAddr rfl) rfl ?_ | refine sg_load 3 rfl rfl rfl rfl ?_ | refine sg_ps (ps_extract rfl rfl) rfl ?_)
          refine sg_call (hap2.pre (fun w hO => hO.pick [4, 5, 0, 1, 2, 3, 6] (by decide))) rfl rfl (fun _ _ => ?_)
          dsimp only
          repeat' (first | refine sg_wo ?_ | refine sg_ps (ps_move rfl) rfl ?_ | refine sg_ps (ps_assign rfl) rfl ?_ | refine sg_seq ?_ | refine sg_region ?_ | refine sg_nil ?_ | refine sg_then ?_ | refine sg_ps (ps_fieldAddr rfl) rfl ?_ | refine sg_load 5 rfl rfl rfl rfl ?_ | refine sg_ps (ps_bin rfl rfl inferInstance) rfl ?_ | refine sg_guard_yes rfl rfl ?_ | refine sg_ps (ps_pick_f rfl rfl) rfl ?_ | refine sg_ps (ps_extract rfl rfl) rfl ?_ | (refine sg_guard_ndec rfl rfl (fun hg => ?_) (fun hg => ?_) <;> first | (exfalso; omega) | (exact absurd rfl hg) | skip))
          refine sg_call ((rawKept_tri bs g c cur hx bb bc [blk lm (lcells r ⟨b, s, mt, hd, nx2⟩), RefRep r E, blk lg (lcells d ⟨b, s, mt, hd, nx2⟩), DiskRep d E, blk al [i64 x1, i64 x2, .int .u32 x3, .slice bb bs.length bc, .slice ka keep.length kc], old W] (r1.rd 5 rfl)).pre (fun w hO => hO.pick [4, 0, 1, 2, 3, 5, 6] (by decide))) rfl rfl (fun _ _ => ?_)
          repeat' (first | refine sg_wo ?_ | refine sg_nil ?_ | refine sg_then ?_ | refine sg_ps (ps_not rfl) rfl ?_ | refine sg_cond_f rfl ?_ | refine sg_guard_yes rfl rfl ?_ | refine sg_ps (ps_pick_f rfl rfl) rfl ?_ | refine sg_skip ?_ | refine ex_block_normal ?_)
          exact ex_mid (lg, lm, mt, hd, nx2, E) hJ (.cons rfl (.cons rfl (.cons rfl (.cons rfl (.cons rfl (.cons rfl (.cons rfl (.cons rfl (.cons rfl .nil))))))))) (fun w hO => hO.pick [3, 1, 4, 2, 6] (by decide))
        · skip
          obtain ⟨to, _, hto⟩ := u64_any ((hd : Int) + IntKind.u64.wrap x2)
          obtain ⟨e, hd2, hh, t1, t2⟩ := trims5 (W := W) b s mt hd nx to
          have hJ := hP.trimmed hh (by omega)
          repeat' (first | refine sg_wo ?_ | refine sg_ps (ps_assign rfl) rfl ?_ | refine sg_seq ?_ | refine sg_region ?_ | refine sg_nil ?_ | refine sg_then ?_ | refine sg_ps (ps_bin rfl rfl inferInstance) rfl ?_ | refine sg_cond_t rfl ?_ | refine sg_cond_f rfl ?_)
          refine sg_drawK [blk lm (lcells r ⟨b, s, mt, hd, nx⟩), blk al [i64 x1, i64 x2, .int .u32 x3, .slice bb bs.length bc, .slice ka keep.length kc]] [0, 1, 2, 4, 5, 6, 3, 7, 8] (by kernel_rfl) (by kernel_rfl) (fun w hO => hO.pick [2, 0] (by decide)) ?_
          repeat' (first | refine sk_nil ?_ | refine sk_pure rfl rfl (ps_move rfl) rfl ?_ | refine sk_pure rfl rfl (ps_assign rfl) rfl ?_ | refine sk_pure rfl rfl (ps_nilCheck rfl) rfl ?_ | refine sk_pure rfl rfl (ps_fieldAddr rfl) rfl ?_ | refine sk_pure rfl rfl (ps_bin rfl rfl inferInstance) rfl ?_ | refine sk_pure rfl rfl (ps_conv rfl) rfl ?_ | refine sk_load 0 rfl rfl rfl rfl rfl ?_ | refine sk_load 1 rfl rfl rfl rfl rfl ?_)
          rw [hto]
          repeat' (first | refine sg_wo ?_ | refine sg_ps (ps_move rfl) rfl ?_ | refine sg_seq ?_ | refine sg_region ?_ | refine sg_then ?_)
          refine sg_call ((t1 lg d [blk al [i64 x1, i64 x2, .int .u32 x3, .slice bb bs.length bc, .slice ka keep.length kc], blk lm (lcells r ⟨b, s, mt, hd, nx⟩), DiskRep d D, RefRep r D, old W]).pre (fun w hO => hO.pick [1, 0, 2, 3, 4, 5] (by decide))) rfl rfl (fun _ _ => ?_)
          repeat' (first | refine sg_wo ?_ | refine sg_ps (ps_move rfl) rfl ?_)
          refine sg_call ((t2 lm r [blk lg (lcells d ⟨b, s, mt, hd2, nx⟩), blk al [i64 x1, i64 x2, .int .u32 x3, .slice bb bs.length bc, .slice ka keep.length kc], DiskRep d D, RefRep r D, old W]).pre (fun w hO => hO.pick [2, 0, 1, 3, 4, 5] (by decide))) rfl rfl (fun _ _ => ?_)
          repeat' (first | refine sg_wo ?_ | refine sg_nil ?_ | refine sg_then ?_ | refine sg_ps (ps_bin rfl rfl inferInstance) rfl ?_ | refine sg_skip ?_ | refine ex_block_normal ?_ | (refine sg_cond_ndec rfl (fun hg => ?_) (fun hg => ?_) <;> first | (exfalso; omega) | (exact absurd rfl hg) | skip))
          exact ex_mid (lg, lm, mt, hd2, nx, D) hJ (.cons rfl (.cons rfl (.cons rfl (.cons rfl (.cons rfl (.cons rfl (.cons rfl (.cons rfl (.cons rfl .nil))))))))) (fun w hO => hO.pick [1, 0, 3, 4, 5] (by decide))
        · skip
          repeat' (first | refine sg_wo ?_ | refine sg_ps (ps_move rfl) rfl ?_ | refine sg_ps (ps_assign rfl) rfl ?_ | refine sg_seq ?_ | refine sg_region ?_ | refine sg_nil ?_ | refine sg_then ?_ | refine sg_ps (ps_bin rfl rfl inferInstance) rfl ?_ | refine sg_cond_t rfl ?_ | refine sg_cond_f rfl ?_)
          refine sg_call ((sync_tri d D [blk al [i64 x1, i64 x2, .int .u32 x3, .slice bb bs.length bc, .slice ka keep.length kc], blk lg (lcells d ⟨b, s, mt, hd, nx⟩), blk lm (lcells r ⟨b, s, mt, hd, nx⟩), RefRep r D, old W] (by omega)).pre (fun w hO => hO.pick [3, 0, 1, 2, 4, 5] (by decide))) rfl rfl (fun _ _ => ?_)
          repeat' (first | refine sg_wo ?_ | refine sg_ps (ps_move rfl) rfl ?_)
          refine sg_call ((rsync_tri r D [DiskRep d D.sync.2, blk al [i64 x1, i64 x2, .int .u32 x3, .slice bb bs.length bc, .slice ka keep.length kc], blk lg (lcells d ⟨b, s, mt, hd, nx⟩), blk lm (lcells r ⟨b, s, mt, hd, nx⟩), old W] (by omega)).pre (fun w hO => hO.pick [4, 0, 1, 2, 3, 5] (by decide))) rfl rfl (fun _ _ => ?_)
          repeat' (first | refine sg_wo ?_ | refine sg_nil ?_ | refine sg_then ?_ | refine sg_ps (ps_bin rfl rfl inferInstance) rfl ?_ | refine sg_skip ?_ | refine ex_block_normal ?_ | (refine sg_cond_ndec rfl (fun hg => ?_) (fun hg => ?_) <;> first | (exfalso; omega) | (exact absurd rfl hg) | skip))
          exact ex_mid (lg, lm, mt, hd, nx, D.sync.2) hP.sync (.cons rfl (.cons rfl (.cons rfl (.cons rfl (.cons rfl (.cons rfl (.cons rfl (.cons rfl (.cons rfl .nil))))))))) (fun w hO => hO.pick [3, 4, 1, 0, 5] (by decide))
        · skip
          repeat' (first | refine sg_wo ?_ | refine sg_ps (ps_move rfl) rfl ?_ | refine sg_ps (ps_assign rfl) rfl ?_ | refine sg_seq ?_ | refine sg_region ?_ | refine sg_nil ?_ | refine sg_then ?_ | refine sg_ps (ps_fieldAddr rfl) rfl ?_ | refine sg_load 0 rfl rfl rfl rfl ?_ | refine sg_ps (ps_bin rfl rfl inferInstance) rfl ?_ | refine sg_cond_t rfl ?_ | refine sg_cond_f rfl ?_)
          refine sg_call ((fuse_tri d D x2 [blk al [i64 x1, i64 x2, .int .u32 x3, .slice bb bs.length bc, .slice ka keep.length kc], blk lg (lcells d ⟨b, s, mt, hd, nx⟩), blk lm (lcells r ⟨b, s, mt, hd, nx⟩), RefRep r D, old W] (by omega)).pre (fun w hO => hO.pick [3, 0, 1, 2, 4, 5] (by decide))) rfl rfl (fun _ _ => ?_)
          repeat' (first | refine sg_wo ?_ | refine sg_ps (ps_move rfl) rfl ?_ | refine sg_region ?_ | refine sg_nil ?_ | refine sg_then ?_ | refine sg_ps (ps_fieldAddr rfl) rfl ?_ | refine sg_load 1 rfl rfl rfl rfl ?_)
          refine sg_call ((rfuse_tri r D x2 [DiskRep d (D.setFuse x2), blk al [i64 x1, i64 x2, .int .u32 x3, .slice bb bs.length bc, .slice ka keep.length kc], blk lg (lcells d ⟨b, s, mt, hd, nx⟩), blk lm (lcells r ⟨b, s, mt, hd, nx⟩), old W] (by omega)).pre (fun w hO => hO.pick [4, 0, 1, 2, 3, 5] (by decide))) rfl rfl (fun _ _ => ?_)
          repeat' (first | refine sg_nil ?_ | refine ex_block_normal ?_)
          exact ex_mid (lg, lm, mt, hd, nx, D.setFuse x2) (hP.fuse x2) (.cons rfl (.cons rfl (.cons rfl (.cons rfl (.cons rfl (.cons rfl (.cons rfl (.cons rfl (.cons rfl .nil))))))))) (fun w hO => hO.pick [3, 4, 1, 0, 5] (by decide))
        · skip
          repeat' (first | refine sg_wo ?_ | refine sg_ps (ps_move rfl) rfl ?_ | refine sg_ps (ps_assign rfl) rfl ?_ | refine sg_seq ?_ | refine sg_region ?_ | refine sg_nil ?_ | refine sg_then ?_ | refine sg_ps (ps_fieldAddr rfl) rfl ?_ | refine sg_load 0 rfl rfl rfl rfl ?_ | refine sg_ps (ps_bin rfl rfl inferInstance) rfl ?_ | refine sg_cond_t rfl ?_ | refine sg_cond_f rfl ?_)
          refine sg_call ((write_tri d D x2 bs bb bc [blk al [i64 x1, i64 x2, .int .u32 x3, .slice bb bs.length bc, .slice ka keep.length kc], blk lg (lcells d ⟨b, s, mt, hd, nx⟩), blk lm (lcells r ⟨b, s, mt, hd, nx⟩), RefRep r D, old W] (by omega) (by omega) (r1.rd 4 rfl) (by omega)).pre (fun w hO => hO.pick [3, 0, 1, 2, 4, 5] (by decide))) rfl rfl (fun _ _ => ?_)
          repeat' (first | refine sg_wo ?_ | refine sg_ps (ps_move rfl) rfl ?_ | refine sg_region ?_ | refine sg_nil ?_ | refine sg_then ?_ | refine sg_ps (ps_fieldAddr rfl) rfl ?_ | refine sg_load 1 rfl rfl rfl rfl ?_)
          refine sg_call ((rwrite_tri r D x2 bs bb bc [DiskRep d (D.write x2 bs).2, blk al [i64 x1, i64 x2, .int .u32 x3, .slice bb bs.length bc, .slice ka keep.length kc], blk lg (lcells d ⟨b, s, mt, hd, nx⟩), blk lm (lcells r ⟨b, s, mt, hd, nx⟩), old W] (by omega) (by omega) (rdo_tail r1 4 rfl) (by omega)).pre (fun w hO => hO.pick [4, 0, 1, 2, 3, 5] (by decide))) rfl rfl (fun _ _ => ?_)
          repeat' (first | refine sg_nil ?_ | refine ex_block_normal ?_)
          exact ex_mid (lg, lm, mt, hd, nx, (D.write x2 bs).2) (hP.write x2 bs) (.cons rfl (.cons rfl (.cons rfl (.cons rfl (.cons rfl (.cons rfl (.cons rfl (.cons rfl (.cons rfl .nil))))))))) (fun w hO => hO.pick [3, 4, 1, 0, 5] (by decide))
        · skip
          skip
          refine sg_seq ?_
          repeat' (first | refine sg_wo ?_ | refine sg_ps (ps_assign rfl) rfl ?_ | refine sg_region ?_ | refine sg_nil ?_ | refine sg_then ?_ | refine sg_ps (ps_bin rfl rfl inferInstance) rfl ?_ | (refine sg_cond_dec rfl (fun hg => ?_) (fun hg => ?_) <;> first | (exfalso; omega) | (exact absurd rfl hg) | skip))
          refine sg_seq ?_
          repeat' (first | refine sg_wo ?_ | refine sg_ps (ps_assign rfl) rfl ?_ | refine sg_region ?_ | refine sg_nil ?_ | refine sg_then ?_ | refine sg_ps (ps_bin rfl rfl inferInstance) rfl ?_ | (refine sg_cond_dec rfl (fun hg => ?_) (fun hg => ?_) <;> first | (exfalso; omega) | (exact absurd rfl hg) | skip))
          refine sg_seq ?_
          repeat' (first | refine sg_wo ?_ | refine sg_ps (ps_assign rfl) rfl ?_ | refine sg_region ?_ | refine sg_nil ?_ | refine sg_then ?_ | refine sg_ps (ps_bin rfl rfl inferInstance) rfl ?_ | (refine sg_cond_dec rfl (fun hg => ?_) (fun hg => ?_) <;> first | (exfalso; omega) | (exact absurd rfl hg) | skip))
          refine sg_seq ?_
          repeat' (first | refine sg_wo ?_ | refine sg_ps (ps_assign rfl) rfl ?_ | refine sg_region ?_ | refine sg_nil ?_ | refine sg_then ?_ | refine sg_ps (ps_bin rfl rfl inferInstance) rfl ?_ | (refine sg_cond_dec rfl (fun hg => ?_) (fun hg => ?_) <;> first | (exfalso; omega) | (exact absurd rfl hg) | skip))
          refine sg_seq ?_
          repeat' (first | refine sg_wo ?_ | refine sg_ps (ps_assign rfl) rfl ?_ | refine sg_region ?_ | refine sg_nil ?_ | refine sg_then ?_ | refine sg_ps (ps_bin rfl rfl inferInstance) rfl ?_ | (refine sg_cond_dec rfl (fun hg => ?_) (fun hg => ?_) <;> first | (exfalso; omega) | (exact absurd rfl hg) | skip))
          refine sg_seq ?_
          repeat' (first | refine sg_wo ?_ | refine sg_ps (ps_move rfl) rfl ?_ | refine sg_ps (ps_assign rfl) rfl ?_ | refine sg_region ?_ | refine sg_nil ?_ | refine sg_then ?_ | refine sg_ps (ps_fieldAddr rfl) rfl ?_ | refine sg_ps (ps_nilCheck rfl) rfl ?_ | refine sg_load 2 rfl rfl rfl rfl ?_)
          refine sg_seq ?_
          repeat' (first | refine sg_wo ?_ | refine sg_ps (ps_move rfl) rfl ?_ | refine sg_ps (ps_assign rfl) rfl ?_ | refine sg_region ?_ | refine sg_nil ?_ | refine sg_then ?_)
          refine sg_seq_mid (γ := Nat × Nat) (fun g => g.1 < 4294967296) (fun g => [(0, i64 b), (1, i64 s), (2, u32v least), (5, .slice (some ⟨lb, lo, none⟩) l.length lc), (13, dp d), (15, dp r), (17, dp lg), (20, dp lm), (25, i64 i), (26, dp al), (33, u64v g.2), (34, u32v g.1)])
            (fun _ => [blk al [i64 x1, i64 x2, .int .u32 x3, .slice bb bs.length bc, .slice ka keep.length kc], blk lg (lcells d ⟨b, s, mt, hd, nx⟩), blk lm (lcells r ⟨b, s, mt, hd, nx⟩), DiskRep d D, RefRep r D, old W]) ?_ ?_
          · rcases h36 with rfl | rfl
            · skip
              repeat' (first | refine sg_wo ?_ | refine sg_seq ?_ | refine sg_region ?_ | refine sg_nil ?_ | refine sg_then ?_ | refine sg_ps (ps_fieldAddr rfl) rfl ?_ | refine sg_load 0 rfl rfl rfl rfl ?_ | refine sg_ps (ps_add64 rfl rfl (by omega)) rfl ?_ | refine sg_ps (ps_bin rfl rfl inferInstance) rfl ?_ | refine sg_ps (ps_rem rfl rfl (by decide)) rfl ?_ | refine sg_skip ?_ | (refine sg_cond_dec rfl (fun hg => ?_) (fun hg => ?_) <;> first | (exfalso; omega) | (exact absurd rfl hg) | skip))
              exact ex_mid (least, hd) (by show least < 4294967296; omega) (.cons rfl (.cons rfl (.cons rfl (.cons rfl (.cons rfl (.cons rfl (.cons rfl (.cons rfl (.cons rfl (.cons rfl (.cons rfl (.cons rfl .nil)))))))))))) (fun w hO => hO)
            · obtain ⟨at2, _, e1⟩ := u64_any ((hd : Int) + IntKind.u64.wrap x2)
              obtain ⟨fr, hfr, e2⟩ := u32_any ((least : Int) + x3)
              repeat' (first | refine sg_wo ?_ | refine sg_ps (ps_move rfl) rfl ?_ | refine sg_ps (ps_assign rfl) rfl ?_ | refine sg_seq ?_ | refine sg_region ?_ | refine sg_nil ?_ | refine sg_then ?_ | refine sg_ps (ps_fieldAddr rfl) rfl ?_ | refine sg_load 0 rfl rfl rfl rfl ?_ | refine sg_ps (ps_add64 rfl rfl (by omega)) rfl ?_ | refine sg_ps (ps_bin rfl rfl inferInstance) rfl ?_ | refine sg_ps (ps_rem rfl rfl (by decide)) rfl ?_ | refine sg_ps (ps_conv rfl) rfl ?_ | (refine sg_cond_dec rfl (fun hg => ?_) (fun hg => ?_) <;> first | (exfalso; omega) | (exact absurd rfl hg) | skip))
              rw [e1, e2]
              exact ex_mid (fr, at2) hfr (.cons rfl (.cons rfl (.cons rfl (.cons rfl (.cons rfl (.cons rfl (.cons rfl (.cons rfl (.cons rfl (.cons rfl (.cons rfl (.cons rfl .nil)))))))))))) (fun w hO => hO)
          · clear hm h36 r0
            rintro ⟨fr, at2⟩ hfr
            dsimp only at hfr ⊢
            obtain ⟨mt2, hmt2, emt⟩ := u32_any ((mt : Int) + x3)
            have hE := hP.crash keep
            repeat' (first | refine sg_wo ?_ | refine sg_ps (ps_move rfl) rfl ?_ | refine sg_seq ?_ | refine sg_region ?_)
            refine sg_buildSlice rfl (by decide) rfl rfl (fun kb => ?_)
            repeat' (first | refine sg_wo ?_ | refine sg_ps (ps_fieldAddr rfl) rfl ?_ | refine sg_load 1 rfl rfl rfl rfl ?_)
            refine sg_own_mk (m := 0) (c := 0) (sz := 1) (xs := []) (Nat.le_refl _) (by decide) rfl rfl ?_
            refine sg_append (by_ := 8) rfl rfl rfl (news := keep.map (Value.int .i64)) (by simp) (by intro u hu; obtain ⟨x, _, rfl⟩ := List.mem_map.1 hu; rfl) (r2.rd 6 rfl) (by show 0 + keep.length ≤ 9223372036854775807; omega) (by omega) (fun a' c' => ?_)
            rw [Nat.zero_add, List.nil_append]
            refine sg_wo (sg_call ((crash_tri d D keep a' c' [sown a' keep.length c' 1 (keep.map (Value.int .i64)), blk al [i64 x1, i64 x2, .int .u32 x3, .slice bb bs.length bc, .slice ka keep.length kc], blk lg (lcells d ⟨b, s, mt, hd, nx⟩), blk lm (lcells r ⟨b, s, mt, hd, nx⟩), RefRep r D, old W] (rd_sown 0 rfl (fun j u hj => hj)) (by omega) (by omega)).pre (fun w hO => hO.pick [4, 0, 1, 2, 3, 5, 6] (by decide))) rfl rfl (fun _ _ => ?_))
            repeat' (first | refine sg_wo ?_ | refine sg_ps (ps_move rfl) rfl ?_ | refine sg_seq ?_ | refine sg_region ?_ | refine sg_nil ?_ | refine sg_then ?_ | refine sg_ps (ps_fieldAddr rfl) rfl ?_ | refine sg_load 2 rfl rfl rfl rfl ?_)
            refine sg_call ((rcrash_tri r D keep ka kc [DiskRep d (D.crash keep), blk al [i64 x1, i64 x2, .int .u32 x3, .slice bb bs.length bc, .slice ka keep.length kc], blk lg (lcells d ⟨b, s, mt, hd, nx⟩), blk lm (lcells r ⟨b, s, mt, hd, nx⟩), old W] (rdo_tail r2 4 rfl) (by omega) (by omega)).pre (fun w hO => hO.pick [5, 0, 2, 3, 4, 6] (by decide))) rfl rfl (fun _ _ => ?_)
            generalize D.crash keep = E at hE ⊢
            have hEl := hE.len
            repeat' (first | refine sg_seq ?_ | refine sg_nil ?_ | refine sg_then ?_)
            refine sg_drawK [blk al [i64 x1, i64 x2, .int .u32 x3, .slice bb bs.length bc, .slice ka keep.length kc], blk lm (lcells r ⟨b, s, mt, hd, nx⟩)] [0, 1, 2, 3, 4, 5, 6, 8, 11, 7, 9, 10, 12, 13, 14, 15, 16, 17, 18, 19] (by kernel_rfl) (by kernel_rfl) (fun w hO => hO.pick [2, 4] (by decide)) ?_
            repeat' (first | refine sk_pure rfl rfl (ps_move rfl) rfl ?_ | refine sk_pure rfl rfl (ps_nilCheck rfl) rfl ?_ | refine sk_pure rfl rfl (ps_fieldAddr rfl) rfl ?_ | refine sk_pure rfl rfl (ps_bin rfl rfl inferInstance) rfl ?_ | refine sk_load 0 rfl rfl rfl rfl rfl ?_ | refine sk_load 1 rfl rfl rfl rfl rfl ?_ | refine sk_eff rfl rfl ?_)
            rw [emt]
            by_cases hb2 : badOpen 40 (b : Int) (s : Int) fr mt2 at2
            · refine sg_call ((wopen_bad d E b s fr mt2 at2 [RefRep r E, blk al [i64 x1, i64 x2, .int .u32 x3, .slice bb bs.length bc, .slice ka keep.length kc], blk lg (lcells d ⟨b, s, mt, hd, nx⟩), blk lm (lcells r ⟨b, s, mt, hd, nx⟩), old W] (by omega) (by rw [hEl]; exact hb2)).pre (fun w hO => hO.pick [1, 0, 2, 3, 4, 5] (by decide))) rfl rfl (fun _ _ => ?_)
              refine sk_back (fun w hO => hO.pick [2, 4] (by decide)) ?_
              repeat' (first | refine sk_nil ?_ | refine sk_pure rfl rfl (ps_move rfl) rfl ?_ | refine sk_pure rfl rfl (ps_assign rfl) rfl ?_ | refine sk_pure rfl rfl (ps_extract rfl rfl) rfl ?_)
              repeat' (first | refine sg_seq ?_ | refine sg_then ?_)
              refine sg_drawK [blk al [i64 x1, i64 x2, .int .u32 x3, .slice bb bs.length bc, .slice ka keep.length kc], blk lm (lcells r ⟨b, s, mt, hd, nx⟩)] [0, 1, 2, 3, 4, 5, 6, 8, 11, 7, 9, 10, 12, 13, 14, 15, 16, 17, 18, 19] (by kernel_rfl) (by kernel_rfl) (fun w hO => hO.pick [2, 4] (by decide)) ?_
              repeat' (first | refine sk_pure rfl rfl (ps_move rfl) rfl ?_ | refine sk_pure rfl rfl (ps_nilCheck rfl) rfl ?_ | refine sk_pure rfl rfl (ps_fieldAddr rfl) rfl ?_ | refine sk_pure rfl rfl (ps_bin rfl rfl inferInstance) rfl ?_ | refine sk_load 0 rfl rfl rfl rfl rfl ?_ | refine sk_load 1 rfl rfl rfl rfl rfl ?_ | refine sk_eff rfl rfl ?_)
              rw [emt]
              refine sg_call ((r5open_bad r E b s fr mt2 at2 [DiskRep d E, blk al [i64 x1, i64 x2, .int .u32 x3, .slice bb bs.length bc, .slice ka keep.length kc], blk lg (lcells d ⟨b, s, mt, hd, nx⟩), blk lm (lcells r ⟨b, s, mt, hd, nx⟩), old W] (by omega) (by rw [hEl]; exact hb2)).pre (fun w hO => hO.pick [1, 0, 2, 3, 4, 5] (by decide))) rfl rfl (fun _ _ => ?_)
              refine sk_back (fun w hO => hO.pick [2, 4] (by decide)) ?_
              repeat' (first | refine sk_nil ?_ | refine sk_pure rfl rfl (ps_move rfl) rfl ?_ | refine sk_pure rfl rfl (ps_assign rfl) rfl ?_ | refine sk_pure rfl rfl (ps_extract rfl rfl) rfl ?_)
              repeat' (first | refine sg_wo ?_ | refine sg_ps (ps_move rfl) rfl ?_ | refine sg_seq ?_ | refine sg_region ?_ | refine sg_then ?_ | refine sg_ps (ps_bin rfl rfl inferInstance) rfl ?_ | refine sg_guard_yes rfl rfl ?_)
              refine sg_own (L' := [RecsRep none 0 [], RecsRep none 0 [], RefRep r E, DiskRep d E, blk al [i64 x1, i64 x2, .int .u32 x3, .slice bb bs.length bc, .slice ka keep.length kc], blk lg (lcells d ⟨b, s, mt, hd, nx⟩), blk lm (lcells r ⟨b, s, mt, hd, nx⟩), old W]) (fun w hO => recs_nil (recs_nil hO)) ?_
              refine sg_call (same_tri [] [] none none 0 0 rfl (by decide) _) rfl rfl (fun _ _ => ?_)
              repeat' (first | refine sg_wo ?_ | refine sg_ps (ps_move rfl) rfl ?_ | refine sg_seq ?_ | refine sg_region ?_ | refine sg_nil ?_ | refine sg_then ?_ | refine sg_ps (ps_bin rfl rfl inferInstance) rfl ?_ | refine sg_ps (ps_not rfl) rfl ?_ | refine sg_cond_f rfl ?_ | refine sg_guard_yes rfl rfl ?_ | refine sg_ps (ps_pick_f rfl rfl) rfl ?_ | refine sg_skip ?_ | refine ex_block_normal ?_)
              exact ex_mid (lg, lm, mt, hd, nx, E) hE (.cons rfl (.cons rfl (.cons rfl (.cons rfl (.cons rfl (.cons rfl (.cons rfl (.cons rfl (.cons rfl .nil))))))))) (fun w hO => hO.pick [5, 6, 3, 2, 7] (by decide))
            · obtain ⟨_, _, _, _, _, _, d6, d7, d8, d9⟩ := good_of hb2
              refine sg_call ((wopen_tri d E b s fr mt2 at2 [RefRep r E, blk al [i64 x1, i64 x2, .int .u32 x3, .slice bb bs.length bc, .slice ka keep.length kc], blk lg (lcells d ⟨b, s, mt, hd, nx⟩), blk lm (lcells r ⟨b, s, mt, hd, nx⟩), old W] c4 (by omega) (by omega) d6 d7 hmt2 d8 d9).pre (fun w hO => hO.pick [1, 0, 2, 3, 4, 5] (by decide))) rfl rfl (fun x hx => ?_)
              obtain ⟨lg2, oa, oc, p⟩ := x
              dsimp only at hx ⊢
              refine sk_back (fun w hO => hO.pick [4, 6] (by decide)) ?_
              repeat' (first | refine sk_nil ?_ | refine sk_pure rfl rfl (ps_move rfl) rfl ?_ | refine sk_pure rfl rfl (ps_assign rfl) rfl ?_ | refine sk_pure rfl rfl (ps_extract rfl rfl) rfl ?_)
              repeat' (first | refine sg_seq ?_ | refine sg_then ?_)
              refine sg_drawK [blk al [i64 x1, i64 x2, .int .u32 x3, .slice bb bs.length bc, .slice ka keep.length kc], blk lm (lcells r ⟨b, s, mt, hd, nx⟩)] [0, 1, 2, 3, 4, 5, 6, 8, 11, 7, 9, 10, 12, 13, 14, 15, 16, 17, 18, 19] (by kernel_rfl) (by kernel_rfl) (fun w hO => hO.pick [4, 6] (by decide)) ?_
              repeat' (first | refine sk_pure rfl rfl (ps_move rfl) rfl ?_ | refine sk_pure rfl rfl (ps_nilCheck rfl) rfl ?_ | refine sk_pure rfl rfl (ps_fieldAddr rfl) rfl ?_ | refine sk_pure rfl rfl (ps_bin rfl rfl inferInstance) rfl ?_ | refine sk_load 0 rfl rfl rfl rfl rfl ?_ | refine sk_load 1 rfl rfl rfl rfl rfl ?_ | refine sk_eff rfl rfl ?_)
              rw [emt]
              refine sg_call ((r5open_tri r E b s fr mt2 at2 [RecsRep oa oc p, blk lg2 (lcells d ⟨b, s, mt2, at2, (wfound E b s mt2 at2 fr).2⟩), DiskRep d E, blk al [i64 x1, i64 x2, .int .u32 x3, .slice bb bs.length bc, .slice ka keep.length kc], blk lg (lcells d ⟨b, s, mt, hd, nx⟩), blk lm (lcells r ⟨b, s, mt, hd, nx⟩), old W] c4 (by omega) (by omega) d6 d7 hmt2 d8 d9).pre (fun w hO => hO.pick [3, 0, 1, 2, 4, 5, 6, 7] (by decide))) rfl rfl (fun y hy => ?_)
              obtain ⟨lm2, ob, obc, q⟩ := y
              dsimp only at hy ⊢
              refine sk_back (fun w hO => hO.pick [6, 8] (by decide)) ?_
              have hJ := hE.opened b fr hmt2 d9
              have hpl : p.length ≤ 4096 := by
                have h1 := congrArg List.length hx
                have h2 := (wfound_bounds E b s mt2 at2 fr).2
                rw [List.length_map] at h1
                omega
              have hpq := hx.trans hy.symm
              clear hx hy
              generalize (wfound E b s mt2 at2 fr).2 = nx2 at *
              repeat' (first | refine sk_nil ?_ | refine sk_pure rfl rfl (ps_move rfl) rfl ?_ | refine sk_pure rfl rfl (ps_assign rfl) rfl ?_ | refine sk_pure rfl rfl (ps_extract rfl rfl) rfl ?_)
              repeat' (first | refine sg_wo ?_ | refine sg_ps (ps_move rfl) rfl ?_ | refine sg_seq ?_ | refine sg_region ?_ | refine sg_then ?_ | refine sg_ps (ps_bin rfl rfl inferInstance) rfl ?_ | refine sg_guard_yes rfl rfl ?_)
              refine sg_call ((same_tri p q oa ob oc obc hpq hpl [blk lm2 (lcells r ⟨b, s, mt2, at2, nx2⟩), RefRep r E, blk lg2 (lcells d ⟨b, s, mt2, at2, nx2⟩), DiskRep d E, blk al [i64 x1, i64 x2, .int .u32 x3, .slice bb bs.length bc, .slice ka keep.length kc], blk lg (lcells d ⟨b, s, mt, hd, nx⟩), blk lm (lcells r ⟨b, s, mt, hd, nx⟩), old W]).pre (fun w hO => hO.pick [3, 0, 1, 2, 4, 5, 6, 7, 8, 9] (by decide))) rfl rfl (fun _ _ => ?_)
              repeat' (first | refine sg_wo ?_ | refine sg_ps (ps_move rfl) rfl ?_ | refine sg_ps (ps_assign rfl) rfl ?_ | refine sg_seq ?_ | refine sg_region ?_ | refine sg_nil ?_ | refine sg_then ?_ | refine sg_ps (ps_bin rfl rfl inferInstance) rfl ?_ | refine sg_ps (ps_not rfl) rfl ?_ | refine sg_cond_t rfl ?_ | refine sg_cond_f rfl ?_ | refine sg_guard_yes rfl rfl ?_ | refine sg_ps (ps_pick_f rfl rfl) rfl ?_ | refine sg_skip ?_ | refine ex_block_normal ?_)
              exact ex_mid (lg2, lm2, mt2, at2, nx2, E) hJ (.cons rfl (.cons rfl (.cons rfl (.cons rfl (.cons rfl (.cons rfl (.cons rfl (.cons rfl (.cons rfl .nil))))))))) (fun w hO => hO.pick [4, 2, 5, 3, 9] (by decide))
      · clear hP g1 g2 g3 g4 g5 g6 g7 g8 r0 r1 r2 hm hr5
        clear lg lm mt hd nx D
        rintro ⟨lg, lm, mt, hd, nx, D⟩ hP
        dsimp only at hP ⊢
        have g1 := hP.len
        have g6 := hP.hdl
        obtain ⟨g7, g8⟩ := hP.nxb
        repeat' (first | refine sg_seq ?_)
        refine sg_drawK [blk lg (lcells d ⟨b, s, mt, hd, nx⟩), blk lm (lcells r ⟨b, s, mt, hd, nx⟩), DiskRep d D, RefRep r D, old W] [0, 2, 3, 4, 5, 1, 6, 7, 8, 10, 11, 12, 13, 9, 14, 15, 16, 17, 19, 18, 20, 21, 22] (by kernel_rfl) (by kernel_rfl) (fun w hO => hO) ?_
        repeat' (first | refine sk_pure rfl rfl (ps_move rfl) rfl ?_ | refine sk_pure rfl rfl (ps_nilCheck rfl) rfl ?_ | refine sk_pure rfl rfl (ps_fieldAddr rfl) rfl ?_ | refine sk_load 1 rfl rfl rfl rfl rfl ?_ | refine sk_eff rfl rfl ?_)
        refine sg_call (head_at lg d b s mt hd nx _) rfl rfl (fun _ _ => ?_)
        refine sk_back (fun w hO => hO) ?_
        repeat' (first | refine sk_pure rfl rfl (ps_move rfl) rfl ?_ | refine sk_pure rfl rfl (ps_bin rfl rfl inferInstance) rfl ?_ | refine sk_pure_g rfl rfl rfl rfl (ps_move rfl) rfl ?_ | refine sk_pure_g rfl rfl rfl rfl (ps_nilCheck rfl) rfl ?_ | refine sk_pure_g rfl rfl rfl rfl (ps_fieldAddr rfl) rfl ?_ | refine sk_load_g 1 rfl rfl rfl rfl rfl rfl rfl ?_ | refine sk_eff rfl rfl ?_ | refine sg_guard_yes rfl rfl ?_ | (refine sk_ndec rfl rfl rfl rfl (fun hg => ?_) (fun hg => ?_) <;> first | (exfalso; omega) | (exact absurd rfl hg) | skip))
        refine sg_call (next_at lg d b s mt hd nx _) rfl rfl (fun _ _ => ?_)
        refine sk_back (fun w hO => hO) ?_
        repeat' (first | refine sk_pure rfl rfl (ps_move rfl) rfl ?_ | refine sk_pure rfl rfl (ps_pick_f rfl rfl) rfl ?_ | refine sk_pure_g rfl rfl rfl rfl (ps_move rfl) rfl ?_ | refine sk_pure_g rfl rfl rfl rfl (ps_bin rfl rfl inferInstance) rfl ?_ | refine sk_eff rfl rfl ?_ | refine sg_guard_yes rfl rfl ?_ | (refine sk_ndec rfl rfl rfl rfl (fun hg => ?_) (fun hg => ?_) <;> first | (exfalso; omega) | (exact absurd rfl hg) | skip))
        refine sg_call (room_at lg d b s mt hd nx g7 (by omega) (by omega) _) rfl rfl (fun _ _ => ?_)
        refine sk_back (fun w hO => hO) ?_
        repeat' (first | refine sk_eff rfl rfl ?_ | refine sg_guard_yes rfl rfl ?_)
        refine sg_call ((r5room_tri lm r ⟨b, s, mt, hd, nx⟩ g7 (by show nx < 9223372036854775808; omega) (by show s ≤ 4096; omega) [blk lg (lcells d ⟨b, s, mt, hd, nx⟩), DiskRep d D, RefRep r D, old W]).pre (fun w hO => hO.pick [1, 0, 2, 3, 4] (by decide))) rfl rfl (fun _ _ => ?_)
        refine sk_back (fun w hO => hO.pick [1, 0, 2, 3, 4] (by decide)) ?_
        dsimp only
        repeat' (first | refine sk_nil ?_ | refine sk_pure rfl rfl (ps_pick_f rfl rfl) rfl ?_ | refine sk_pure_g rfl rfl rfl rfl (ps_bin rfl rfl inferInstance) rfl ?_)
        repeat' (first | refine sg_wo ?_ | refine sg_ps (ps_move rfl) rfl ?_ | refine sg_ps (ps_assign rfl) rfl ?_ | refine sg_region ?_ | refine sg_nil ?_ | refine sg_then ?_ | refine sg_ps (ps_add64 rfl rfl (by omega)) rfl ?_ | refine sg_skip ?_ | refine ex_block_normal ?_ | (refine sg_cond_ndec rfl (fun hg => ?_) (fun hg => ?_) <;> first | (exfalso; omega) | (exact absurd rfl hg) | skip))
        exact ex_mid ((lg, lm, mt, hd, nx, D), i + 1) ⟨by show 80 - (i + 1) < 80 - i; omega, ⟨by show i + 1 ≤ l.length; omega, by show i + 1 ≤ 80; omega⟩, hP⟩ (.cons rfl (.cons rfl (.cons rfl (.cons rfl (.cons rfl (.cons rfl (.cons rfl (.cons rfl (.cons rfl .nil))))))))) (fun w hO => hO.pick [1, 0, 2, 3, 4] (by decide))
    · skip
      repeat' (first | refine sg_wo ?_ | refine sg_ps (ps_move rfl) rfl ?_ | refine sg_seq ?_ | refine sg_region ?_ | refine sg_nil ?_ | refine sg_then ?_ | refine sg_ps (ps_bin rfl rfl inferInstance) rfl ?_ | refine sg_cond_f rfl ?_ | refine sg_guard_yes rfl rfl ?_ | refine sg_guard_nf rfl rfl rfl ?_ | refine sg_ps (ps_pick_t rfl rfl) rfl ?_ | refine sg_ps (ps_pick_f rfl rfl) rfl ?_ | refine sg_ps (ps_len rfl) rfl ?_ | refine sg_exit ?_ | refine ex_then_exit ?_ | refine ex_block_hit ?_ | (refine sg_guard_dec rfl rfl (fun hg => ?_) (fun hg => ?_) <;> first | (exfalso; omega) | (exact absurd rfl hg) | skip) | (refine sg_cond_dec rfl (fun hg => ?_) (fun hg => ?_) <;> first | (exfalso; omega) | (exact absurd rfl hg) | skip))
      all_goals exact ex_mid D g1 (.cons rfl (.cons rfl .nil)) (fun w hO => hO.pick [2, 3, 4] (by decide))
  · rintro D g1
    refine sg_front1 ?_
    refine RefRep.open fun x hx => ?_
    obtain ⟨l1, l2, l3⟩ := hx.lens
    repeat' (first | refine sg_wo ?_ | refine sg_ps (ps_assign rfl) rfl ?_ | refine sg_seq ?_ | refine sg_region ?_ | refine sg_nil ?_ | refine sg_then ?_ | refine sg_block ?_)
    refine sg_loop (γ := Nat) (fun j => j ≤ 40) (fun j => [(13, dp d), (15, dp r), (41, i64 j)])
      (fun _ => [blk r (rdcells D x), sown (some ⟨x.kb, 0, none⟩) x.ks.length x.kc 1 (x.ks.map shdr), sown (some ⟨x.sb, 0, none⟩) x.ss.length x.sc 1 (x.ss.map shdr), sown x.wa x.ws.length x.wc 2 (x.ws.flatMap putc), blks x.ls, DiskRep d D, old W]) (fun j => 40 - j) 0 (Nat.zero_le _) (.cons rfl (.cons rfl (.cons rfl .nil))) (fun w hO => hO) ?_
    intro j hj
    by_cases hjk : j < 40
    · have hjs : j < x.ss.length := by omega
      have hjd : j < D.seen.length := by omega
      have hsk : x.ss[j].2 = D.seen[j] := by
        have h9 := congrArg (fun l => l[j]?) hx.seen
        simp only [List.getElem?_map, List.getElem?_eq_getElem hjs, List.getElem?_eq_getElem hjd, Option.map_some, Option.some.injEq] at h9
        exact h9
      have h64 : x.ss[j].2.length = 64 := by rw [hsk]; exact hx.dok.sec _ (List.getElem_mem hjd)
      have hin := hx.sin _ (List.getElem_mem hjs)
      repeat' (first | refine sg_wo ?_ | refine sg_ps (ps_move rfl) rfl ?_ | refine sg_seq ?_ | refine sg_region ?_ | refine sg_nil ?_ | refine sg_then ?_ | refine sg_ps (ps_bin rfl rfl inferInstance) rfl ?_ | refine sg_block ?_ | refine sg_skip ?_ | (refine sg_cond_dec rfl (fun hg => ?_) (fun hg => ?_) <;> first | (exfalso; omega) | (exact absurd rfl hg) | skip))
      refine sg_call ((read_tri d D j [blk r (rdcells D x), sown (some ⟨x.kb, 0, none⟩) x.ks.length x.kc 1 (x.ks.map shdr), sown (some ⟨x.sb, 0, none⟩) x.ss.length x.sc 1 (x.ss.map shdr), sown x.wa x.ws.length x.wc 2 (x.ws.flatMap putc), blks x.ls, old W] hjd).pre (fun w hO => hO.pick [5, 0, 1, 2, 3, 4, 6] (by decide))) rfl rfl (fun rb _ => ?_)
      rw [← hsk]
      repeat' (first | refine sg_wo ?_ | refine sg_ps (ps_move rfl) rfl ?_ | refine sg_ps (ps_assign rfl) rfl ?_ | refine sg_seq ?_ | refine sg_region ?_ | refine sg_nil ?_ | refine sg_then ?_ | refine sg_ps (ps_fieldAddr rfl) rfl ?_ | refine sg_ps (ps_nilCheck rfl) rfl ?_ | refine sg_load 2 rfl rfl rfl rfl ?_ | refine sg_ps (ps_extract rfl rfl) rfl ?_ | refine sg_ps (ps_indexAddr rfl rfl rfl (by omega)) rfl ?_)
      refine sg_load_rd rfl ((rd_sown 4 rfl (fun _ _ h => h)).get j (v := shdr x.ss[j]) (by rw [List.getElem?_map, List.getElem?_eq_getElem hjs]; rfl)) rfl ?_
      repeat' (first | refine sg_wo ?_)
      have hby := rawBytes_tri (W := W) x.ss[j].2 x.ss[j].2 (some ⟨rb, 0, none⟩) (some ⟨x.ss[j].1, 0, none⟩) 64 64 [blk rb (x.ss[j].2.map bv), DiskRep d D, blk r (rdcells D x), sown (some ⟨x.kb, 0, none⟩) x.ks.length x.kc 1 (x.ks.map shdr), sown (some ⟨x.sb, 0, none⟩) x.ss.length x.sc 1 (x.ss.map shdr), sown x.wa x.ws.length x.wc 2 (x.ws.flatMap putc), blks x.ls, old W]
        (rd_blk 0 rfl (fun q u h => by rw [Nat.zero_add]; exact h)) (rd_blks 6 rfl hin (fun q u h => by rw [Nat.zero_add]; exact h))
      rw [h64, decide_eq_true rfl] at hby
      refine sg_call hby rfl rfl (fun _ _ => ?_)
      repeat' (first | refine sg_wo ?_ | refine sg_ps (ps_move rfl) rfl ?_ | refine sg_ps (ps_assign rfl) rfl ?_ | refine sg_region ?_ | refine sg_nil ?_ | refine sg_then ?_ | refine sg_ps (ps_add64 rfl rfl (by omega)) rfl ?_ | refine sg_ps (ps_not rfl) rfl ?_ | refine sg_cond_f rfl ?_ | refine sg_skip ?_ | refine ex_block_normal ?_)
      exact ex_mid (j + 1) ⟨by omega, by omega⟩ (.cons rfl (.cons rfl (.cons rfl .nil))) (fun w hO => hO.pick [2, 3, 4, 5, 6, 1, 7] (by decide))
    · skip
      repeat' (first | refine sg_wo ?_ | refine sg_ps (ps_move rfl) rfl ?_ | refine sg_ps (ps_assign rfl) rfl ?_ | refine sg_seq ?_ | refine sg_region ?_ | refine sg_nil ?_ | refine sg_then ?_ | refine sg_ps (ps_bin rfl rfl inferInstance) rfl ?_ | refine sg_ret ?_ | refine sg_exit ?_ | refine ex_then_exit ?_ | refine ex_block_hit ?_ | (refine sg_cond_dec rfl (fun hg => ?_) (fun hg => ?_) <;> first | (exfalso; omega) | (exact absurd rfl hg) | skip))
      exact ex_ret1 rfl rfl () rfl trivial (fun w hO => hO.pick [6] (by decide))
theorem walPlays_opened (W : World) (vs : List Value) (h : Opens Try.prog W Try.f9.params.toList vs) :
    Tri Try.prog W 9 vs [old W] (X := Unit) (fun _ => .bool true) (fun _ => True) (fun _ => [old W]) := by
  obtain ⟨a0, c0, vs, rfl, e0, h⟩ := Opens.cons (RT.int .i64 Try.underlying3) h
  obtain ⟨a1, c1, vs, rfl, e1, h⟩ := Opens.cons (RT.int .i64 Try.underlying3) h
  obtain ⟨a2, c2, vs, rfl, e2, h⟩ := Opens.cons (RT.int .u32 Try.underlying32) h
  obtain ⟨a3, c3, vs, rfl, e3, h⟩ := Opens.cons (RT.int .u32 Try.underlying32) h
  obtain ⟨a4, c4, vs, rfl, e4, h⟩ := Opens.cons (RT.int .u64 Try.underlying33) h
  obtain ⟨a5, c5, vs, rfl, e5, h⟩ := Opens.cons (RT.slice 5 72 Try.underlying51 (by kernel_rfl) (by kernel_rfl) (RT.struct (tot := 5) Try.underlying53 (by kernel_rfl) (RF.cons 1 (RT.int .i64 Try.underlying3) rfl (by kernel_rfl) (RF.cons 1 (RT.int .i64 Try.underlying3) rfl (by kernel_rfl) (RF.cons 1 (RT.int .u32 Try.underlying32) rfl (by kernel_rfl) (RF.cons 1 (RT.slice 1 1 Try.underlying34 (by kernel_rfl) (by kernel_rfl) (RT.u8 Try.underlying5)) rfl (by kernel_rfl) (RF.cons 1 (RT.slice 1 8 Try.underlying40 (by kernel_rfl) (by kernel_rfl) (RT.int .i64 Try.underlying3)) rfl (by kernel_rfl) (RF.nil rfl)))))))) h
  obtain rfl := Opens.nil h
  obtain ⟨la, lc, rfl, hl⟩ := opsAt_of e5
  obtain ⟨rfl, w0⟩ := e0
  obtain ⟨rfl, w1⟩ := e1
  obtain ⟨rfl, w2⟩ := e2
  obtain ⟨rfl, w3⟩ := e3
  obtain ⟨rfl, w4⟩ := e4
  have h2 := wf_u32 w2
  have h3 := wf_u32 w3
  have h4 := wf_u64 w4
  obtain ⟨k2, rfl⟩ : ∃ m : Nat, a2 = (m : Int) := ⟨a2.toNat, by omega⟩
  obtain ⟨k3, rfl⟩ : ∃ m : Nat, a3 = (m : Int) := ⟨a3.toNat, by omega⟩
  obtain ⟨k4, rfl⟩ : ∃ m : Nat, a4 = (m : Int) := ⟨a4.toNat, by omega⟩
  exact walPlays_tri a0 a1 k2 k3 k4 a5 la lc (wf_i64 w0) (by omega) hl
set_option maxRecDepth 100000 in
theorem walPlays_lifted (os : Os) (started : os.Started) (H : Type) (enc : TypeId × Value → H) :
    ReturnsInHanded {} Try.checked os 9 .any (Rows.walPlaysSpec.pre6 enc Try.prog Try.f9 Rows.walPlaysRow.domain false) (Rows.walPlaysSpec.post enc Try.prog Try.f9 false true false false) :=
  lift (tb := 4) started law_own law_laidOut (by kernel_rfl) Try.func9
    (ChangeSpec.witness6 (enc := enc) (C := Try.checked) false ⟨#[], #[.int .i64 0, .int .i64 0, .int .u32 0, .int .u32 0, .int .u64 0, .slice none 0 0], []⟩ 8 (by kernel_rfl) (by kernel_rfl) (by kernel_rfl) (by kernel_rfl))
    rfl rfl Try.underlying4 (by kernel_rfl) (fun ds h => by
      match ds, h with
      | [d1, d2, d3, d4, d5, d6], _ => rfl) walPlays_opened
theorem walPlays_over : Rows.walPlaysRow.holds Try.pinned (OpenSpec.ofChange Rows.walPlaysSpec) :=
  OpenClaim.holds_of_wide 9 Try.f9 rfl rfl rfl rfl rfl rfl rfl ⟨rfl, rfl, rfl, rfl, rfl⟩ rfl rfl rfl rfl rfl (by kernel_rfl) Try.func9 (by kernel_rfl)
    (of_decide_eq_true (by kernel_rfl)) (by unfold Func.isWrapper; first | (rw [if_pos (by decide +kernel)]; kernel_rfl) | (rw [if_neg (by decide +kernel)]; exact ⟨rfl, rfl⟩))
    (fun os started H enc _ => walPlays_lifted os started H enc)
theorem walPlays_proved : Rows.WalPlaysSaid := walPlays_over
#print axioms walPlays_proved
end Go.Proofs.Ytdehkdmnddflhaa
