/- PoolHolds: what was put last is got; never too many places; cleaned, all that was put lies in the back. -/
import Derived.Test.YtclehoaeppbmpaaLPO
import Derived.Test.YtclehoaeppbmpaaPH
import Derived.Test.YtclehoaeppbmpaaRWB
namespace Go.Proofs.Ytclehoaeppbmpaa
set_option linter.unusedVariables false
set_option linter.unusedSimpArgs false
set_option linter.unusedSectionVars false
set_option linter.unnecessarySimpa false
open Go Go.Proofs
structure NOk (B : BkS) (k : Nat) : Prop where
  full : B.full = -1
  len : B.ent.length ≤ 6 + k
  asked : B.asked.length ≤ k
  bs : ∀ e ∈ B.ent, e.2.length ≤ bigB
  has : ∀ j : Nat, 1 ≤ j → j ≤ 6 → (getB B.ent (j : Int)).isSome = true
theorem NOk.ask {B : BkS} {k : Nat} (h : NOk B k) (q : Int) : NOk (askS B q) (k + 1) := ⟨h.full, by show B.ent.length ≤ _; have := h.len; omega, by rw [askS_len]; have := h.asked; omega, h.bs, h.has⟩
theorem NOk.mono {B : BkS} {k m : Nat} (h : NOk B k) (hm : k ≤ m) : NOk B m := ⟨h.full, by have := h.len; omega, by have := h.asked; omega, h.bs, h.has⟩
theorem NOk.save {B : BkS} {k j : Nat} {bs : List UInt8} (h : NOk B k) (hb : bs.length ≤ bigB) : NOk (saveS B (j : Int) bs).2 (k + 1) ∧ getB (saveS B (j : Int) bs).2.ent = fun i => if i = (j : Int) then some bs else getB B.ent i := by
  obtain ⟨s1, s2, s3⟩ := save_full (B := B) (j : Int) bs h.full
  obtain ⟨f1, f2⟩ := setB_facts B.ent (j : Int) bs
  refine ⟨⟨s1, by rw [s3]; have := h.len; omega, by rw [save_asked, List.length_append]; have := h.asked; show B.asked.length + 1 ≤ _; omega, fun e he => ?_, fun i h1 h6 => save_ent _ _ _ (h.has i h1 h6)⟩, ?_⟩
  · rw [s3] at he
    rcases f2 e he with he | rfl
    · exact h.bs e he
    · exact hb
  · funext i
    rw [s3, getB_set]
theorem NOk.start : NOk (backK 6) 0 := ⟨rfl, Nat.le_refl _, Nat.le_refl _, (start_fit (m := 1)).ebs, (AI.start (m := 1) (by omega)).ents⟩
set_option maxRecDepth 20000
set_option maxHeartbeats 4000000
attribute [local irreducible] SG WC WO W1 WD WK PS Rd Tri Exit.then Exit.inBlock bodyPost calmQ Mid sadd
variable {W : World} {n : Nat} {F : Fr} {L : List HP} {G : Act → World → Prop}
theorem poolHolds_tri (most : Int) (la : Option Addr) (lc : Nat) (l : List OpP) (hl : OpsPAt W l la) :
    Tri Try.prog W 5 [i64 most, .slice la l.length lc] [old W] (X := Unit) (fun _ => .bool true) (fun _ => True) (fun _ => [old W]) := by
  obtain ⟨hl0, hll, hl⟩ := hl
  obtain ⟨k, hk0, hk3⟩ := rem_nat most 8 (by omega)
  have hk : (most.tmod 8 + 8).tmod 8 = (k : Int) := hk0
  have hrl := rem_lt most (m := 8) (by omega)
  refine tri_enter2 Try.func5 rfl Try.ntmps5 rfl ?_
  refine sg_seq ?_
  repeat' (first | refine sg_wo ?_ | refine sg_ps (ps_assign rfl) rfl ?_ | refine sg_region ?_ | refine sg_nil ?_ | refine sg_then ?_)
  refine sg_seq ?_
  refine sg_seq ?_
  repeat' (first | refine sg_wo ?_ | refine sg_region ?_)
  refine sg_call (awake_tri _) rfl rfl (fun _ _ => ?_)
  repeat' (first | refine sg_wo ?_ | refine sg_nil ?_ | refine sg_then ?_ | refine sg_ps (ps_not rfl) rfl ?_ | refine sg_cond_f rfl ?_ | refine sg_skip ?_)
  refine sg_seq ?_
  repeat' (first | refine sg_wo ?_ | refine sg_ps (ps_move rfl) rfl ?_ | refine sg_ps (ps_assign rfl) rfl ?_ | refine sg_region ?_ | refine sg_nil ?_ | refine sg_then ?_ | refine sg_ps (ps_add64 rfl rfl (by omega)) rfl ?_ | refine sg_ps (ps_rem rfl rfl (by decide)) rfl ?_)
  rw [hk]
  refine sg_seq ?_
  repeat' (first | refine sg_wo ?_ | refine sg_region ?_)
  refine sg_call (lback_tri _) rfl rfl (fun b _ => ?_)
  repeat' (first | refine sg_wo ?_ | refine sg_ps (ps_assign rfl) rfl ?_ | refine sg_nil ?_ | refine sg_then ?_)
  refine sg_seq ?_
  repeat' (first | refine sg_wo ?_ | refine sg_ps (ps_move rfl) rfl ?_ | refine sg_region ?_)
  refine sg_ps (ps_makeIf Try.underlying24 rfl) rfl ?_
  repeat' (first | refine sg_wo ?_ | refine sg_ps (ps_move rfl) rfl ?_)
  refine sg_call (pnew_tri b ((k : Int) + 1) _ (by omega)) rfl rfl (fun p _ => ?_)
  repeat' (first | refine sg_wo ?_ | refine sg_ps (ps_move rfl) rfl ?_ | refine sg_ps (ps_assign rfl) rfl ?_ | refine sg_nil ?_ | refine sg_then ?_ | refine sg_ps (ps_extract rfl rfl) rfl ?_)
  refine sg_seq ?_
  refine sg_seq ?_
  repeat' (first | refine sg_wo ?_ | refine sg_ps (ps_move rfl) rfl ?_ | refine sg_region ?_ | refine sg_nil ?_ | refine sg_then ?_ | refine sg_ps (ps_bin rfl rfl inferInstance) rfl ?_ | refine sg_cond_f rfl ?_ | refine sg_guard_yes rfl rfl ?_ | refine sg_ps (ps_pick_f rfl rfl) rfl ?_ | refine sg_skip ?_)
  refine sg_seq ?_
  repeat' (first | refine sg_wo ?_ | refine sg_region ?_)
  refine sg_call (lback_tri _) rfl rfl (fun nw _ => ?_)
  repeat' (first | refine sg_wo ?_ | refine sg_ps (ps_assign rfl) rfl ?_ | refine sg_nil ?_ | refine sg_then ?_)
  refine sg_seq ?_
  repeat' (first | refine sg_wo ?_ | refine sg_ps (ps_assign rfl) rfl ?_ | refine sg_region ?_ | refine sg_nil ?_ | refine sg_then ?_)
  obtain ⟨m, hm⟩ : ∃ m : Int, m = (k : Int) + 1 := ⟨_, rfl⟩
  rw [← hm]
  have hm0 : 0 ≤ m ∧ m ≤ 8 := by omega
  refine sg_own (L' := [PoolRep p b ⟨m, [], 0⟩, BackRep b (backK 6), BackRep nw (backK 6), old W]) (fun w hO => hO.pick [1, 2, 0, 3] (by decide)) ?_
  refine sg_seq_mid (γ := PlS × BkS × BkS × Nat) (fun x => HB (getB x.2.2.1.ent) (x.2.2.2 : Int) m x.1 x.2.1 ∧ Fit x.1 x.2.1 900 ∧ NOk x.2.2.1 200) (fun _ => [(5, dp b), (6, dp p), (8, dp nw)]) (fun x => [PoolRep p b x.1, BackRep b x.2.1, BackRep nw x.2.2.1, old W]) ?_ ?_
  · skip
    repeat' (first | refine sg_wo ?_ | refine sg_ps (ps_assign rfl) rfl ?_ | refine sg_seq ?_ | refine sg_region ?_ | refine sg_nil ?_ | refine sg_then ?_ | refine sg_block ?_)
    refine sg_loop (γ := Nat × PlS × BkS × BkS × Nat) (fun x => (x.1 ≤ l.length ∧ x.1 ≤ 200) ∧ HB (getB x.2.2.2.1.ent) (x.2.2.2.2 : Int) m x.2.1 x.2.2.1 ∧ Fit x.2.1 x.2.2.1 (6 + 4 * x.1) ∧ NOk x.2.2.2.1 x.1 ∧ x.2.2.2.2 ≤ x.1 ∧ (x.2.1.rows.length : Int) ≤ m + x.2.2.2.2)
      (fun x => [(0, i64 m), (1, .slice la l.length lc), (5, dp b), (6, dp p), (8, dp nw), (9, i64 x.2.2.2.2), (10, i64 x.1)])
      (fun x => [PoolRep p b x.2.1, BackRep b x.2.2.1, BackRep nw x.2.2.2.1, old W]) (fun x => 200 - x.1) (0, ⟨m, [], 0⟩, backK 6, backK 6, 0) ⟨⟨Nat.zero_le _, Nat.zero_le _⟩, HB.start, start_fit, NOk.start, Nat.le_refl _, by show ((0 : Nat) : Int) ≤ m + ((0 : Nat) : Int); omega⟩
      (.cons rfl (.cons rfl (.cons rfl (.cons rfl (.cons rfl (.cons rfl (.cons rfl .nil))))))) (fun w hO => hO) ?_
    rintro ⟨i, S, B, Nw, pins⟩ ⟨⟨hi1, hi2⟩, hH, hF, hNw, hpi, hlen⟩
    dsimp only at hi1 hi2 hH hF hNw hpi hlen ⊢
    by_cases hi : i < l.length ∧ i < 200
    · obtain ⟨hil, hi200⟩ := hi
      obtain ⟨lb, lo, rfl⟩ := hl0 (by omega)
      obtain ⟨bb, bc, id, hid, hid2, hb2, hb3, hb4, r0, r1, hbn⟩ := hl i hil lb lo rfl
      generalize l[i] = x at hid hb2 hb3 hb4 r0 r1 hbn
      obtain ⟨kd, nn, id0, bs, u⟩ := x
      dsimp only at hid hb2 hb3 hb4 r0 r1 hbn
      obtain ⟨j0, hj0, hj06⟩ := tmod6 id
      obtain ⟨kk, hkk0, hkk3⟩ := rem_nat kd 5 (by omega)
      have hkk : (kd.tmod 5 + 5).tmod 5 = (kk : Int) := hkk0
      have hkrl := rem_lt kd (m := 5) (by omega)
      have hr0 : Rd W [PoolRep p b S, BackRep b B, BackRep nw Nw, old W] (some ⟨lb, lo + i * 4, none⟩) [i64 kd, i64 nn, u64 id, .slice bb bs.length bc] := r0.rd 3 rfl
      have hbl : bs.length ≤ bigB := by unfold bigB; omega
      refine sg_seq ?_
      refine sg_seq ?_
      repeat' (first | refine sg_wo ?_ | refine sg_ps (ps_move rfl) rfl ?_ | refine sg_region ?_ | refine sg_nil ?_ | refine sg_then ?_ | refine sg_ps (ps_bin rfl rfl inferInstance) rfl ?_ | refine sg_guard_yes rfl rfl ?_ | refine sg_ps (ps_pick_t rfl rfl) rfl ?_ | refine sg_ps (ps_len rfl) rfl ?_ | refine sg_skip ?_ | (refine sg_guard_dec rfl rfl (fun hg => ?_) (fun hg => ?_) <;> first | (exfalso; omega) | (exact absurd rfl hg) | skip) | (refine sg_cond_dec rfl (fun hg => ?_) (fun hg => ?_) <;> first | (exfalso; omega) | (exact absurd rfl hg) | skip))
      refine sg_seq ?_
      refine sg_block ?_
      refine sg_seq ?_
      repeat' (first | refine sg_wo ?_ | refine sg_ps (ps_move rfl) rfl ?_ | refine sg_region ?_ | refine sg_ps (ps_indexAddr rfl rfl rfl (by omega)) rfl ?_)
      refine sg_load_agg_rd rfl rfl hr0 rfl ?_
      repeat' (first | refine sg_wo ?_ | refine sg_nil ?_ | refine sg_then ?_ | refine sg_store_whole [] rfl rfl rfl rfl rfl ?_ | refine sg_alloc rfl (fun al => ?_))
      refine sg_seq ?_
      repeat' (first | refine sg_wo ?_ | refine sg_ps (ps_assign rfl) rfl ?_ | refine sg_region ?_ | refine sg_nil ?_ | refine sg_then ?_ | refine sg_ps (ps_fieldAddr rfl) rfl ?_ | refine sg_load 0 rfl rfl rfl rfl ?_ | refine sg_ps (ps_bin rfl rfl inferInstance) rfl ?_ | refine sg_ps (ps_rem rfl rfl (by decide)) rfl ?_)
      rw [hj0, show (j0 : Int) + 1 = ((j0 + 1 : Nat) : Int) by omega, wrapU6 (by omega : j0 + 1 ≤ 6)]
      obtain ⟨j, hj⟩ : ∃ j, j = j0 + 1 := ⟨_, rfl⟩
      rw [← hj]
      have hj1 : 1 ≤ j ∧ j ≤ 6 := by omega
      have hjs := hNw.has j hj1.1 hj1.2
      refine sg_seq_mid (γ := PlS × BkS × BkS × Nat) (fun x => HB (getB x.2.2.1.ent) (x.2.2.2 : Int) m x.1 x.2.1 ∧ Fit x.1 x.2.1 (6 + 4 * (i + 1)) ∧ NOk x.2.2.1 (i + 1) ∧ x.2.2.2 ≤ i + 1 ∧ (x.1.rows.length : Int) ≤ m + x.2.2.2)
        (fun x => [(0, i64 m), (1, .slice (some ⟨lb, lo, none⟩) l.length lc), (5, dp b), (6, dp p), (8, dp nw), (9, i64 x.2.2.2), (10, i64 i)])
        (fun x => [PoolRep p b x.1, BackRep b x.2.1, BackRep nw x.2.2.1, blk al [i64 kd, i64 nn, u64 id, .slice bb bs.length bc], old W]) ?_ ?_
      · refine sg_own (L' := [PoolRep p b S, BackRep b B, BackRep nw Nw, blk al [i64 kd, i64 nn, u64 id, .slice bb bs.length bc], old W]) (fun w hO => hO.pick [1, 2, 3, 0, 4] (by decide)) ?_
        refine sg_seq ?_
        repeat' (first | refine sg_wo ?_ | refine sg_region ?_ | refine sg_nil ?_ | refine sg_then ?_ | refine sg_ps (ps_fieldAddr rfl) rfl ?_ | refine sg_load 3 rfl rfl rfl rfl ?_ | refine sg_ps (ps_add64 rfl rfl (by omega)) rfl ?_ | refine sg_ps (ps_rem rfl rfl (by decide)) rfl ?_ | refine sg_block ?_)
        rw [hkk]
        by_cases hk01 : kk ≤ 1
        · have hget := hH.get hF hm0.1 hj1.1 hj1.2 hjs
          have hgf := get_fit (id := (j : Int)) hF
          obtain ⟨v, hv⟩ := Option.isSome_iff_exists.1 hjs
          have hvl : v.length ≤ bigB := hNw.bs _ (getB_mem hv)
          have hfin : ∀ (z y : Option Addr × Nat), ∀ w, Own W w (sown y.1 v.length y.2 1 (v.map bv) :: BackRep nw (askS Nw (IntKind.u64.wrap (2 * (j : Int)))) :: sown z.1 v.length z.2 1 (v.map bv) :: PoolRep p b (getS S B (j : Int)).2.1 :: BackRep b (getS S B (j : Int)).2.2 :: [blk al [i64 kd, i64 nn, u64 id, .slice bb bs.length bc], old W]) →
              Own W w [PoolRep p b (getS S B (j : Int)).2.1, BackRep b (getS S B (j : Int)).2.2, BackRep nw (askS Nw (IntKind.u64.wrap (2 * (j : Int)))), blk al [i64 kd, i64 nn, u64 id, .slice bb bs.length bc], old W] := fun z y w hO => hO.pick [3, 4, 1, 5, 6] (by decide)
          by_cases hk0c : kk = 0
          · skip
            repeat' (first | refine sg_wo ?_ | refine sg_ps (ps_move rfl) rfl ?_ | refine sg_ps (ps_assign rfl) rfl ?_ | refine sg_seq ?_ | refine sg_region ?_ | refine sg_nil ?_ | refine sg_then ?_ | refine sg_ps (ps_bin rfl rfl inferInstance) rfl ?_ | refine sg_skip ?_ | (refine sg_cond_dec rfl (fun hg => ?_) (fun hg => ?_) <;> first | (exfalso; omega) | (exact absurd rfl hg) | skip))
            refine sg_call (pget_tri p b S B (j : Int) _ hF (by omega)) rfl rfl (fun z _ => ?_)
            obtain ⟨g1, g2, g3⟩ := hget
            rw [g1, hv, Option.getD_some, Option.isSome_some]
            repeat' (first | refine sg_wo ?_ | refine sg_ps (ps_move rfl) rfl ?_ | refine sg_ps (ps_assign rfl) rfl ?_ | refine sg_seq ?_ | refine sg_region ?_ | refine sg_nil ?_ | refine sg_then ?_ | refine sg_ps (ps_extract rfl rfl) rfl ?_)
            refine sg_call ((bload_tri nw Nw (j : Int) _ (by have := hNw.len; omega) (by have := hNw.asked; omega) hNw.bs).pre (fun w hO => Own.pickA [_, _, _, _, _] hO [3, 0, 1, 2, 4] (by decide))) rfl rfl (fun y _ => ?_)
            rw [hv, Option.getD_some, Option.isSome_some]
            repeat' (first | refine sg_wo ?_ | refine sg_ps (ps_move rfl) rfl ?_ | refine sg_ps (ps_assign rfl) rfl ?_ | refine sg_seq ?_ | refine sg_region ?_ | refine sg_nil ?_ | refine sg_then ?_ | refine sg_ps (ps_bin rfl rfl inferInstance) rfl ?_ | refine sg_guard_yes rfl rfl ?_ | refine sg_ps (ps_extract rfl rfl) rfl ?_)
            refine sg_call (rawBytes_tri v v z.1 y.1 z.2 y.2 _ (rd_sown 2 rfl fun _ _ h => h) (rd_sown 0 rfl fun _ _ h => h)) rfl rfl (fun _ _ => ?_)
            rw [show decide (v = v) = true from decide_eq_true rfl]
            repeat' (first | refine sg_wo ?_ | refine sg_nil ?_ | refine sg_then ?_ | refine sg_ps (ps_not rfl) rfl ?_ | refine sg_cond_f rfl ?_ | refine sg_guard_yes rfl rfl ?_ | refine sg_ps (ps_pick_f rfl rfl) rfl ?_ | refine sg_skip ?_ | refine ex_block_normal ?_)
            exact ex_mid ((getS S B (j : Int)).2.1, (getS S B (j : Int)).2.2, askS Nw (IntKind.u64.wrap (2 * (j : Int))), pins) ⟨g2, hgf.mono (by omega), hNw.ask _, by show pins ≤ i + 1; omega, g3⟩ (.cons rfl (.cons rfl (.cons rfl (.cons rfl (.cons rfl (.cons rfl (.cons rfl .nil))))))) (hfin z y)
          · have hk1c : kk = 1 := by omega
            repeat' (first | refine sg_wo ?_ | refine sg_ps (ps_move rfl) rfl ?_ | refine sg_ps (ps_assign rfl) rfl ?_ | refine sg_seq ?_ | refine sg_region ?_ | refine sg_nil ?_ | refine sg_then ?_ | refine sg_ps (ps_bin rfl rfl inferInstance) rfl ?_ | (refine sg_cond_dec rfl (fun hg => ?_) (fun hg => ?_) <;> first | (exfalso; omega) | (exact absurd rfl hg) | skip))
            refine sg_call (pget_tri p b S B (j : Int) _ hF (by omega)) rfl rfl (fun z _ => ?_)
            obtain ⟨g1, g2, g3⟩ := hget
            rw [g1, hv, Option.getD_some, Option.isSome_some]
            repeat' (first | refine sg_wo ?_ | refine sg_ps (ps_move rfl) rfl ?_ | refine sg_ps (ps_assign rfl) rfl ?_ | refine sg_seq ?_ | refine sg_region ?_ | refine sg_nil ?_ | refine sg_then ?_ | refine sg_ps (ps_extract rfl rfl) rfl ?_)
            refine sg_call ((bload_tri nw Nw (j : Int) _ (by have := hNw.len; omega) (by have := hNw.asked; omega) hNw.bs).pre (fun w hO => Own.pickA [_, _, _, _, _] hO [3, 0, 1, 2, 4] (by decide))) rfl rfl (fun y _ => ?_)
            rw [hv, Option.getD_some, Option.isSome_some]
            repeat' (first | refine sg_wo ?_ | refine sg_ps (ps_move rfl) rfl ?_ | refine sg_ps (ps_assign rfl) rfl ?_ | refine sg_seq ?_ | refine sg_region ?_ | refine sg_nil ?_ | refine sg_then ?_ | refine sg_ps (ps_bin rfl rfl inferInstance) rfl ?_ | refine sg_guard_yes rfl rfl ?_ | refine sg_ps (ps_extract rfl rfl) rfl ?_)
            refine sg_call (rawBytes_tri v v z.1 y.1 z.2 y.2 _ (rd_sown 2 rfl fun _ _ h => h) (rd_sown 0 rfl fun _ _ h => h)) rfl rfl (fun _ _ => ?_)
            rw [show decide (v = v) = true from decide_eq_true rfl]
            repeat' (first | refine sg_wo ?_ | refine sg_nil ?_ | refine sg_then ?_ | refine sg_ps (ps_not rfl) rfl ?_ | refine sg_cond_f rfl ?_ | refine sg_guard_yes rfl rfl ?_ | refine sg_ps (ps_pick_f rfl rfl) rfl ?_ | refine sg_skip ?_ | refine ex_block_normal ?_)
            exact ex_mid ((getS S B (j : Int)).2.1, (getS S B (j : Int)).2.2, askS Nw (IntKind.u64.wrap (2 * (j : Int))), pins) ⟨g2, hgf.mono (by omega), hNw.ask _, by show pins ≤ i + 1; omega, g3⟩ (.cons rfl (.cons rfl (.cons rfl (.cons rfl (.cons rfl (.cons rfl (.cons rfl .nil))))))) (hfin z y)
        · by_cases hk2c : kk = 2
          · skip
            repeat' (first | refine sg_wo ?_ | refine sg_ps (ps_move rfl) rfl ?_ | refine sg_ps (ps_assign rfl) rfl ?_ | refine sg_seq ?_ | refine sg_region ?_ | refine sg_nil ?_ | refine sg_then ?_ | refine sg_ps (ps_fieldAddr rfl) rfl ?_ | refine sg_load 3 rfl rfl rfl rfl ?_ | refine sg_ps (ps_bin rfl rfl inferInstance) rfl ?_ | (refine sg_cond_dec rfl (fun hg => ?_) (fun hg => ?_) <;> first | (exfalso; omega) | (exact absurd rfl hg) | skip))
            refine sg_call (pput_tri p b S B (j : Int) bs bb bc _ hF (by omega) hbl (rdo_tailP r1 2 rfl) hbn) rfl rfl (fun _ _ => ?_)
            obtain ⟨g1, g2⟩ := hH.put hF hbl hm0.1 hj1.1 hj1.2
            have hgf := put_fit (id := (j : Int)) (bs := bs) hF hbl
            obtain ⟨s1, s2⟩ := hNw.save (j := j) hbl
            rw [← s2] at g1
            repeat' (first | refine sg_wo ?_ | refine sg_ps (ps_move rfl) rfl ?_ | refine sg_region ?_ | refine sg_nil ?_ | refine sg_then ?_ | refine sg_ps (ps_fieldAddr rfl) rfl ?_ | refine sg_load 3 rfl rfl rfl rfl ?_)
            refine sg_call ((bsave_tri nw Nw (j : Int) bs bb bc _ (by have := hNw.len; omega) (by have := hNw.asked; omega) hbl (rdo_tailP r1 3 rfl)).pre (fun w hO => hO.front2)) rfl rfl (fun _ _ => ?_)
            repeat' (first | refine sg_nil ?_ | refine ex_block_normal ?_)
            exact ex_mid ((putP S B (j : Int) bs).1, (putP S B (j : Int) bs).2, (saveS Nw (j : Int) bs).2, pins) ⟨g1, hgf.mono (by omega), s1, by show pins ≤ i + 1; omega, g2⟩ (.cons rfl (.cons rfl (.cons rfl (.cons rfl (.cons rfl (.cons rfl (.cons rfl .nil))))))) (fun w hO => hO.pick [1, 2, 0, 3, 4] (by decide))
          · by_cases hk3c : kk = 3
            · skip
              repeat' (first | refine sg_wo ?_ | refine sg_ps (ps_move rfl) rfl ?_ | refine sg_ps (ps_assign rfl) rfl ?_ | refine sg_seq ?_ | refine sg_region ?_ | refine sg_nil ?_ | refine sg_then ?_ | refine sg_ps (ps_bin rfl rfl inferInstance) rfl ?_ | (refine sg_cond_dec rfl (fun hg => ?_) (fun hg => ?_) <;> first | (exfalso; omega) | (exact absurd rfl hg) | skip))
              refine sg_call (ppin_tri p b S B (j : Int) _ hF (by omega)) rfl rfl (fun _ _ => ?_)
              obtain ⟨g1, g2, g3⟩ := hH.pin hF hm0.1 hj1.1 hj1.2 hjs (by omega)
              have hgf := pin_fit (id := (j : Int)) hF
              rw [g1]
              rw [show (pins : Int) + 1 = ((pins + 1 : Nat) : Int) by omega] at g2 g3
              repeat' (first | refine sg_wo ?_ | refine sg_ps (ps_move rfl) rfl ?_ | refine sg_ps (ps_assign rfl) rfl ?_ | refine sg_region ?_ | refine sg_nil ?_ | refine sg_then ?_ | refine sg_ps (ps_add64 rfl rfl (by omega)) rfl ?_ | refine sg_ps (ps_bin rfl rfl inferInstance) rfl ?_ | refine sg_cond_f rfl ?_ | refine sg_skip ?_ | refine ex_block_normal ?_)
              exact ex_mid ((pinS S B (j : Int)).2.1, (pinS S B (j : Int)).2.2, Nw, pins + 1) ⟨g2, hgf.mono (by omega), hNw.mono (by omega), by show pins + 1 ≤ i + 1; omega, g3⟩ (.cons rfl (.cons rfl (.cons rfl (.cons rfl (.cons rfl (.cons rfl (.cons rfl .nil))))))) (fun w hO => hO)
            · skip
              repeat' (first | refine sg_wo ?_ | refine sg_ps (ps_move rfl) rfl ?_ | refine sg_ps (ps_assign rfl) rfl ?_ | refine sg_seq ?_ | refine sg_region ?_ | refine sg_nil ?_ | refine sg_then ?_ | refine sg_ps (ps_bin rfl rfl inferInstance) rfl ?_ | (refine sg_cond_dec rfl (fun hg => ?_) (fun hg => ?_) <;> first | (exfalso; omega) | (exact absurd rfl hg) | skip))
              refine sg_call (punpin_tri p b S B (j : Int) _ hF (by omega)) rfl rfl (fun _ _ => ?_)
              have hgf := unpin_fit (id := (j : Int)) hF
              have hev : ∀ (S2 : PlS) (B2 : BkS), ((evictS S2 B2).2.1.rows.length : Int) ≤ S2.rows.length := fun S2 B2 => by
                have := (evict_goes S2 B2).sub.length_le
                rw [v_len, v_len] at this; omega
              rcases hH.unpin (j := j) hF hm0.1 (by omega) hlen with ⟨g1, g2, g3⟩ | ⟨g1, g2⟩
              · rw [g1]
                have hp0 := sum_nn _ g2.pn
                rw [g2.sum] at hp0
                obtain ⟨p1, rfl⟩ : ∃ p1, pins = p1 + 1 := ⟨pins - 1, by omega⟩
                rw [show ((p1 + 1 : Nat) : Int) - 1 = (p1 : Int) by omega] at g2 g3
                repeat' (first | refine sg_wo ?_ | refine sg_ps (ps_move rfl) rfl ?_ | refine sg_ps (ps_assign rfl) rfl ?_ | refine sg_region ?_ | refine sg_nil ?_ | refine sg_then ?_ | refine sg_ps (ps_sub64 rfl rfl (by omega)) rfl ?_ | refine sg_ps (ps_bin rfl rfl inferInstance) rfl ?_ | refine sg_cond_t rfl ?_)
                refine sg_call (pevict_tri p b _ _ _ hgf (by omega)) rfl rfl (fun _ _ => ?_)
                repeat' (first | refine sg_nil ?_ | refine ex_block_normal ?_)
                exact ex_mid ((evictS (unpinS S B (j : Int)).2.1 (unpinS S B (j : Int)).2.2).2.1, (evictS (unpinS S B (j : Int)).2.1 (unpinS S B (j : Int)).2.2).2.2, Nw, p1) ⟨g2.evict, (evict_fit hgf).mono (by omega), hNw.mono (by omega), by show p1 ≤ i + 1; omega, Int.le_trans (hev _ _) g3⟩
                  (.cons rfl (.cons rfl (.cons rfl (.cons rfl (.cons rfl (.cons (by show some _ = some (i64 (p1 : Int)); rw [show ((p1 + 1 : Nat) : Int) - 1 = (p1 : Int) by omega]) (.cons rfl .nil))))))) (fun w hO => hO)
              · rw [g1]
                rw [g2] at hgf ⊢
                repeat' (first | refine sg_wo ?_ | refine sg_ps (ps_move rfl) rfl ?_ | refine sg_region ?_ | refine sg_nil ?_ | refine sg_then ?_ | refine sg_ps (ps_bin rfl rfl inferInstance) rfl ?_ | refine sg_cond_f rfl ?_ | refine sg_skip ?_)
                refine sg_call (pevict_tri p b S B _ hgf (by omega)) rfl rfl (fun _ _ => ?_)
                repeat' (first | refine sg_nil ?_ | refine ex_block_normal ?_)
                exact ex_mid ((evictS S B).2.1, (evictS S B).2.2, Nw, pins) ⟨hH.evict, (evict_fit hgf).mono (by omega), hNw.mono (by omega), by show pins ≤ i + 1; omega, Int.le_trans (hev _ _) hlen⟩
                  (.cons rfl (.cons rfl (.cons rfl (.cons rfl (.cons rfl (.cons rfl (.cons rfl .nil))))))) (fun w hO => hO)
      rintro ⟨S', B', Nw', pins'⟩ ⟨hH', hF', hNw', hpi', hlen'⟩
      dsimp only at hH' hF' hNw' hpi' hlen' ⊢
      repeat' (first | refine sg_wo ?_ | refine sg_ps (ps_move rfl) rfl ?_ | refine sg_seq ?_ | refine sg_region ?_)
      refine sg_call (plen_tri p b S' _) rfl rfl (fun _ _ => ?_)
      repeat' (first | refine sg_wo ?_ | refine sg_ps (ps_move rfl) rfl ?_ | refine sg_ps (ps_assign rfl) rfl ?_ | refine sg_region ?_ | refine sg_nil ?_ | refine sg_then ?_ | refine sg_ps (ps_add64 rfl rfl (by omega)) rfl ?_ | refine sg_ps (ps_bin rfl rfl inferInstance) rfl ?_ | refine sg_skip ?_ | refine ex_block_normal ?_ | (refine sg_cond_dec rfl (fun hg => ?_) (fun hg => ?_) <;> first | (exfalso; omega) | (exact absurd rfl hg) | skip))
      exact ex_mid (i + 1, S', B', Nw', pins') ⟨by show 200 - (i + 1) < 200 - i; omega, ⟨by show i + 1 ≤ _; omega, by show i + 1 ≤ 200; omega⟩, hH', hF', hNw', hpi', hlen'⟩ (.cons rfl (.cons rfl (.cons rfl (.cons rfl (.cons rfl (.cons rfl (.cons rfl .nil))))))) (fun w hO => hO.pick [0, 1, 2, 4] (by decide))
    · skip
      repeat' (first | refine sg_wo ?_ | refine sg_ps (ps_move rfl) rfl ?_ | refine sg_seq ?_ | refine sg_region ?_ | refine sg_nil ?_ | refine sg_then ?_ | refine sg_ps (ps_bin rfl rfl inferInstance) rfl ?_ | refine sg_cond_f rfl ?_ | refine sg_guard_yes rfl rfl ?_ | refine sg_guard_nf rfl rfl rfl ?_ | refine sg_ps (ps_pick_t rfl rfl) rfl ?_ | refine sg_ps (ps_pick_f rfl rfl) rfl ?_ | refine sg_ps (ps_len rfl) rfl ?_ | refine sg_exit ?_ | refine ex_then_exit ?_ | refine ex_block_hit ?_ | (refine sg_guard_dec rfl rfl (fun hg => ?_) (fun hg => ?_) <;> first | (exfalso; omega) | (exact absurd rfl hg) | skip) | (refine sg_cond_dec rfl (fun hg => ?_) (fun hg => ?_) <;> first | (exfalso; omega) | (exact absurd rfl hg) | skip))
      all_goals exact ex_mid (S, B, Nw, pins) ⟨hH, hF.mono (by omega), hNw.mono (by omega)⟩ (.cons rfl (.cons rfl (.cons rfl .nil))) (fun w hO => hO)
  rintro ⟨S, B, Nw, pins⟩ ⟨hH, hF, hNw⟩
  dsimp only at hH hF hNw ⊢
  have hsh := hH.short
  refine sg_seq ?_
  repeat' (first | refine sg_wo ?_ | refine sg_ps (ps_move rfl) rfl ?_ | refine sg_region ?_)
  refine sg_call (pdirty_tri p b S _ (by unfold bigN; omega)) rfl rfl (fun y _ => ?_)
  repeat' (first | refine sg_wo ?_ | refine sg_ps (ps_assign rfl) rfl ?_ | refine sg_nil ?_ | refine sg_then ?_)
  obtain ⟨D, hD⟩ : ∃ D, D = dirtyS S := ⟨_, rfl⟩
  have hDl : D.length ≤ 6 := by rw [hD, dirtyS_len]; have := dirtyR_len S.rows; omega
  have hDm : ∀ d ∈ D, ∃ r ∈ S.rows, r.id = d := fun d hd => by
    rw [hD] at hd
    unfold dirtyS at hd
    rw [List.mem_mergeSort] at hd
    obtain ⟨r, hr, e⟩ := List.mem_map.1 hd
    exact ⟨r, (List.mem_filter.1 hr).1, e⟩
  have hDd : ∀ r ∈ S.rows, r.dirty = true → r.id ∈ D := fun r hr hd => by
    rw [hD]; exact mem_dirtyR (x := r.v) (List.mem_map_of_mem hr) hd
  rw [← hD]
  refine sg_seq_mid (γ := PlS × BkS) (fun x => HB (getB Nw.ent) (pins : Int) m x.1 x.2 ∧ Fit x.1 x.2 1000 ∧ ∀ r ∈ x.1.rows, r.dirty = false) (fun _ => [(5, dp b), (6, dp p), (8, dp nw)]) (fun x => [PoolRep p b x.1, BackRep b x.2, BackRep nw Nw, old W]) ?_ ?_
  · skip
    repeat' (first | refine sg_wo ?_ | refine sg_ps (ps_assign rfl) rfl ?_ | refine sg_seq ?_ | refine sg_region ?_ | refine sg_nil ?_ | refine sg_then ?_ | refine sg_block ?_)
    refine sg_loop (γ := Nat × PlS × BkS) (fun x => x.1 ≤ D.length ∧ HB (getB Nw.ent) (pins : Int) m x.2.1 x.2.2 ∧ Fit x.2.1 x.2.2 (900 + x.1) ∧ x.2.1.rows.map (·.id) = S.rows.map (·.id) ∧ ∀ r ∈ x.2.1.rows, r.dirty = true → r.id ∈ D.drop x.1) (fun x => [(5, dp b), (6, dp p), (8, dp nw), (17, .slice y.1 D.length y.2), (18, i64 x.1)])
      (fun x => [PoolRep p b x.2.1, BackRep b x.2.2, sown y.1 D.length y.2 1 (D.map u64), BackRep nw Nw, old W]) (fun x => D.length - x.1) (0, S, B) ⟨Nat.zero_le _, hH, hF, rfl, hDd⟩ (.cons rfl (.cons rfl (.cons rfl (.cons rfl (.cons rfl .nil))))) (fun w hO => hO.pick [1, 2, 0, 3, 4] (by decide)) ?_
    rintro ⟨q, S1, B1⟩ ⟨hq, hH1, hF1, hids, hdr⟩
    dsimp only at hq hH1 hF1 hids hdr ⊢
    by_cases hqD : q < D.length
    · have hrD : Rd W [PoolRep p b S1, BackRep b B1, sown y.1 D.length y.2 1 (D.map u64), BackRep nw Nw, old W] y.1 (D.map u64) := rd_sown 2 rfl fun _ _ h => h
      refine sg_rd_some hrD (by intro e; have := congrArg List.length e; rw [List.length_map, List.length_nil] at this; omega) fun g1 o1 ha1 => ?_
      have hrz : Rd W [PoolRep p b S1, BackRep b B1, sown y.1 D.length y.2 1 (D.map u64), BackRep nw Nw, old W] (some ⟨g1, o1 + q * 1, none⟩) [u64 D[q]] := by
        rw [ha1] at hrD ⊢
        exact hrD.at (ws := [u64 D[q]]) (q * 1) (fun y u hy => by
          match y, hy with
          | 0, hy => rw [Nat.mul_one, Nat.add_zero]; simp at hy; subst hy; simp [hqD])
      have hex : ∃ r ∈ S1.rows, r.id = D[q] := by
        obtain ⟨r, hr, e⟩ := hDm _ (List.getElem_mem hqD)
        have : D[q] ∈ S1.rows.map (·.id) := by rw [hids, ← e]; exact List.mem_map_of_mem hr
        obtain ⟨r', hr', e'⟩ := List.mem_map.1 this
        exact ⟨r', hr', e'⟩
      have hdc : D.drop q = D[q] :: D.drop (q + 1) := List.drop_eq_getElem_cons hqD
      rw [hdc] at hdr
      rw [ha1] at hrz ⊢
      obtain ⟨g2, g3, g4, g5⟩ := hH1.scrub hex
      have hgf := clean_fit (id := D[q]) hF1
      generalize D[q] = d at hrz hdr g2 g3 g4 g5 hgf
      repeat' (first | refine sg_wo ?_ | refine sg_ps (ps_move rfl) rfl ?_ | refine sg_seq ?_ | refine sg_region ?_ | refine sg_nil ?_ | refine sg_then ?_ | refine sg_ps (ps_bin rfl rfl inferInstance) rfl ?_ | refine sg_ps (ps_len rfl) rfl ?_ | refine sg_ps (ps_indexAddr rfl rfl rfl (by omega)) rfl ?_ | refine sg_block ?_ | refine sg_skip ?_ | (refine sg_cond_dec rfl (fun hg => ?_) (fun hg => ?_) <;> first | (exfalso; omega) | (exact absurd rfl hg) | skip))
      refine sg_load_rd rfl hrz rfl ?_
      repeat' (first | refine sg_wo ?_)
      refine sg_call (pclean_tri p b S1 B1 d _ hF1 (by omega)) rfl rfl (fun _ _ => ?_)
      rw [g2]
      repeat' (first | refine sg_wo ?_ | refine sg_ps (ps_move rfl) rfl ?_ | refine sg_ps (ps_assign rfl) rfl ?_ | refine sg_region ?_ | refine sg_nil ?_ | refine sg_then ?_ | refine sg_ps (ps_add64 rfl rfl (by omega)) rfl ?_ | refine sg_ps (ps_bin rfl rfl inferInstance) rfl ?_ | refine sg_cond_f rfl ?_ | refine sg_skip ?_ | refine ex_block_normal ?_)
      refine ex_mid (q + 1, (cleanS S1 B1 d).2.1, (cleanS S1 B1 d).2.2) ⟨by show D.length - (q + 1) < D.length - q; omega, by show q + 1 ≤ D.length; omega, g3, hgf, g4.trans hids, fun r hr hd => ?_⟩ (.cons rfl (.cons rfl (.cons rfl (.cons rfl (.cons rfl .nil))))) (fun w hO => hO)
      obtain ⟨h1, h2⟩ := g5 r hr hd
      rcases List.mem_cons.1 (hdr r h2 hd) with h | h
      · exact absurd h h1
      · exact h
    · obtain rfl : q = D.length := by omega
      rw [List.drop_length] at hdr
      repeat' (first | refine sg_wo ?_ | refine sg_ps (ps_move rfl) rfl ?_ | refine sg_seq ?_ | refine sg_region ?_ | refine sg_nil ?_ | refine sg_then ?_ | refine sg_ps (ps_bin rfl rfl inferInstance) rfl ?_ | refine sg_ps (ps_len rfl) rfl ?_ | refine sg_exit ?_ | refine ex_then_exit ?_ | refine ex_block_hit ?_ | (refine sg_cond_dec rfl (fun hg => ?_) (fun hg => ?_) <;> first | (exfalso; omega) | (exact absurd rfl hg) | skip))
      exact ex_mid (S1, B1) ⟨hH1, hF1.mono (by omega), fun r hr => by
        cases hd : r.dirty with
        | false => rfl
        | true => exact absurd (hdr r hr hd) (by simp)⟩ (.cons rfl (.cons rfl (.cons rfl .nil))) (fun w hO => hO.pick [0, 1, 3, 4] (by decide))
  clear hDl hDm hDd hD hH hF
  clear D
  rintro ⟨S, B⟩ ⟨hH, hF, hcl⟩
  dsimp only at hH hF hcl ⊢
  have hall := hH.all hcl
  have hsh := hH.short
  refine sg_seq_mid (γ := BkS) (fun _ => True) (fun _ => [(6, dp p)]) (fun x => [PoolRep p b S, BackRep b x, old W]) ?_ ?_
  · skip
    repeat' (first | refine sg_wo ?_ | refine sg_ps (ps_assign rfl) rfl ?_ | refine sg_seq ?_ | refine sg_region ?_ | refine sg_nil ?_ | refine sg_then ?_ | refine sg_block ?_)
    refine sg_loop (γ := Nat × BkS × BkS) (fun x => (1 ≤ x.1 ∧ x.1 ≤ 7) ∧ (x.2.1.ent = B.ent ∧ x.2.1.asked.length ≤ 1000 + x.1) ∧ x.2.2.ent = Nw.ent ∧ x.2.2.asked.length ≤ 1000 + x.1) (fun x => [(5, dp b), (6, dp p), (8, dp nw), (19, .int .u64 x.1)])
      (fun x => [PoolRep p b S, BackRep b x.2.1, BackRep nw x.2.2, old W]) (fun x => 7 - x.1) (1, B, Nw) ⟨⟨Nat.le_refl _, by show 1 ≤ 7; omega⟩, ⟨rfl, by have := hF.asked; show B.asked.length ≤ 1000 + 1; omega⟩, rfl, by have := hNw.asked; show Nw.asked.length ≤ 1000 + 1; omega⟩
      (.cons rfl (.cons rfl (.cons rfl (.cons rfl .nil)))) (fun w hO => hO) ?_
    rintro ⟨j, B1, N1⟩ ⟨⟨hj1, hj7⟩, ⟨hb1, hb2⟩, hn1, hn2⟩
    dsimp only at hj1 hj7 hb1 hb2 hn1 hn2 ⊢
    by_cases hj6 : j ≤ 6
    · obtain ⟨v, hv⟩ := Option.isSome_iff_exists.1 (hNw.has j hj1 hj6)
      have hv1 : getB B1.ent (j : Int) = some v := by rw [hb1, hall, hv]
      have hv2 : getB N1.ent (j : Int) = some v := by rw [hn1, hv]
      have hel := hF.ent
      have hnl := hNw.len
      repeat' (first | refine sg_wo ?_ | refine sg_ps (ps_move rfl) rfl ?_ | refine sg_seq ?_ | refine sg_region ?_ | refine sg_nil ?_ | refine sg_then ?_ | refine sg_ps (ps_bin rfl rfl inferInstance) rfl ?_ | refine sg_block ?_ | refine sg_skip ?_ | (refine sg_cond_dec rfl (fun hg => ?_) (fun hg => ?_) <;> first | (exfalso; omega) | (exact absurd rfl hg) | skip))
      refine sg_call ((bload_tri b B1 (j : Int) _ (by rw [hb1]; omega) (by omega) (by rw [hb1]; exact hF.ebs)).pre (fun w hO => hO.front1)) rfl rfl (fun y1 _ => ?_)
      rw [hv1, Option.getD_some, Option.isSome_some]
      repeat' (first | refine sg_wo ?_ | refine sg_ps (ps_move rfl) rfl ?_ | refine sg_ps (ps_assign rfl) rfl ?_ | refine sg_seq ?_ | refine sg_region ?_ | refine sg_nil ?_ | refine sg_then ?_ | refine sg_ps (ps_extract rfl rfl) rfl ?_)
      refine sg_call ((bload_tri nw N1 (j : Int) _ (by rw [hn1]; omega) (by omega) (by rw [hn1]; exact hNw.bs)).pre (fun w hO => hO.front3)) rfl rfl (fun y2 _ => ?_)
      rw [hv2, Option.getD_some, Option.isSome_some]
      repeat' (first | refine sg_wo ?_ | refine sg_ps (ps_move rfl) rfl ?_ | refine sg_ps (ps_assign rfl) rfl ?_ | refine sg_seq ?_ | refine sg_region ?_ | refine sg_nil ?_ | refine sg_then ?_ | refine sg_ps (ps_extract rfl rfl) rfl ?_)
      refine sg_call (rawBytes_tri v v y1.1 y2.1 y1.2 y2.2 _ (rd_sown 2 rfl fun _ _ h => h) (rd_sown 0 rfl fun _ _ h => h)) rfl rfl (fun _ _ => ?_)
      rw [show decide (v = v) = true from decide_eq_true rfl]
      have hwj : IntKind.u64.wrap ((j : Int) + 1) = ((j + 1 : Nat) : Int) := by
        match j, hj6 with
        | 0, _ | 1, _ | 2, _ | 3, _ | 4, _ | 5, _ | 6, _ => rfl
      repeat' (first | refine sg_wo ?_ | refine sg_ps (ps_move rfl) rfl ?_ | refine sg_ps (ps_assign rfl) rfl ?_ | refine sg_region ?_ | refine sg_nil ?_ | refine sg_then ?_ | refine sg_ps (ps_bin rfl rfl inferInstance) rfl ?_ | refine sg_ps (ps_not rfl) rfl ?_ | refine sg_cond_f rfl ?_ | refine sg_skip ?_ | refine ex_block_normal ?_)
      exact ex_mid (j + 1, askS B1 (IntKind.u64.wrap (2 * (j : Int))), askS N1 (IntKind.u64.wrap (2 * (j : Int)))) ⟨by show 7 - (j + 1) < 7 - j; omega, ⟨by show 1 ≤ j + 1; omega, by show j + 1 ≤ 7; omega⟩, ⟨hb1, by show (askS B1 _).asked.length ≤ _; rw [askS_len]; omega⟩, hn1, by show (askS N1 _).asked.length ≤ _; rw [askS_len]; omega⟩
        (.cons rfl (.cons rfl (.cons rfl (.cons (by show some _ = some (Value.int .u64 ((j + 1 : Nat) : Int)); rw [← hwj]) .nil)))) (fun w hO => hO.pick [4, 3, 1, 5] (by decide))
    · obtain rfl : j = 7 := by omega
      repeat' (first | refine sg_wo ?_ | refine sg_ps (ps_move rfl) rfl ?_ | refine sg_seq ?_ | refine sg_region ?_ | refine sg_nil ?_ | refine sg_then ?_ | refine sg_ps (ps_bin rfl rfl inferInstance) rfl ?_ | refine sg_cond_f rfl ?_ | refine sg_exit ?_ | refine ex_then_exit ?_ | refine ex_block_hit ?_)
      exact ex_mid B1 trivial (.cons rfl .nil) (fun w hO => hO.pick [0, 1, 3] (by decide))
  rintro B1 -
  have hd0 : dirtyS S = [] := by
    have : dirtyR S.rows = [] := by
      unfold dirtyR
      rw [List.map_eq_nil_iff, List.filter_eq_nil_iff]
      intro r hr; rw [hcl r hr]; decide
    unfold dirtyS
    rw [this]; simp [sortL]
  repeat' (first | refine sg_wo ?_ | refine sg_ps (ps_move rfl) rfl ?_ | refine sg_seq ?_ | refine sg_region ?_)
  refine sg_call (pdirty_tri p b S _ (by unfold bigN; omega)) rfl rfl (fun y2 _ => ?_)
  rw [hd0]
  repeat' (first | refine sg_wo ?_ | refine sg_ps (ps_assign rfl) rfl ?_ | refine sg_nil ?_ | refine sg_then ?_ | refine sg_ps (ps_bin rfl rfl inferInstance) rfl ?_ | refine sg_ps (ps_len rfl) rfl ?_ | refine sg_ret ?_)
  exact ex_ret1 rfl rfl () rfl trivial (fun w hO => hO.tail.tail.tail)
theorem poolHolds_opened (W : World) (vs : List Value) (h : Opens Try.prog W Try.f5.params.toList vs) :
    Tri Try.prog W 5 vs [old W] (X := Unit) (fun _ => .bool true) (fun _ => True) (fun _ => [old W]) := by
  obtain ⟨a0, c0, vs, rfl, e0, h⟩ := Opens.cons (RT.int .i64 Try.underlying3) h
  obtain ⟨a1, c1, vs, rfl, e1, h⟩ := Opens.cons (RT.slice 4 48 Try.underlying44 (by kernel_rfl) (by kernel_rfl) (RT.struct (tot := 4) Try.underlying46 (by kernel_rfl) (RF.cons 1 (RT.int .i64 Try.underlying3) rfl (by kernel_rfl) (RF.cons 1 (RT.int .i64 Try.underlying3) rfl (by kernel_rfl) (RF.cons 1 (RT.int .u64 Try.underlying32) rfl (by kernel_rfl) (RF.cons 1 (RT.slice 1 1 Try.underlying37 (by kernel_rfl) (by kernel_rfl) (RT.u8 Try.underlying5)) rfl (by kernel_rfl) (RF.nil rfl))))))) h
  obtain rfl := Opens.nil h
  obtain ⟨rfl, _⟩ := e0
  obtain ⟨la, lc, rfl, hl⟩ := opsPAt_of e1
  exact poolHolds_tri a0 la lc a1 hl
set_option maxRecDepth 100000 in
theorem poolHolds_lifted (os : Os) (started : os.Started) (H : Type) (enc : TypeId × Value → H) :
    ReturnsInHanded {} Try.checked os 5 .any (Rows.poolHoldsSpec.pre6 enc Try.prog Try.f5 Rows.poolHoldsRow.domain false) (Rows.poolHoldsSpec.post enc Try.prog Try.f5 false true false false) :=
  lift (tb := 4) started law_own law_laidOut (by kernel_rfl) Try.func5
    (ChangeSpec.witness6 (enc := enc) (C := Try.checked) false ⟨#[], #[.int .i64 0, .slice none 0 0], []⟩ 8 (by kernel_rfl) (by kernel_rfl) (by kernel_rfl) (by kernel_rfl))
    rfl rfl Try.underlying4 (by kernel_rfl) (fun ds h => by
      match ds, h with
      | [d1, d2], _ => rfl) poolHolds_opened
theorem poolHolds_over : Rows.poolHoldsRow.holds Try.pinned (OpenSpec.ofChange Rows.poolHoldsSpec) :=
  OpenClaim.holds_of_wide 5 Try.f5 rfl rfl rfl rfl rfl rfl rfl ⟨rfl, rfl, rfl, rfl, rfl⟩ rfl rfl rfl rfl rfl (by kernel_rfl) Try.func5 (by kernel_rfl)
    (of_decide_eq_true (by kernel_rfl)) (by unfold Func.isWrapper; first | (rw [if_pos (by decide +kernel)]; kernel_rfl) | (rw [if_neg (by decide +kernel)]; exact ⟨rfl, rfl⟩))
    (fun os started H enc _ => poolHolds_lifted os started H enc)
theorem poolHolds_proved : Rows.PoolHoldsSaid := poolHolds_over
#print axioms poolHolds_proved
end Go.Proofs.Ytclehoaeppbmpaa
