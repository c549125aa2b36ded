/- BlockPlays: blocks written, read, turned and torn: the document's answers. -/
import Derived.Test.YtgcfonjiingpnaaLB
import Derived.Test.YtgcfonjiingpnaaRB2
import Derived.Test.YtgcfonjiingpnaaRWL
namespace Go.Proofs.Ytgcfonjiingpnaa
set_option linter.unusedVariables false
set_option linter.unusedSimpArgs false
set_option linter.unusedSectionVars false
set_option linter.unnecessarySimpa false
open Go Go.Proofs
set_option maxRecDepth 20000
set_option maxHeartbeats 4000000
attribute [local irreducible] SG WC WO W1 WD WK PS Rd Tri Exit.then Exit.inBlock bodyPost calmQ Mid sadd
variable {W : World} {n : Nat} {F : Fr} {L : List HP} {G : Act → World → Prop}
theorem ps_quo_any {P : Program} {ty : TypeId} {t yt : TypeId} {x y : Operand} {k : IntKind} {i j : Int} (hx : ev F x = some (.int k i)) (hy : ev F y = some (.int k j)) (hr : j ≠ 0) : PS P n F (.binOp .quo t x y yt) ty (.int k (k.wrap (i.tdiv j))) := by
  unfold PS
  intro a ha w dst pos af g
  simp [execOp, ha.ev hx, ha.ev hy, eqGuard, binOp, Op.intDiv, hr]
abbrev OpX := Int × Int × Int × List UInt8 × List Int × Unit
def OpAt (W : World) (x : OpX) (b o : Nat) : Prop := ∃ (bb ka : Option Addr) (bc kc id : Nat), x.2.2.1 = (id : Int) ∧ id < 18446744073709551616 ∧ x.2.2.2.1.length ≤ bc ∧ x.2.2.2.1.length ≤ 140737488351232 ∧ x.2.2.2.2.1.length * 8 ≤ 140737488351232 ∧
  (-9223372036854775808 ≤ x.1 ∧ x.1 ≤ 9223372036854775807) ∧ (-9223372036854775808 ≤ x.2.1 ∧ x.2.1 ≤ 9223372036854775807) ∧
  RdO W (some ⟨b, o, none⟩) [i64 x.1, i64 x.2.1, .int .u64 x.2.2.1, .slice bb x.2.2.2.1.length bc, .slice ka x.2.2.2.2.1.length kc] ∧ RdO W bb (x.2.2.2.1.map bv) ∧ RdO W ka (x.2.2.2.2.1.map (Value.int .i64))
def OpsAt (W : World) (l : List OpX) (la : Option Addr) : Prop := (0 < l.length → ∃ b o, la = some ⟨b, o, none⟩) ∧ l.length ≤ 140737488351232 ∧ ∀ (i : Nat) (h : i < l.length) (b o : Nat), la = some ⟨b, o, none⟩ → OpAt W l[i] b (o + i * 5)
theorem opsAt_of {cs : List Value} {l : List OpX} (h : ((RT.slice 5 72 Try.underlying39 (by kernel_rfl) (by kernel_rfl) (RT.struct (tot := 5) Try.underlying45 (by kernel_rfl) (RF.cons 1 (RT.int .i64 Try.underlying3) rfl (by kernel_rfl) (RF.cons 1 (RT.int .i64 Try.underlying3) rfl (by kernel_rfl) (RF.cons 1 (RT.int .u64 Try.underlying30) rfl (by kernel_rfl) (RF.cons 1 (RT.slice 1 1 Try.underlying22 (by kernel_rfl) (by kernel_rfl) (RT.u8 Try.underlying5)) rfl (by kernel_rfl) (RF.cons 1 (RT.slice 1 8 Try.underlying43 (by kernel_rfl) (by kernel_rfl) (RT.int .i64 Try.underlying3)) rfl (by kernel_rfl) (RF.nil rfl)))))))) : RT Try.prog 39 (List OpX)).E W l cs) : ∃ (la : Option Addr) (lc : Nat), cs = [.slice la l.length lc] ∧ OpsAt W l la := by
  obtain ⟨ad, cap, rfl, _, _, h1, hp, r1⟩ := SliceE.at (by decide) h
  refine ⟨ad, cap, rfl, hp, by omega, fun i hi b o e => ?_⟩
  obtain ⟨vs, _, ⟨_, c1, c2, rfl, ⟨rfl, w1⟩, c3, c4, rfl, ⟨rfl, w2⟩, c9, c10, rfl, ⟨rfl, w3⟩, c5, c6, rfl, e3, c7, c8, rfl, e4, rfl⟩, hR⟩ := r1 i hi b o e
  obtain ⟨bb, bc, rfl, g1, _, h3, h4⟩ := SliceE.one bv (fun x vs h => h) e3
  obtain ⟨ka, kc, rfl, _, _, h5, h6⟩ := SliceE.one (.int .i64) (fun x vs h => h.1) e4
  have hw := wf_u64 w3
  obtain ⟨id, hid⟩ : ∃ m : Nat, l[i].2.2.1 = (m : Int) := ⟨l[i].2.2.1.toNat, by omega⟩
  exact ⟨bb, ka, bc, kc, id, hid, by omega, g1, by omega, h5, wf_i64 w1, wf_i64 w2, hR, h4, h6⟩
theorem wrs_sizes (st id n : Nat) (data : List UInt8) : ∀ (k i : Nat) (D : DS), (wrs st id n data D i k).2.seen.length = D.seen.length ∧ (wrs st id n data D i k).2.writes ≤ D.writes + k ∧ (wrs st id n data D i k).2.wait.length ≤ D.wait.length + k
  | 0, _, _ => ⟨rfl, Nat.le_refl _, Nat.le_refl _⟩
  | k + 1, i, D => by
    obtain ⟨g1, g2, g3⟩ := write_sizes D ((st + i : Nat) : Int) (sect id i n (partAt data i))
    simp only [wrs]
    split
    · obtain ⟨q1, q2, q3⟩ := wrs_sizes st id n data k (i + 1) (D.write ((st + i : Nat) : Int) (sect id i n (partAt data i))).2
      exact ⟨by omega, by omega, by omega⟩
    · exact ⟨g1, by omega, by omega⟩
structure B5 (i : Nat) (D : DS) : Prop where
  len : D.seen.length = 32
  writes : D.writes ≤ 656 * i
  wait : D.wait.length ≤ 656 * i
theorem B5.mono {i : Nat} {D : DS} (h : B5 i D) : B5 (i + 1) D := ⟨h.len, by have := h.writes; omega, by have := h.wait; omega⟩
theorem B5.write {i : Nat} {D : DS} (h : B5 i D) (j : Int) (bs : List UInt8) : B5 (i + 1) (D.write j bs).2 := by
  obtain ⟨g1, g2, g3⟩ := write_sizes D j bs
  exact ⟨by rw [g1]; exact h.len, by have := h.writes; omega, by have := h.wait; omega⟩
theorem B5.bwrite {i : Nat} {D : DS} (h : B5 i D) (start : Int) (id : Nat) (data : List UInt8) : B5 (i + 1) (bwrite D start id data).2 := by
  unfold Ytgcfonjiingpnaa.bwrite
  split
  · exact h.mono
  · obtain ⟨g1, g2, g3⟩ := wrs_sizes start.toNat id (cnt data.length) data (cnt data.length) 0 D
    have hc := cnt_le data.length
    exact ⟨by rw [g1]; exact h.len, by have := h.writes; omega, by have := h.wait; omega⟩
theorem B5.crash {i : Nat} {D : DS} (h : B5 i D) (keep : List Int) : B5 (i + 1) (D.crash keep) :=
  ⟨by have e : (D.crash keep).seen.length = D.seen.length := by simp only [DS.crash, fore_length, back_length]
      rw [e]; exact h.len, h.mono.writes, Nat.zero_le _⟩
theorem counts_tri (m : Int) (hm : -9223372036854775808 ≤ m ∧ m ≤ 9223372036854775807) : ∃ k : Nat, (∀ R, Tri Try.prog W 10 [i64 m] R (X := Unit) (fun _ => i64 k) (fun _ => True) (fun _ => R)) ∧ ∀ R, Tri Try.prog W 16 [i64 m] R (X := Unit) (fun _ => i64 k) (fun _ => True) (fun _ => R) := by
  by_cases h : m < 0
  · exact ⟨0, fun R => count_bad m h R, fun R => r3count_neg m h R⟩
  · obtain ⟨k, rfl⟩ : ∃ k : Nat, m = (k : Int) := ⟨m.toNat, by omega⟩
    exact ⟨cnt k, fun R => count_tri k (by omega) R, fun R => r3count_tri k (by omega) R⟩
theorem blockPlays_tri (l : List OpX) (la : Option Addr) (lc : Nat) (hl : OpsAt W l la) (m : Int) (hm : -9223372036854775808 ≤ m ∧ m ≤ 9223372036854775807) :
    Tri Try.prog W 6 [.slice la l.length lc, i64 m] [old W] (X := Unit) (fun _ => .bool true) (fun _ => True) (fun _ => [old W]) := by
  obtain ⟨hp, hll, hl⟩ := hl
  obtain ⟨k, hk1, hk2⟩ := counts_tri (W := W) m hm
  refine tri_enter2 Try.func6 rfl Try.ntmps6 rfl ?_
  repeat' (first | refine sg_wo ?_ | refine sg_ps (ps_assign rfl) rfl ?_ | refine sg_seq ?_ | refine sg_region ?_ | refine sg_nil ?_ | refine sg_then ?_)
  refine sg_call (awake_tri _) rfl rfl (fun _ _ => ?_)
  repeat' (first | refine sg_wo ?_ | refine sg_ps (ps_move rfl) rfl ?_ | refine sg_ps (ps_not rfl) rfl ?_ | refine sg_guard_yes rfl rfl ?_)
  refine sg_call (hk1 _) rfl rfl (fun _ _ => ?_)
  repeat' (first | refine sg_wo ?_ | refine sg_ps (ps_move rfl) rfl ?_ | refine sg_guard_yes rfl rfl ?_)
  refine sg_call (hk2 _) rfl rfl (fun _ _ => ?_)
  clear hk1 hk2 hm
  repeat' (first | refine sg_wo ?_ | refine sg_seq ?_ | refine sg_region ?_ | refine sg_nil ?_ | refine sg_then ?_ | refine sg_ps (ps_bin rfl rfl inferInstance) rfl ?_ | refine sg_guard_yes rfl rfl ?_ | refine sg_ps (ps_pick_f rfl rfl) rfl ?_ | refine sg_skip ?_ | (refine sg_cond_ndec rfl (fun hg => ?_) (fun hg => ?_) <;> first | (exfalso; omega) | (exact absurd rfl hg) | skip))
  refine sg_call (new_tri 32 _ (by omega) (by omega)) rfl rfl (fun d _ => ?_)
  repeat' (first | refine sg_wo ?_ | refine sg_ps (ps_move rfl) rfl ?_ | refine sg_ps (ps_assign rfl) rfl ?_ | refine sg_seq ?_ | refine sg_region ?_ | refine sg_nil ?_ | refine sg_then ?_ | refine sg_ps (ps_extract rfl rfl) rfl ?_)
  refine sg_call (rnew_tri 32 _ (by omega) (by omega)) rfl rfl (fun r _ => ?_)
  repeat' (first | refine sg_wo ?_ | refine sg_ps (ps_move rfl) rfl ?_ | refine sg_ps (ps_assign rfl) rfl ?_ | refine sg_nil ?_ | refine sg_then ?_ | refine sg_ps (ps_extract rfl rfl) rfl ?_)
  refine sg_seq_mid (γ := DS) (fun D => D.seen.length = 32) (fun _ => [(5, dp d), (7, dp r)]) (fun D => [DiskRep d D, RefRep r D, old W]) ?_ ?_
  · skip
    repeat' (first | refine sg_wo ?_ | refine sg_ps (ps_assign rfl) rfl ?_ | refine sg_seq ?_ | refine sg_region ?_ | refine sg_nil ?_ | refine sg_then ?_ | refine sg_block ?_)
    refine sg_loop (γ := Nat × DS) (fun g => (g.1 ≤ l.length ∧ g.1 ≤ 60) ∧ B5 g.1 g.2) (fun g => [(0, .slice la l.length lc), (5, dp d), (7, dp r), (9, i64 g.1)]) (fun g => [DiskRep d g.2, RefRep r g.2, old W]) (fun g => 60 - g.1) (0, DS.new 32) ⟨⟨Nat.zero_le _, Nat.zero_le _⟩, new_seen 32, Nat.le_refl _, Nat.le_refl _⟩
      (.cons rfl (.cons rfl (.cons rfl (.cons rfl .nil)))) (fun w hO => hO.front1) ?_
    rintro ⟨i, D⟩ ⟨⟨hi1, hi2⟩, hD⟩
    dsimp only at hi1 hi2 hD ⊢
    have g1 := hD.len
    have g2 := hD.writes
    have g3 := hD.wait
    by_cases hc : i < l.length ∧ i < 60
    · obtain ⟨hc1, hc2⟩ := hc
      obtain ⟨lb, lo, rfl⟩ := hp (by omega)
      obtain ⟨bb, ka, bc, kc, id, hid, hid2, hb0, hb1, hb2, hb3, hb4, r0, r1, r2⟩ := hl i hc1 lb lo rfl
      have hr5 := rem_lt l[i].1 (m := 5) (by decide)
      obtain ⟨m, hm, hm5⟩ := rem_nat l[i].1 5 (by decide)
      rw [show ((5 : Nat) : Int) = 5 from rfl] at hm
      generalize l[i] = x at *
      obtain ⟨x1, x2, x3, bs, keep, u⟩ := x
      dsimp only at hid hb0 hb1 hb2 hb3 hb4 r0 r1 r2 hr5 hm
      subst hid
      skip
      refine sg_seq ?_
      refine sg_seq ?_
      repeat' (first | refine sg_wo ?_ | refine sg_ps (ps_move rfl) rfl ?_ | refine sg_region ?_ | refine sg_nil ?_ | refine sg_then ?_ | refine sg_ps (ps_bin rfl rfl inferInstance) rfl ?_ | refine sg_guard_yes rfl rfl ?_ | refine sg_ps (ps_pick_t rfl rfl) rfl ?_ | refine sg_ps (ps_len rfl) rfl ?_ | refine sg_skip ?_ | (refine sg_guard_dec rfl rfl (fun hg => ?_) (fun hg => ?_) <;> first | (exfalso; omega) | (exact absurd rfl hg) | skip) | (refine sg_cond_dec rfl (fun hg => ?_) (fun hg => ?_) <;> first | (exfalso; omega) | (exact absurd rfl hg) | skip))
      refine sg_seq ?_
      repeat' (first | refine sg_block ?_)
      refine sg_seq ?_
      repeat' (first | refine sg_wo ?_ | refine sg_ps (ps_move rfl) rfl ?_ | refine sg_region ?_ | refine sg_ps (ps_indexAddr rfl rfl rfl (by omega)) rfl ?_)
      refine sg_load_agg_rd rfl rfl (r0.rd 2 rfl) rfl ?_
      repeat' (first | refine sg_wo ?_ | refine sg_nil ?_ | refine sg_then ?_ | refine sg_store_whole [] rfl rfl rfl rfl rfl ?_ | refine sg_alloc rfl (fun al => ?_))
      refine sg_seq ?_
      repeat' (first | refine sg_wo ?_ | refine sg_region ?_ | refine sg_nil ?_ | refine sg_then ?_ | refine sg_ps (ps_fieldAddr rfl) rfl ?_ | refine sg_load 0 rfl rfl rfl rfl ?_ | refine sg_ps (ps_add64 rfl rfl (by omega)) rfl ?_ | refine sg_ps (ps_rem rfl rfl (by decide)) rfl ?_ | refine sg_block ?_)
      rw [hm]
      rcases (by omega : m = 0 ∨ m = 1 ∨ m = 2 ∨ m = 3 ∨ m = 4) with rfl | rfl | rfl | rfl | rfl
      · skip
        repeat' (first | refine sg_wo ?_ | refine sg_ps (ps_assign rfl) rfl ?_ | refine sg_seq ?_ | refine sg_region ?_ | refine sg_nil ?_ | refine sg_then ?_ | refine sg_ps (ps_fieldAddr rfl) rfl ?_ | refine sg_load 0 rfl rfl rfl rfl ?_ | refine sg_ps (ps_bin rfl rfl inferInstance) rfl ?_ | refine sg_cond_t rfl ?_)
        refine sg_call (rawLent_tri bs bb bc (by omega) _ (r1.rd 3 rfl)) rfl rfl (fun x hx => ?_)
        obtain ⟨g, c, cur⟩ := x
        dsimp only at hx ⊢
        repeat' (first | refine sg_wo ?_ | refine sg_ps (ps_assign rfl) rfl ?_ | refine sg_seq ?_ | refine sg_nil ?_ | refine sg_then ?_)
        refine sg_drawK [blk al [i64 x1, i64 x2, .int .u64 (id : Int), .slice bb bs.length bc, .slice ka keep.length kc], old W] [0, 1, 3, 5, 7, 8, 10, 12, 2, 4, 9, 11, 13, 6, 14, 15, 16, 17, 18, 19, 20, 21, 22] (by kernel_rfl) (by kernel_rfl) (fun w hO => hO.pick [1, 4] (by decide)) ?_
        repeat' (first | refine sk_pure rfl rfl (ps_move rfl) rfl ?_ | refine sk_pure rfl rfl (ps_fieldAddr rfl) rfl ?_ | refine sk_load 0 rfl rfl rfl rfl rfl ?_ | refine sk_eff rfl rfl ?_)
        refine sg_call ((bwrite_tri d D x2 id bs (some ⟨g, 0, none⟩) c [blk g cur, blk al [i64 x1, i64 x2, .int .u64 (id : Int), .slice bb bs.length bc, .slice ka keep.length kc], RefRep r D, old W] hb4.2 (by omega) (by have := hx.room; omega) (by omega) (rd_blk 0 rfl hx.get) (by omega) (by omega)).pre (fun w hO => hO.pick [2, 0, 1, 3, 4] (by decide))) rfl rfl (fun _ _ => ?_)
        refine sk_back (fun w hO => hO.pick [2, 4] (by decide)) ?_
        repeat' (first | refine sk_eff rfl rfl ?_)
        refine sg_call ((rbwrite_tri r D x2 id bs bb bc [DiskRep d (bwrite D x2 id bs).2, blk g cur, blk al [i64 x1, i64 x2, .int .u64 (id : Int), .slice bb bs.length bc, .slice ka keep.length kc], old W] hb4.2 (by omega) hb0 (by omega) hid2 (rdo_tail r1 3 rfl) (by omega) (by omega)).pre (fun w hO => hO.pick [3, 0, 1, 2, 4] (by decide))) rfl rfl (fun _ _ => ?_)
        refine sk_back (fun w hO => hO.pick [3, 4] (by decide)) ?_
        have hE := hD.bwrite x2 id bs
        generalize bwrite D x2 id bs = q at hE
        obtain ⟨q1, E⟩ := q
        dsimp only at hE ⊢
        repeat' (first | refine sk_pure rfl rfl (ps_move rfl) rfl ?_ | refine sk_pure rfl rfl (ps_bin rfl rfl inferInstance) rfl ?_ | refine sk_pure_g rfl rfl rfl rfl (ps_move rfl) rfl ?_ | refine sk_pure_g rfl rfl rfl rfl (ps_fieldAddr rfl) rfl ?_ | refine sk_load_g 0 rfl rfl rfl rfl rfl rfl rfl ?_ | refine sk_eff rfl rfl ?_ | refine sg_guard_yes rfl rfl ?_ | (refine sk_ndec rfl rfl rfl rfl (fun hg => ?_) (fun hg => ?_) <;> first | (exfalso; omega) | (exact absurd rfl hg) | skip))
        refine sg_call ((rawKept_tri bs g c cur hx bb bc [RefRep r E, DiskRep d E, blk al [i64 x1, i64 x2, .int .u64 (id : Int), .slice bb bs.length bc, .slice ka keep.length kc], old W] (r1.rd 3 rfl)).pre (fun w hO => hO.pick [2, 0, 1, 3, 4] (by decide))) rfl rfl (fun _ _ => ?_)
        refine sk_back (fun w hO => hO.pick [3, 4] (by decide)) ?_
        repeat' (first | refine sk_nil ?_ | refine sk_pure rfl rfl (ps_pick_f rfl rfl) rfl ?_ | refine sk_pure_g rfl rfl rfl rfl (ps_not rfl) rfl ?_)
        repeat' (first | refine sg_wo ?_ | refine sg_ps (ps_move rfl) rfl ?_ | refine sg_ps (ps_assign rfl) rfl ?_ | refine sg_region ?_ | refine sg_nil ?_ | refine sg_then ?_ | refine sg_ps (ps_add64 rfl rfl (by omega)) rfl ?_ | refine sg_cond_f rfl ?_ | refine sg_skip ?_ | refine ex_block_normal ?_)
        exact ex_mid (i + 1, E) ⟨by show 60 - (i + 1) < 60 - i; omega, ⟨by show i + 1 ≤ l.length; omega, by show i + 1 ≤ 60; omega⟩, hE⟩ (.cons rfl (.cons rfl (.cons rfl (.cons rfl .nil)))) (fun w hO => hO.pick [2, 1, 4] (by decide))
      · skip
        repeat' (first | refine sg_wo ?_ | refine sg_ps (ps_move rfl) rfl ?_ | refine sg_ps (ps_assign rfl) rfl ?_ | refine sg_seq ?_ | refine sg_region ?_ | refine sg_nil ?_ | refine sg_then ?_ | refine sg_ps (ps_fieldAddr rfl) rfl ?_ | refine sg_load 0 rfl rfl rfl rfl ?_ | refine sg_ps (ps_bin rfl rfl inferInstance) rfl ?_ | refine sg_cond_t rfl ?_ | refine sg_cond_f rfl ?_)
        refine sg_call ((bread_tri d D x2 id [blk al [i64 x1, i64 x2, .int .u64 (id : Int), .slice bb bs.length bc, .slice ka keep.length kc], RefRep r D, old W] hb4.2 (by omega)).pre (fun w hO => hO.pick [1, 0, 2, 3] (by decide))) rfl rfl (fun y _ => ?_)
        obtain ⟨ya, yc⟩ := y
        repeat' (first | refine sg_wo ?_ | refine sg_ps (ps_move rfl) rfl ?_ | refine sg_ps (ps_assign rfl) rfl ?_ | refine sg_seq ?_ | refine sg_region ?_ | refine sg_nil ?_ | refine sg_then ?_ | refine sg_ps (ps_fieldAddr rfl) rfl ?_ | refine sg_load 2 rfl rfl rfl rfl ?_ | refine sg_ps (ps_extract rfl rfl) rfl ?_)
        refine sg_call ((rbread_tri r D x2 id [sown ya (bread D x2 id).1.length yc 1 ((bread D x2 id).1.map bv), DiskRep d D, blk al [i64 x1, i64 x2, .int .u64 (id : Int), .slice bb bs.length bc, .slice ka keep.length kc], old W] hb4.2 (by omega) hid2).pre (fun w hO => hO.pick [3, 0, 1, 2, 4] (by decide))) rfl rfl (fun z _ => ?_)
        obtain ⟨za, zc⟩ := z
        dsimp only
        generalize bread D x2 id = q
        obtain ⟨q1, q2⟩ := q
        dsimp only
        have hby := rawBytes_tri (W := W) q1 q1 ya za yc zc [sown za q1.length zc 1 (q1.map bv), RefRep r D, sown ya q1.length yc 1 (q1.map bv), DiskRep d D, blk al [i64 x1, i64 x2, .int .u64 (id : Int), .slice bb bs.length bc, .slice ka keep.length kc], old W] (rd_sown 2 rfl (fun _ _ h => h)) (rd_sown 0 rfl (fun _ _ h => h))
        rw [decide_eq_true rfl] at hby
        repeat' (first | refine sg_wo ?_ | refine sg_ps (ps_move rfl) rfl ?_ | refine sg_ps (ps_assign rfl) rfl ?_ | refine sg_seq ?_ | refine sg_region ?_ | refine sg_nil ?_ | refine sg_then ?_ | refine sg_ps (ps_bin rfl rfl inferInstance) rfl ?_ | refine sg_guard_yes rfl rfl ?_ | refine sg_ps (ps_extract rfl rfl) rfl ?_ | (refine sg_guard_ndec rfl rfl (fun hg => ?_) (fun hg => ?_) <;> first | (exfalso; omega) | (exact absurd rfl hg) | skip))
        refine sg_call hby rfl rfl (fun _ _ => ?_)
        repeat' (first | refine sg_wo ?_ | refine sg_ps (ps_move rfl) rfl ?_ | refine sg_ps (ps_assign rfl) rfl ?_ | refine sg_region ?_ | refine sg_nil ?_ | refine sg_then ?_ | refine sg_ps (ps_add64 rfl rfl (by omega)) rfl ?_ | refine sg_ps (ps_not rfl) rfl ?_ | refine sg_cond_f rfl ?_ | refine sg_guard_yes rfl rfl ?_ | refine sg_ps (ps_pick_f rfl rfl) rfl ?_ | refine sg_skip ?_ | refine ex_block_normal ?_)
        exact ex_mid (i + 1, D) ⟨by show 60 - (i + 1) < 60 - i; omega, ⟨by show i + 1 ≤ l.length; omega, by show i + 1 ≤ 60; omega⟩, hD.mono⟩ (.cons rfl (.cons rfl (.cons rfl (.cons rfl .nil)))) (fun w hO => hO.pick [3, 1, 5] (by decide))
      · skip
        repeat' (first | refine sg_wo ?_ | refine sg_ps (ps_move rfl) rfl ?_ | refine sg_ps (ps_assign rfl) rfl ?_ | refine sg_seq ?_ | refine sg_region ?_ | refine sg_nil ?_ | refine sg_then ?_ | refine sg_ps (ps_fieldAddr rfl) rfl ?_ | refine sg_load 0 rfl rfl rfl rfl ?_ | refine sg_ps (ps_bin rfl rfl inferInstance) rfl ?_ | refine sg_cond_t rfl ?_ | refine sg_cond_f rfl ?_)
        refine sg_call ((write_tri d D x2 bs bb bc [blk al [i64 x1, i64 x2, .int .u64 (id : Int), .slice bb bs.length bc, .slice ka keep.length kc], RefRep r D, old W] (by omega) (by omega) (r1.rd 2 rfl) (by omega)).pre (fun w hO => hO.pick [1, 0, 2, 3] (by decide))) rfl rfl (fun _ _ => ?_)
        repeat' (first | refine sg_wo ?_ | refine sg_ps (ps_move rfl) rfl ?_ | refine sg_region ?_ | refine sg_nil ?_ | refine sg_then ?_ | refine sg_ps (ps_fieldAddr rfl) rfl ?_ | refine sg_load 1 rfl rfl rfl rfl ?_)
        refine sg_call ((rwrite_tri r D x2 bs bb bc [DiskRep d (D.write x2 bs).2, blk al [i64 x1, i64 x2, .int .u64 (id : Int), .slice bb bs.length bc, .slice ka keep.length kc], old W] (by omega) (by omega) (rdo_tail r1 2 rfl) (by omega)).pre (fun w hO => hO.pick [2, 0, 1, 3] (by decide))) rfl rfl (fun _ _ => ?_)
        repeat' (first | refine sg_wo ?_ | refine sg_ps (ps_move rfl) rfl ?_ | refine sg_ps (ps_assign rfl) rfl ?_ | refine sg_region ?_ | refine sg_nil ?_ | refine sg_then ?_ | refine sg_ps (ps_add64 rfl rfl (by omega)) rfl ?_ | refine ex_block_normal ?_)
        exact ex_mid (i + 1, (D.write x2 bs).2) ⟨by show 60 - (i + 1) < 60 - i; omega, ⟨by show i + 1 ≤ l.length; omega, by show i + 1 ≤ 60; omega⟩, hD.write x2 bs⟩ (.cons rfl (.cons rfl (.cons rfl (.cons rfl .nil)))) (fun w hO => hO.pick [1, 0, 3] (by decide))
      · by_cases hin : 0 ≤ x2 ∧ x2 < D.seen.length
        · obtain ⟨j, rfl⟩ : ∃ j : Nat, x2 = (j : Int) := ⟨x2.toNat, by omega⟩
          have hj : j < D.seen.length := by omega
          repeat' (first | refine sg_wo ?_ | refine sg_ps (ps_move rfl) rfl ?_ | refine sg_ps (ps_assign rfl) rfl ?_ | refine sg_seq ?_ | refine sg_region ?_ | refine sg_nil ?_ | refine sg_then ?_ | refine sg_ps (ps_fieldAddr rfl) rfl ?_ | refine sg_load 0 rfl rfl rfl rfl ?_ | refine sg_ps (ps_bin rfl rfl inferInstance) rfl ?_ | refine sg_cond_t rfl ?_ | refine sg_cond_f rfl ?_)
          refine sg_call ((rread_tri r D j [blk al [i64 x1, i64 (j : Int), .int .u64 (id : Int), .slice bb bs.length bc, .slice ka keep.length kc], DiskRep d D, old W] hj).pre (fun w hO => hO.pick [2, 0, 1, 3] (by decide))) rfl rfl (fun y _ => ?_)
          obtain ⟨ya, yc⟩ := y
          dsimp only
          refine sg_front1 ?_
          refine sg_ref_ok (fun hok => ?_)
          refine sg_front1 ?_
          have h64 : D.seen[j].length = 64 := hok.sec _ (List.getElem_mem hj)
          generalize D.seen[j] = s at h64
          refine sg_open (fun w hO => own_block (by omega) hO) ?_
          rintro ⟨yb, cur⟩ ⟨rfl, f1, f2, f3, f4⟩
          dsimp only at f3 f4 ⊢
          have hid64 : id % 64 < 64 := Nat.mod_lt _ (by decide)
          have hrem : (id : Int).tmod 64 = ((id % 64 : Nat) : Int) := rem_pos id 64
          have hcg : ∀ q (h : q < 64), cur[q]? = some (bv (s[q]'(by omega))) := by
            intro q h
            have h9 := congrArg (fun l => l[q]?) f4
            simp only [List.getElem?_take, if_pos (show q < 64 * 1 by omega), List.getElem?_map, List.getElem?_eq_getElem (show q < s.length by omega), Option.map_some] at h9
            exact h9
          repeat' (first | refine sg_wo ?_ | refine sg_ps (ps_move rfl) rfl ?_ | refine sg_ps (ps_assign rfl) rfl ?_ | refine sg_seq ?_ | refine sg_region ?_ | refine sg_nil ?_ | refine sg_then ?_ | refine sg_ps (ps_bin rfl rfl inferInstance) rfl ?_ | refine sg_cond_t rfl ?_ | refine sg_ps (ps_extract rfl rfl) rfl ?_)
          refine sg_drawK [blk yb cur, RefRep r D, blk al [i64 x1, i64 (j : Int), .int .u64 (id : Int), .slice bb bs.length bc, .slice ka keep.length kc], DiskRep d D, old W] [0, 1, 6, 2, 3, 4, 7, 8, 9, 10, 11, 5, 12, 13, 14] (by kernel_rfl) (by kernel_rfl) (fun w hO => hO) ?_
          repeat' (first | refine sk_pure rfl rfl (ps_move rfl) rfl ?_ | refine sk_pure rfl rfl (ps_fieldAddr rfl) rfl ?_ | refine sk_pure rfl rfl (ps_rem rfl rfl (by decide)) rfl ?_ | refine sk_pure rfl rfl (ps_indexAddr rfl rfl rfl (by omega)) rfl ?_ | refine sk_load 2 rfl rfl rfl rfl rfl ?_)
          refine sk_pure rfl rfl (ps_quo_any rfl rfl (by decide)) rfl ?_
          repeat' (first | refine sk_pure rfl rfl (ps_bin rfl rfl inferInstance) rfl ?_ | refine sk_pure rfl rfl (ps_rem rfl rfl (by decide)) rfl ?_ | refine sk_pure rfl rfl (ps_conv rfl) rfl ?_)
          have hrd : Rd W [blk yb cur, RefRep r D, blk al [i64 x1, i64 (j : Int), .int .u64 (id : Int), .slice bb bs.length bc, .slice ka keep.length kc], DiskRep d D, old W] (some ⟨yb, 0 + id % 64 * 1, none⟩) [bv (s[id % 64]'(by omega))] := rd_blk_one 0 rfl (by rw [show 0 + id % 64 * 1 = id % 64 by omega]; exact hcg _ hid64)
          refine sk_load_rd rfl rfl hrd rfl ?_
          repeat' (first | refine sk_pure rfl rfl (ps_bin rfl rfl inferInstance) rfl ?_ | refine sk_pure rfl rfl (ps_indexAddr rfl rfl rfl (by omega)) rfl ?_ | refine sk_eff rfl rfl ?_)
          rw [conv8]
          refine sg_store [] rfl rfl rfl (show 0 + id % 64 * 1 < cur.length by omega) ?_
          refine sk_end (by kernel_rfl) ?_
          refine sk_nil ?_
          generalize UInt8.ofNat _ = z
          rw [show 0 + id % 64 * 1 = id % 64 by omega, List.nil_append]
          have hsl : (s.set (id % 64) z).length = 64 := by rw [List.length_set]; exact h64
          refine sg_own_mk (m := 64) (c := yc) (sz := 1) (xs := (s.set (id % 64) z).map bv) (by omega) (by simpa [maxLen] using f2) (by rw [List.length_set]; exact f3) (by
            rw [List.take_set, f4, List.map_set]) ?_
          generalize s.set (id % 64) z = t at hsl
          have hw1 := write_tri (W := W) d D ((j : Nat) : Int) t (some ⟨yb, 0, none⟩) yc [sown (some ⟨yb, 0, none⟩) 64 yc 1 (t.map bv), RefRep r D, blk al [i64 x1, i64 (j : Int), .int .u64 (id : Int), .slice bb bs.length bc, .slice ka keep.length kc], old W] (by omega) (by omega) (rd_sown 0 rfl (fun _ _ h => h)) (by omega)
          have hw2 := rwrite_tri (W := W) r D ((j : Nat) : Int) t (some ⟨yb, 0, none⟩) yc [DiskRep d (D.write ((j : Nat) : Int) t).2, sown (some ⟨yb, 0, none⟩) 64 yc 1 (t.map bv), blk al [i64 x1, i64 (j : Int), .int .u64 (id : Int), .slice bb bs.length bc, .slice ka keep.length kc], old W] (by omega) (by omega) (fun L => rd_sown (L.length + 1) (by rw [List.getElem?_append_right (Nat.le_add_right _ _), Nat.add_sub_cancel_left]; rfl) (fun _ _ h => h)) (by omega)
          rw [hsl] at hw1 hw2
          have hE := hD.write ((j : Nat) : Int) t
          repeat' (first | refine sg_wo ?_ | refine sg_ps (ps_move rfl) rfl ?_ | refine sg_seq ?_ | refine sg_region ?_ | refine sg_then ?_ | refine sg_ps (ps_fieldAddr rfl) rfl ?_ | refine sg_load 2 rfl rfl rfl rfl ?_)
          refine sg_call (hw1.pre (fun w hO => hO.pick [3, 0, 1, 2, 4] (by decide))) rfl rfl (fun _ _ => ?_)
          repeat' (first | refine sg_wo ?_ | refine sg_ps (ps_move rfl) rfl ?_ | refine sg_region ?_ | refine sg_nil ?_ | refine sg_then ?_ | refine sg_ps (ps_fieldAddr rfl) rfl ?_ | refine sg_load 3 rfl rfl rfl rfl ?_)
          refine sg_call (hw2.pre (fun w hO => hO.pick [2, 0, 1, 3, 4] (by decide))) rfl rfl (fun _ _ => ?_)
          repeat' (first | refine sg_wo ?_ | refine sg_ps (ps_move rfl) rfl ?_ | refine sg_ps (ps_assign rfl) rfl ?_ | refine sg_region ?_ | refine sg_nil ?_ | refine sg_then ?_ | refine sg_ps (ps_add64 rfl rfl (by omega)) rfl ?_ | refine ex_block_normal ?_)
          exact ex_mid (i + 1, (D.write ((j : Nat) : Int) t).2) ⟨by show 60 - (i + 1) < 60 - i; omega, ⟨by show i + 1 ≤ l.length; omega, by show i + 1 ≤ 60; omega⟩, hE⟩ (.cons rfl (.cons rfl (.cons rfl (.cons rfl .nil)))) (fun w hO => hO.pick [1, 0, 4] (by decide))
        · skip
          repeat' (first | refine sg_wo ?_ | refine sg_ps (ps_move rfl) rfl ?_ | refine sg_ps (ps_assign rfl) rfl ?_ | refine sg_seq ?_ | refine sg_region ?_ | refine sg_nil ?_ | refine sg_then ?_ | refine sg_ps (ps_fieldAddr rfl) rfl ?_ | refine sg_load 0 rfl rfl rfl rfl ?_ | refine sg_ps (ps_bin rfl rfl inferInstance) rfl ?_ | refine sg_cond_t rfl ?_ | refine sg_cond_f rfl ?_)
          refine sg_call ((rread_bad r D x2 [blk al [i64 x1, i64 x2, .int .u64 (id : Int), .slice bb bs.length bc, .slice ka keep.length kc], DiskRep d D, old W] hin).pre (fun w hO => hO.pick [2, 0, 1, 3] (by decide))) rfl rfl (fun _ _ => ?_)
          repeat' (first | refine sg_wo ?_ | refine sg_ps (ps_move rfl) rfl ?_ | refine sg_ps (ps_assign rfl) rfl ?_ | refine sg_seq ?_ | refine sg_region ?_ | refine sg_nil ?_ | refine sg_then ?_ | refine sg_ps (ps_add64 rfl rfl (by omega)) rfl ?_ | refine sg_ps (ps_bin rfl rfl inferInstance) rfl ?_ | refine sg_cond_f rfl ?_ | refine sg_ps (ps_extract rfl rfl) rfl ?_ | refine sg_skip ?_ | refine ex_block_normal ?_)
          exact ex_mid (i + 1, D) ⟨by show 60 - (i + 1) < 60 - i; omega, ⟨by show i + 1 ≤ l.length; omega, by show i + 1 ≤ 60; omega⟩, hD.mono⟩ (.cons rfl (.cons rfl (.cons rfl (.cons rfl .nil)))) (fun w hO => hO.pick [2, 0, 3] (by decide))
      · skip
        repeat' (first | refine sg_wo ?_ | refine sg_ps (ps_move rfl) rfl ?_ | refine sg_ps (ps_assign rfl) rfl ?_ | refine sg_seq ?_ | refine sg_region ?_ | refine sg_nil ?_ | refine sg_then ?_ | refine sg_ps (ps_bin rfl rfl inferInstance) rfl ?_ | refine sg_cond_f rfl ?_)
        refine sg_buildSlice rfl (by decide) rfl rfl (fun kb => ?_)
        repeat' (first | refine sg_wo ?_ | refine sg_ps (ps_fieldAddr rfl) rfl ?_ | refine sg_load 1 rfl rfl rfl rfl ?_)
        refine sg_own_mk (m := 0) (c := 0) (sz := 1) (xs := []) (Nat.le_refl _) (by decide) rfl rfl ?_
        refine sg_append (by_ := 8) rfl rfl rfl (news := keep.map (Value.int .i64)) (by simp) (by intro u hu; obtain ⟨x, _, rfl⟩ := List.mem_map.1 hu; rfl) (r2.rd 4 rfl) (by show 0 + keep.length ≤ 9223372036854775807; omega) (by omega) (fun a' c' => ?_)
        rw [Nat.zero_add, List.nil_append]
        refine sg_wo (sg_call ((crash_tri d D keep a' c' [sown a' keep.length c' 1 (keep.map (Value.int .i64)), blk al [i64 x1, i64 x2, .int .u64 (id : Int), .slice bb bs.length bc, .slice ka keep.length kc], RefRep r D, old W] (rd_sown 0 rfl (fun j u hj => hj)) (by omega) (by omega)).pre (fun w hO => hO.pick [2, 0, 1, 3, 4] (by decide))) rfl rfl (fun _ _ => ?_))
        repeat' (first | refine sg_wo ?_ | refine sg_ps (ps_move rfl) rfl ?_ | refine sg_region ?_ | refine sg_nil ?_ | refine sg_then ?_ | refine sg_ps (ps_fieldAddr rfl) rfl ?_ | refine sg_load 2 rfl rfl rfl rfl ?_)
        refine sg_call ((rcrash_tri r D keep ka kc [DiskRep d (D.crash keep), blk al [i64 x1, i64 x2, .int .u64 (id : Int), .slice bb bs.length bc, .slice ka keep.length kc], old W] (rdo_tail r2 2 rfl) (by omega) (by omega)).pre (fun w hO => hO.pick [3, 0, 2, 4] (by decide))) rfl rfl (fun _ _ => ?_)
        repeat' (first | refine sg_wo ?_ | refine sg_ps (ps_move rfl) rfl ?_ | refine sg_ps (ps_assign rfl) rfl ?_ | refine sg_region ?_ | refine sg_nil ?_ | refine sg_then ?_ | refine sg_ps (ps_add64 rfl rfl (by omega)) rfl ?_ | refine ex_block_normal ?_)
        exact ex_mid (i + 1, D.crash keep) ⟨by show 60 - (i + 1) < 60 - i; omega, ⟨by show i + 1 ≤ l.length; omega, by show i + 1 ≤ 60; omega⟩, hD.crash keep⟩ (.cons rfl (.cons rfl (.cons rfl (.cons rfl .nil)))) (fun w hO => hO.pick [1, 0, 3] (by decide))
    · skip
      repeat' (first | refine sg_wo ?_ | refine sg_ps (ps_move rfl) rfl ?_ | refine sg_seq ?_ | refine sg_region ?_ | refine sg_nil ?_ | refine sg_then ?_ | refine sg_ps (ps_bin rfl rfl inferInstance) rfl ?_ | refine sg_cond_f rfl ?_ | refine sg_guard_yes rfl rfl ?_ | refine sg_guard_nf rfl rfl rfl ?_ | refine sg_ps (ps_pick_t rfl rfl) rfl ?_ | refine sg_ps (ps_pick_f rfl rfl) rfl ?_ | refine sg_ps (ps_len rfl) rfl ?_ | refine sg_exit ?_ | refine ex_then_exit ?_ | refine ex_block_hit ?_ | (refine sg_guard_dec rfl rfl (fun hg => ?_) (fun hg => ?_) <;> first | (exfalso; omega) | (exact absurd rfl hg) | skip) | (refine sg_cond_dec rfl (fun hg => ?_) (fun hg => ?_) <;> first | (exfalso; omega) | (exact absurd rfl hg) | skip))
      all_goals exact ex_mid D g1 (.cons rfl (.cons rfl .nil)) (fun w hO => hO)
  · rintro D g1
    refine sg_front1 ?_
    refine RefRep.open fun x hx => ?_
    obtain ⟨l1, l2, l3⟩ := hx.lens
    repeat' (first | refine sg_wo ?_ | refine sg_ps (ps_assign rfl) rfl ?_ | refine sg_seq ?_ | refine sg_region ?_ | refine sg_nil ?_ | refine sg_then ?_ | refine sg_block ?_)
    refine sg_loop (γ := Nat) (fun j => j ≤ 32) (fun j => [(5, dp d), (7, dp r), (18, i64 j)])
      (fun _ => [blk r (rdcells D x), sown (some ⟨x.kb, 0, none⟩) x.ks.length x.kc 1 (x.ks.map shdr), sown (some ⟨x.sb, 0, none⟩) x.ss.length x.sc 1 (x.ss.map shdr), sown x.wa x.ws.length x.wc 2 (x.ws.flatMap putc), blks x.ls, DiskRep d D, old W]) (fun j => 32 - j) 0 (Nat.zero_le _) (.cons rfl (.cons rfl (.cons rfl .nil))) (fun w hO => hO) ?_
    intro j hj
    by_cases hjk : j < 32
    · have hjs : j < x.ss.length := by omega
      have hjd : j < D.seen.length := by omega
      have hsk : x.ss[j].2 = D.seen[j] := by
        have h9 := congrArg (fun l => l[j]?) hx.seen
        simp only [List.getElem?_map, List.getElem?_eq_getElem hjs, List.getElem?_eq_getElem hjd, Option.map_some, Option.some.injEq] at h9
        exact h9
      have h64 : x.ss[j].2.length = 64 := by rw [hsk]; exact hx.dok.sec _ (List.getElem_mem hjd)
      have hin := hx.sin _ (List.getElem_mem hjs)
      repeat' (first | refine sg_wo ?_ | refine sg_ps (ps_move rfl) rfl ?_ | refine sg_seq ?_ | refine sg_region ?_ | refine sg_nil ?_ | refine sg_then ?_ | refine sg_ps (ps_bin rfl rfl inferInstance) rfl ?_ | refine sg_block ?_ | refine sg_skip ?_ | (refine sg_cond_dec rfl (fun hg => ?_) (fun hg => ?_) <;> first | (exfalso; omega) | (exact absurd rfl hg) | skip))
      refine sg_call ((read_tri d D j [blk r (rdcells D x), sown (some ⟨x.kb, 0, none⟩) x.ks.length x.kc 1 (x.ks.map shdr), sown (some ⟨x.sb, 0, none⟩) x.ss.length x.sc 1 (x.ss.map shdr), sown x.wa x.ws.length x.wc 2 (x.ws.flatMap putc), blks x.ls, old W] hjd).pre (fun w hO => hO.pick [5, 0, 1, 2, 3, 4, 6] (by decide))) rfl rfl (fun rb _ => ?_)
      rw [← hsk]
      repeat' (first | refine sg_wo ?_ | refine sg_ps (ps_move rfl) rfl ?_ | refine sg_ps (ps_assign rfl) rfl ?_ | refine sg_seq ?_ | refine sg_region ?_ | refine sg_nil ?_ | refine sg_then ?_ | refine sg_ps (ps_fieldAddr rfl) rfl ?_ | refine sg_ps (ps_nilCheck rfl) rfl ?_ | refine sg_load 2 rfl rfl rfl rfl ?_ | refine sg_ps (ps_extract rfl rfl) rfl ?_ | refine sg_ps (ps_indexAddr rfl rfl rfl (by omega)) rfl ?_)
      refine sg_load_rd rfl ((rd_sown 4 rfl (fun _ _ h => h)).get j (v := shdr x.ss[j]) (by rw [List.getElem?_map, List.getElem?_eq_getElem hjs]; rfl)) rfl ?_
      repeat' (first | refine sg_wo ?_)
      have hby := rawBytes_tri (W := W) x.ss[j].2 x.ss[j].2 (some ⟨rb, 0, none⟩) (some ⟨x.ss[j].1, 0, none⟩) 64 64 [blk rb (x.ss[j].2.map bv), DiskRep d D, blk r (rdcells D x), sown (some ⟨x.kb, 0, none⟩) x.ks.length x.kc 1 (x.ks.map shdr), sown (some ⟨x.sb, 0, none⟩) x.ss.length x.sc 1 (x.ss.map shdr), sown x.wa x.ws.length x.wc 2 (x.ws.flatMap putc), blks x.ls, old W]
        (rd_blk 0 rfl (fun q u h => by rw [Nat.zero_add]; exact h)) (rd_blks 6 rfl hin (fun q u h => by rw [Nat.zero_add]; exact h))
      rw [h64, decide_eq_true rfl] at hby
      refine sg_call hby rfl rfl (fun _ _ => ?_)
      repeat' (first | refine sg_wo ?_ | refine sg_ps (ps_move rfl) rfl ?_ | refine sg_ps (ps_assign rfl) rfl ?_ | refine sg_region ?_ | refine sg_nil ?_ | refine sg_then ?_ | refine sg_ps (ps_add64 rfl rfl (by omega)) rfl ?_ | refine sg_ps (ps_not rfl) rfl ?_ | refine sg_cond_f rfl ?_ | refine sg_skip ?_ | refine ex_block_normal ?_)
      exact ex_mid (j + 1) ⟨by omega, by omega⟩ (.cons rfl (.cons rfl (.cons rfl .nil))) (fun w hO => hO.pick [2, 3, 4, 5, 6, 1, 7] (by decide))
    · skip
      repeat' (first | refine sg_wo ?_ | refine sg_ps (ps_move rfl) rfl ?_ | refine sg_seq ?_ | refine sg_region ?_ | refine sg_nil ?_ | refine sg_then ?_ | refine sg_ps (ps_bin rfl rfl inferInstance) rfl ?_ | refine sg_exit ?_ | refine ex_then_exit ?_ | refine ex_block_hit ?_ | (refine sg_cond_dec rfl (fun hg => ?_) (fun hg => ?_) <;> first | (exfalso; omega) | (exact absurd rfl hg) | skip))
      refine sg_call (bread_nil 0 1 _) rfl rfl (fun _ _ => ?_)
      repeat' (first | refine sg_wo ?_ | refine sg_ps (ps_move rfl) rfl ?_ | refine sg_ps (ps_assign rfl) rfl ?_ | refine sg_seq ?_ | refine sg_region ?_ | refine sg_nil ?_ | refine sg_then ?_ | refine sg_ps (ps_bin rfl rfl inferInstance) rfl ?_ | refine sg_guard_yes rfl rfl ?_ | refine sg_ps (ps_extract rfl rfl) rfl ?_)
      refine sg_call (bwrite_nil 0 1 none 0 0 (by decide) _) rfl rfl (fun _ _ => ?_)
      repeat' (first | refine sg_wo ?_ | refine sg_ps (ps_assign rfl) rfl ?_ | refine sg_nil ?_ | refine sg_then ?_ | refine sg_ps (ps_bin rfl rfl inferInstance) rfl ?_ | refine sg_guard_yes rfl rfl ?_ | refine sg_ps (ps_pick_t rfl rfl) rfl ?_ | refine sg_ret ?_)
      exact ex_ret1 rfl rfl () rfl trivial (fun w hO => hO.pick [6] (by decide))
theorem blockPlays_opened (W : World) (vs : List Value) (h : Opens Try.prog W Try.f6.params.toList vs) :
    Tri Try.prog W 6 vs [old W] (X := Unit) (fun _ => .bool true) (fun _ => True) (fun _ => [old W]) := by
  obtain ⟨a0, c0, vs, rfl, e0, h⟩ := Opens.cons (RT.slice 5 72 Try.underlying39 (by kernel_rfl) (by kernel_rfl) (RT.struct (tot := 5) Try.underlying45 (by kernel_rfl) (RF.cons 1 (RT.int .i64 Try.underlying3) rfl (by kernel_rfl) (RF.cons 1 (RT.int .i64 Try.underlying3) rfl (by kernel_rfl) (RF.cons 1 (RT.int .u64 Try.underlying30) rfl (by kernel_rfl) (RF.cons 1 (RT.slice 1 1 Try.underlying22 (by kernel_rfl) (by kernel_rfl) (RT.u8 Try.underlying5)) rfl (by kernel_rfl) (RF.cons 1 (RT.slice 1 8 Try.underlying43 (by kernel_rfl) (by kernel_rfl) (RT.int .i64 Try.underlying3)) rfl (by kernel_rfl) (RF.nil rfl)))))))) h
  obtain ⟨a1, c1, vs, rfl, e1, h⟩ := Opens.cons (RT.int .i64 Try.underlying3) h
  obtain rfl := Opens.nil h
  obtain ⟨la, lc, rfl, hl⟩ := opsAt_of e0
  obtain ⟨rfl, hw⟩ := e1
  exact blockPlays_tri a0 la lc hl a1 (wf_i64 hw)
set_option maxRecDepth 100000 in
theorem blockPlays_lifted (os : Os) (started : os.Started) (H : Type) (enc : TypeId × Value → H) :
    ReturnsInHanded {} Try.checked os 6 .any (Rows.blockPlaysSpec.pre6 enc Try.prog Try.f6 Rows.blockPlaysRow.domain false) (Rows.blockPlaysSpec.post enc Try.prog Try.f6 false true false false) :=
  lift (tb := 4) started law_own law_laidOut (by kernel_rfl) Try.func6
    (ChangeSpec.witness6 (enc := enc) (C := Try.checked) false ⟨#[], #[.slice none 0 0, .int .i64 0], []⟩ 8 (by kernel_rfl) (by kernel_rfl) (by kernel_rfl) (by kernel_rfl))
    rfl rfl Try.underlying4 (by kernel_rfl) (fun ds h => by
      match ds, h with
      | [d1, d2], _ => rfl) blockPlays_opened
theorem blockPlays_over : Rows.blockPlaysRow.holds Try.pinned (OpenSpec.ofChange Rows.blockPlaysSpec) :=
  OpenClaim.holds_of_wide 6 Try.f6 rfl rfl rfl rfl rfl rfl rfl ⟨rfl, rfl, rfl, rfl, rfl⟩ rfl rfl rfl rfl rfl (by kernel_rfl) Try.func6 (by kernel_rfl)
    (of_decide_eq_true (by kernel_rfl)) (by unfold Func.isWrapper; first | (rw [if_pos (by decide +kernel)]; kernel_rfl) | (rw [if_neg (by decide +kernel)]; exact ⟨rfl, rfl⟩))
    (fun os started H enc _ => blockPlays_lifted os started H enc)
theorem blockPlays_proved : Rows.BlockPlaysSaid := blockPlays_over
#print axioms blockPlays_proved
end Go.Proofs.Ytgcfonjiingpnaa
