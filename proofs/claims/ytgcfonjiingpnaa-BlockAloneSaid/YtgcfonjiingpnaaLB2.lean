/- BlockAlone: blocks side by side have nothing in common. -/
import Derived.Test.YtgcfonjiingpnaaLB
namespace Go.Proofs.Ytgcfonjiingpnaa
set_option linter.unusedVariables false
set_option linter.unusedSimpArgs false
set_option linter.unusedSectionVars false
set_option linter.unnecessarySimpa false
open Go Go.Proofs
set_option maxRecDepth 20000
set_option maxHeartbeats 4000000
attribute [local irreducible] SG WC WO W1 WD WK PS Rd Tri Exit.then Exit.inBlock bodyPost calmQ Mid sadd
variable {W : World} {n : Nat} {F : Fr} {L : List HP} {G : Act → World → Prop}
theorem blockAlone_tri (a b c : List UInt8) (aa ba ca : Option Addr) (ac bc cc : Nat) (hA : RdO W aa (a.map bv)) (hB : RdO W ba (b.map bv)) (hC : RdO W ca (c.map bv)) (ha : a.length ≤ 9223372036854775807) (hb : b.length ≤ 9223372036854775807) (hc : c.length ≤ 9223372036854775807)
    (hac : a.length ≤ ac) (hbc : b.length ≤ bc) (hcc : c.length ≤ cc) :
    Tri Try.prog W 3 [.slice aa a.length ac, .slice ba b.length bc, .slice ca c.length cc] [old W] (X := Unit) (fun _ => .bool true) (fun _ => True) (fun _ => [old W]) := by
  refine tri_enter3 Try.func3 rfl Try.ntmps3 rfl ?_
  repeat' (first | refine sg_wo ?_ | refine sg_ps (ps_assign rfl) rfl ?_ | refine sg_seq ?_ | refine sg_region ?_ | refine sg_nil ?_ | refine sg_then ?_)
  refine sg_call (awake_tri _) rfl rfl (fun _ _ => ?_)
  by_cases hl : ¬ (a.length ≤ 600 ∧ b.length ≤ 600 ∧ c.length ≤ 600)
  · skip
    repeat' (first | refine sg_wo ?_ | refine sg_ps (ps_move rfl) rfl ?_ | refine sg_ps (ps_assign rfl) rfl ?_ | refine sg_seq ?_ | refine sg_region ?_ | refine sg_nil ?_ | refine sg_then ?_ | refine sg_ps (ps_bin rfl rfl inferInstance) rfl ?_ | refine sg_ps (ps_not rfl) rfl ?_ | refine sg_cond_t rfl ?_ | refine sg_cond_f rfl ?_ | refine sg_guard_yes rfl rfl ?_ | refine sg_guard_nt rfl rfl rfl ?_ | refine sg_ps (ps_pick_t rfl rfl) rfl ?_ | refine sg_ps (ps_pick_f rfl rfl) rfl ?_ | refine sg_ps (ps_len rfl) rfl ?_ | refine sg_skip ?_ | refine sg_ret ?_ | refine ex_then_ret ?_ | (refine sg_guard_dec rfl rfl (fun hg => ?_) (fun hg => ?_) <;> first | (exfalso; omega) | (exact absurd rfl hg) | skip) | (refine sg_cond_dec rfl (fun hg => ?_) (fun hg => ?_) <;> first | (exfalso; omega) | (exact absurd rfl hg) | skip))
    all_goals exact ex_ret1 rfl rfl () rfl trivial (fun w hO => hO)
  obtain ⟨la, lb, lc⟩ := Decidable.of_not_not hl
  have rA : ∀ T d, Rd W [DiskRep d T, old W] aa (a.map bv) := fun T d => hA.rd 1 rfl
  have ra : Rd W [old W] aa (a.map bv) := hA.rd 0 rfl
  have rb : Rd W [old W] ba (b.map bv) := hB.rd 0 rfl
  have rc : Rd W [old W] ca (c.map bv) := hC.rd 0 rfl
  have na := cnt_spec (k := a.length) (by omega)
  have nb := cnt_spec (k := b.length) (by omega)
  have nc := cnt_spec (k := c.length) (by omega)
  repeat' (first | refine sg_wo ?_ | refine sg_ps (ps_move rfl) rfl ?_ | refine sg_seq ?_ | refine sg_region ?_ | refine sg_nil ?_ | refine sg_then ?_ | refine sg_ps (ps_bin rfl rfl inferInstance) rfl ?_ | refine sg_ps (ps_not rfl) rfl ?_ | refine sg_cond_f rfl ?_ | refine sg_guard_yes rfl rfl ?_ | refine sg_ps (ps_pick_f rfl rfl) rfl ?_ | refine sg_ps (ps_len rfl) rfl ?_ | refine sg_skip ?_ | (refine sg_guard_dec rfl rfl (fun hg => ?_) (fun hg => ?_) <;> first | (exfalso; omega) | (exact absurd rfl hg) | skip) | (refine sg_cond_dec rfl (fun hg => ?_) (fun hg => ?_) <;> first | (exfalso; omega) | (exact absurd rfl hg) | skip))
  refine sg_call (new_tri 64 _ (by omega) (by omega)) rfl rfl (fun d _ => ?_)
  repeat' (first | refine sg_wo ?_ | refine sg_ps (ps_move rfl) rfl ?_ | refine sg_ps (ps_assign rfl) rfl ?_ | refine sg_seq ?_ | refine sg_region ?_ | refine sg_nil ?_ | refine sg_then ?_ | refine sg_ps (ps_len rfl) rfl ?_ | refine sg_ps (ps_extract rfl rfl) rfl ?_)
  refine sg_call (count_tri a.length ha _) rfl rfl (fun _ _ => ?_)
  repeat' (first | refine sg_wo ?_ | refine sg_ps (ps_move rfl) rfl ?_ | refine sg_ps (ps_assign rfl) rfl ?_ | refine sg_seq ?_ | refine sg_region ?_ | refine sg_nil ?_ | refine sg_then ?_ | refine sg_ps (ps_len rfl) rfl ?_)
  refine sg_call (count_tri b.length hb _) rfl rfl (fun _ _ => ?_)
  repeat' (first | refine sg_wo ?_ | refine sg_ps (ps_move rfl) rfl ?_ | refine sg_ps (ps_assign rfl) rfl ?_ | refine sg_seq ?_ | refine sg_region ?_ | refine sg_nil ?_ | refine sg_then ?_)
  have f0 := Fine.new 64
  obtain ⟨w1, W1', f1⟩ := f0.put (st := 0) (id := 1) (data := a) (by omega) (by decide) (by omega)
  refine sg_call (bwrite_tri d (DS.new 64) ((0 : Nat) : Int) 1 a aa ac [old W] (by decide) (by have := f0.len; omega) hac ha ra (by have := f0.writes; omega) (by have := f0.wait; omega)) rfl rfl (fun _ _ => ?_)
  rw [w1]
  have a1 := W1'.has
  generalize (bwrite (DS.new 64) ((0 : Nat) : Int) 1 a).2 = T1 at *
  repeat' (first | refine sg_wo ?_ | refine sg_ps (ps_move rfl) rfl ?_ | refine sg_ps (ps_bin rfl rfl inferInstance) rfl ?_ | refine sg_guard_yes rfl rfl ?_)
  obtain ⟨w2, W2', f2⟩ := f1.put (st := cnt a.length) (id := 2) (data := b) (by omega) (by decide) (by omega)
  refine sg_call (bwrite_tri d T1 ((cnt a.length : Nat) : Int) 2 b ba bc [old W] (by omega) (by have := f1.len; omega) hbc hb rb (by have := f1.writes; omega) (by have := f1.wait; omega)) rfl rfl (fun _ _ => ?_)
  rw [w2]
  have a2 := W2'.keep a1 (by omega)
  generalize (bwrite T1 ((cnt a.length : Nat) : Int) 2 b).2 = T2 at *
  repeat' (first | refine sg_wo ?_ | refine sg_ps (ps_move rfl) rfl ?_ | refine sg_ps (ps_add64 rfl rfl (by omega)) rfl ?_ | refine sg_ps (ps_bin rfl rfl inferInstance) rfl ?_ | refine sg_guard_yes rfl rfl ?_ | refine sg_ps (ps_pick_f rfl rfl) rfl ?_)
  rw [show ((cnt a.length : Nat) : Int) + ((cnt b.length : Nat) : Int) = ((cnt a.length + cnt b.length : Nat) : Int) by omega]
  obtain ⟨w3, W3', f3⟩ := f2.put (st := cnt a.length + cnt b.length) (id := 3) (data := a) (by omega) (by decide) (by omega)
  refine sg_call (bwrite_tri d T2 ((cnt a.length + cnt b.length : Nat) : Int) 3 a aa ac [old W] (by omega) (by have := f2.len; omega) hac ha ra (by have := f2.writes; omega) (by have := f2.wait; omega)) rfl rfl (fun _ _ => ?_)
  rw [w3]
  have a3 := W3'.keep a2 (by omega)
  have b3 := W3'.has
  generalize (bwrite T2 ((cnt a.length + cnt b.length : Nat) : Int) 3 a).2 = T3 at *
  repeat' (first | refine sg_wo ?_ | refine sg_ps (ps_move rfl) rfl ?_ | refine sg_seq ?_ | refine sg_region ?_ | refine sg_nil ?_ | refine sg_then ?_ | refine sg_ps (ps_bin rfl rfl inferInstance) rfl ?_ | refine sg_cond_f rfl ?_ | refine sg_guard_yes rfl rfl ?_ | refine sg_ps (ps_pick_f rfl rfl) rfl ?_ | refine sg_ps (ps_len rfl) rfl ?_ | refine sg_skip ?_)
  refine sg_call (count_tri c.length hc _) rfl rfl (fun _ _ => ?_)
  repeat' (first | refine sg_wo ?_ | refine sg_ps (ps_assign rfl) rfl ?_ | refine sg_nil ?_ | refine sg_then ?_)
  refine sg_seq_mid (γ := DS) (fun T => T.seen.length = 64 ∧ bread T ((0 : Nat) : Int) 1 = (a, 0) ∧ bread T ((cnt a.length + cnt b.length : Nat) : Int) 3 = (a, 0) ∧ (cnt c.length ≤ cnt b.length → bread T ((cnt a.length : Nat) : Int) 4 = (c, 0) ∧ bread T ((cnt a.length : Nat) : Int) 2 = ([], 2)))
    (fun _ => [(0, .slice aa a.length ac), (2, .slice ca c.length cc), (7, dp d), (9, i64 (cnt a.length)), (10, i64 (cnt b.length)), (11, i64 (cnt c.length))]) (fun T => [DiskRep d T, old W]) ?_ ?_
  · skip
    repeat' (first | refine sg_wo ?_ | refine sg_ps (ps_move rfl) rfl ?_ | refine sg_seq ?_ | refine sg_region ?_ | refine sg_nil ?_ | refine sg_then ?_ | refine sg_ps (ps_bin rfl rfl inferInstance) rfl ?_ | refine sg_cond_f rfl ?_ | refine sg_guard_yes rfl rfl ?_ | refine sg_guard_nf rfl rfl rfl ?_ | refine sg_ps (ps_pick_f rfl rfl) rfl ?_ | refine sg_skip ?_ | (refine sg_guard_dec rfl rfl (fun hg => ?_) (fun hg => ?_) <;> first | (exfalso; omega) | (exact absurd rfl hg) | skip))
    · obtain ⟨w4, W4', f4⟩ := f3.put (st := cnt a.length) (id := 4) (data := c) (by omega) (by decide) (by omega)
      refine sg_call (bwrite_tri d T3 ((cnt a.length : Nat) : Int) 4 c ca cc [old W] (by omega) (by have := f3.len; omega) hcc hc rc (by have := f3.writes; omega) (by have := f3.wait; omega)) rfl rfl (fun _ _ => ?_)
      rw [w4]
      have a4 := W4'.keep a3 (by omega)
      have b4 := W4'.keep b3 (by omega)
      have c4 := W4'.has
      generalize (bwrite T3 ((cnt a.length : Nat) : Int) 4 c).2 = T4 at *
      repeat' (first | refine sg_wo ?_ | refine sg_nil ?_ | refine sg_then ?_ | refine sg_ps (ps_bin rfl rfl inferInstance) rfl ?_ | refine sg_cond_f rfl ?_ | refine sg_guard_yes rfl rfl ?_ | refine sg_ps (ps_pick_t rfl rfl) rfl ?_ | refine sg_skip ?_)
      exact ex_mid T4 ⟨f4.len, a4.read (by omega) (by decide) (by decide), b4.read (by omega) (by decide) (by decide), fun _ => ⟨c4.read (by omega) (by decide) (by decide), c4.other (by omega) (by decide) (by decide) (by decide)⟩⟩
        (.cons rfl (.cons rfl (.cons rfl (.cons rfl (.cons rfl (.cons rfl .nil)))))) (fun w hO => hO)
    · exact ex_mid T3 ⟨f3.len, a3.read (by omega) (by decide) (by decide), b3.read (by omega) (by decide) (by decide), fun h => by omega⟩
        (.cons rfl (.cons rfl (.cons rfl (.cons rfl (.cons rfl (.cons rfl .nil)))))) (fun w hO => hO)
  · rintro T ⟨hT, q1, q2, q3⟩
    repeat' (first | refine sg_wo ?_ | refine sg_ps (ps_move rfl) rfl ?_ | refine sg_seq ?_ | refine sg_region ?_)
    refine sg_call (bread_tri d T ((0 : Nat) : Int) 1 _ (by decide) (by omega)) rfl rfl (fun x _ => ?_)
    rw [q1]
    repeat' (first | refine sg_wo ?_ | refine sg_ps (ps_move rfl) rfl ?_ | refine sg_ps (ps_assign rfl) rfl ?_ | refine sg_seq ?_ | refine sg_region ?_ | refine sg_nil ?_ | refine sg_then ?_ | refine sg_ps (ps_add64 rfl rfl (by omega)) rfl ?_ | refine sg_ps (ps_extract rfl rfl) rfl ?_)
    refine sg_front1 ?_
    rw [show ((cnt a.length : Nat) : Int) + ((cnt b.length : Nat) : Int) = ((cnt a.length + cnt b.length : Nat) : Int) by omega]
    refine sg_call (bread_tri d T _ 3 _ (by omega) (by omega)) rfl rfl (fun y _ => ?_)
    rw [q2]
    repeat' (first | refine sg_wo ?_ | refine sg_ps (ps_move rfl) rfl ?_ | refine sg_ps (ps_assign rfl) rfl ?_ | refine sg_seq ?_ | refine sg_region ?_ | refine sg_nil ?_ | refine sg_then ?_ | refine sg_ps (ps_extract rfl rfl) rfl ?_)
    refine sg_front1 ?_
    refine sg_call (bread_tri d T _ 4 _ (by omega) (by omega)) rfl rfl (fun z _ => ?_)
    obtain ⟨rz, hrz⟩ : ∃ r, bread T ((cnt a.length : Nat) : Int) 4 = r := ⟨_, rfl⟩
    rw [hrz]
    repeat' (first | refine sg_wo ?_ | refine sg_ps (ps_move rfl) rfl ?_ | refine sg_ps (ps_assign rfl) rfl ?_ | refine sg_seq ?_ | refine sg_region ?_ | refine sg_nil ?_ | refine sg_then ?_ | refine sg_ps (ps_extract rfl rfl) rfl ?_)
    refine sg_front1 ?_
    refine sg_call (bread_tri d T _ 2 _ (by omega) (by omega)) rfl rfl (fun v _ => ?_)
    obtain ⟨rv, hrv⟩ : ∃ r, bread T ((cnt a.length : Nat) : Int) 2 = r := ⟨_, rfl⟩
    rw [hrv]
    repeat' (first | refine sg_wo ?_ | refine sg_ps (ps_move rfl) rfl ?_ | refine sg_ps (ps_assign rfl) rfl ?_ | refine sg_seq ?_ | refine sg_region ?_ | refine sg_nil ?_ | refine sg_then ?_ | refine sg_ps (ps_bin rfl rfl inferInstance) rfl ?_ | refine sg_guard_yes rfl rfl ?_ | refine sg_ps (ps_pick_f rfl rfl) rfl ?_ | refine sg_ps (ps_extract rfl rfl) rfl ?_)
    refine sg_str_of_bytes (bs := a) rfl rfl rfl (rd_sown 4 rfl (fun _ _ h => h)) ?_
    repeat' (first | refine sg_wo ?_ | refine sg_ps (ps_move rfl) rfl ?_ | refine sg_guard_yes rfl rfl ?_)
    refine sg_str_of_bytes (bs := a) rfl rfl rfl (hA.rd 5 rfl) ?_
    repeat' (first | refine sg_wo ?_ | refine sg_ps (ps_move rfl) rfl ?_ | refine sg_ps (ps_bin rfl rfl inferInstance) rfl ?_ | refine sg_guard_yes rfl rfl ?_ | refine sg_ps (ps_pick_f rfl rfl) rfl ?_ | (refine sg_guard_ndec rfl rfl (fun hg => ?_) (fun hg => ?_) <;> first | (exfalso; omega) | (exact absurd rfl hg) | skip))
    refine sg_str_of_bytes (bs := a) rfl rfl rfl (rd_sown 3 rfl (fun _ _ h => h)) ?_
    by_cases hz : cnt c.length ≤ cnt b.length
    · obtain ⟨p1, p2⟩ := q3 hz
      rw [hrz] at p1
      rw [hrv] at p2
      rw [p1, p2]
      repeat' (first | refine sg_wo ?_ | refine sg_ps (ps_move rfl) rfl ?_ | refine sg_guard_yes rfl rfl ?_)
      refine sg_str_of_bytes (bs := a) rfl rfl rfl (hA.rd 5 rfl) ?_
      repeat' (first | refine sg_wo ?_ | refine sg_ps (ps_move rfl) rfl ?_ | refine sg_seq ?_ | refine sg_region ?_ | refine sg_nil ?_ | refine sg_then ?_ | refine sg_ps (ps_bin rfl rfl inferInstance) rfl ?_ | refine sg_guard_yes rfl rfl ?_ | refine sg_ps (ps_pick_f rfl rfl) rfl ?_ | refine sg_skip ?_ | (refine sg_guard_dec rfl rfl (fun hg => ?_) (fun hg => ?_) <;> first | (exfalso; omega) | (exact absurd rfl hg) | skip) | (refine sg_cond_ndec rfl (fun hg => ?_) (fun hg => ?_) <;> first | (exfalso; omega) | (exact absurd rfl hg) | skip))
      refine sg_str_of_bytes (bs := c) rfl rfl rfl (rd_sown 2 rfl (fun _ _ h => h)) ?_
      repeat' (first | refine sg_wo ?_ | refine sg_ps (ps_move rfl) rfl ?_ | refine sg_guard_yes rfl rfl ?_)
      refine sg_str_of_bytes (bs := c) rfl rfl rfl (hC.rd 5 rfl) ?_
      repeat' (first | refine sg_wo ?_ | refine sg_ps (ps_move rfl) rfl ?_ | refine sg_ps (ps_assign rfl) rfl ?_ | refine sg_nil ?_ | refine sg_then ?_ | refine sg_ps (ps_bin rfl rfl inferInstance) rfl ?_ | refine sg_guard_yes rfl rfl ?_ | refine sg_ps (ps_pick_t rfl rfl) rfl ?_ | refine sg_ps (ps_pick_f rfl rfl) rfl ?_ | refine sg_ret ?_ | (refine sg_guard_dec rfl rfl (fun hg => ?_) (fun hg => ?_) <;> first | (exfalso; omega) | (exact absurd rfl hg) | skip))
      exact ex_ret1 rfl rfl () rfl trivial (fun w hO => hO.tail.tail.tail.tail.tail)
    · skip
      repeat' (first | refine sg_wo ?_ | refine sg_ps (ps_move rfl) rfl ?_ | refine sg_guard_yes rfl rfl ?_)
      refine sg_str_of_bytes (bs := a) rfl rfl rfl (hA.rd 5 rfl) ?_
      repeat' (first | refine sg_wo ?_ | refine sg_ps (ps_move rfl) rfl ?_ | refine sg_ps (ps_assign rfl) rfl ?_ | refine sg_seq ?_ | refine sg_region ?_ | refine sg_nil ?_ | refine sg_then ?_ | refine sg_ps (ps_bin rfl rfl inferInstance) rfl ?_ | refine sg_guard_yes rfl rfl ?_ | refine sg_guard_nt rfl rfl rfl ?_ | refine sg_guard_nu rfl rfl rfl ?_ | refine sg_ps (ps_pick_t rfl rfl) rfl ?_ | refine sg_ps (ps_pick_f rfl rfl) rfl ?_ | refine sg_skip ?_ | refine sg_ret ?_ | (refine sg_guard_dec rfl rfl (fun hg => ?_) (fun hg => ?_) <;> first | (exfalso; omega) | (exact absurd rfl hg) | skip) | (refine sg_cond_ndec rfl (fun hg => ?_) (fun hg => ?_) <;> first | (exfalso; omega) | (exact absurd rfl hg) | skip))
      exact ex_ret1 rfl rfl () rfl trivial (fun w hO => hO.tail.tail.tail.tail.tail)
theorem blockAlone_opened (W : World) (vs : List Value) (h : Opens Try.prog W Try.f3.params.toList vs) :
    Tri Try.prog W 3 vs [old W] (X := Unit) (fun _ => .bool true) (fun _ => True) (fun _ => [old W]) := by
  obtain ⟨a0, c0, vs, rfl, e0, h⟩ := Opens.cons (RT.slice 1 1 Try.underlying22 (by kernel_rfl) (by kernel_rfl) (RT.u8 Try.underlying5)) h
  obtain ⟨a1, c1, vs, rfl, e1, h⟩ := Opens.cons (RT.slice 1 1 Try.underlying22 (by kernel_rfl) (by kernel_rfl) (RT.u8 Try.underlying5)) h
  obtain ⟨a2, c2, vs, rfl, e2, h⟩ := Opens.cons (RT.slice 1 1 Try.underlying22 (by kernel_rfl) (by kernel_rfl) (RT.u8 Try.underlying5)) h
  obtain rfl := Opens.nil h
  obtain ⟨ad0, cap0, rfl, l0, _, h0, r0⟩ := SliceE.one bv (fun x vs h => h) e0
  obtain ⟨ad1, cap1, rfl, l1, _, h1, r1⟩ := SliceE.one bv (fun x vs h => h) e1
  obtain ⟨ad2, cap2, rfl, l2, _, h2, r2⟩ := SliceE.one bv (fun x vs h => h) e2
  exact blockAlone_tri a0 a1 a2 ad0 ad1 ad2 cap0 cap1 cap2 r0 r1 r2 (by omega) (by omega) (by omega) l0 l1 l2
set_option maxRecDepth 100000 in
theorem blockAlone_lifted (os : Os) (started : os.Started) (H : Type) (enc : TypeId × Value → H) :
    ReturnsInHanded {} Try.checked os 3 .any (Rows.blockAloneSpec.pre6 enc Try.prog Try.f3 Rows.blockAloneRow.domain false) (Rows.blockAloneSpec.post enc Try.prog Try.f3 false true false false) :=
  lift (tb := 4) started law_own law_laidOut (by kernel_rfl) Try.func3
    (ChangeSpec.witness6 (enc := enc) (C := Try.checked) false ⟨#[], #[.slice none 0 0, .slice none 0 0, .slice none 0 0], []⟩ 8 (by kernel_rfl) (by kernel_rfl) (by kernel_rfl) (by kernel_rfl))
    rfl rfl Try.underlying4 (by kernel_rfl) (fun ds h => by
      match ds, h with
      | [d1, d2, d3], _ => rfl) blockAlone_opened
theorem blockAlone_over : Rows.blockAloneRow.holds Try.pinned (OpenSpec.ofChange Rows.blockAloneSpec) :=
  OpenClaim.holds_of_wide 3 Try.f3 rfl rfl rfl rfl rfl rfl rfl ⟨rfl, rfl, rfl, rfl, rfl⟩ rfl rfl rfl rfl rfl (by kernel_rfl) Try.func3 (by kernel_rfl)
    (of_decide_eq_true (by kernel_rfl)) (by unfold Func.isWrapper; first | (rw [if_pos (by decide +kernel)]; kernel_rfl) | (rw [if_neg (by decide +kernel)]; exact ⟨rfl, rfl⟩))
    (fun os started H enc _ => blockAlone_lifted os started H enc)
theorem blockAlone_proved : Rows.BlockAloneSaid := blockAlone_over
#print axioms blockAlone_proved
end Go.Proofs.Ytgcfonjiingpnaa
