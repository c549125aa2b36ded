/- BlockTorn: of a block over synced sectors one lost sector is enough. -/
import Derived.Test.YtgcfonjiingpnaaLBT
import Derived.Test.YtgcfonjiingpnaaRWB
namespace Go.Proofs.Ytgcfonjiingpnaa
set_option linter.unusedVariables false
set_option linter.unusedSimpArgs false
set_option linter.unusedSectionVars false
set_option linter.unnecessarySimpa false
open Go Go.Proofs
set_option maxRecDepth 20000
set_option maxHeartbeats 4000000
attribute [local irreducible] SG WC WO W1 WD WK PS Rd Tri Exit.then Exit.inBlock bodyPost calmQ Mid sadd
variable {W : World} {n : Nat} {F : Fr} {L : List HP} {G : Act → World → Prop}
theorem keep_in {keep : List Int} {i : Nat} (h : i < keep.length) : keepOf keep i = !decide (keep[i].tmod 2 = 0) := by
  unfold keepOf; rw [List.getElem?_eq_getElem h]; rw [Bool.eq_iff_iff]; simp
theorem keep_out {keep : List Int} {i : Nat} (h : ¬ i < keep.length) : keepOf keep i = false := by
  unfold keepOf; rw [List.getElem?_eq_none (by omega)]
def allK (keep : List Int) (i : Nat) : Bool := decide (∀ j, j < i → keepOf keep j = true)
def noneK (keep : List Int) (i : Nat) : Bool := decide (∀ j, j < i → keepOf keep j = false)
theorem allK_succ (keep : List Int) (i : Nat) : allK keep (i + 1) = (allK keep i && keepOf keep i) := by
  unfold allK
  rw [Bool.eq_iff_iff]
  simp only [Bool.and_eq_true, decide_eq_true_eq]
  constructor
  · exact fun h => ⟨fun j hj => h j (by omega), h i (by omega)⟩
  · rintro ⟨h1, h2⟩ j hj
    by_cases e : j = i
    · subst e; exact h2
    · exact h1 j (by omega)
theorem noneK_succ (keep : List Int) (i : Nat) : noneK keep (i + 1) = (noneK keep i && !keepOf keep i) := by
  unfold noneK
  rw [Bool.eq_iff_iff]
  simp only [Bool.and_eq_true, decide_eq_true_eq, Bool.not_eq_true']
  constructor
  · exact fun h => ⟨fun j hj => h j (by omega), h i (by omega)⟩
  · rintro ⟨h1, h2⟩ j hj
    by_cases e : j = i
    · subst e; exact h2
    · exact h1 j (by omega)
theorem allK_t {keep : List Int} {k : Nat} (h : ∀ j, j < k → keepOf keep j = true) : allK keep k = true := decide_eq_true h
theorem allK_f {keep : List Int} {k : Nat} (h : ¬ ∀ j, j < k → keepOf keep j = true) : allK keep k = false := decide_eq_false h
theorem noneK_t {keep : List Int} {k : Nat} (h : ∀ j, j < k → keepOf keep j = false) : noneK keep k = true := decide_eq_true h
theorem noneK_f {keep : List Int} {k : Nat} (h : ¬ ∀ j, j < k → keepOf keep j = false) : noneK keep k = false := decide_eq_false h
theorem noneK_end {keep : List Int} {i k : Nat} (hi : i ≤ k) (h : ¬ (i < k ∧ i < keep.length)) : noneK keep i = noneK keep k := by
  unfold noneK
  refine decide_eq_decide.2 ⟨fun h j hj => ?_, fun h j hj => h j (by omega)⟩
  by_cases hji : j < i
  · exact h j hji
  · exact keep_out (by omega)
attribute [local irreducible] allK noneK
theorem allK_zero (keep : List Int) : allK keep 0 = true := allK_t (fun j hj => absurd hj (by omega))
theorem noneK_zero (keep : List Int) : noneK keep 0 = true := noneK_t (fun j hj => absurd hj (by omega))
theorem blockTorn_tri (od da : List UInt8) (id : Nat) (keep : List Int) (oa aa ka : Option Addr) (oc ac kc : Nat) (hA : RdO W oa (od.map bv)) (hB : RdO W aa (da.map bv)) (hK : RdO W ka (keep.map (Value.int .i64))) (ho : od.length ≤ 9223372036854775807) (hd : da.length ≤ 9223372036854775807) (hk : keep.length ≤ 17592186044416)
    (hoc : od.length ≤ oc) (hac : da.length ≤ ac) (hid : id < 18446744073709551616) :
    Tri Try.prog W 7 [.slice oa od.length oc, .slice aa da.length ac, .int .u64 (id : Int), .slice ka keep.length kc] [old W] (X := Unit) (fun _ => .bool true) (fun _ => True) (fun _ => [old W]) := by
  refine tri_enter (n := _) (F := [(0, .slice oa od.length oc), (1, .slice aa da.length ac), (2, .int .u64 (id : Int)), (3, .slice ka keep.length kc)]) Try.func7 rfl Try.ntmps7 rfl (fun i u hi => by simp only [look] at hi; (repeat' split at hi) <;> simp_all [Nat.beq_eq]) ?_
  repeat' (first | refine sg_wo ?_ | refine sg_ps (ps_assign rfl) rfl ?_ | refine sg_seq ?_ | refine sg_region ?_ | refine sg_nil ?_ | refine sg_then ?_)
  refine sg_call (awake_tri _) rfl rfl (fun _ _ => ?_)
  by_cases hl : ¬ (od.length ≤ 1000 ∧ da.length ≤ 1000 ∧ 2 ≤ id)
  · skip
    repeat' (first | refine sg_wo ?_ | refine sg_ps (ps_move rfl) rfl ?_ | refine sg_ps (ps_assign rfl) rfl ?_ | refine sg_seq ?_ | refine sg_region ?_ | refine sg_nil ?_ | refine sg_then ?_ | refine sg_ps (ps_bin rfl rfl inferInstance) rfl ?_ | refine sg_ps (ps_not rfl) rfl ?_ | refine sg_cond_t rfl ?_ | refine sg_cond_f rfl ?_ | refine sg_guard_yes rfl rfl ?_ | refine sg_guard_nt rfl rfl rfl ?_ | refine sg_ps (ps_pick_t rfl rfl) rfl ?_ | refine sg_ps (ps_pick_f rfl rfl) rfl ?_ | refine sg_ps (ps_len rfl) rfl ?_ | refine sg_skip ?_ | refine sg_ret ?_ | refine ex_then_ret ?_ | (refine sg_guard_dec rfl rfl (fun hg => ?_) (fun hg => ?_) <;> first | (exfalso; omega) | (exact absurd rfl hg) | skip) | (refine sg_cond_dec rfl (fun hg => ?_) (fun hg => ?_) <;> first | (exfalso; omega) | (exact absurd rfl hg) | skip))
    all_goals exact ex_ret1 rfl rfl () rfl trivial (fun w hO => hO)
  obtain ⟨la, lb, lc⟩ := Decidable.of_not_not hl
  have ra : Rd W [old W] oa (od.map bv) := hA.rd 0 rfl
  have rb : Rd W [old W] aa (da.map bv) := hB.rd 0 rfl
  have na := cnt_spec (k := od.length) (by omega)
  have nb := cnt_spec (k := da.length) (by omega)
  repeat' (first | refine sg_wo ?_ | refine sg_ps (ps_move rfl) rfl ?_ | refine sg_seq ?_ | refine sg_region ?_ | refine sg_nil ?_ | refine sg_then ?_ | refine sg_ps (ps_bin rfl rfl inferInstance) rfl ?_ | refine sg_ps (ps_not rfl) rfl ?_ | refine sg_cond_f rfl ?_ | refine sg_guard_yes rfl rfl ?_ | refine sg_ps (ps_pick_f rfl rfl) rfl ?_ | refine sg_ps (ps_len rfl) rfl ?_ | refine sg_skip ?_ | (refine sg_guard_dec rfl rfl (fun hg => ?_) (fun hg => ?_) <;> first | (exfalso; omega) | (exact absurd rfl hg) | skip) | (refine sg_cond_dec rfl (fun hg => ?_) (fun hg => ?_) <;> first | (exfalso; omega) | (exact absurd rfl hg) | skip))
  refine sg_call (new_tri 64 _ (by omega) (by omega)) rfl rfl (fun d _ => ?_)
  repeat' (first | refine sg_wo ?_ | refine sg_ps (ps_move rfl) rfl ?_ | refine sg_ps (ps_assign rfl) rfl ?_ | refine sg_seq ?_ | refine sg_region ?_ | refine sg_nil ?_ | refine sg_then ?_ | refine sg_ps (ps_extract rfl rfl) rfl ?_)
  have f0 := Fine.new 64
  obtain ⟨w1, W1', f1⟩ := f0.put (st := 4) (id := 1) (data := od) (by omega) (by decide) (by omega)
  refine sg_call (bwrite_tri d (DS.new 64) ((4 : Nat) : Int) 1 od oa oc [old W] (by decide) (by have := f0.len; omega) hoc ho ra (by have := f0.writes; omega) (by have := f0.wait; omega)) rfl rfl (fun _ _ => ?_)
  rw [w1]
  generalize (bwrite (DS.new 64) ((4 : Nat) : Int) 1 od).2 = T1 at *
  repeat' (first | refine sg_wo ?_ | refine sg_ps (ps_move rfl) rfl ?_ | refine sg_ps (ps_assign rfl) rfl ?_ | refine sg_seq ?_ | refine sg_region ?_ | refine sg_nil ?_ | refine sg_then ?_)
  have hsy : T1.sync = (0, { T1 with wait := [], syncs := T1.syncs + 1 }) := by unfold DS.sync; rw [f1.down]; rfl
  have hsc : T1.syncs = 0 := by rw [W1'.syncs]; rfl
  refine sg_call (sync_tri d T1 _ (by omega)) rfl rfl (fun _ _ => ?_)
  rw [hsy]
  have f2 : Fine { T1 with wait := [], syncs := T1.syncs + 1 } 64 (0 + cnt od.length) := ⟨f1.fuse, f1.down, f1.len, f1.writes, Nat.zero_le _⟩
  have hS : ({ T1 with wait := [], syncs := T1.syncs + 1 } : DS).seen = T1.seen := rfl
  have hw : ({ T1 with wait := [], syncs := T1.syncs + 1 } : DS).wait = [] := rfl
  generalize ({ T1 with wait := [], syncs := T1.syncs + 1 } : DS) = T2 at *
  repeat' (first | refine sg_wo ?_ | refine sg_ps (ps_move rfl) rfl ?_ | refine sg_ps (ps_assign rfl) rfl ?_ | refine sg_seq ?_ | refine sg_region ?_ | refine sg_nil ?_ | refine sg_then ?_)
  obtain ⟨w3, W3', f3⟩ := f2.put (st := 4) (id := id) (data := da) (by omega) (by omega) (by omega)
  refine sg_call (bwrite_tri d T2 ((4 : Nat) : Int) id da aa ac [old W] (by decide) (by have := f2.len; omega) hac hd rb (by have := f2.writes; omega) (by have := f2.wait; omega)) rfl rfl (fun _ _ => ?_)
  rw [w3]
  generalize (bwrite T2 ((4 : Nat) : Int) id da).2 = T3 at *
  have hall := torn_all (keep := keep) la lb lc hid W1' hS hw W3'
  have hcl : (T3.crash keep).seen.length = 64 := by simp only [DS.crash, fore_length, back_length]; exact f3.len
  have hwl := f3.wait
  repeat' (first | refine sg_wo ?_ | refine sg_ps (ps_move rfl) rfl ?_ | refine sg_ps (ps_assign rfl) rfl ?_ | refine sg_seq ?_ | refine sg_region ?_ | refine sg_nil ?_ | refine sg_then ?_ | refine sg_ps (ps_bin rfl rfl inferInstance) rfl ?_ | refine sg_cond_f rfl ?_ | refine sg_guard_yes rfl rfl ?_ | refine sg_ps (ps_pick_f rfl rfl) rfl ?_ | refine sg_ps (ps_len rfl) rfl ?_ | refine sg_skip ?_)
  refine sg_call (count_tri da.length hd _) rfl rfl (fun _ _ => ?_)
  generalize cnt da.length = k at *
  repeat' (first | refine sg_wo ?_ | refine sg_ps (ps_assign rfl) rfl ?_ | refine sg_nil ?_ | refine sg_then ?_)
  refine sg_seq ?_
  repeat' (first | refine sg_wo ?_ | refine sg_ps (ps_assign rfl) rfl ?_ | refine sg_region ?_ | refine sg_nil ?_ | refine sg_then ?_)
  refine sg_seq_mid (γ := Unit) (fun _ => True) (fun _ => [(0, .slice oa od.length oc), (1, .slice aa da.length ac), (2, .int .u64 (id : Int)), (3, .slice ka keep.length kc), (9, dp d), (14, i64 k), (15, .bool (allK keep k))]) (fun _ => [DiskRep d T3, old W]) ?_ ?_
  · skip
    repeat' (first | refine sg_wo ?_ | refine sg_ps (ps_assign rfl) rfl ?_ | refine sg_seq ?_ | refine sg_region ?_ | refine sg_nil ?_ | refine sg_then ?_ | refine sg_block ?_)
    refine sg_loop (γ := Nat) (fun i => i ≤ k) (fun i => [(0, .slice oa od.length oc), (1, .slice aa da.length ac), (2, .int .u64 (id : Int)), (3, .slice ka keep.length kc), (9, dp d), (14, i64 k), (15, .bool (allK keep i)), (16, i64 i)]) (fun _ => [DiskRep d T3, old W]) (fun i => k - i) 0 (Nat.zero_le _)
      (.cons rfl (.cons rfl (.cons rfl (.cons rfl (.cons rfl (.cons rfl (.cons (by rw [allK_zero]; rfl) (.cons rfl .nil)))))))) (fun w hO => hO) ?_
    intro i hi
    have hs := allK_succ keep i
    by_cases hik : i < k
    · skip
      repeat' (first | refine sg_wo ?_ | refine sg_ps (ps_move rfl) rfl ?_ | refine sg_seq ?_ | refine sg_region ?_ | refine sg_nil ?_ | refine sg_then ?_ | refine sg_ps (ps_bin rfl rfl inferInstance) rfl ?_ | refine sg_block ?_ | refine sg_skip ?_ | (refine sg_cond_dec rfl (fun hg => ?_) (fun hg => ?_) <;> first | (exfalso; omega) | (exact absurd rfl hg) | skip))
      refine sg_know 69 rfl (fun h0 => ?_) (fun h0 => ?_)
      · by_cases hin : i < keep.length
        · obtain ⟨kb, ko, rfl, _⟩ := hK.some (by intro e; have := congrArg List.length e; rw [List.length_map, List.length_nil] at this; omega)
          have hkr : RdO W (some ⟨kb, ko + i * 1, none⟩) [i64 keep[i]] := by
            refine rdo_one hK ?_
            rw [List.getElem?_map, List.getElem?_eq_getElem hin]; rfl
          repeat' (first | refine sg_wo ?_ | refine sg_ps (ps_move rfl) rfl ?_ | refine sg_ps (ps_bin rfl rfl inferInstance) rfl ?_ | refine sg_guard_yes rfl rfl ?_ | refine sg_ps (ps_pick_t rfl rfl) rfl ?_ | refine sg_ps (ps_len rfl) rfl ?_ | refine sg_ps (ps_indexAddr rfl rfl rfl (by omega)) rfl ?_ | (refine sg_guard_dec rfl rfl (fun hg => ?_) (fun hg => ?_) <;> first | (exfalso; omega) | (exact absurd rfl hg) | skip))
          refine sg_load_rd rfl (hkr.rd 1 rfl) rfl ?_
          repeat' (first | refine sg_wo ?_ | refine sg_ps (ps_move rfl) rfl ?_ | refine sg_ps (ps_assign rfl) rfl ?_ | refine sg_region ?_ | refine sg_nil ?_ | refine sg_then ?_ | refine sg_ps (ps_add64 rfl rfl (by omega)) rfl ?_ | refine sg_ps (ps_bin rfl rfl inferInstance) rfl ?_ | refine sg_ps (ps_rem rfl rfl (by decide)) rfl ?_ | refine sg_guard_yes rfl rfl ?_ | refine sg_ps (ps_pick_t rfl rfl) rfl ?_ | refine ex_block_normal ?_)
          rw [← keep_in hin, show keepOf keep i = allK keep (i + 1) by rw [hs, h0, Bool.true_and]]
          exact ex_mid (i + 1) ⟨by omega, by omega⟩ (.cons rfl (.cons rfl (.cons rfl (.cons rfl (.cons rfl (.cons rfl (.cons rfl (.cons rfl .nil)))))))) (fun w hO => hO)
        · have e : allK keep (i + 1) = false := by rw [hs, keep_out hin, Bool.and_false]
          repeat' (first | refine sg_wo ?_ | refine sg_ps (ps_move rfl) rfl ?_ | refine sg_ps (ps_assign rfl) rfl ?_ | refine sg_region ?_ | refine sg_nil ?_ | refine sg_then ?_ | refine sg_ps (ps_add64 rfl rfl (by omega)) rfl ?_ | refine sg_ps (ps_bin rfl rfl inferInstance) rfl ?_ | refine sg_guard_yes rfl rfl ?_ | refine sg_guard_nf rfl rfl rfl ?_ | refine sg_ps (ps_pick_t rfl rfl) rfl ?_ | refine sg_ps (ps_pick_f rfl rfl) rfl ?_ | refine sg_ps (ps_len rfl) rfl ?_ | refine ex_block_normal ?_ | (refine sg_guard_dec rfl rfl (fun hg => ?_) (fun hg => ?_) <;> first | (exfalso; omega) | (exact absurd rfl hg) | skip))
          exact ex_mid (i + 1) ⟨by omega, by omega⟩ (.cons rfl (.cons rfl (.cons rfl (.cons rfl (.cons rfl (.cons rfl (.cons (by rw [e]; rfl) (.cons rfl .nil)))))))) (fun w hO => hO)
      · have e : allK keep (i + 1) = false := by rw [hs, h0, Bool.false_and]
        repeat' (first | refine sg_wo ?_ | refine sg_ps (ps_move rfl) rfl ?_ | refine sg_ps (ps_assign rfl) rfl ?_ | refine sg_region ?_ | refine sg_nil ?_ | refine sg_then ?_ | refine sg_ps (ps_add64 rfl rfl (by omega)) rfl ?_ | refine sg_guard_nf rfl rfl rfl ?_ | refine sg_ps (ps_pick_f rfl rfl) rfl ?_ | refine ex_block_normal ?_)
        exact ex_mid (i + 1) ⟨by omega, by omega⟩ (.cons rfl (.cons rfl (.cons rfl (.cons rfl (.cons rfl (.cons rfl (.cons (by rw [e]; rfl) (.cons rfl .nil)))))))) (fun w hO => hO)
    · have e : i = k := by omega
      subst e
      repeat' (first | refine sg_wo ?_ | refine sg_ps (ps_move rfl) rfl ?_ | refine sg_seq ?_ | refine sg_region ?_ | refine sg_nil ?_ | refine sg_then ?_ | refine sg_ps (ps_bin rfl rfl inferInstance) rfl ?_ | refine sg_exit ?_ | refine ex_then_exit ?_ | refine ex_block_hit ?_ | (refine sg_cond_dec rfl (fun hg => ?_) (fun hg => ?_) <;> first | (exfalso; omega) | (exact absurd rfl hg) | skip))
      exact ex_mid () trivial (.cons rfl (.cons rfl (.cons rfl (.cons rfl (.cons rfl (.cons rfl (.cons rfl .nil))))))) (fun w hO => hO)
  · intro _ _
    skip
    skip
    refine sg_seq ?_
    repeat' (first | refine sg_wo ?_ | refine sg_ps (ps_assign rfl) rfl ?_ | refine sg_region ?_ | refine sg_nil ?_ | refine sg_then ?_)
    refine sg_seq_mid (γ := Unit) (fun _ => True) (fun _ => [(0, .slice oa od.length oc), (1, .slice aa da.length ac), (2, .int .u64 (id : Int)), (3, .slice ka keep.length kc), (9, dp d), (15, .bool (allK keep k)), (17, .bool (noneK keep k))]) (fun _ => [DiskRep d T3, old W]) ?_ ?_
    · skip
      repeat' (first | refine sg_wo ?_ | refine sg_ps (ps_assign rfl) rfl ?_ | refine sg_seq ?_ | refine sg_region ?_ | refine sg_nil ?_ | refine sg_then ?_ | refine sg_block ?_)
      refine sg_loop (γ := Nat) (fun i => i ≤ k ∧ (i ≤ keep.length ∨ i = 0)) (fun i => [(0, .slice oa od.length oc), (1, .slice aa da.length ac), (2, .int .u64 (id : Int)), (3, .slice ka keep.length kc), (9, dp d), (14, i64 k), (15, .bool (allK keep k)), (17, .bool (noneK keep i)), (18, i64 i)]) (fun _ => [DiskRep d T3, old W]) (fun i => k - i) 0 ⟨Nat.zero_le _, .inr rfl⟩
        (.cons rfl (.cons rfl (.cons rfl (.cons rfl (.cons rfl (.cons rfl (.cons rfl (.cons (by rw [noneK_zero]; rfl) (.cons rfl .nil))))))))) (fun w hO => hO) ?_
      rintro i ⟨hi, hi2⟩
      have hs := noneK_succ keep i
      by_cases hik : i < k ∧ i < keep.length
      · have hin := hik.2
        obtain ⟨kb, ko, rfl, _⟩ := hK.some (by intro e; have := congrArg List.length e; rw [List.length_map, List.length_nil] at this; omega)
        have hkr : RdO W (some ⟨kb, ko + i * 1, none⟩) [i64 keep[i]] := by
          refine rdo_one hK ?_
          rw [List.getElem?_map, List.getElem?_eq_getElem hin]; rfl
        repeat' (first | refine sg_wo ?_ | refine sg_ps (ps_move rfl) rfl ?_ | refine sg_seq ?_ | refine sg_region ?_ | refine sg_nil ?_ | refine sg_then ?_ | refine sg_ps (ps_bin rfl rfl inferInstance) rfl ?_ | refine sg_guard_yes rfl rfl ?_ | refine sg_ps (ps_pick_t rfl rfl) rfl ?_ | refine sg_ps (ps_len rfl) rfl ?_ | refine sg_block ?_ | refine sg_skip ?_ | (refine sg_guard_dec rfl rfl (fun hg => ?_) (fun hg => ?_) <;> first | (exfalso; omega) | (exact absurd rfl hg) | skip) | (refine sg_cond_dec rfl (fun hg => ?_) (fun hg => ?_) <;> first | (exfalso; omega) | (exact absurd rfl hg) | skip))
        refine sg_know 95 rfl (fun h0 => ?_) (fun h0 => ?_)
        · skip
          repeat' (first | refine sg_wo ?_ | refine sg_ps (ps_move rfl) rfl ?_ | refine sg_guard_yes rfl rfl ?_ | refine sg_ps (ps_indexAddr rfl rfl rfl (by omega)) rfl ?_)
          refine sg_load_rd rfl (hkr.rd 1 rfl) rfl ?_
          repeat' (first | refine sg_wo ?_ | refine sg_ps (ps_move rfl) rfl ?_ | refine sg_ps (ps_assign rfl) rfl ?_ | refine sg_region ?_ | refine sg_nil ?_ | refine sg_then ?_ | refine sg_ps (ps_add64 rfl rfl (by omega)) rfl ?_ | refine sg_ps (ps_bin rfl rfl inferInstance) rfl ?_ | refine sg_ps (ps_rem rfl rfl (by decide)) rfl ?_ | refine sg_guard_yes rfl rfl ?_ | refine sg_ps (ps_pick_t rfl rfl) rfl ?_ | refine ex_block_normal ?_)
          rw [show decide (keep[i].tmod 2 = 0) = noneK keep (i + 1) by rw [hs, h0, Bool.true_and, keep_in hin, Bool.not_not]]
          exact ex_mid (i + 1) ⟨by omega, by omega, by omega⟩ (.cons rfl (.cons rfl (.cons rfl (.cons rfl (.cons rfl (.cons rfl (.cons rfl (.cons rfl (.cons rfl .nil))))))))) (fun w hO => hO)
        · have e : noneK keep (i + 1) = false := by rw [hs, h0, Bool.false_and]
          repeat' (first | refine sg_wo ?_ | refine sg_ps (ps_move rfl) rfl ?_ | refine sg_ps (ps_assign rfl) rfl ?_ | refine sg_region ?_ | refine sg_nil ?_ | refine sg_then ?_ | refine sg_ps (ps_add64 rfl rfl (by omega)) rfl ?_ | refine sg_guard_nf rfl rfl rfl ?_ | refine sg_ps (ps_pick_f rfl rfl) rfl ?_ | refine ex_block_normal ?_)
          exact ex_mid (i + 1) ⟨by omega, by omega, by omega⟩ (.cons rfl (.cons rfl (.cons rfl (.cons rfl (.cons rfl (.cons rfl (.cons rfl (.cons (by rw [e]; rfl) (.cons rfl .nil))))))))) (fun w hO => hO)
      · have e : noneK keep i = noneK keep k := noneK_end hi hik
        rw [e]
        repeat' (first | refine sg_wo ?_ | refine sg_ps (ps_move rfl) rfl ?_ | refine sg_seq ?_ | refine sg_region ?_ | refine sg_nil ?_ | refine sg_then ?_ | refine sg_ps (ps_bin rfl rfl inferInstance) rfl ?_ | refine sg_cond_f rfl ?_ | refine sg_guard_yes rfl rfl ?_ | refine sg_guard_nf rfl rfl rfl ?_ | refine sg_ps (ps_pick_t rfl rfl) rfl ?_ | refine sg_ps (ps_pick_f rfl rfl) rfl ?_ | refine sg_ps (ps_len rfl) rfl ?_ | refine sg_exit ?_ | refine ex_then_exit ?_ | refine ex_block_hit ?_ | (refine sg_guard_dec rfl rfl (fun hg => ?_) (fun hg => ?_) <;> first | (exfalso; omega) | (exact absurd rfl hg) | skip) | (refine sg_cond_dec rfl (fun hg => ?_) (fun hg => ?_) <;> first | (exfalso; omega) | (exact absurd rfl hg) | skip))
        all_goals exact ex_mid () trivial (.cons rfl (.cons rfl (.cons rfl (.cons rfl (.cons rfl (.cons rfl (.cons rfl .nil))))))) (fun w hO => hO)
    · intro _ _
      repeat' (first | refine sg_wo ?_ | refine sg_ps (ps_move rfl) rfl ?_ | refine sg_seq ?_ | refine sg_region ?_)
      refine sg_buildSlice rfl (by decide) rfl rfl (fun kb => ?_)
      repeat' (first | refine sg_wo ?_ | refine sg_ps (ps_move rfl) rfl ?_)
      refine sg_own_mk (m := 0) (c := 0) (sz := 1) (xs := []) (Nat.le_refl _) (by decide) rfl rfl ?_
      refine sg_append (by_ := 8) rfl rfl rfl (news := keep.map (Value.int .i64)) (by simp) (by intro u hu; obtain ⟨x, _, rfl⟩ := List.mem_map.1 hu; rfl) (hK.rd 2 rfl) (by show 0 + keep.length ≤ 9223372036854775807; omega) (by omega) (fun a' c' => ?_)
      rw [Nat.zero_add, List.nil_append]
      refine sg_front1 ?_
      refine sg_wo (sg_call (crash_tri d T3 keep a' c' [_, old W] (rd_sown 0 rfl (fun j u hj => hj)) (by omega) (by omega)) rfl rfl (fun _ _ => ?_))
      refine sg_drop1 ?_
      generalize T3.crash keep = T at *
      repeat' (first | refine sg_wo ?_ | refine sg_ps (ps_move rfl) rfl ?_ | refine sg_seq ?_ | refine sg_region ?_ | refine sg_nil ?_ | refine sg_then ?_)
      refine sg_call (bread_tri d T ((4 : Nat) : Int) id _ (by decide) (by omega)) rfl rfl (fun x _ => ?_)
      repeat' (first | refine sg_wo ?_ | refine sg_ps (ps_move rfl) rfl ?_ | refine sg_ps (ps_assign rfl) rfl ?_ | refine sg_seq ?_ | refine sg_region ?_ | refine sg_nil ?_ | refine sg_then ?_ | refine sg_ps (ps_extract rfl rfl) rfl ?_)
      refine sg_front1 ?_
      refine sg_call (bread_tri d T ((4 : Nat) : Int) 1 _ (by decide) (by omega)) rfl rfl (fun y _ => ?_)
      by_cases hAll : ∀ j, j < k → keepOf keep j = true
      · rw [if_pos hAll] at hall
        have e : allK keep k = true := allK_t hAll
        rw [hall.1, hall.2, e]
        repeat' (first | refine sg_wo ?_ | refine sg_ps (ps_move rfl) rfl ?_ | refine sg_ps (ps_assign rfl) rfl ?_ | refine sg_seq ?_ | refine sg_region ?_ | refine sg_nil ?_ | refine sg_then ?_ | refine sg_ps (ps_bin rfl rfl inferInstance) rfl ?_ | refine sg_cond_t rfl ?_ | refine sg_guard_yes rfl rfl ?_ | refine sg_ps (ps_extract rfl rfl) rfl ?_)
        refine sg_call (rawBytes_tri da da x.1 aa x.2 ac _ (rd_sown 2 rfl (fun _ _ h => h)) (hB.rd 3 rfl)) rfl rfl (fun _ _ => ?_)
        rw [show decide (da = da) = true from decide_eq_true rfl]
        repeat' (first | refine sg_wo ?_ | refine sg_ps (ps_move rfl) rfl ?_ | refine sg_ps (ps_assign rfl) rfl ?_ | refine sg_nil ?_ | refine sg_then ?_ | refine sg_ps (ps_bin rfl rfl inferInstance) rfl ?_ | refine sg_guard_yes rfl rfl ?_ | refine sg_ps (ps_pick_t rfl rfl) rfl ?_ | refine sg_ret ?_ | refine ex_then_ret ?_)
        exact ex_ret1 rfl rfl () rfl trivial (fun w hO => hO.tail.tail.tail)
      · rw [if_neg hAll] at hall
        have e : allK keep k = false := allK_f hAll
        rw [hall.1, e]
        by_cases hNone : ∀ j, j < k → keepOf keep j = false
        · have e2 : noneK keep k = true := noneK_t hNone
          rw [hall.2 hNone, e2]
          repeat' (first | refine sg_wo ?_ | refine sg_ps (ps_move rfl) rfl ?_ | refine sg_ps (ps_assign rfl) rfl ?_ | refine sg_seq ?_ | refine sg_region ?_ | refine sg_nil ?_ | refine sg_then ?_ | refine sg_ps (ps_bin rfl rfl inferInstance) rfl ?_ | refine sg_ps (ps_not rfl) rfl ?_ | refine sg_cond_f rfl ?_ | refine sg_guard_yes rfl rfl ?_ | refine sg_ps (ps_pick_f rfl rfl) rfl ?_ | refine sg_ps (ps_len rfl) rfl ?_ | refine sg_ps (ps_extract rfl rfl) rfl ?_ | refine sg_skip ?_)
          refine sg_call (rawBytes_tri od od y.1 oa y.2 oc _ (rd_sown 0 rfl (fun _ _ h => h)) (hA.rd 3 rfl)) rfl rfl (fun _ _ => ?_)
          rw [show decide (od = od) = true from decide_eq_true rfl]
          repeat' (first | refine sg_wo ?_ | refine sg_ps (ps_assign rfl) rfl ?_ | refine sg_nil ?_ | refine sg_then ?_ | refine sg_guard_yes rfl rfl ?_ | refine sg_ps (ps_pick_t rfl rfl) rfl ?_ | refine sg_ps (ps_pick_f rfl rfl) rfl ?_ | refine sg_ret ?_)
          exact ex_ret1 rfl rfl () rfl trivial (fun w hO => hO.tail.tail.tail)
        · have e2 : noneK keep k = false := noneK_f hNone
          rw [e2]
          repeat' (first | refine sg_wo ?_ | refine sg_ps (ps_move rfl) rfl ?_ | refine sg_ps (ps_assign rfl) rfl ?_ | refine sg_seq ?_ | refine sg_region ?_ | refine sg_nil ?_ | refine sg_then ?_ | refine sg_ps (ps_bin rfl rfl inferInstance) rfl ?_ | refine sg_ps (ps_not rfl) rfl ?_ | refine sg_cond_f rfl ?_ | refine sg_guard_yes rfl rfl ?_ | refine sg_guard_nt rfl rfl rfl ?_ | refine sg_guard_nu rfl rfl rfl ?_ | refine sg_ps (ps_pick_t rfl rfl) rfl ?_ | refine sg_ps (ps_pick_f rfl rfl) rfl ?_ | refine sg_ps (ps_len rfl) rfl ?_ | refine sg_ps (ps_extract rfl rfl) rfl ?_ | refine sg_skip ?_ | refine sg_ret ?_)
          exact ex_ret1 rfl rfl () rfl trivial (fun w hO => hO.tail.tail.tail)
theorem blockTorn_opened (W : World) (vs : List Value) (h : Opens Try.prog W Try.f7.params.toList vs) :
    Tri Try.prog W 7 vs [old W] (X := Unit) (fun _ => .bool true) (fun _ => True) (fun _ => [old W]) := by
  obtain ⟨a0, c0, vs, rfl, e0, h⟩ := Opens.cons (RT.slice 1 1 Try.underlying22 (by kernel_rfl) (by kernel_rfl) (RT.u8 Try.underlying5)) h
  obtain ⟨a1, c1, vs, rfl, e1, h⟩ := Opens.cons (RT.slice 1 1 Try.underlying22 (by kernel_rfl) (by kernel_rfl) (RT.u8 Try.underlying5)) h
  obtain ⟨a2, c2, vs, rfl, e2, h⟩ := Opens.cons (RT.int .u64 Try.underlying30) h
  obtain ⟨a3, c3, vs, rfl, e3, h⟩ := Opens.cons (RT.slice 1 8 Try.underlying43 (by kernel_rfl) (by kernel_rfl) (RT.int .i64 Try.underlying3)) h
  obtain rfl := Opens.nil h
  obtain ⟨ad0, cap0, rfl, l0, _, h0, r0⟩ := SliceE.one bv (fun x vs h => h) e0
  obtain ⟨ad1, cap1, rfl, l1, _, h1, r1⟩ := SliceE.one bv (fun x vs h => h) e1
  obtain ⟨rfl, hw⟩ := e2
  have hw := wf_u64 hw
  obtain ⟨id, rfl⟩ : ∃ m : Nat, a2 = (m : Int) := ⟨a2.toNat, by omega⟩
  obtain ⟨ad3, cap3, rfl, l3, _, h3, r3⟩ := SliceE.one (.int .i64) (fun x vs h => h.1) e3
  exact blockTorn_tri a0 a1 id a3 ad0 ad1 ad3 cap0 cap1 cap3 r0 r1 r3 (by omega) (by omega) (by omega) l0 l1 (by omega)
set_option maxRecDepth 100000 in
theorem blockTorn_lifted (os : Os) (started : os.Started) (H : Type) (enc : TypeId × Value → H) :
    ReturnsInHanded {} Try.checked os 7 .any (Rows.blockTornSpec.pre6 enc Try.prog Try.f7 Rows.blockTornRow.domain false) (Rows.blockTornSpec.post enc Try.prog Try.f7 false true false false) :=
  lift (tb := 4) started law_own law_laidOut (by kernel_rfl) Try.func7
    (ChangeSpec.witness6 (enc := enc) (C := Try.checked) false ⟨#[], #[.slice none 0 0, .slice none 0 0, .int .u64 0, .slice none 0 0], []⟩ 8 (by kernel_rfl) (by kernel_rfl) (by kernel_rfl) (by kernel_rfl))
    rfl rfl Try.underlying4 (by kernel_rfl) (fun ds h => by
      match ds, h with
      | [d1, d2, d3, d4], _ => rfl) blockTorn_opened
theorem blockTorn_over : Rows.blockTornRow.holds Try.pinned (OpenSpec.ofChange Rows.blockTornSpec) :=
  OpenClaim.holds_of_wide 7 Try.f7 rfl rfl rfl rfl rfl rfl rfl ⟨rfl, rfl, rfl, rfl, rfl⟩ rfl rfl rfl rfl rfl (by kernel_rfl) Try.func7 (by kernel_rfl)
    (of_decide_eq_true (by kernel_rfl)) (by unfold Func.isWrapper; first | (rw [if_pos (by decide +kernel)]; kernel_rfl) | (rw [if_neg (by decide +kernel)]; exact ⟨rfl, rfl⟩))
    (fun os started H enc _ => blockTorn_lifted os started H enc)
theorem blockTorn_proved : Rows.BlockTornSaid := blockTorn_over
#print axioms blockTorn_proved
end Go.Proofs.Ytgcfonjiingpnaa
