/- PoolPins: what is pinned never goes; unpinned as often it may. -/
import Derived.Test.YtclehoaeppbmpaaLP
namespace Go.Proofs.Ytclehoaeppbmpaa
set_option linter.unusedVariables false
set_option linter.unusedSimpArgs false
set_option linter.unusedSectionVars false
set_option linter.unnecessarySimpa false
open Go Go.Proofs
def hget (hs : List Nat) (j : Nat) : Nat := (hs[j]?).getD 0
theorem hget_at {hs : List Nat} {j : Nat} (h : j < hs.length) : hs[j]? = some (hget hs j) := by
  unfold hget
  rw [List.getElem?_eq_getElem h]; rfl
theorem hget_set {hs : List Nat} {j m : Nat} (h : j < hs.length) : hget (hs.set j m) = fun i => if i = j then m else hget hs i := by
  funext i
  unfold hget
  rw [List.getElem?_set]
  by_cases hij : j = i
  · subst hij; rw [if_pos rfl, if_pos rfl, if_pos h]; rfl
  · rw [if_neg hij, if_neg (fun e => hij e.symm)]
abbrev hc7 (hs : List Nat) : List Value := hs.map fun (x : Nat) => i64 (x : Int)
theorem hc7_at {hs : List Nat} {j : Nat} (h : j < hs.length) : (hc7 hs)[0 + j * 1]? = some (i64 (hget hs j)) := by
  rw [Nat.zero_add, Nat.mul_one, List.getElem?_map, hget_at h]; rfl
theorem hc7_set {hs : List Nat} {j m : Nat} : (hc7 hs).set (0 + j * 1) (i64 m) = hc7 (hs.set j m) := by
  rw [Nat.zero_add, Nat.mul_one]; unfold hc7; rw [List.map_set]
theorem tmod_pos (x : Int) (m : Nat) (hm : 0 < m) : ∃ j : Nat, Int.tmod (Int.tmod x m + m) m = (j : Int) ∧ j < m := by
  have h1 : -(m : Int) < Int.tmod x m := by have := Int.tmod_lt_of_pos (-x) (by omega : (0 : Int) < m); rw [Int.neg_tmod] at this; omega
  have h2 := Int.tmod_lt_of_pos x (by omega : (0 : Int) < m)
  have h3 := Int.tmod_nonneg (m : Int) (by omega : (0 : Int) ≤ Int.tmod x m + m)
  have h4 := Int.tmod_lt_of_pos (Int.tmod x m + m) (by omega : (0 : Int) < m)
  exact ⟨(Int.tmod (Int.tmod x m + m) m).toNat, by omega, by omega⟩
set_option maxRecDepth 20000
set_option maxHeartbeats 4000000
attribute [local irreducible] SG WC WO W1 WD WK PS Rd Tri Exit.then Exit.inBlock bodyPost calmQ Mid sadd
variable {W : World} {n : Nat} {F : Fr} {L : List HP} {G : Act → World → Prop}
theorem nil_len {α : Type} {l : List α} (h : l.length = 0) : l = [] := List.eq_nil_of_length_eq_zero h
def noask (B : BkS) : BkS := { B with asked := [] }
theorem noask_fit {S : PlS} {B : BkS} {N : Nat} (h : Fit S B N) : Fit S (noask B) N := ⟨h.hand, h.rbs, h.ebs, by have := h.asked; show 0 + _ ≤ _; omega, h.ent⟩
theorem evict_less {S : PlS} {B : BkS} {N : Nat} (h : Fit S B N) (h0 : (evictS S B).1.2 = 0) : (evictS S B).2.1.rows.length + 1 = S.rows.length := by
  unfold evictS at h0 ⊢
  split at h0
  · cases h0
  · rename_i hne
    rw [if_neg hne]
    exact ((goes_fit h).1 h0).2
theorem poolPins_tri (most : Int) (la ga : Option Addr) (lc gc : Nat) (l g : List Int) (hl : RdO W la (l.map i64)) (hg0 : RdO W ga (g.map i64)) (hll : l.length ≤ 9223372036854775807) (hgl : g.length ≤ 9223372036854775807) :
    Tri Try.prog W 3 [i64 most, .slice la l.length lc, .slice ga g.length gc] [old W] (X := Unit) (fun _ => .bool true) (fun _ => True) (fun _ => [old W]) := by
  obtain ⟨k, hk0, hk3⟩ := rem_nat most 3 (by omega)
  have hk : (most.tmod 3 + 3).tmod 3 = (k : Int) := hk0
  have hrl := rem_lt most (m := 3) (by omega)
  refine tri_enter3 Try.func3 rfl Try.ntmps3 rfl ?_
  refine sg_seq ?_
  repeat' (first | refine sg_wo ?_ | refine sg_ps (ps_assign rfl) rfl ?_ | refine sg_region ?_ | refine sg_nil ?_ | refine sg_then ?_)
  refine sg_seq ?_
  refine sg_seq ?_
  repeat' (first | refine sg_wo ?_ | refine sg_region ?_)
  refine sg_call (awake_tri _) rfl rfl (fun _ _ => ?_)
  repeat' (first | refine sg_wo ?_ | refine sg_nil ?_ | refine sg_then ?_ | refine sg_ps (ps_not rfl) rfl ?_ | refine sg_cond_f rfl ?_ | refine sg_skip ?_)
  refine sg_seq ?_
  repeat' (first | refine sg_wo ?_ | refine sg_ps (ps_move rfl) rfl ?_ | refine sg_ps (ps_assign rfl) rfl ?_ | refine sg_region ?_ | refine sg_nil ?_ | refine sg_then ?_ | refine sg_ps (ps_add64 rfl rfl (by omega)) rfl ?_ | refine sg_ps (ps_rem rfl rfl (by decide)) rfl ?_)
  rw [hk]
  refine sg_seq ?_
  repeat' (first | refine sg_wo ?_ | refine sg_region ?_)
  refine sg_call (lback_tri _) rfl rfl (fun b _ => ?_)
  repeat' (first | refine sg_wo ?_ | refine sg_ps (ps_assign rfl) rfl ?_ | refine sg_nil ?_ | refine sg_then ?_)
  refine sg_seq ?_
  repeat' (first | refine sg_wo ?_ | refine sg_ps (ps_move rfl) rfl ?_ | refine sg_region ?_)
  refine sg_ps (ps_makeIf Try.underlying24 rfl) rfl ?_
  repeat' (first | refine sg_wo ?_ | refine sg_ps (ps_move rfl) rfl ?_)
  refine sg_call (pnew_tri b ((k : Int) + 1) _ (by omega)) rfl rfl (fun p _ => ?_)
  repeat' (first | refine sg_wo ?_ | refine sg_ps (ps_move rfl) rfl ?_ | refine sg_ps (ps_assign rfl) rfl ?_ | refine sg_nil ?_ | refine sg_then ?_ | refine sg_ps (ps_extract rfl rfl) rfl ?_)
  refine sg_seq ?_
  refine sg_seq ?_
  repeat' (first | refine sg_wo ?_ | refine sg_ps (ps_move rfl) rfl ?_ | refine sg_region ?_ | refine sg_nil ?_ | refine sg_then ?_ | refine sg_ps (ps_bin rfl rfl inferInstance) rfl ?_ | refine sg_cond_f rfl ?_ | refine sg_guard_yes rfl rfl ?_ | refine sg_ps (ps_pick_f rfl rfl) rfl ?_ | refine sg_skip ?_)
  refine sg_seq ?_
  repeat' (first | refine sg_wo ?_ | refine sg_region ?_ | refine sg_nil ?_ | refine sg_then ?_ | refine sg_alloc rfl (fun al => ?_))
  refine sg_seq_mid (γ := List Nat × PlS × BkS) (fun x => x.1.length = 7 ∧ PI (hget x.1) x.2.1 x.2.2 ∧ Fit x.2.1 x.2.2 40 ∧ (∀ j, hget x.1 j ≤ 10) ∧ ∀ j, j < 1 ∨ 3 < j → hget x.1 j = 0)
    (fun _ => [(2, .slice ga g.length gc), (7, dp b), (8, dp p), (10, dp al)]) (fun x => [blk al (hc7 x.1), PoolRep p b x.2.1, BackRep b x.2.2, old W]) ?_ ?_
  · skip
    repeat' (first | refine sg_wo ?_ | refine sg_ps (ps_assign rfl) rfl ?_ | refine sg_seq ?_ | refine sg_region ?_ | refine sg_nil ?_ | refine sg_then ?_ | refine sg_block ?_)
    refine sg_loop (γ := Nat × List Nat × PlS × BkS) (fun x => (x.1 ≤ l.length ∧ x.1 ≤ 10) ∧ x.2.1.length = 7 ∧ PI (hget x.2.1) x.2.2.1 x.2.2.2 ∧ Fit x.2.2.1 x.2.2.2 (6 + 3 * x.1) ∧ (∀ j, hget x.2.1 j ≤ x.1) ∧ ∀ j, j < 1 ∨ 3 < j → hget x.2.1 j = 0)
      (fun x => [(1, .slice la l.length lc), (2, .slice ga g.length gc), (7, dp b), (8, dp p), (10, dp al), (11, i64 x.1)])
      (fun x => [blk al (hc7 x.2.1), PoolRep p b x.2.2.1, BackRep b x.2.2.2, old W]) (fun x => 10 - x.1) (0, [0, 0, 0, 0, 0, 0, 0], ⟨(k : Int) + 1, [], 0⟩, backK 6)
      ⟨⟨Nat.zero_le _, Nat.zero_le _⟩, rfl, ?_, start_fit, ?_, ?_⟩ (.cons rfl (.cons rfl (.cons rfl (.cons rfl (.cons rfl (.cons rfl .nil)))))) (fun w hO => hO) ?_
    · have h0 : hget [0, 0, 0, 0, 0, 0, 0] = fun _ => 0 := by
        funext j
        match j with
        | 0 | 1 | 2 | 3 | 4 | 5 | 6 => rfl
        | j + 7 => rfl
      show PI (hget [0, 0, 0, 0, 0, 0, 0]) _ _
      rw [h0]; exact PI.start rfl
    · intro j
      match j with
      | 0 | 1 | 2 | 3 | 4 | 5 | 6 => exact Nat.le_refl _
      | j + 7 => exact Nat.le_refl _
    · intro j _
      match j with
      | 0 | 1 | 2 | 3 | 4 | 5 | 6 => rfl
      | j + 7 => rfl
    rintro ⟨i, hs, S, B⟩ ⟨⟨hi1, hi2⟩, hs7, hI, hF, hb10, hb0⟩
    dsimp only at hi1 hi2 hs7 hI hF hb10 hb0 ⊢
    by_cases hi : i < l.length ∧ i < 10
    · obtain ⟨hil, hi10⟩ := hi
      refine sg_rd_some (hl.rd (L := [blk al (hc7 hs), PoolRep p b S, BackRep b B, old W]) 3 rfl) (by intro e; have := congrArg List.length e; rw [List.length_map, List.length_nil] at this; omega) fun zb zo ha => ?_
      subst ha
      have hz1 : RdO W (some ⟨zb, zo + i * 1, none⟩) [i64 l[i]] := rdo_one hl (by simp [hil])
      have hr : Rd W [blk al (hc7 hs), PoolRep p b S, BackRep b B, old W] (some ⟨zb, zo + i * 1, none⟩) [i64 l[i]] := hz1.rd 3 rfl
      generalize l[i] = z at hr
      obtain ⟨k2, hk20, hk2l⟩ := rem_nat z 3 (by omega)
      have hk2 : (z.tmod 3 + 3).tmod 3 = (k2 : Int) := hk20
      have hz3 := rem_lt z (m := 3) (by omega)
      repeat' (first | refine sg_wo ?_ | refine sg_ps (ps_move rfl) rfl ?_ | refine sg_seq ?_ | refine sg_region ?_ | refine sg_nil ?_ | refine sg_then ?_ | refine sg_ps (ps_bin rfl rfl inferInstance) rfl ?_ | refine sg_guard_yes rfl rfl ?_ | refine sg_ps (ps_pick_t rfl rfl) rfl ?_ | refine sg_ps (ps_len rfl) rfl ?_ | refine sg_ps (ps_indexAddr rfl rfl rfl (by omega)) rfl ?_ | refine sg_block ?_ | refine sg_skip ?_ | (refine sg_guard_dec rfl rfl (fun hg => ?_) (fun hg => ?_) <;> first | (exfalso; omega) | (exact absurd rfl hg) | skip) | (refine sg_cond_dec rfl (fun hg => ?_) (fun hg => ?_) <;> first | (exfalso; omega) | (exact absurd rfl hg) | skip))
      refine sg_load_rd rfl hr rfl ?_
      repeat' (first | refine sg_wo ?_ | refine sg_ps (ps_move rfl) rfl ?_ | refine sg_ps (ps_assign rfl) rfl ?_ | refine sg_seq ?_ | refine sg_region ?_ | refine sg_nil ?_ | refine sg_then ?_ | refine sg_ps (ps_add64 rfl rfl (by omega)) rfl ?_ | refine sg_ps (ps_rem rfl rfl (by decide)) rfl ?_ | refine sg_ps (ps_conv rfl) rfl ?_)
      rw [hk2, show (k2 : Int) + 1 = ((k2 + 1 : Nat) : Int) by omega]
      obtain ⟨M, hM⟩ : ∃ M, M = k2 + 1 := ⟨_, rfl⟩
      rw [← hM]
      have hM1 : 1 ≤ M ∧ M ≤ 3 := by omega
      have hw : IntKind.u64.wrap (M : Int) = (M : Int) := by
        match M, hM1 with
        | 1, _ => rfl
        | 2, _ => rfl
        | 3, _ => rfl
      rw [hw]
      have hp := hI.pin hM1.1 (by omega) (by have := hb10 M; omega)
      have hpf := pin_fit (id := (M : Int)) hF
      refine sg_own (fun w hO => hO.back2) ?_
      refine sg_call (ppin_tri p b S B (M : Int) _ hF (by omega)) rfl rfl (fun _ _ => ?_)
      generalize pinS S B (M : Int) = q at hp hpf
      obtain ⟨q1, S2, B2⟩ := q
      obtain ⟨rfl, hp⟩ := hp
      dsimp only at hp hpf ⊢
      repeat' (first | refine sg_wo ?_ | refine sg_ps (ps_move rfl) rfl ?_ | refine sg_region ?_ | refine sg_nil ?_ | refine sg_then ?_ | refine sg_ps (ps_bin rfl rfl inferInstance) rfl ?_ | refine sg_cond_f rfl ?_ | refine sg_ps (ps_indexAddr_arr rfl rfl rfl (by omega)) rfl ?_ | refine sg_skip ?_)
      refine sg_load 2 rfl rfl (hc7_at (by omega)) rfl ?_
      have hbM := hb10 M
      repeat' (first | refine sg_wo ?_ | refine sg_ps (ps_add64 rfl rfl (by omega)) rfl ?_ | refine sg_ps (ps_indexAddr_arr rfl rfl rfl (by omega)) rfl ?_)
      refine sg_store [_, _] rfl rfl rfl (by simp; omega) ?_
      rw [show (hget hs M : Int) + 1 = ((hget hs M + 1 : Nat) : Int) by omega, hc7_set]
      repeat' (first | refine sg_wo ?_ | refine sg_ps (ps_move rfl) rfl ?_ | refine sg_ps (ps_assign rfl) rfl ?_ | refine sg_region ?_ | refine sg_nil ?_ | refine sg_then ?_ | refine sg_ps (ps_add64 rfl rfl (by omega)) rfl ?_ | refine ex_block_normal ?_)
      refine ex_mid (i + 1, hs.set M (hget hs M + 1), S2, B2) ⟨by show 10 - (i + 1) < 10 - i; omega, ⟨by show i + 1 ≤ _; omega, by show i + 1 ≤ 10; omega⟩, by show (hs.set M _).length = 7; rw [List.length_set]; exact hs7, ?_, hpf.mono (by show 6 + 3 * i + 3 ≤ 6 + 3 * (i + 1); omega), fun j => ?_, fun j hj => ?_⟩
        (.cons rfl (.cons rfl (.cons rfl (.cons rfl (.cons rfl (.cons rfl .nil)))))) (fun w hO => hO.front2)
      · show PI (hget (hs.set M (hget hs M + 1))) S2 B2
        rw [hget_set (by omega)]; exact hp
      · show hget (hs.set M (hget hs M + 1)) j ≤ i + 1
        rw [hget_set (by omega)]
        dsimp only
        split
        · omega
        · have := hb10 j; omega
      · show hget (hs.set M (hget hs M + 1)) j = 0
        rw [hget_set (by omega)]
        dsimp only
        rw [if_neg (by omega)]
        exact hb0 j hj
    · skip
      repeat' (first | refine sg_wo ?_ | refine sg_ps (ps_move rfl) rfl ?_ | refine sg_seq ?_ | refine sg_region ?_ | refine sg_nil ?_ | refine sg_then ?_ | refine sg_ps (ps_bin rfl rfl inferInstance) rfl ?_ | refine sg_cond_f rfl ?_ | refine sg_guard_yes rfl rfl ?_ | refine sg_guard_nf rfl rfl rfl ?_ | refine sg_ps (ps_pick_t rfl rfl) rfl ?_ | refine sg_ps (ps_pick_f rfl rfl) rfl ?_ | refine sg_ps (ps_len rfl) rfl ?_ | refine sg_exit ?_ | refine ex_then_exit ?_ | refine ex_block_hit ?_ | (refine sg_guard_dec rfl rfl (fun hg => ?_) (fun hg => ?_) <;> first | (exfalso; omega) | (exact absurd rfl hg) | skip) | (refine sg_cond_dec rfl (fun hg => ?_) (fun hg => ?_) <;> first | (exfalso; omega) | (exact absurd rfl hg) | skip))
      all_goals exact ex_mid (hs, S, B) ⟨hs7, hI, hF.mono (by omega), fun j => by have := hb10 j; show hget hs j ≤ 10; omega, hb0⟩ (.cons rfl (.cons rfl (.cons rfl (.cons rfl .nil)))) (fun w hO => hO)
  rintro ⟨hs, S, B⟩ ⟨hs7, hI, hF, hb10, hb0⟩
  dsimp only at hs7 hI hF hb10 hb0 ⊢
  refine sg_seq ?_
  refine sg_own (fun w hO => hO.front2) ?_
  refine BackRep.open fun T ia ic ba bc aa ac hT => ?_
  repeat' (first | refine sg_wo ?_ | refine sg_ps (ps_move rfl) rfl ?_ | refine sg_region ?_ | refine sg_nil ?_ | refine sg_then ?_ | refine sg_ps (ps_fieldAddr rfl) rfl ?_ | refine sg_ps (ps_nilCheck rfl) rfl ?_ | refine sg_store [] rfl rfl rfl (of_decide_eq_true rfl) ?_)
  refine sg_own (L' := [blk al (hc7 hs), PoolRep p b S, BackRep b (noask B), old W]) (fun w hO => by
    have k0 := own_nil (sz := 1) (hO.front3.tail)
    have k1 : Own W w (BackRep b (noask B) :: _) := BackRep.shut (S := noask B) (aa := none) (ac := 0) hT (k0.back3)
    exact k1.back2) ?_
  have hI1 : PI (hget hs) S (noask B) := ⟨hI.ent, hI.nd, hI.ids, hI.no, hI.here⟩
  have hF1 := noask_fit hF
  generalize noask B = B1 at hI1 hF1
  refine sg_seq_mid (γ := PlS × BkS) (fun x => PI (hget hs) x.1 x.2 ∧ Fit x.1 x.2 200)
    (fun _ => [(7, dp b), (8, dp p), (10, dp al)]) (fun x => [blk al (hc7 hs), PoolRep p b x.1, BackRep b x.2, old W]) ?_ ?_
  · skip
    repeat' (first | refine sg_wo ?_ | refine sg_ps (ps_assign rfl) rfl ?_ | refine sg_seq ?_ | refine sg_region ?_ | refine sg_nil ?_ | refine sg_then ?_ | refine sg_block ?_)
    refine sg_loop (γ := Nat × PlS × BkS) (fun x => (x.1 ≤ g.length ∧ x.1 ≤ 30) ∧ PI (hget hs) x.2.1 x.2.2 ∧ Fit x.2.1 x.2.2 (40 + 4 * x.1))
      (fun x => [(2, .slice ga g.length gc), (7, dp b), (8, dp p), (10, dp al), (13, i64 x.1)])
      (fun x => [blk al (hc7 hs), PoolRep p b x.2.1, BackRep b x.2.2, old W]) (fun x => 30 - x.1) (0, S, B1)
      ⟨⟨Nat.zero_le _, Nat.zero_le _⟩, hI1, hF1⟩ (.cons rfl (.cons rfl (.cons rfl (.cons rfl (.cons rfl .nil))))) (fun w hO => hO) ?_
    rintro ⟨i, S, B⟩ ⟨⟨hi1, hi2⟩, hI, hF⟩
    dsimp only at hi1 hi2 hI hF ⊢
    by_cases hi : i < g.length ∧ i < 30
    · obtain ⟨hil, hi30⟩ := hi
      refine sg_rd_some (hg0.rd (L := [blk al (hc7 hs), PoolRep p b S, BackRep b B, old W]) 3 rfl) (by intro e; have := congrArg List.length e; rw [List.length_map, List.length_nil] at this; omega) fun zb zo ha => ?_
      subst ha
      have hz1 : RdO W (some ⟨zb, zo + i * 1, none⟩) [i64 g[i]] := rdo_one hg0 (by simp [hil])
      have hr : Rd W [blk al (hc7 hs), PoolRep p b S, BackRep b B, old W] (some ⟨zb, zo + i * 1, none⟩) [i64 g[i]] := hz1.rd 3 rfl
      generalize g[i] = z at hr
      obtain ⟨k2, hk20, hk2l⟩ := rem_nat z 6 (by omega)
      have hk2 : (z.tmod 6 + 6).tmod 6 = (k2 : Int) := hk20
      have hz3 := rem_lt z (m := 6) (by omega)
      repeat' (first | refine sg_wo ?_ | refine sg_ps (ps_move rfl) rfl ?_ | refine sg_seq ?_ | refine sg_region ?_ | refine sg_nil ?_ | refine sg_then ?_ | refine sg_ps (ps_bin rfl rfl inferInstance) rfl ?_ | refine sg_guard_yes rfl rfl ?_ | refine sg_ps (ps_pick_t rfl rfl) rfl ?_ | refine sg_ps (ps_len rfl) rfl ?_ | refine sg_ps (ps_indexAddr rfl rfl rfl (by omega)) rfl ?_ | refine sg_block ?_ | refine sg_skip ?_ | (refine sg_guard_dec rfl rfl (fun hg => ?_) (fun hg => ?_) <;> first | (exfalso; omega) | (exact absurd rfl hg) | skip) | (refine sg_cond_dec rfl (fun hg => ?_) (fun hg => ?_) <;> first | (exfalso; omega) | (exact absurd rfl hg) | skip))
      refine sg_load_rd rfl hr rfl ?_
      repeat' (first | refine sg_wo ?_ | refine sg_ps (ps_move rfl) rfl ?_ | refine sg_ps (ps_assign rfl) rfl ?_ | refine sg_seq ?_ | refine sg_region ?_ | refine sg_nil ?_ | refine sg_then ?_ | refine sg_ps (ps_fieldAddr rfl) rfl ?_ | refine sg_ps (ps_nilCheck rfl) rfl ?_ | refine sg_ps (ps_add64 rfl rfl (by omega)) rfl ?_ | refine sg_ps (ps_rem rfl rfl (by decide)) rfl ?_)
      rw [hk2, show (k2 : Int) + 1 = ((k2 + 1 : Nat) : Int) by omega]
      obtain ⟨M, hM⟩ : ∃ M, M = k2 + 1 := ⟨_, rfl⟩
      rw [← hM]
      have hM1 : 1 ≤ M ∧ M ≤ 6 := by omega
      have hw : IntKind.u64.wrap (M : Int) = (M : Int) := by
        match M, hM1 with
        | 1, _ => rfl
        | 2, _ => rfl
        | 3, _ => rfl
        | 4, _ => rfl
        | 5, _ => rfl
        | 6, _ => rfl
      have hbl : (B.asked.length : Int) ≤ 1000 := by have := hF.asked; omega
      refine sg_own (fun w hO => hO.front2) ?_
      refine BackRep.open fun T ia ic ba bc aa ac hT => ?_
      repeat' (first | refine sg_wo ?_ | refine sg_ps (ps_move rfl) rfl ?_ | refine sg_ps (ps_assign rfl) rfl ?_ | refine sg_seq ?_ | refine sg_region ?_ | refine sg_nil ?_ | refine sg_then ?_ | refine sg_load 0 rfl rfl rfl rfl ?_ | refine sg_ps (ps_conv rfl) rfl ?_ | refine sg_ps (ps_len rfl) rfl ?_)
      rw [hw]
      have hp := hI.get hM1.1 hM1.2
      have hpf := get_fit (id := (M : Int)) hF
      refine sg_own (L' := [PoolRep p b S, BackRep b B, blk al (hc7 hs), old W]) (fun w hO => (BackRep.shut (S := B) hT hO).front1.front2.front2.front1) ?_
      refine sg_call (pget_tri p b S B (M : Int) _ hF (by omega)) rfl rfl (fun y _ => ?_)
      generalize getS S B (M : Int) = q at hp hpf
      obtain ⟨q1, S2, B2⟩ := q
      dsimp only at hp hpf ⊢
      obtain ⟨h1, hp, h2⟩ := hp
      rw [h1]
      have hef := evict_fit hpf
      have hec := evict_clean (B := B2) hp.nd
      have hpe := hp.keeps (S' := (evictS S2 B2).2.1) (B' := (evictS S2 B2).2.2) (by rw [hec.1]) hec.2
      have hbM := hb10 M
      have hbeq : 0 < hget hs M → B2.asked.length = B.asked.length := fun h => by rw [h2 h]
      refine sg_own (fun w hO => hO.tail.front1) ?_
      refine BackRep.open fun T ia ic ba bc aa ac hT => ?_
      repeat' (first | refine sg_wo ?_ | refine sg_ps (ps_move rfl) rfl ?_ | refine sg_ps (ps_assign rfl) rfl ?_ | refine sg_seq ?_ | refine sg_region ?_ | refine sg_nil ?_ | refine sg_then ?_ | refine sg_ps (ps_bin rfl rfl inferInstance) rfl ?_ | refine sg_guard_yes rfl rfl ?_ | refine sg_ps (ps_extract rfl rfl) rfl ?_ | refine sg_ps (ps_indexAddr_arr rfl rfl rfl (by omega)) rfl ?_)
      refine sg_load 6 rfl rfl (hc7_at (by omega)) rfl ?_
      by_cases h0 : 0 < hget hs M
      · have hbe := hbeq h0
        repeat' (first | refine sg_wo ?_ | refine sg_ps (ps_move rfl) rfl ?_ | refine sg_region ?_ | refine sg_nil ?_ | refine sg_then ?_ | refine sg_ps (ps_fieldAddr rfl) rfl ?_ | refine sg_ps (ps_nilCheck rfl) rfl ?_ | refine sg_load 0 rfl rfl rfl rfl ?_ | refine sg_ps (ps_bin rfl rfl inferInstance) rfl ?_ | refine sg_guard_yes rfl rfl ?_ | refine sg_ps (ps_pick_t rfl rfl) rfl ?_ | refine sg_ps (ps_pick_f rfl rfl) rfl ?_ | refine sg_ps (ps_len rfl) rfl ?_ | refine sg_skip ?_ | (refine sg_guard_dec rfl rfl (fun hg => ?_) (fun hg => ?_) <;> first | (exfalso; omega) | (exact absurd rfl hg) | skip) | (refine sg_cond_ndec rfl (fun hg => ?_) (fun hg => ?_) <;> first | (exfalso; omega) | (exact absurd rfl hg) | skip))
        refine sg_own (L' := [PoolRep p b S2, BackRep b B2, blk al (hc7 hs), old W]) (fun w hO => (BackRep.shut (S := B2) hT hO).front1) ?_
        refine sg_call (pevict_tri p b S2 B2 _ hpf (by omega)) rfl rfl (fun _ _ => ?_)
        repeat' (first | refine sg_wo ?_ | refine sg_ps (ps_move rfl) rfl ?_ | refine sg_ps (ps_assign rfl) rfl ?_ | refine sg_region ?_ | refine sg_nil ?_ | refine sg_then ?_ | refine sg_ps (ps_add64 rfl rfl (by omega)) rfl ?_ | refine ex_block_normal ?_)
        exact ex_mid (i + 1, (evictS S2 B2).2.1, (evictS S2 B2).2.2) ⟨by show 30 - (i + 1) < 30 - i; omega, ⟨by show i + 1 ≤ _; omega, by show i + 1 ≤ 30; omega⟩, hpe, hef.mono (by show 40 + 4 * i + 3 + 1 ≤ 40 + 4 * (i + 1); omega)⟩
          (.cons rfl (.cons rfl (.cons rfl (.cons rfl (.cons rfl .nil))))) (fun w hO => hO.front2)
      · skip
        repeat' (first | refine sg_wo ?_ | refine sg_ps (ps_move rfl) rfl ?_ | refine sg_region ?_ | refine sg_nil ?_ | refine sg_then ?_ | refine sg_ps (ps_bin rfl rfl inferInstance) rfl ?_ | refine sg_cond_f rfl ?_ | refine sg_guard_yes rfl rfl ?_ | refine sg_guard_nf rfl rfl rfl ?_ | refine sg_ps (ps_pick_f rfl rfl) rfl ?_ | refine sg_skip ?_ | (refine sg_guard_dec rfl rfl (fun hg => ?_) (fun hg => ?_) <;> first | (exfalso; omega) | (exact absurd rfl hg) | skip))
        refine sg_own (L' := [PoolRep p b S2, BackRep b B2, blk al (hc7 hs), old W]) (fun w hO => (BackRep.shut (S := B2) hT hO).front1) ?_
        refine sg_call (pevict_tri p b S2 B2 _ hpf (by omega)) rfl rfl (fun _ _ => ?_)
        repeat' (first | refine sg_wo ?_ | refine sg_ps (ps_move rfl) rfl ?_ | refine sg_ps (ps_assign rfl) rfl ?_ | refine sg_region ?_ | refine sg_nil ?_ | refine sg_then ?_ | refine sg_ps (ps_add64 rfl rfl (by omega)) rfl ?_ | refine ex_block_normal ?_)
        exact ex_mid (i + 1, (evictS S2 B2).2.1, (evictS S2 B2).2.2) ⟨by show 30 - (i + 1) < 30 - i; omega, ⟨by show i + 1 ≤ _; omega, by show i + 1 ≤ 30; omega⟩, hpe, hef.mono (by show 40 + 4 * i + 3 + 1 ≤ 40 + 4 * (i + 1); omega)⟩
          (.cons rfl (.cons rfl (.cons rfl (.cons rfl (.cons rfl .nil))))) (fun w hO => hO.front2)
    · skip
      repeat' (first | refine sg_wo ?_ | refine sg_ps (ps_move rfl) rfl ?_ | refine sg_seq ?_ | refine sg_region ?_ | refine sg_nil ?_ | refine sg_then ?_ | refine sg_ps (ps_bin rfl rfl inferInstance) rfl ?_ | refine sg_cond_f rfl ?_ | refine sg_guard_yes rfl rfl ?_ | refine sg_guard_nf rfl rfl rfl ?_ | refine sg_ps (ps_pick_t rfl rfl) rfl ?_ | refine sg_ps (ps_pick_f rfl rfl) rfl ?_ | refine sg_ps (ps_len rfl) rfl ?_ | refine sg_exit ?_ | refine ex_then_exit ?_ | refine ex_block_hit ?_ | (refine sg_guard_dec rfl rfl (fun hg => ?_) (fun hg => ?_) <;> first | (exfalso; omega) | (exact absurd rfl hg) | skip) | (refine sg_cond_dec rfl (fun hg => ?_) (fun hg => ?_) <;> first | (exfalso; omega) | (exact absurd rfl hg) | skip))
      all_goals exact ex_mid (S, B) ⟨hI, hF.mono (by omega)⟩ (.cons rfl (.cons rfl (.cons rfl .nil))) (fun w hO => hO)
  rintro ⟨S, B⟩ ⟨hI, hF⟩
  dsimp only at hI hF ⊢
  repeat' (first | refine sg_wo ?_ | refine sg_ps (ps_assign rfl) rfl ?_ | refine sg_seq ?_ | refine sg_region ?_ | refine sg_nil ?_ | refine sg_then ?_ | refine sg_block ?_)
  refine sg_loop (γ := Nat × List Nat × PlS × BkS) (fun x => (1 ≤ x.1 ∧ x.1 ≤ 4) ∧ x.2.1.length = 7 ∧ PI (hget x.2.1) x.2.2.1 x.2.2.2 ∧ Fit x.2.2.1 x.2.2.2 (200 + 20 * x.1) ∧ (∀ j, hget x.2.1 j ≤ 10) ∧ ∀ j, j < x.1 ∨ 3 < j → hget x.2.1 j = 0)
    (fun x => [(7, dp b), (8, dp p), (10, dp al), (18, i64 x.1)]) (fun x => [blk al (hc7 x.2.1), PoolRep p b x.2.2.1, BackRep b x.2.2.2, old W]) (fun x => 4 - x.1) (1, hs, S, B)
    ⟨⟨Nat.le_refl _, by show 1 ≤ 4; omega⟩, hs7, hI, hF.mono (by omega), hb10, hb0⟩ (.cons rfl (.cons rfl (.cons rfl (.cons rfl .nil)))) (fun w hO => hO) ?_
  rintro ⟨id, hs, S, B⟩ ⟨⟨hi1, hi4⟩, hs7, hI, hF, hb10, hb0⟩
  dsimp only at hi1 hi4 hs7 hI hF hb10 hb0 ⊢
  by_cases hid : id < 4
  · have hw : IntKind.u64.wrap (id : Int) = (id : Int) := by
      match id, hi1, hid with
      | 1, _, _ => rfl
      | 2, _, _ => rfl
      | 3, _, _ => rfl
    repeat' (first | refine sg_wo ?_ | refine sg_ps (ps_move rfl) rfl ?_ | refine sg_seq ?_ | refine sg_region ?_ | refine sg_nil ?_ | refine sg_then ?_ | refine sg_ps (ps_bin rfl rfl inferInstance) rfl ?_ | refine sg_block ?_ | refine sg_skip ?_ | (refine sg_cond_dec rfl (fun hg => ?_) (fun hg => ?_) <;> first | (exfalso; omega) | (exact absurd rfl hg) | skip))
    refine sg_loop (γ := List Nat × PlS × BkS) (fun x => x.1.length = 7 ∧ PI (hget x.1) x.2.1 x.2.2 ∧ Fit x.2.1 x.2.2 (200 + 20 * id + (10 - hget x.1 id)) ∧ (∀ j, hget x.1 j ≤ 10) ∧ ∀ j, j < id ∨ 3 < j → hget x.1 j = 0)
      (fun _ => [(7, dp b), (8, dp p), (10, dp al), (18, i64 id)]) (fun x => [blk al (hc7 x.1), PoolRep p b x.2.1, BackRep b x.2.2, old W]) (fun x => hget x.1 id) (hs, S, B)
      ⟨hs7, hI, hF.mono (by omega), hb10, hb0⟩ (.cons rfl (.cons rfl (.cons rfl (.cons rfl .nil)))) (fun w hO => hO) ?_
    rintro ⟨hs, S, B⟩ ⟨hs7, hI, hF, hb10, hb0⟩
    dsimp only at hs7 hI hF hb10 hb0 ⊢
    have hbi := hb10 id
    have hup := hI.unpin (j := id) (by omega)
    have huf := unpin_fit (id := (id : Int)) hF
    repeat' (first | refine sg_wo ?_ | refine sg_ps (ps_move rfl) rfl ?_ | refine sg_seq ?_ | refine sg_region ?_ | refine sg_ps (ps_indexAddr_arr rfl rfl rfl (by omega)) rfl ?_)
    refine sg_load 0 rfl rfl (hc7_at (by omega)) rfl ?_
    by_cases h0 : 0 < hget hs id
    · skip
      repeat' (first | refine sg_wo ?_ | refine sg_ps (ps_move rfl) rfl ?_ | refine sg_seq ?_ | refine sg_region ?_ | refine sg_nil ?_ | refine sg_then ?_ | refine sg_ps (ps_bin rfl rfl inferInstance) rfl ?_ | refine sg_ps (ps_conv rfl) rfl ?_ | refine sg_block ?_ | refine sg_skip ?_ | (refine sg_cond_dec rfl (fun hg => ?_) (fun hg => ?_) <;> first | (exfalso; omega) | (exact absurd rfl hg) | skip))
      rw [hw]
      refine sg_own (fun w hO => hO.back2) ?_
      refine sg_call (punpin_tri p b S B (id : Int) _ hF (by omega)) rfl rfl (fun _ _ => ?_)
      obtain ⟨hu1, hu2⟩ := hup.1 h0
      generalize unpinS S B (id : Int) = q at hu1 hu2 huf
      obtain ⟨q1, S2, B2⟩ := q
      dsimp only at hu1 hu2 huf ⊢
      subst hu1
      repeat' (first | refine sg_wo ?_ | refine sg_ps (ps_move rfl) rfl ?_ | refine sg_region ?_ | refine sg_nil ?_ | refine sg_then ?_ | refine sg_ps (ps_bin rfl rfl inferInstance) rfl ?_ | refine sg_cond_f rfl ?_ | refine sg_ps (ps_indexAddr_arr rfl rfl rfl (by omega)) rfl ?_ | refine sg_skip ?_)
      refine sg_load 2 rfl rfl (hc7_at (by omega)) rfl ?_
      repeat' (first | refine sg_wo ?_ | refine sg_ps (ps_sub64 rfl rfl (by omega)) rfl ?_ | refine sg_ps (ps_indexAddr_arr rfl rfl rfl (by omega)) rfl ?_)
      refine sg_store [_, _] rfl rfl rfl (by simp; omega) ?_
      rw [show (hget hs id : Int) - 1 = ((hget hs id - 1 : Nat) : Int) by omega, hc7_set]
      repeat' (first | refine sg_nil ?_ | refine ex_block_normal ?_)
      have hse := hget_set (hs := hs) (j := id) (m := hget hs id - 1) (by omega)
      refine ex_mid (hs.set id (hget hs id - 1), S2, B2) ⟨?_, by show (hs.set id _).length = 7; rw [List.length_set]; exact hs7, ?_, huf.mono ?_, fun j => ?_, fun j hj => ?_⟩
        (.cons rfl (.cons rfl (.cons rfl (.cons rfl .nil)))) (fun w hO => hO.front2)
      · show hget (hs.set id (hget hs id - 1)) id < hget hs id
        rw [hse]; dsimp only; rw [if_pos rfl]; omega
      · show PI (hget (hs.set id (hget hs id - 1))) S2 B2
        rw [hse]; exact hu2
      · show _ ≤ 200 + 20 * id + (10 - hget (hs.set id (hget hs id - 1)) id)
        rw [hse]; dsimp only; rw [if_pos rfl]; omega
      · show hget (hs.set id (hget hs id - 1)) j ≤ 10
        rw [hse]; dsimp only
        split
        · omega
        · exact hb10 j
      · show hget (hs.set id (hget hs id - 1)) j = 0
        rw [hse]; dsimp only
        rw [if_neg (by omega)]
        exact hb0 j hj
    · have h00 : hget hs id = 0 := by omega
      repeat' (first | refine sg_wo ?_ | refine sg_ps (ps_move rfl) rfl ?_ | refine sg_seq ?_ | refine sg_region ?_ | refine sg_nil ?_ | refine sg_then ?_ | refine sg_ps (ps_bin rfl rfl inferInstance) rfl ?_ | refine sg_ps (ps_conv rfl) rfl ?_ | refine sg_exit ?_ | refine ex_then_exit ?_ | refine ex_block_hit ?_ | (refine sg_cond_dec rfl (fun hg => ?_) (fun hg => ?_) <;> first | (exfalso; omega) | (exact absurd rfl hg) | skip))
      rw [hw]
      refine sg_own (fun w hO => hO.back2) ?_
      refine sg_call (punpin_tri p b S B (id : Int) _ hF (by omega)) rfl rfl (fun _ _ => ?_)
      obtain ⟨hu1, hu2⟩ := hup.2 h00
      rw [hu1, hu2]
      repeat' (first | refine sg_wo ?_ | refine sg_ps (ps_move rfl) rfl ?_ | refine sg_ps (ps_assign rfl) rfl ?_ | refine sg_region ?_ | refine sg_nil ?_ | refine sg_then ?_ | refine sg_ps (ps_add64 rfl rfl (by omega)) rfl ?_ | refine sg_ps (ps_bin rfl rfl inferInstance) rfl ?_ | refine sg_cond_f rfl ?_ | refine sg_skip ?_ | refine ex_block_normal ?_)
      refine ex_mid (id + 1, hs, S, B) ⟨by show 4 - (id + 1) < 4 - id; omega, ⟨by show 1 ≤ id + 1; omega, by show id + 1 ≤ 4; omega⟩, hs7, hI, hF.mono (by show _ ≤ 200 + 20 * (id + 1); omega), hb10, fun j hj => ?_⟩
        (.cons rfl (.cons rfl (.cons rfl (.cons rfl .nil)))) (fun w hO => hO.front2)
      rcases Nat.lt_or_ge j id with h | h
      · exact hb0 j (.inl h)
      · rcases Nat.lt_or_ge 3 j with h3 | h3
        · exact hb0 j (.inr h3)
        · have : j = id := by have : j < id + 1 ∨ 3 < j := hj; omega
          rw [this]; exact h00
  · have hz0 : hget hs = fun _ => 0 := by
      funext j
      exact hb0 j (by omega)
    rw [hz0] at hI
    have hsh := hI.short
    repeat' (first | refine sg_wo ?_ | refine sg_ps (ps_move rfl) rfl ?_ | refine sg_ps (ps_assign rfl) rfl ?_ | refine sg_seq ?_ | refine sg_region ?_ | refine sg_nil ?_ | refine sg_then ?_ | refine sg_ps (ps_bin rfl rfl inferInstance) rfl ?_ | refine sg_block ?_ | refine sg_exit ?_ | refine ex_then_exit ?_ | refine ex_block_hit ?_ | (refine sg_cond_dec rfl (fun hg => ?_) (fun hg => ?_) <;> first | (exfalso; omega) | (exact absurd rfl hg) | skip))
    refine sg_loop (γ := Nat × PlS × BkS) (fun x => PI (fun _ => 0) x.2.1 x.2.2 ∧ x.2.1.rows.length + x.1 ≤ 6 ∧ Fit x.2.1 x.2.2 (400 + x.1)) (fun x => [(8, dp p), (19, i64 x.1)]) (fun x => [PoolRep p b x.2.1, BackRep b x.2.2, old W]) (fun x => 6 - x.1) (0, S, B)
      ⟨hI, by show S.rows.length + 0 ≤ 6; omega, hF.mono (by show _ ≤ 400 + 0; omega)⟩ (.cons rfl (.cons rfl .nil)) (fun w hO => hO.tail) ?_
    rintro ⟨i, S, B⟩ ⟨hI, hli, hF⟩
    dsimp only at hI hli hF ⊢
    repeat' (first | refine sg_wo ?_ | refine sg_ps (ps_move rfl) rfl ?_ | refine sg_seq ?_ | refine sg_region ?_ | refine sg_ps (ps_bin rfl rfl inferInstance) rfl ?_ | refine sg_guard_yes rfl rfl ?_ | (refine sg_guard_dec rfl rfl (fun hg => ?_) (fun hg => ?_) <;> first | (exfalso; omega) | (exact absurd rfl hg) | skip))
    refine sg_call (plen_tri p b S _) rfl rfl (fun _ _ => ?_)
    by_cases hz : S.rows.length = 0
    · have hev : evictS S B = ((0, 5), S, B) := by unfold evictS; rw [if_pos (nil_len hz)]
      rw [hz]
      repeat' (first | refine sg_wo ?_ | refine sg_ps (ps_move rfl) rfl ?_ | refine sg_seq ?_ | refine sg_region ?_ | refine sg_nil ?_ | refine sg_then ?_ | refine sg_ps (ps_bin rfl rfl inferInstance) rfl ?_ | refine sg_cond_f rfl ?_ | refine sg_guard_yes rfl rfl ?_ | refine sg_ps (ps_pick_t rfl rfl) rfl ?_ | refine sg_exit ?_ | refine ex_then_exit ?_ | refine ex_block_hit ?_)
      refine sg_call (pevict_tri p b S B _ hF (by omega)) rfl rfl (fun _ _ => ?_)
      rw [hev]
      repeat' (first | refine sg_wo ?_ | refine sg_ps (ps_move rfl) rfl ?_ | refine sg_ps (ps_assign rfl) rfl ?_ | refine sg_seq ?_ | refine sg_region ?_ | refine sg_nil ?_ | refine sg_then ?_ | refine sg_ps (ps_extract rfl rfl) rfl ?_)
      refine sg_call (plen_tri p b S _) rfl rfl (fun _ _ => ?_)
      rw [hz]
      repeat' (first | refine sg_wo ?_ | refine sg_ps (ps_move rfl) rfl ?_ | refine sg_ps (ps_assign rfl) rfl ?_ | refine sg_nil ?_ | refine sg_then ?_ | refine sg_ps (ps_bin rfl rfl inferInstance) rfl ?_ | refine sg_guard_yes rfl rfl ?_ | refine sg_ps (ps_pick_t rfl rfl) rfl ?_ | refine sg_ret ?_)
      exact ex_ret1 rfl rfl () rfl trivial (fun w hO => hO.tail.tail)
    · have hh : S.hand < S.rows.length := by
        rcases hF.hand with h | ⟨h, _⟩
        · exact h
        · rw [h] at hz; exact absurd rfl hz
      have hev := evict_free (B := B) hI.nd hI.free hh
      have hec := evict_clean (B := B) hI.nd
      have hpe := hI.keeps (S' := (evictS S B).2.1) (B' := (evictS S B).2.2) (by rw [hec.1]) hec.2
      have hef := evict_fit hF
      have hel := evict_less hF hev
      repeat' (first | refine sg_wo ?_ | refine sg_ps (ps_move rfl) rfl ?_ | refine sg_seq ?_ | refine sg_region ?_ | refine sg_nil ?_ | refine sg_then ?_ | refine sg_ps (ps_bin rfl rfl inferInstance) rfl ?_ | refine sg_guard_yes rfl rfl ?_ | refine sg_ps (ps_pick_t rfl rfl) rfl ?_ | refine sg_block ?_ | refine sg_skip ?_ | (refine sg_cond_dec rfl (fun hg => ?_) (fun hg => ?_) <;> first | (exfalso; omega) | (exact absurd rfl hg) | skip))
      refine sg_call (pevict_tri p b S B _ hF (by omega)) rfl rfl (fun _ _ => ?_)
      rw [hev]
      repeat' (first | refine sg_wo ?_ | refine sg_ps (ps_move rfl) rfl ?_ | refine sg_ps (ps_assign rfl) rfl ?_ | refine sg_seq ?_ | refine sg_region ?_ | refine sg_nil ?_ | refine sg_then ?_ | refine sg_ps (ps_add64 rfl rfl (by omega)) rfl ?_ | refine sg_ps (ps_bin rfl rfl inferInstance) rfl ?_ | refine sg_cond_f rfl ?_ | refine sg_ps (ps_extract rfl rfl) rfl ?_ | refine sg_skip ?_ | refine ex_block_normal ?_)
      exact ex_mid (i + 1, (evictS S B).2.1, (evictS S B).2.2) ⟨by show 6 - (i + 1) < 6 - i; omega, hpe, by show (evictS S B).2.1.rows.length + (i + 1) ≤ 6; omega, hef.mono (by show _ ≤ 400 + (i + 1); omega)⟩
        (.cons rfl (.cons rfl .nil)) (fun w hO => hO)
theorem poolPins_opened (W : World) (vs : List Value) (h : Opens Try.prog W Try.f3.params.toList vs) :
    Tri Try.prog W 3 vs [old W] (X := Unit) (fun _ => .bool true) (fun _ => True) (fun _ => [old W]) := by
  obtain ⟨a0, c0, vs, rfl, e0, h⟩ := Opens.cons (RT.int .i64 Try.underlying3) h
  obtain ⟨a1, c1, vs, rfl, e1, h⟩ := Opens.cons (RT.slice 1 8 Try.underlying22 (by kernel_rfl) (by kernel_rfl) (RT.int .i64 Try.underlying3)) h
  obtain ⟨a2, c2, vs, rfl, e2, h⟩ := Opens.cons (RT.slice 1 8 Try.underlying22 (by kernel_rfl) (by kernel_rfl) (RT.int .i64 Try.underlying3)) h
  obtain rfl := Opens.nil h
  obtain ⟨rfl, hw⟩ := e0
  obtain ⟨ad1, cap1, rfl, _, _, h1, r1⟩ := SliceE.one (.int .i64) (fun x vs h => h.1) e1
  obtain ⟨ad2, cap2, rfl, _, _, h2, r2⟩ := SliceE.one (.int .i64) (fun x vs h => h.1) e2
  exact poolPins_tri a0 ad1 ad2 cap1 cap2 a1 a2 r1 r2 (by omega) (by omega)
set_option maxRecDepth 100000 in
theorem poolPins_lifted (os : Os) (started : os.Started) (H : Type) (enc : TypeId × Value → H) :
    ReturnsInHanded {} Try.checked os 3 .any (Rows.poolPinsSpec.pre6 enc Try.prog Try.f3 Rows.poolPinsRow.domain false) (Rows.poolPinsSpec.post enc Try.prog Try.f3 false true false false) :=
  lift (tb := 4) started law_own law_laidOut (by kernel_rfl) Try.func3
    (ChangeSpec.witness6 (enc := enc) (C := Try.checked) false ⟨#[], #[.int .i64 0, .slice none 0 0, .slice none 0 0], []⟩ 8 (by kernel_rfl) (by kernel_rfl) (by kernel_rfl) (by kernel_rfl))
    rfl rfl Try.underlying4 (by kernel_rfl) (fun ds h => by
      match ds, h with
      | [d1, d2, d3], _ => rfl) poolPins_opened
theorem poolPins_over : Rows.poolPinsRow.holds Try.pinned (OpenSpec.ofChange Rows.poolPinsSpec) :=
  OpenClaim.holds_of_wide 3 Try.f3 rfl rfl rfl rfl rfl rfl rfl ⟨rfl, rfl, rfl, rfl, rfl⟩ rfl rfl rfl rfl rfl (by kernel_rfl) Try.func3 (by kernel_rfl)
    (of_decide_eq_true (by kernel_rfl)) (by unfold Func.isWrapper; first | (rw [if_pos (by decide +kernel)]; kernel_rfl) | (rw [if_neg (by decide +kernel)]; exact ⟨rfl, rfl⟩))
    (fun os started H enc _ => poolPins_lifted os started H enc)
theorem poolPins_proved : Rows.PoolPinsSaid := poolPins_over
#print axioms poolPins_proved
end Go.Proofs.Ytclehoaeppbmpaa
