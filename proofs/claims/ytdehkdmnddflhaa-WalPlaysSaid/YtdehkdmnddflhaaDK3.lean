/- Crash of package disk. -/
import Derived.Test.YtdehkdmnddflhaaDK2
namespace Go.Proofs.Ytdehkdmnddflhaa
set_option linter.unusedVariables false
set_option linter.unusedSimpArgs false
set_option linter.unusedSectionVars false
set_option linter.unnecessarySimpa false
open Go Go.Proofs
set_option maxRecDepth 20000
set_option maxHeartbeats 4000000
attribute [local irreducible] SG WC WO W1 WD PS Rd Tri Exit.then Exit.inBlock bodyPost calmQ Mid
variable {W : World}

theorem rd_sown_at {L : List HP} (i : Nat) {g o n c sz : Nat} {xs vs : List Value} (hL : L[i]? = some (sown (some ⟨g, 0, none⟩) n c sz xs)) (hv : ∀ (j : Nat) (u : Value), vs[j]? = some u → xs[o + j]? = some u) : Rd W L (some ⟨g, o, none⟩) vs := by
  have h := (rd_sown (W := W) (vs := xs) i hL (fun j u h => h)).at o hv
  rwa [Nat.zero_add] at h
theorem Own.sownSome {w : World} {a : Option Addr} {n c sz : Nat} {xs : List Value} {L : List HP} (hO : Own W w (sown a n c sz xs :: L)) (hn : 0 < n) : ∃ g, a = some ⟨g, 0, none⟩ := by
  obtain ⟨_, ⟨_, h, _⟩ | ⟨g, h, _⟩⟩ := hO.sownCells
  · omega
  · exact ⟨g, h⟩

theorem back_step (seen : List (List UInt8)) (w : List (Nat × List UInt8 × List UInt8)) (k : Nat) (hk : k < w.length) : back seen (w.drop k) = (back seen (w.drop (k + 1))).set w[k].1 w[k].2.1 := by
  rw [List.drop_eq_getElem_cons hk]; rfl
theorem back_length (seen : List (List UInt8)) : ∀ w, (back seen w).length = seen.length
  | [] => rfl
  | p :: l => by simp [back, back_length seen l]
theorem back_sec {seen : List (List UInt8)} {m : Nat} (hs : ∀ s ∈ seen, s.length = m) : ∀ w : List (Nat × List UInt8 × List UInt8), (∀ p ∈ w, p.2.1.length = m) → ∀ s ∈ back seen w, s.length = m
  | [], _, s, h => hs s h
  | p :: l, hw, s, h => by
    rcases List.mem_or_eq_of_mem_set h with h | h
    · exact back_sec hs l (fun q hq => hw q (by simp [hq])) s h
    · rw [h]; exact hw p (by simp)
theorem fore_snoc (keep : List Int) (p : Nat × List UInt8 × List UInt8) : ∀ (l : List (Nat × List UInt8 × List UInt8)) (seen : List (List UInt8)) (k : Nat), fore seen keep k (l ++ [p]) = if keepOf keep (k + l.length) then (fore seen keep k l).set p.1 p.2.2 else fore seen keep k l
  | [], seen, k => by simp [fore]
  | q :: l, seen, k => by
    simp only [List.cons_append, fore]
    rw [fore_snoc keep p l]
    simp only [List.length_cons, show k + 1 + l.length = k + (l.length + 1) by omega]
theorem fore_length (keep : List Int) : ∀ (w : List (Nat × List UInt8 × List UInt8)) (seen : List (List UInt8)) (k : Nat), (fore seen keep k w).length = seen.length
  | [], _, _ => rfl
  | p :: l, seen, k => by simp only [fore]; rw [fore_length keep l]; split <;> simp
theorem fore_sec {m : Nat} (keep : List Int) : ∀ (w : List (Nat × List UInt8 × List UInt8)) (seen : List (List UInt8)) (k : Nat), (∀ s ∈ seen, s.length = m) → (∀ p ∈ w, p.2.2.length = m) → ∀ s ∈ fore seen keep k w, s.length = m
  | [], _, _, hs, _, s, h => hs s h
  | p :: l, seen, k, hs, hw, s, h => by
    refine fore_sec keep l _ (k + 1) ?_ (fun q hq => hw q (by simp [hq])) s h
    intro s hs'
    split at hs'
    · rcases List.mem_or_eq_of_mem_set hs' with h | h
      · exact hs s h
      · rw [h]; exact hw p (by simp)
    · exact hs s hs'
theorem and_one (x : Int) : IntKind.i64.wrap ((BitVec.ofInt IntKind.i64.bits x &&& BitVec.ofInt IntKind.i64.bits 1).toNat : Int) = x % 2 := by
  have h1 : (BitVec.ofInt IntKind.i64.bits x &&& BitVec.ofInt IntKind.i64.bits 1).toNat = (x % 2).toNat := by
    show (BitVec.ofInt 64 x &&& BitVec.ofInt 64 1).toNat = _
    rw [BitVec.toNat_and, show (BitVec.ofInt 64 1).toNat = 1 from rfl, Nat.and_one_is_mod, BitVec.toNat_ofInt]
    omega
  rw [h1, IntWalk.i64_in _ (by omega)]
  omega
theorem wait_get {S : DS} (hS : S.ok) {k : Nat} (hk : k < S.wait.length) (j : Nat) (hj : j < 129) : (S.wait.flatMap wcells)[k * 129 + j]? = (wcells S.wait[k])[j]? :=
  flat_get 129 wcells S.wait k j S.wait[k] (fun p hp => by have := hS.wt p hp; simp [wcells, this.2.1, this.2.2]) (by simp) hj

theorem tmod_two (x : Int) : x.tmod 2 = 0 ↔ x % 2 = 0 := by
  constructor
  · intro h; have := Int.dvd_of_tmod_eq_zero h; omega
  · intro h; exact Int.tmod_eq_zero_of_dvd (by omega)
theorem rd_wait {L : List HP} {S : DS} (i : Nat) {g k c o off : Nat} {vs : List Value} (hS : S.ok) (hL : L[i]? = some (sown (some ⟨g, 0, none⟩) S.wait.length c 129 (S.wait.flatMap wcells))) (hk : k < S.wait.length) (ho : o = k * 129 + off) (hoff : off + vs.length ≤ 129)
    (hv : ∀ (j : Nat) (u : Value), vs[j]? = some u → (wcells S.wait[k])[off + j]? = some u) : Rd W L (some ⟨g, o, none⟩) vs := by
  subst ho
  refine rd_sown_at i hL (fun j u hj => ?_)
  have hlt := (List.getElem?_eq_some_iff.1 hj).1
  rw [Nat.add_assoc, wait_get hS hk _ (by omega)]
  exact hv j u hj
theorem crash_tri (d : Nat) (S : DS) (keep : List Int) (ka : Option Addr) (kc : Nat) (R : List HP) (hr : Rd W R ka (keep.map (Value.int .i64))) (hkl : keep.length ≤ 1152921504606846976) (hwl : S.wait.length ≤ 1000000) :
    Tri Try.prog W 24 [dp d, .slice ka keep.length kc] (DiskRep d S :: R) (X := Unit) (fun _ => .tuple #[]) (fun _ => True) (fun _ => DiskRep d (S.crash keep) :: R) := by
  refine tri_enter2 Try.func24 rfl Try.ntmps24 rfl ?_
  refine DiskRep.open fun sb wa wc hS => ?_
  repeat' (first | refine sg_wo ?_ | refine sg_ps (ps_move rfl) rfl ?_ | refine sg_ps (ps_assign rfl) rfl ?_ | refine sg_seq ?_ | refine sg_region ?_ | refine sg_nil ?_ | refine sg_then ?_ | refine sg_ps (ps_fieldAddr rfl) rfl ?_ | refine sg_ps (ps_nilCheck rfl) rfl ?_ | refine sg_load 0 rfl rfl rfl rfl ?_ | refine sg_ps (ps_sub64 rfl rfl (by omega)) rfl ?_ | refine sg_ps (ps_bin rfl rfl inferInstance) rfl ?_ | refine sg_cond_f rfl ?_ | refine sg_ps (ps_len rfl) rfl ?_ | refine sg_block ?_ | refine sg_skip ?_)
  refine sg_loop (γ := Nat) (fun g => g ≤ S.wait.length) (fun g => [(0, dp d), (1, .slice ka keep.length kc), (4, i64 ((g : Int) - 1))])
    (fun g => blk d (dcells S sb wa wc) :: blk sb ((back S.seen (S.wait.drop g)).flatMap (·.map bv)) :: sown wa S.wait.length wc 129 (S.wait.flatMap wcells) :: R) (fun g => g)
    S.wait.length (Nat.le_refl _) (.cons rfl (.cons rfl (.cons rfl .nil))) (fun w hO => by rw [List.drop_length]; exact hO) ?_
  intro g hg
  repeat' (first | refine sg_wo ?_ | refine sg_ps (ps_move rfl) rfl ?_ | refine sg_seq ?_ | refine sg_region ?_ | refine sg_nil ?_ | refine sg_then ?_ | refine sg_ps (ps_fieldAddr rfl) rfl ?_ | refine sg_ps (ps_nilCheck rfl) rfl ?_ | refine sg_load 0 rfl rfl rfl rfl ?_ | refine sg_ps (ps_bin rfl rfl inferInstance) rfl ?_ | refine sg_ps (ps_len rfl) rfl ?_ | refine sg_block ?_ | refine sg_skip ?_ | refine sg_exit ?_ | refine ex_then_exit ?_ | refine ex_block_hit ?_ | (refine sg_cond_dec rfl (fun hg => ?_) (fun hg => ?_) <;> first | (exfalso; omega) | (exact absurd rfl hg) | skip))
  · obtain ⟨g, rfl⟩ : ∃ m, g = m + 1 := ⟨g - 1, by omega⟩
    have e : (((g + 1 : Nat) : Int) - 1) = (g : Int) := by omega
    rw [e]
    have hgl : g < S.wait.length := by omega
    refine sg_front2 ?_
    refine sg_open (φ := fun gb => wa = some ⟨gb, 0, none⟩) (fun w hO => (hO.sownSome (by omega)).imp fun x hx => ⟨hx, hO⟩) ?_
    rintro gb rfl
    refine sg_draw [0, 1, 2, 4, 5, 6, 8, 12, 13, 14, 16, 3, 7, 9, 10, 11, 15, 17, 18, 19, 20, 21] (by kernel_rfl) (by kernel_rfl) ?_
    have hw1 := hS.wt _ (List.getElem_mem hgl)
    have hwl : wcells S.wait[g] = .int .i64 (S.wait[g].1 : Int) :: (S.wait[g].2.1.map bv ++ S.wait[g].2.2.map bv) := rfl
    have hw2 := hw1.1
    repeat' (first | refine sd_pure rfl rfl (ps_move rfl) rfl ?_ | refine sd_pure rfl rfl (ps_nilCheck rfl) rfl ?_ | refine sd_pure rfl rfl (ps_fieldAddr rfl) rfl ?_ | refine sd_pure rfl rfl (ps_indexAddr rfl rfl rfl (by omega)) rfl ?_ | refine sd_load 1 rfl rfl rfl rfl rfl ?_)
    refine sd_load_rd rfl rfl (rd_wait (off := 0) (vs := [i64 S.wait[g].1]) 0 hS rfl hgl (by omega) (by simp) (fun j u hj => ?_)) rfl ?_
    · match j, hj with
      | 0, hj => rw [hwl]; exact hj
    repeat' (first | refine sd_pure rfl rfl (ps_fieldAddr rfl) rfl ?_ | refine sd_pure rfl rfl (ps_indexAddr rfl rfl rfl (by omega)) rfl ?_ | refine sd_load 1 rfl rfl rfl rfl rfl ?_)
    refine sd_load_agg rfl rfl (vs := S.wait[g].2.1.map bv) (by rw [List.length_map]; exact hw1.2.1) (rd_wait (off := 1) 0 hS rfl hgl (by omega) (by rw [List.length_map, hw1.2.1]; omega) (fun j u hj => ?_)) rfl ?_
    · rw [hwl, Nat.add_comm 1 j, List.getElem?_cons_succ, List.getElem?_append_left (List.getElem?_eq_some_iff.1 hj).1]; exact hj
    repeat' (first | refine sd_pure rfl rfl (ps_indexAddr rfl rfl rfl (by omega)) rfl ?_ | refine sd_eff rfl rfl ?_)
    have hbl : (back S.seen (S.wait.drop (g + 1))).length = S.seen.length := back_length _ _
    have hbs : ∀ s ∈ back S.seen (S.wait.drop (g + 1)), s.length = 64 := back_sec hS.sec _ (fun p hp => (hS.wt p (List.mem_of_mem_drop hp)).2.1)
    have hwl2 : (S.wait[g].2.1.map bv).length = 64 := by rw [List.length_map]; exact hw1.2.1
    refine sg_store_agg [_, _] rfl rfl hwl2 bv_one (by rw [hwl2, flat_length 64 _ _ (fun s hs => by simp [hbs s hs]), hbl]; omega) ?_
    rw [Nat.zero_add, flat_set 64 (fun s : List UInt8 => s.map bv) _ _ S.wait[g].2.1 (fun s hs => by simp [hbs s hs]) (by rw [hbl]; exact hw2) hwl2, ← back_step _ _ _ hgl]
    repeat' (first | refine sd_nil ?_)
    repeat' (first | refine sg_wo ?_ | refine sg_ps (ps_move rfl) rfl ?_ | refine sg_ps (ps_assign rfl) rfl ?_ | refine sg_region ?_ | refine sg_nil ?_ | refine sg_then ?_ | refine sg_ps (ps_sub64 rfl rfl (by omega)) rfl ?_ | refine ex_block_normal ?_)
    refine ex_mid g ⟨by omega, by omega⟩ (.cons rfl (.cons rfl (.cons rfl .nil))) (fun w hO => ?_)
    exact Own.back2 hO
  · obtain rfl : g = 0 := by omega
    rw [List.drop_zero]
    refine sg_loop (γ := Nat) (fun g => g ≤ S.wait.length) (fun g => [(0, dp d), (1, .slice ka keep.length kc), (43, .slice wa S.wait.length wc), (44, i64 S.wait.length), (45, i64 (g : Int))])
      (fun g => blk d (dcells S sb wa wc) :: blk sb ((fore (back S.seen S.wait) keep 0 (S.wait.take g)).flatMap (·.map bv)) :: sown wa S.wait.length wc 129 (S.wait.flatMap wcells) :: R) (fun g => S.wait.length - g)
      0 (Nat.zero_le _) (.cons rfl (.cons rfl (.cons rfl (.cons rfl (.cons rfl .nil))))) (fun w hO => by rw [List.take_zero]; exact hO) ?_
    intro k hk
    have hbl : (fore (back S.seen S.wait) keep 0 (S.wait.take k)).length = S.seen.length := by rw [fore_length, back_length]
    have hbs : ∀ s ∈ fore (back S.seen S.wait) keep 0 (S.wait.take k), s.length = 64 := fore_sec keep _ _ 0 (back_sec hS.sec _ (fun p hp => (hS.wt p hp).2.1)) (fun p hp => (hS.wt p (List.mem_of_mem_take hp)).2.2)
    repeat' (first | refine sg_wo ?_ | refine sg_ps (ps_move rfl) rfl ?_ | refine sg_seq ?_ | refine sg_region ?_ | refine sg_nil ?_ | refine sg_then ?_ | refine sg_ps (ps_fieldAddr rfl) rfl ?_ | refine sg_ps (ps_nilCheck rfl) rfl ?_ | refine sg_ps (ps_bin rfl rfl inferInstance) rfl ?_ | refine sg_block ?_ | refine sg_skip ?_ | refine sg_exit ?_ | refine ex_then_exit ?_ | refine ex_block_hit ?_ | refine sg_store [] rfl rfl rfl (of_decide_eq_true rfl) ?_ | (refine sg_cond_dec rfl (fun hg => ?_) (fun hg => ?_) <;> first | (exfalso; omega) | (exact absurd rfl hg) | skip))
    · have hkl : k < S.wait.length := by omega
      have hw1 := hS.wt _ (List.getElem_mem hkl)
      have hwl : wcells S.wait[k] = .int .i64 (S.wait[k].1 : Int) :: (S.wait[k].2.1.map bv ++ S.wait[k].2.2.map bv) := rfl
      have hw2 := hw1.1
      have h129 : (wcells S.wait[k]).length = 129 := by rw [hwl]; simp [hw1.2.1, hw1.2.2]
      have hone : ∀ u ∈ wcells S.wait[k], u.oneCell' = true := by
        intro u hu; rw [hwl] at hu; simp only [List.mem_cons, List.mem_append] at hu
        rcases hu with rfl | hu | hu
        · rfl
        · exact bv_one u hu
        · exact bv_one u hu
      have hstep : S.wait.take (k + 1) = S.wait.take k ++ [S.wait[k]] := by simp
      have htl : (S.wait.take k).length = k := by rw [List.length_take]; omega
      refine sg_front2 ?_
      refine sg_open (φ := fun gb => wa = some ⟨gb, 0, none⟩) (fun w hO => (hO.sownSome (by omega)).imp fun x hx => ⟨hx, hO⟩) ?_
      rintro gb rfl
      repeat' (first | refine sg_wo ?_ | refine sg_ps (ps_indexAddr rfl rfl rfl (by omega)) rfl ?_)
      refine sg_load_agg_rd rfl h129 (rd_wait (off := 0) 0 hS rfl hkl (by omega) (by rw [h129]; exact Nat.le_refl _) (fun j u hj => by rw [Nat.zero_add]; exact hj)) rfl ?_
      refine sg_wo (sg_alloc rfl (fun p => ?_))
      repeat' (first | refine sg_wo ?_ | refine sg_ps (ps_assign rfl) rfl ?_)
      refine sg_store_agg [] rfl rfl h129 hone (by rw [h129]; simp [Value.cells]) ?_
      rw [splice_full _ _ (by rw [h129]; simp [Value.cells])]
      by_cases hkk : k < keep.length
      · refine sg_rd_some (Rd.mono (Rd.mono (Rd.mono (Rd.mono hr)))) (by intro e; have := congrArg List.length e; rw [List.length_map, List.length_nil] at this; omega) ?_
        rintro kb ko rfl
        repeat' (first | refine sg_wo ?_ | refine sg_ps (ps_move rfl) rfl ?_ | refine sg_seq ?_ | refine sg_region ?_ | refine sg_nil ?_ | refine sg_then ?_ | refine sg_ps (ps_bin rfl rfl inferInstance) rfl ?_ | refine sg_guard_yes rfl rfl ?_ | refine sg_ps (ps_len rfl) rfl ?_ | refine sg_ps (ps_indexAddr rfl rfl rfl (by omega)) rfl ?_ | (refine sg_guard_dec rfl rfl (fun hg => ?_) (fun hg => ?_) <;> first | (exfalso; omega) | (exact absurd rfl hg) | skip))
        have hrk := Rd.at hr (k * 1) (ws := [i64 keep[k]]) (fun j u hj => by match j, hj with | 0, hj => simp at hj ⊢; rw [List.getElem?_eq_getElem hkk]; simpa using hj)
        refine sg_load_rd rfl (Rd.mono (Rd.mono (Rd.mono (Rd.mono hrk)))) rfl ?_
        have hko : keepOf keep k = decide (keep[k] % 2 = 1) := by
          unfold keepOf; rw [List.getElem?_eq_getElem hkk]; simp only []
          have := tmod_two keep[k]
          rw [Bool.eq_iff_iff, bne_iff_ne, decide_eq_true_iff, ne_eq, this]; omega
        refine sg_wo (sg_guard_yes rfl rfl (sg_ps (ps_bin rfl rfl inferInstance) rfl ?_))
        rw [and_one]
        repeat' (first | refine sg_wo ?_ | refine sg_ps (ps_move rfl) rfl ?_ | refine sg_region ?_ | refine sg_nil ?_ | refine sg_then ?_ | refine sg_ps (ps_add64 rfl rfl (by omega)) rfl ?_ | refine sg_ps (ps_bin rfl rfl inferInstance) rfl ?_ | refine sg_guard_yes rfl rfl ?_ | refine sg_ps (ps_pick_t rfl rfl) rfl ?_ | refine sg_skip ?_ | refine ex_block_normal ?_ | (refine sg_cond_dec rfl (fun hg => ?_) (fun hg => ?_) <;> first | (exfalso; omega) | (exact absurd rfl hg) | skip))
        · have hnow : (S.wait[k].2.2.map bv).length = 64 := by rw [List.length_map]; exact hw1.2.2
          refine sg_draw [0, 1, 2, 4, 6, 3, 5, 7, 8, 9] (by kernel_rfl) (by kernel_rfl) ?_
          repeat' (first | refine sd_pure rfl rfl (ps_move rfl) rfl ?_ | refine sd_pure rfl rfl (ps_nilCheck rfl) rfl ?_ | refine sd_pure rfl rfl (ps_fieldAddr rfl) rfl ?_ | refine sd_load 0 rfl rfl rfl rfl rfl ?_ | refine sd_load 2 rfl rfl rfl rfl rfl ?_)
          refine sd_load_agg rfl rfl hnow (rd_blk 0 rfl (fun j u hj => by rw [hwl, show 0 + 65 + j = (64 + j) + 1 by omega, List.getElem?_cons_succ, List.getElem?_append_right (by rw [List.length_map, hw1.2.1]; omega), List.length_map, hw1.2.1, Nat.add_sub_cancel_left]; exact hj)) rfl ?_
          repeat' (first | refine sd_pure rfl rfl (ps_indexAddr rfl rfl rfl (by omega)) rfl ?_ | refine sd_eff rfl rfl ?_)
          refine sg_store_agg [_, _, _] rfl rfl hnow bv_one (by rw [hnow, flat_length 64 _ _ (fun s hs => by simp [hbs s hs]), hbl]; omega) ?_
          rw [Nat.zero_add, flat_set 64 (fun s : List UInt8 => s.map bv) _ _ S.wait[k].2.2 (fun s hs => by simp [hbs s hs]) (by rw [hbl]; exact hw2) hnow]
          repeat' (first | refine sd_nil ?_)
          repeat' (first | refine sg_wo ?_ | refine sg_ps (ps_move rfl) rfl ?_ | refine sg_region ?_ | refine sg_nil ?_ | refine sg_then ?_ | refine sg_ps (ps_add64 rfl rfl (by omega)) rfl ?_ | refine ex_block_normal ?_)
          refine ex_mid (k + 1) ⟨by omega, by omega⟩ (.cons rfl (.cons rfl (.cons rfl (.cons rfl (.cons rfl .nil))))) (fun w hO => ?_)
          rw [hstep, fore_snoc, htl, Nat.zero_add, hko, decide_eq_true (by assumption), if_pos rfl]
          exact Own.back2 (Own.tail hO)
        · skip
          refine ex_mid (k + 1) ⟨by omega, by omega⟩ (.cons rfl (.cons rfl (.cons rfl (.cons rfl (.cons rfl .nil))))) (fun w hO => ?_)
          rw [hstep, fore_snoc, htl, Nat.zero_add, hko, decide_eq_false (by assumption), if_neg (by simp)]
          exact Own.back2 (Own.tail hO)
      · skip
        repeat' (first | refine sg_wo ?_ | refine sg_ps (ps_move rfl) rfl ?_ | refine sg_seq ?_ | refine sg_region ?_ | refine sg_nil ?_ | refine sg_then ?_ | refine sg_ps (ps_add64 rfl rfl (by omega)) rfl ?_ | refine sg_ps (ps_bin rfl rfl inferInstance) rfl ?_ | refine sg_cond_f rfl ?_ | refine sg_guard_nf rfl rfl rfl ?_ | refine sg_ps (ps_pick_f rfl rfl) rfl ?_ | refine sg_ps (ps_len rfl) rfl ?_ | refine sg_skip ?_ | refine ex_block_normal ?_ | (refine sg_guard_dec rfl rfl (fun hg => ?_) (fun hg => ?_) <;> first | (exfalso; omega) | (exact absurd rfl hg) | skip))
        have hko : keepOf keep k = false := by
          unfold keepOf; rw [List.getElem?_eq_none (by omega)]
        refine ex_mid (k + 1) ⟨by omega, by omega⟩ (.cons rfl (.cons rfl (.cons rfl (.cons rfl (.cons rfl .nil))))) (fun w hO => ?_)
        rw [hstep, fore_snoc, htl, Nat.zero_add, hko, if_neg (by simp)]
        exact Own.back2 (Own.tail hO)
    · obtain rfl : k = S.wait.length := by omega
      rw [List.take_length] at hbl hbs ⊢
      refine ex_end0 rfl () rfl trivial (fun w hO => ?_)
      exact DiskRep.shut (S := S.crash keep) (wa := none) (wc := 0) ⟨by show 8 ≤ (fore _ _ _ _).length ∧ (fore _ _ _ _).length ≤ 4096; rw [hbl]; exact hS.n, hbs, (by intro p hp; cases hp), by show (-1 : Int) ≤ -1 ∧ (-1 : Int) ≤ 9223372036854775807; omega⟩
        (by rw [show dcells (S.crash keep) sb none 0 = [.slice (some ⟨sb, 0, none⟩) S.seen.length S.seen.length, .slice none 0 0, .int .i64 (-1), .bool false, .int .i64 S.writes, .int .i64 S.syncs] by simp only [dcells, DS.crash, hbl]; rfl]
            exact (own_nil (Own.front2 hO).tail).back2)
end Go.Proofs.Ytdehkdmnddflhaa
