/- slices.Replace, over stretches. -/
import Derived.Test.YtcchgkjcoknkcaaEX1
namespace Go.Proofs.Ytcchgkjcoknkcaa
set_option linter.unusedVariables false
set_option linter.unusedSimpArgs false
set_option linter.unusedSectionVars false
set_option linter.unnecessarySimpa false
open Go Go.Proofs
set_option maxRecDepth 20000
set_option maxHeartbeats 4000000
attribute [local irreducible] SG WC WO W1 WD WK PS Rd Tri Exit.then Exit.inBlock bodyPost calmQ Mid sadd
variable {W : World} {n : Nat} {F : Fr} {L : List HP} {G : Act → World → Prop}
theorem replace_tri (xs vs : List Value) (a va : Option Addr) (k c m vc i j : Nat) (R : List HP) (hij : i ≤ j) (hj : j ≤ k) (hk : k + m ≤ 5000) (hm : i = j → 1 ≤ m) (h1 : ∀ u ∈ xs, u.oneCell' = true) (h2 : ∀ u ∈ vs, u.oneCell' = true) (hvl : vs.length = m * 2) (hxl : xs.length = k * 2) :
    Tri Try.prog W 23 [.slice a k c, i64 i, i64 j, .slice va m vc] (sown0 va m vc 2 vs :: sown a k c 2 xs :: R) (X := Option Addr × Nat) (fun y => .slice y.1 (i + m + (k - j)) y.2) (fun _ => True)
      (fun y => sown y.1 (i + m + (k - j)) y.2 2 (xs.take (i * 2) ++ vs ++ xs.drop (j * 2)) :: R) := by
  refine tri_enter4 Try.func23 rfl Try.ntmps23 rfl ?_
  refine sg_capc [_] fun hkc hcm _ => ?_
  rw [List.singleton_append]
  repeat' (first | refine sg_wo ?_ | refine sg_ps (ps_move rfl) rfl ?_ | refine sg_ps (ps_assign rfl) rfl ?_ | refine sg_seq ?_ | refine sg_region ?_ | refine sg_nil ?_ | refine sg_then ?_)
  refine sg_ps (ps_slice_lh (l := i) (h' := j) rfl rfl rfl rfl rfl hij (by omega)) rfl ?_
  have hdl : (xs.drop (j * 2)).length = k * 2 - j * 2 := by rw [List.length_drop, hxl]
  have h1d : ∀ u ∈ xs.drop (j * 2), u.oneCell' = true := fun u hu => h1 u (List.mem_of_mem_drop hu)
  repeat' (first | refine sg_wo ?_ | refine sg_ps (ps_move rfl) rfl ?_ | refine sg_seq ?_ | refine sg_region ?_ | refine sg_nil ?_ | refine sg_then ?_ | refine sg_ps (ps_bin rfl rfl inferInstance) rfl ?_ | refine sg_ps (ps_len rfl) rfl ?_ | refine sg_skip ?_ | (refine sg_cond_dec rfl (fun hg => ?_) (fun hg => ?_) <;> first | (exfalso; omega) | (exact absurd rfl hg) | skip))
  · obtain rfl : i = j := by omega
    refine sg_call (insert_tri xs vs a va k c m vc i R (hm rfl) hj hk h1 h2 hvl hxl) rfl rfl (fun y _ => ?_)
    obtain ⟨a', c'⟩ := y
    dsimp only
    repeat' (first | refine sg_wo ?_ | refine sg_ps (ps_assign rfl) rfl ?_ | refine sg_nil ?_ | refine sg_then ?_ | refine sg_ret ?_ | refine ex_then_ret ?_)
    have e : k + m = i + m + (k - i) := by omega
    rw [e]
    exact ex_ret1 rfl rfl (a', c') rfl trivial (fun w hO => hO)
  · obtain rfl : j = k := by omega
    have hij2 : i < j := by omega
    have hdr : xs.drop (j * 2) = [] := List.drop_of_length_le (by omega)
    rw [hdr, List.append_nil]
    have e : i + m + (j - j) = i + m := by omega
    rw [e]
    refine sg_ps (ps_slice_h (h' := i) rfl rfl rfl (by omega)) rfl ?_
    repeat' (first | refine sg_wo ?_ | refine sg_ps (ps_move rfl) rfl ?_)
    by_cases hr : i + m ≤ c
    · refine sg_blockc [_] (by omega) fun g cur ha _ _ hcl htk => ?_
      subst ha
      have htk2 := take_of_take htk (show i * 2 ≤ j * 2 by omega)
      refine sg_append_in [_] rfl rfl rfl hvl h2 (rd_sown0 0 rfl) hr hcl ?_
      have hend := splice_end cur vs _ (i * 2) ((i + m) * 2) htk2 (by omega) (by omega)
      repeat' (first | refine sg_wo ?_ | refine sg_ps (ps_move rfl) rfl ?_ | refine sg_ps (ps_assign rfl) rfl ?_ | refine sg_seq ?_ | refine sg_region ?_ | refine sg_nil ?_ | refine sg_then ?_ | refine sg_ps (ps_bin rfl rfl inferInstance) rfl ?_ | refine sg_ps (ps_len rfl) rfl ?_ | refine sg_skip ?_ | refine sg_ret ?_ | refine ex_then_ret ?_ | (refine sg_cond_dec rfl (fun hg => ?_) (fun hg => ?_) <;> first | (exfalso; omega) | (exact absurd rfl hg) | skip))
      · obtain ⟨l, hl⟩ : ∃ l, j - (i + m) = l + 1 := ⟨j - (i + m) - 1, by omega⟩
        refine sg_ps (ps_slice_l0 (l := i + m) rfl rfl (by omega) (by omega) (by omega)) rfl ?_
        rw [hl]
        refine sg_wo ?_
        refine sg_clear [_] rfl (by decide) (by rw [splice_length]; omega) ?_
        repeat' (first | refine sg_wo ?_ | refine sg_ps (ps_move rfl) rfl ?_ | refine sg_ps (ps_assign rfl) rfl ?_ | refine sg_seq ?_ | refine sg_region ?_ | refine sg_nil ?_ | refine sg_then ?_ | refine sg_ret ?_ | refine ex_then_ret ?_)
        refine ex_ret1 rfl rfl (some ⟨g, 0, none⟩, c) rfl trivial (fun w hO => ?_)
        refine own_mk (by exact hO.tail) hr (by simpa [maxLen] using hcm) (by rw [splice_length, splice_length]; exact hcl) ?_
        have hz := zeros2 (l + 1)
        simp only [Nat.zero_add]
        rw [splice_take _ _ _ _ (by rw [splice_length, hz]; omega) (Nat.le_refl _)]
        exact hend
      · refine ex_ret1 rfl rfl (some ⟨g, 0, none⟩, c) rfl trivial (fun w hO => ?_)
        exact own_mk (by exact hO.tail) hr (by simpa [maxLen] using hcm) (by rw [splice_length]; exact hcl) hend
    · refine sg_append_new (xs := xs.take (i * 2)) rfl rfl rfl (by rw [List.length_take, hxl]; omega) (rd_sown 1 rfl fun _ _ h => get_take rfl _ _ h) hvl (rd_sown0 0 rfl) hr (by simp only [maxLen]; omega) (by omega) fun a' c' => ?_
      repeat' (first | refine sg_wo ?_ | refine sg_ps (ps_move rfl) rfl ?_ | refine sg_ps (ps_assign rfl) rfl ?_ | refine sg_seq ?_ | refine sg_region ?_ | refine sg_nil ?_ | refine sg_then ?_ | refine sg_ps (ps_bin rfl rfl inferInstance) rfl ?_ | refine sg_ps (ps_len rfl) rfl ?_ | refine sg_skip ?_ | refine sg_ret ?_ | refine ex_then_ret ?_ | (refine sg_cond_dec rfl (fun hg => ?_) (fun hg => ?_) <;> first | (exfalso; omega) | (exact absurd rfl hg) | skip))
      exact ex_ret1 rfl rfl (a', c') rfl trivial (fun w hO => hO.front2.tail.front1.tail)
  · have hij2 : i < j := by omega
    have hjk : j < k := by omega
    refine sg_blockc [_] (by omega) fun g cur ha _ _ hcl htk => ?_
    subst ha
    rw [List.singleton_append]
    have hcur : ∀ q u, xs[q]? = some u → cur[0 + q]? = some u := fun q u h => by rw [Nat.zero_add]; exact get_take htk q u h
    have hcurd : ∀ q u, (xs.drop (j * 2))[q]? = some u → cur[0 + j * 2 + q]? = some u := fun q u h => by rw [Nat.zero_add]; exact get_drop htk q u h
    have htk2 := take_of_take htk (show i * 2 ≤ k * 2 by omega)
    obtain ⟨tot, ht⟩ : ∃ tot, tot = i + m + (k - j) := ⟨_, rfl⟩
    rw [← ht]
    refine sg_drawK [] [0, 1, 2, 3, 4, 5, 6, 7, 8, 9, 10, 11, 12] (by kernel_rfl) (by kernel_rfl) (fun w hO => hO.pick [] (by decide)) ?_
    repeat' (first | refine sk_pure rfl rfl (ps_move rfl) rfl ?_)
    refine sk_pure rfl rfl (ps_slice_h (h' := i) rfl rfl rfl (by omega)) rfl ?_
    repeat' (first | refine sk_pure rfl rfl (ps_move rfl) rfl ?_ | refine sk_pure rfl rfl (ps_add64 rfl rfl (by omega)) rfl ?_ | refine sk_pure rfl rfl (ps_len rfl) rfl ?_)
    refine sk_pure rfl rfl (ps_slice_l0 (l := j) rfl rfl rfl (by omega) (by omega)) rfl ?_
    repeat' (first | refine sk_nil ?_ | refine sk_pure rfl rfl (ps_assign rfl) rfl ?_ | refine sk_pure rfl rfl (ps_add64 rfl rfl (by omega)) rfl ?_ | refine sk_pure rfl rfl (ps_len rfl) rfl ?_)
    refine sg_then ?_
    refine sg_seq ?_
    refine sg_seq ?_
    refine sg_region ?_
    repeat' (first | refine sg_wo ?_ | refine sg_ps (ps_move rfl) rfl ?_)
    refine sg_ps (ps_cap rfl) rfl ?_
    by_cases hr : tot ≤ c
    · skip
      repeat' (first | refine sg_wo ?_ | refine sg_ps (ps_move rfl) rfl ?_ | refine sg_seq ?_ | refine sg_region ?_ | refine sg_nil ?_ | refine sg_then ?_ | refine sg_ps (ps_bin rfl rfl inferInstance) rfl ?_ | refine sg_skip ?_ | (refine sg_cond_dec rfl (fun hg => ?_) (fun hg => ?_) <;> first | (exfalso; omega) | (exact absurd rfl hg) | skip))
      refine sg_ps (ps_slice_h (h' := tot) rfl rfl (by omega) hr) rfl ?_
      repeat' (first | refine sg_wo ?_ | refine sg_ps (ps_move rfl) rfl ?_ | refine sg_ps (ps_assign rfl) rfl ?_ | refine sg_seq ?_ | refine sg_region ?_ | refine sg_nil ?_ | refine sg_then ?_ | refine sg_ps (ps_add64 rfl rfl (by omega)) rfl ?_ | refine sg_ps (ps_bin rfl rfl inferInstance) rfl ?_ | refine sg_ps (ps_len rfl) rfl ?_ | refine sg_skip ?_ | (refine sg_cond_dec rfl (fun hg => ?_) (fun hg => ?_) <;> first | (exfalso; omega) | (exact absurd rfl hg) | skip))
      · refine sg_ps (ps_slice_l0 (l := i) rfl rfl rfl (by omega) (by omega)) rfl ?_
        repeat' (first | refine sg_wo ?_ | refine sg_ps (ps_move rfl) rfl ?_)
        have e2 : Nat.min m (tot - i) = m := by show min _ _ = _; omega
        refine sg_copyN (news := vs) [_] rfl rfl rfl (by rw [e2]; omega) h2 (rd_sown0 0 rfl) (by omega) ?_
        repeat' (first | refine sg_seq ?_ | refine sg_nil ?_ | refine sg_then ?_)
        refine sg_drawK [] [0, 1, 2, 3, 4, 5, 6, 7, 8, 9] (by kernel_rfl) (by kernel_rfl) (fun w hO => hO.pick [] (by decide)) ?_
        repeat' (first | refine sk_pure rfl rfl (ps_move rfl) rfl ?_ | refine sk_pure rfl rfl (ps_add64 rfl rfl (by omega)) rfl ?_ | refine sk_pure rfl rfl (ps_len rfl) rfl ?_)
        refine sk_pure rfl rfl (ps_slice_l0 (l := i + m) rfl rfl (by omega) (by omega) (by omega)) rfl ?_
        repeat' (first | refine sk_pure rfl rfl (ps_move rfl) rfl ?_)
        refine sk_pure rfl rfl (ps_slice_l0 (l := j) rfl rfl rfl (by omega) (by omega)) rfl ?_
        repeat' (first | refine sk_eff rfl rfl ?_)
        have e1 : Nat.min (k - j) (tot - (i + m)) = k - j := by show min _ _ = _; omega
        have hcs : ∀ q u, (xs.drop (j * 2))[q]? = some u → (splice cur (0 + i * 2) vs)[0 + j * 2 + q]? = some u := fun q u h => by
          rw [splice_get _ _ _ (by omega), if_neg (by omega)]; exact hcurd q u h
        refine sg_copyN (news := xs.drop (j * 2)) [_] rfl rfl rfl (by rw [e1]; omega) h1d (rd_blk 1 rfl hcs) (by rw [splice_length]; omega) ?_
        refine sk_back (fun w hO => hO.pick [] (by decide)) ?_
        repeat' (first | refine sk_nil ?_)
        have hend := (splice_two cur vs (xs.drop (j * 2)) (i * 2) ((i + m) * 2) (by omega) (by omega)).1
        rw [hdl, show (i + m) * 2 + (k * 2 - j * 2) = tot * 2 by omega, htk2] at hend
        repeat' (first | refine sg_wo ?_ | refine sg_ps (ps_move rfl) rfl ?_ | refine sg_seq ?_ | refine sg_region ?_ | refine sg_then ?_)
        refine sg_ps (ps_slice_l (l := tot) rfl rfl (by omega) (by omega)) rfl ?_
        refine sg_wo ?_
        by_cases hz : tot = k
        · rw [show k - tot = 0 by omega]
          refine sg_clear0 rfl ?_
          repeat' (first | refine sg_wo ?_ | refine sg_ps (ps_move rfl) rfl ?_ | refine sg_ps (ps_assign rfl) rfl ?_ | refine sg_seq ?_ | refine sg_region ?_ | refine sg_nil ?_ | refine sg_then ?_ | refine sg_ret ?_ | refine ex_then_ret ?_)
          refine ex_ret1 rfl rfl (some ⟨g, 0, none⟩, c) rfl trivial (fun w hO => ?_)
          refine own_mk (by exact hO.tail) hr (by simpa [maxLen] using hcm) (by rw [splice_length, splice_length]; exact hcl) ?_
          simp only [Nat.zero_add]
          exact hend
        · obtain ⟨l, hl⟩ : ∃ l, k - tot = l + 1 := ⟨k - tot - 1, by omega⟩
          rw [hl, if_neg (by omega : ¬ c = tot)]
          refine sg_clear (o := 0 + tot * 2) (l := l) (c := c - tot) (b := g) (cs := splice (splice cur (0 + i * 2) vs) (0 + (i + m) * 2) (xs.drop (j * 2))) [_] (by simp [look, ev, addr_add]) (by decide) (by rw [splice_length, splice_length]; omega) ?_
          repeat' (first | refine sg_wo ?_ | refine sg_ps (ps_move rfl) rfl ?_ | refine sg_ps (ps_assign rfl) rfl ?_ | refine sg_seq ?_ | refine sg_region ?_ | refine sg_nil ?_ | refine sg_then ?_ | refine sg_ret ?_ | refine ex_then_ret ?_)
          refine ex_ret1 rfl rfl (some ⟨g, 0, none⟩, c) rfl trivial (fun w hO => ?_)
          refine own_mk (by exact hO.tail) hr (by simpa [maxLen] using hcm) (by rw [splice_length, splice_length, splice_length]; exact hcl) ?_
          have hzz := zeros2 (l + 1)
          simp only [Nat.zero_add]
          rw [splice_take _ _ _ _ (by rw [splice_length, splice_length, hzz]; omega) (Nat.le_refl _)]
          exact hend
      · refine sg_block0 [] (by omega) fun v vcur hva _ _ hvcl hvtk => ?_
        subst hva
        rw [List.nil_append]
        have hvcur : ∀ j u, vs[j]? = some u → vcur[0 + j]? = some u := fun j u h => by rw [Nat.zero_add]; exact get_take hvtk j u h
        refine sg_ps (ps_slice_l0 (l := i + m) rfl rfl (by omega) (by omega) (by omega)) rfl ?_
        repeat' (first | refine sg_wo ?_ | refine sg_ps (ps_move rfl) rfl ?_)
        refine sg_extern (e := Extern.SlicesOverlaps.overlaps #[29, 29] #[4]) Try.func32 (by kernel_rfl) (by kernel_rfl) (by kernel_rfl) (by kernel_rfl) rfl rfl
          (fun w hO => (overlaps_no (P := Try.prog) (tR := 4) (L := R) hO (by omega) (by omega)).2) ?_
        repeat' (first | refine sg_wo ?_ | refine sg_seq ?_ | refine sg_nil ?_ | refine sg_then ?_ | refine sg_ps (ps_not rfl) rfl ?_ | refine sg_cond_t rfl ?_)
        refine sg_drawK [] [0, 1, 2, 3, 4, 5, 6, 7, 8, 9] (by kernel_rfl) (by kernel_rfl) (fun w hO => hO.pick [] (by decide)) ?_
        repeat' (first | refine sk_pure rfl rfl (ps_move rfl) rfl ?_ | refine sk_pure rfl rfl (ps_add64 rfl rfl (by omega)) rfl ?_ | refine sk_pure rfl rfl (ps_len rfl) rfl ?_)
        refine sk_pure rfl rfl (ps_slice_l0 (l := i + m) rfl rfl (by omega) (by omega) (by omega)) rfl ?_
        repeat' (first | refine sk_pure rfl rfl (ps_move rfl) rfl ?_)
        refine sk_pure rfl rfl (ps_slice_l0 (l := j) rfl rfl rfl (by omega) (by omega)) rfl ?_
        repeat' (first | refine sk_eff rfl rfl ?_)
        have e1 : Nat.min (k - j) (tot - (i + m)) = k - j := by show min _ _ = _; omega
        refine sg_copyN (news := xs.drop (j * 2)) [_] rfl rfl rfl (by rw [e1]; omega) h1d (rd_blk 1 rfl hcurd) (by omega) ?_
        refine sk_back (fun w hO => hO.pick [] (by decide)) ?_
        repeat' (first | refine sk_nil ?_)
        repeat' (first | refine sg_wo ?_ | refine sg_ps (ps_move rfl) rfl ?_ | refine sg_seq ?_ | refine sg_region ?_ | refine sg_then ?_)
        refine sg_ps (ps_slice_l0 (l := i) rfl rfl rfl (by omega) (by omega)) rfl ?_
        repeat' (first | refine sg_wo ?_ | refine sg_ps (ps_move rfl) rfl ?_)
        have e2 : Nat.min m (tot - i) = m := by show min _ _ = _; omega
        refine sg_copyN (news := vs) [_] rfl rfl rfl (by rw [e2]; omega) h2 (rd_blk0 0 rfl hvcur) (by rw [splice_length]; omega) ?_
        repeat' (first | refine sg_wo ?_ | refine sg_ps (ps_move rfl) rfl ?_ | refine sg_ps (ps_assign rfl) rfl ?_ | refine sg_seq ?_ | refine sg_region ?_ | refine sg_nil ?_ | refine sg_then ?_ | refine sg_ret ?_ | refine ex_then_ret ?_)
        refine ex_ret1 rfl rfl (some ⟨g, 0, none⟩, c) rfl trivial (fun w hO => ?_)
        refine own_mk (by exact hO.tail) hr (by simpa [maxLen] using hcm) (by rw [splice_length, splice_length]; exact hcl) ?_
        simp only [Nat.zero_add]
        have hend := (splice_two cur vs (xs.drop (j * 2)) (i * 2) ((i + m) * 2) (by omega) (by omega)).2
        rw [hdl, show (i + m) * 2 + (k * 2 - j * 2) = tot * 2 by omega, htk2] at hend
        exact hend
    · obtain ⟨T, hT⟩ : ∃ T, tot = i + T := ⟨tot - i, by omega⟩
      repeat' (first | refine sg_wo ?_ | refine sg_ps (ps_move rfl) rfl ?_ | refine sg_seq ?_ | refine sg_region ?_ | refine sg_nil ?_ | refine sg_then ?_ | refine sg_ps (ps_bin rfl rfl inferInstance) rfl ?_ | (refine sg_cond_dec rfl (fun hg => ?_) (fun hg => ?_) <;> first | (exfalso; omega) | (exact absurd rfl hg) | skip))
      · refine sg_ps (ps_slice_h (h' := i) rfl rfl rfl (by omega)) rfl ?_
        repeat' (first | refine sg_wo ?_ | refine sg_ps (ps_move rfl) rfl ?_ | refine sg_ps (ps_sub64 rfl rfl (by omega)) rfl ?_)
        refine sg_append_zeros (m := T) (xs := xs.take (i * 2)) rfl rfl rfl (by omega) (by rw [List.length_take, hxl]; omega) (rd_blk 1 rfl fun j u h => hcur j u (get_take rfl j u h)) (by omega) (by omega) (by omega) (by omega) fun a' c' => ?_
        refine sg_capc [] fun hac hac2 _ => ?_
        refine sg_blockc [] (by omega) fun g2 cur2 ha2 _ _ hcl2 htk2' => ?_
        subst ha2
        rw [List.nil_append]
        have htk3 : cur2.take (i * 2) = xs.take (i * 2) := by
          rw [take_of_take htk2' (show i * 2 ≤ (i + T) * 2 by omega), List.take_append_of_le_length (by rw [List.length_take, hxl]; omega), List.take_take, Nat.min_self]
        repeat' (first | refine sg_wo ?_ | refine sg_ps (ps_move rfl) rfl ?_ | refine sg_ps (ps_assign rfl) rfl ?_ | refine sg_seq ?_ | refine sg_region ?_ | refine sg_nil ?_ | refine sg_then ?_)
        refine sg_ps (ps_slice_l0 (l := i) rfl rfl rfl (by omega) (by omega)) rfl ?_
        repeat' (first | refine sg_wo ?_ | refine sg_ps (ps_move rfl) rfl ?_)
        have e2 : Nat.min m (i + T - i) = m := by show min _ _ = _; omega
        refine sg_copyN (news := vs) [] rfl rfl rfl (by rw [e2]; omega) h2 (rd_sown0 1 rfl) (by omega) ?_
        rw [List.nil_append]
        repeat' (first | refine sg_seq ?_ | refine sg_nil ?_ | refine sg_then ?_)
        refine sg_drawK [] [0, 1, 2, 3, 4, 5, 6, 7, 8, 9] (by kernel_rfl) (by kernel_rfl) (fun w hO => hO.pick [] (by decide)) ?_
        repeat' (first | refine sk_pure rfl rfl (ps_move rfl) rfl ?_ | refine sk_pure rfl rfl (ps_add64 rfl rfl (by omega)) rfl ?_ | refine sk_pure rfl rfl (ps_len rfl) rfl ?_)
        refine sk_pure rfl rfl (ps_slice_l0 (l := i + m) rfl rfl (by omega) (by omega) (by omega)) rfl ?_
        repeat' (first | refine sk_pure rfl rfl (ps_move rfl) rfl ?_)
        refine sk_pure rfl rfl (ps_slice_l0 (l := j) rfl rfl rfl (by omega) (by omega)) rfl ?_
        repeat' (first | refine sk_eff rfl rfl ?_)
        have e1 : Nat.min (k - j) (i + T - (i + m)) = k - j := by show min _ _ = _; omega
        refine sg_copyN (news := xs.drop (j * 2)) [] rfl rfl rfl (by rw [e1]; omega) h1d (rd_blk 2 rfl hcurd) (by rw [splice_length]; omega) ?_
        refine sk_back (fun w hO => hO.pick [] (by decide)) ?_
        repeat' (first | refine sk_nil ?_)
        repeat' (first | refine sg_wo ?_ | refine sg_ps (ps_move rfl) rfl ?_ | refine sg_ps (ps_assign rfl) rfl ?_ | refine sg_seq ?_ | refine sg_region ?_ | refine sg_nil ?_ | refine sg_then ?_ | refine sg_ret ?_ | refine ex_then_ret ?_)
        refine ex_ret1 rfl rfl (some ⟨g2, 0, none⟩, c') (by rw [hT]) trivial (fun w hO => ?_)
        refine own_mk (by exact hO.front2.tail.front1.tail) (by omega) (by simpa [maxLen] using hac2) (by rw [splice_length, splice_length]; exact hcl2) ?_
        simp only [Nat.zero_add]
        have hend := (splice_two cur2 vs (xs.drop (j * 2)) (i * 2) ((i + m) * 2) (by omega) (by omega)).1
        rw [hdl, show (i + m) * 2 + (k * 2 - j * 2) = tot * 2 by omega, htk3] at hend
        exact hend
      all_goals (exfalso; omega)
end Go.Proofs.Ytcchgkjcoknkcaa
