/- slices.Insert and slices.Replace, over stretches. -/
import Derived.Test.YtcchgkjcoknkcaaEX0
namespace Go.Proofs.Ytcchgkjcoknkcaa
set_option linter.unusedVariables false
set_option linter.unusedSimpArgs false
set_option linter.unusedSectionVars false
set_option linter.unnecessarySimpa false
open Go Go.Proofs
set_option maxRecDepth 20000
set_option maxHeartbeats 4000000
theorem own_blockc {W w : World} {L : List HP} {a : Option Addr} {m c sz : Nat} {xs : List Value} (hm : 0 < c) (hO : Own W w (sown a m c sz xs :: L)) :
    ∃ x : Nat × List Value, (a = some ⟨x.1, 0, none⟩ ∧ m ≤ c ∧ c ≤ 9223372036854775807 ∧ x.2.length = c * sz ∧ x.2.take (m * sz) = xs) ∧ Own W w (blk x.1 x.2 :: L) := by
  obtain ⟨h, K, ⟨_, hx⟩, hs, hK, hS, hd⟩ := hO.uncons
  rcases hx with ⟨_, h0, h1⟩ | ⟨g, cur, T, fz, ha, hn, hc, hcl, htk, hfz, rfl⟩
  · omega
  · exact ⟨(g, cur), ⟨ha, hn, by simpa [maxLen] using hc, hcl, htk⟩, .cons hO.os hO.tape hO.output ⟨T, fz, hfz, rfl⟩ hs hK hS hd⟩
theorem sown_capc {W w : World} {L : List HP} {a : Option Addr} {m c sz : Nat} {xs : List Value} (hO : Own W w (sown a m c sz xs :: L)) : m ≤ c ∧ c ≤ 9223372036854775807 ∧ xs.length = m * sz := by
  obtain ⟨h3, ⟨_, h1, h2⟩ | ⟨g, _, h1, h2, _⟩⟩ := hO.sownCells
  · exact ⟨by omega, by omega, h3⟩
  · exact ⟨h1, by simpa [maxLen] using h2, h3⟩
theorem zeros2 (m : Nat) : (Builtin.zeroCells (Value.agg #[Value.int .i64 0, Value.int .i64 0]).cells m).toList.length = m * 2 := by
  rw [Array.length_toList, size_zeroCells]; rfl
section
variable {W : World} {n : Nat} {F : Fr} {L : List HP} {G : Act → World → Prop}
theorem sg_capc {a : Option Addr} {m c sz : Nat} {xs : List Value} (L1 : List HP) {L2 : List HP} (h : m ≤ c → c ≤ 9223372036854775807 → xs.length = m * sz → SG W n F (L1 ++ sown a m c sz xs :: L2) G) : SG W n F (L1 ++ sown a m c sz xs :: L2) G := by
  intro w hO ac ha
  obtain ⟨h1, h2, h3⟩ := sown_capc hO.front
  exact h h1 h2 h3 w hO ac ha
end
attribute [local irreducible] SG WC WO W1 WD WK PS Rd Tri Exit.then Exit.inBlock bodyPost calmQ Mid sadd
variable {W : World} {n : Nat} {F : Fr} {L : List HP} {G : Act → World → Prop}
theorem sg_blockc {a : Option Addr} {m c sz : Nat} {xs : List Value} (L1 : List HP) {L2 : List HP} (hc : 0 < c)
    (h : ∀ g cur, a = some ⟨g, 0, none⟩ → m ≤ c → c ≤ 9223372036854775807 → cur.length = c * sz → cur.take (m * sz) = xs → SG W n F (L1 ++ blk g cur :: L2) G) : SG W n F (L1 ++ sown a m c sz xs :: L2) G := by
  refine sg_open (X := Nat × List Value) (L' := fun x => L1 ++ blk x.1 x.2 :: L2) (φ := fun x => a = some ⟨x.1, 0, none⟩ ∧ m ≤ c ∧ c ≤ 9223372036854775807 ∧ x.2.length = c * sz ∧ x.2.take (m * sz) = xs) (fun w hO => ?_) ?_
  · obtain ⟨x, h1, h2⟩ := own_blockc hc hO.front
    exact ⟨x, h1, h2.back⟩
  · rintro ⟨g, cur⟩ ⟨h1, h2, h3, h4, h5⟩
    exact h g cur h1 h2 h3 h4 h5
theorem sg_block0 {a : Option Addr} {m c sz : Nat} {xs : List Value} (L1 : List HP) {L2 : List HP} (hm : 0 < m)
    (h : ∀ g cur, a = some ⟨g, 0, none⟩ → m ≤ c → c ≤ 9223372036854775807 → cur.length = c * sz → cur.take (m * sz) = xs → SG W n F (L1 ++ blk0 g cur :: L2) G) : SG W n F (L1 ++ sown0 a m c sz xs :: L2) G := by
  refine sg_open (X := Nat × List Value) (L' := fun x => L1 ++ blk0 x.1 x.2 :: L2) (φ := fun x => a = some ⟨x.1, 0, none⟩ ∧ m ≤ c ∧ c ≤ 9223372036854775807 ∧ x.2.length = c * sz ∧ x.2.take (m * sz) = xs) (fun w hO => ?_) ?_
  · obtain ⟨x, h1, h2⟩ := own_block0 hm hO.front
    exact ⟨x, h1, h2.back⟩
  · rintro ⟨g, cur⟩ ⟨h1, h2, h3, h4, h5⟩
    exact h g cur h1 h2 h3 h4 h5
theorem rd_blk0 {W : World} {L : List HP} (i : Nat) {b o : Nat} {cs vs : List Value} (hL : L[i]? = some (blk0 b cs)) (hv : ∀ j u, vs[j]? = some u → cs[o + j]? = some u) : Rd W L (some ⟨b, o, none⟩) vs := by
  unfold Rd
  intro w hO
  obtain ⟨L', hO'⟩ := hO.nth hL
  exact .inr ⟨_, _, rfl, fun j u hj => by rw [hO'.blk0_blk.cell]; exact hv j u hj⟩
theorem get_take {xs cur : List Value} {k : Nat} (h : cur.take k = xs) : ∀ (j : Nat) (u : Value), xs[j]? = some u → cur[j]? = some u := by
  intro j u hj
  rw [← h, List.getElem?_take] at hj
  split at hj
  · exact hj
  · simp at hj
theorem get_drop {xs cur : List Value} {k o : Nat} (h : cur.take k = xs) : ∀ (j : Nat) (u : Value), (xs.drop o)[j]? = some u → cur[o + j]? = some u := by
  intro j u hj
  rw [List.getElem?_drop] at hj
  exact get_take h _ _ hj
theorem take_of_take {cur xs : List Value} {p q : Nat} (h : cur.take q = xs) (hp : p ≤ q) : cur.take p = xs.take p := by rw [← h, List.take_take, Nat.min_eq_left hp]
theorem splice_end (cur vs xs : List Value) (p q : Nat) (hx : cur.take p = xs) (hq : q = p + vs.length) (h : q ≤ cur.length) : (splice cur p vs).take q = xs ++ vs := by
  subst hq
  have := (splice_two cur vs [] p _ rfl (by simpa using h)).1
  rw [splice_nil, List.length_nil, Nat.add_zero, List.append_nil, hx] at this
  exact this
theorem insert_tri (xs vs : List Value) (a va : Option Addr) (k c m vc i : Nat) (R : List HP) (hm : 1 ≤ m) (hi : i ≤ k) (hk : k + m ≤ 5000) (h1 : ∀ u ∈ xs, u.oneCell' = true) (h2 : ∀ u ∈ vs, u.oneCell' = true) (hvl : vs.length = m * 2) (hxl : xs.length = k * 2) :
    Tri Try.prog W 31 [.slice a k c, i64 i, .slice va m vc] (sown0 va m vc 2 vs :: sown a k c 2 xs :: R) (X := Option Addr × Nat) (fun y => .slice y.1 (k + m) y.2) (fun _ => True)
      (fun y => sown y.1 (k + m) y.2 2 (xs.take (i * 2) ++ vs ++ xs.drop (i * 2)) :: R) := by
  refine tri_enter3 Try.func31 rfl Try.ntmps31 rfl ?_
  refine sg_capc [_] fun hkc hcm _ => ?_
  rw [List.singleton_append]
  repeat' (first | refine sg_wo ?_ | refine sg_ps (ps_move rfl) rfl ?_ | refine sg_ps (ps_assign rfl) rfl ?_ | refine sg_seq ?_ | refine sg_region ?_ | refine sg_nil ?_ | refine sg_then ?_)
  refine sg_ps (ps_slice_l (l := i) rfl rfl rfl (by omega)) rfl ?_
  repeat' (first | refine sg_wo ?_ | refine sg_ps (ps_move rfl) rfl ?_ | refine sg_ps (ps_assign rfl) rfl ?_ | refine sg_seq ?_ | refine sg_region ?_ | refine sg_nil ?_ | refine sg_then ?_ | refine sg_ps (ps_add64 rfl rfl (by omega)) rfl ?_ | refine sg_ps (ps_bin rfl rfl inferInstance) rfl ?_ | refine sg_ps (ps_len rfl) rfl ?_ | refine sg_skip ?_ | (refine sg_cond_dec rfl (fun hg => ?_) (fun hg => ?_) <;> first | (exfalso; omega) | (exact absurd rfl hg) | skip))
  · obtain rfl : i = k := by omega
    have ht : xs.take (i * 2) = xs := List.take_of_length_le (by omega)
    have hdr : xs.drop (i * 2) = [] := List.drop_of_length_le (by omega)
    rw [ht, hdr, List.append_nil]
    by_cases hr : i + m ≤ c
    · refine sg_blockc [_] (by omega) fun g cur ha _ _ hcl htk => ?_
      subst ha
      refine sg_append_in [_] rfl rfl rfl hvl h2 (rd_sown0 0 rfl) hr hcl ?_
      repeat' (first | refine sg_wo ?_ | refine sg_ps (ps_assign rfl) rfl ?_ | refine sg_nil ?_ | refine sg_then ?_ | refine sg_ret ?_ | refine ex_then_ret ?_)
      refine ex_ret1 rfl rfl (some ⟨g, 0, none⟩, c) rfl trivial (fun w hO => ?_)
      refine own_mk (by exact hO.tail) hr (by simpa [maxLen] using hcm) (by rw [splice_length]; exact hcl) ?_
      exact splice_end _ _ _ _ _ htk (by rw [hvl]; omega) (by rw [hcl]; omega)
    · refine sg_append_new (xs := xs) rfl rfl rfl hxl (rd_sown 1 rfl fun _ _ h => h) hvl (rd_sown0 0 rfl) hr (by simp only [maxLen]; omega) (by omega) fun a' c' => ?_
      repeat' (first | refine sg_wo ?_ | refine sg_ps (ps_assign rfl) rfl ?_ | refine sg_nil ?_ | refine sg_then ?_ | refine sg_ret ?_ | refine ex_then_ret ?_)
      exact ex_ret1 rfl rfl (a', c') rfl trivial (fun w hO => hO.front2.tail.front1.tail)
  · have hin : i < k := by omega
    refine sg_block0 [] (by omega) fun v vcur hva _ _ hvcl hvtk => ?_
    subst hva
    rw [List.nil_append]
    refine sg_blockc [_] (by omega) fun g cur ha _ _ hcl htk => ?_
    subst ha
    rw [List.singleton_append]
    refine sg_ps (ps_cap rfl) rfl ?_
    have hdl : (xs.drop (i * 2)).length = k * 2 - i * 2 := by rw [List.length_drop, hxl]
    have h1d : ∀ u ∈ xs.drop (i * 2), u.oneCell' = true := fun u hu => h1 u (List.mem_of_mem_drop hu)
    have hcur : ∀ j u, xs[j]? = some u → cur[0 + j]? = some u := fun j u h => by rw [Nat.zero_add]; exact get_take htk j u h
    have hvcur : ∀ j u, vs[j]? = some u → vcur[0 + j]? = some u := fun j u h => by rw [Nat.zero_add]; exact get_take hvtk j u h
    have hcurd : ∀ j u, (xs.drop (i * 2))[j]? = some u → cur[0 + i * 2 + j]? = some u := fun j u h => by rw [Nat.zero_add]; exact get_drop htk j u h
    have htk2 := take_of_take htk (show i * 2 ≤ k * 2 by omega)
    by_cases hr : k + m ≤ c
    · skip
      repeat' (first | refine sg_wo ?_ | refine sg_ps (ps_move rfl) rfl ?_ | refine sg_seq ?_ | refine sg_region ?_ | refine sg_nil ?_ | refine sg_then ?_ | refine sg_ps (ps_add64 rfl rfl (by omega)) rfl ?_ | refine sg_ps (ps_bin rfl rfl inferInstance) rfl ?_ | refine sg_skip ?_ | (refine sg_cond_dec rfl (fun hg => ?_) (fun hg => ?_) <;> first | (exfalso; omega) | (exact absurd rfl hg) | skip))
      refine sg_ps (ps_slice_h (h' := k + m) rfl rfl (by omega) hr) rfl ?_
      repeat' (first | refine sg_wo ?_ | refine sg_ps (ps_move rfl) rfl ?_ | refine sg_ps (ps_assign rfl) rfl ?_ | refine sg_seq ?_ | refine sg_region ?_ | refine sg_nil ?_ | refine sg_then ?_ | refine sg_ps (ps_add64 rfl rfl (by omega)) rfl ?_)
      refine sg_ps (ps_slice_l0 (l := i + m) rfl rfl (by omega) (by omega) (by omega)) rfl ?_
      refine sg_wo ?_
      refine sg_extern (e := Extern.SlicesOverlaps.overlaps #[29, 29] #[4]) Try.func32 (by kernel_rfl) (by kernel_rfl) (by kernel_rfl) (by kernel_rfl) rfl rfl
        (fun w hO => (overlaps_no (P := Try.prog) (tR := 4) (L := R) hO (by omega) (by omega)).1) ?_
      repeat' (first | refine sg_wo ?_ | refine sg_seq ?_ | refine sg_nil ?_ | refine sg_then ?_ | refine sg_ps (ps_not rfl) rfl ?_ | refine sg_cond_t rfl ?_)
      refine sg_drawK [] [0, 1, 2, 3, 4, 5, 6, 7, 8] (by kernel_rfl) (by kernel_rfl) (fun w hO => hO.pick [] (by decide)) ?_
      repeat' (first | refine sk_pure rfl rfl (ps_move rfl) rfl ?_ | refine sk_pure rfl rfl (ps_add64 rfl rfl (by omega)) rfl ?_)
      refine sk_pure rfl rfl (ps_slice_l0 (l := i + m) rfl rfl (by omega) (by omega) (by omega)) rfl ?_
      repeat' (first | refine sk_pure rfl rfl (ps_move rfl) rfl ?_)
      refine sk_pure rfl rfl (ps_slice_l0 (l := i) rfl rfl (by omega) (by omega) (by omega)) rfl ?_
      repeat' (first | refine sk_eff rfl rfl ?_)
      have e1 : Nat.min (k + m - i) (k + m - (i + m)) = k - i := by show min _ _ = _; omega
      refine sg_copyN (news := xs.drop (i * 2)) [_] rfl rfl rfl (by rw [e1]; omega) h1d (rd_blk 1 rfl hcurd) (by omega) ?_
      refine sk_back (fun w hO => hO.pick [] (by decide)) ?_
      repeat' (first | refine sk_nil ?_)
      repeat' (first | refine sg_wo ?_ | refine sg_ps (ps_move rfl) rfl ?_ | refine sg_seq ?_ | refine sg_region ?_ | refine sg_then ?_)
      refine sg_ps (ps_slice_l0 (l := i) rfl rfl (by omega) (by omega) (by omega)) rfl ?_
      repeat' (first | refine sg_wo ?_ | refine sg_ps (ps_move rfl) rfl ?_)
      have e2 : Nat.min m (k + m - i) = m := by show min _ _ = _; omega
      refine sg_copyN (news := vs) [_] rfl rfl rfl (by rw [e2]; omega) h2 (rd_blk0 0 rfl hvcur) (by rw [splice_length]; omega) ?_
      repeat' (first | refine sg_wo ?_ | refine sg_ps (ps_move rfl) rfl ?_ | refine sg_ps (ps_assign rfl) rfl ?_ | refine sg_seq ?_ | refine sg_region ?_ | refine sg_nil ?_ | refine sg_then ?_ | refine sg_ret ?_ | refine ex_then_ret ?_)
      refine ex_ret1 rfl rfl (some ⟨g, 0, none⟩, c) rfl trivial (fun w hO => ?_)
      refine own_mk (by exact hO.tail) hr (by simpa [maxLen] using hcm) (by rw [splice_length, splice_length]; exact hcl) ?_
      simp only [Nat.zero_add]
      have := (splice_two cur vs (xs.drop (i * 2)) (i * 2) ((i + m) * 2) (by omega) (by omega)).2
      rw [hdl, show (i + m) * 2 + (k * 2 - i * 2) = (k + m) * 2 by omega, htk2] at this
      exact this
    · obtain ⟨T, hT⟩ : ∃ T, k + m = i + T := ⟨k + m - i, by omega⟩
      repeat' (first | refine sg_wo ?_ | refine sg_ps (ps_move rfl) rfl ?_ | refine sg_seq ?_ | refine sg_region ?_ | refine sg_nil ?_ | refine sg_then ?_ | refine sg_ps (ps_bin rfl rfl inferInstance) rfl ?_ | (refine sg_cond_dec rfl (fun hg => ?_) (fun hg => ?_) <;> first | (exfalso; omega) | (exact absurd rfl hg) | skip))
      refine sg_ps (ps_slice_h (h' := i) rfl rfl (by omega) (by omega)) rfl ?_
      repeat' (first | refine sg_wo ?_ | refine sg_ps (ps_move rfl) rfl ?_ | refine sg_ps (ps_add64 rfl rfl (by omega)) rfl ?_ | refine sg_ps (ps_sub64 rfl rfl (by omega)) rfl ?_)
      refine sg_append_zeros (m := T) (xs := xs.take (i * 2)) rfl rfl rfl (by omega) (by rw [List.length_take, hxl]; omega) (rd_blk 1 rfl fun j u h => hcur j u (get_take rfl j u h)) (by omega) (by omega) (by omega) (by omega) fun a' c' => ?_
      refine sg_capc [] fun hac hac2 _ => ?_
      refine sg_blockc [] (by omega) fun g2 cur2 ha2 _ _ hcl2 htk2' => ?_
      subst ha2
      rw [List.nil_append]
      have htk3 : cur2.take (i * 2) = xs.take (i * 2) := by
        rw [take_of_take htk2' (show i * 2 ≤ (i + T) * 2 by omega), List.take_append_of_le_length (by rw [List.length_take, hxl]; omega), List.take_take, Nat.min_self]
      repeat' (first | refine sg_wo ?_ | refine sg_ps (ps_move rfl) rfl ?_ | refine sg_ps (ps_assign rfl) rfl ?_ | refine sg_seq ?_ | refine sg_region ?_ | refine sg_nil ?_ | refine sg_then ?_)
      refine sg_ps (ps_slice_l0 (l := i) rfl rfl (by omega) (by omega) (by omega)) rfl ?_
      repeat' (first | refine sg_wo ?_ | refine sg_ps (ps_move rfl) rfl ?_)
      have e2 : Nat.min m (i + T - i) = m := by show min _ _ = _; omega
      refine sg_copyN (news := vs) [] rfl rfl rfl (by rw [e2]; omega) h2 (rd_blk0 1 rfl hvcur) (by omega) ?_
      rw [List.nil_append]
      repeat' (first | refine sg_seq ?_ | refine sg_nil ?_ | refine sg_then ?_)
      refine sg_drawK [] [0, 1, 2, 3, 4, 5, 6, 7, 8] (by kernel_rfl) (by kernel_rfl) (fun w hO => hO.pick [] (by decide)) ?_
      repeat' (first | refine sk_pure rfl rfl (ps_move rfl) rfl ?_ | refine sk_pure rfl rfl (ps_add64 rfl rfl (by omega)) rfl ?_)
      refine sk_pure rfl rfl (ps_slice_l0 (l := i + m) rfl rfl (by omega) (by omega) (by omega)) rfl ?_
      repeat' (first | refine sk_pure rfl rfl (ps_move rfl) rfl ?_)
      refine sk_pure rfl rfl (ps_slice_l0 (l := i) rfl rfl (by omega) (by omega) (by omega)) rfl ?_
      repeat' (first | refine sk_eff rfl rfl ?_)
      have e1 : Nat.min (k - i) (i + T - (i + m)) = k - i := by show min _ _ = _; omega
      refine sg_copyN (news := xs.drop (i * 2)) [] rfl rfl rfl (by rw [e1]; omega) h1d (rd_blk 2 rfl hcurd) (by rw [splice_length]; omega) ?_
      refine sk_back (fun w hO => hO.pick [] (by decide)) ?_
      repeat' (first | refine sk_nil ?_)
      repeat' (first | refine sg_wo ?_ | refine sg_ps (ps_move rfl) rfl ?_ | refine sg_ps (ps_assign rfl) rfl ?_ | refine sg_seq ?_ | refine sg_region ?_ | refine sg_nil ?_ | refine sg_then ?_ | refine sg_ret ?_ | refine ex_then_ret ?_)
      refine ex_ret1 rfl rfl (some ⟨g2, 0, none⟩, c') (by rw [hT]) trivial (fun w hO => ?_)
      refine own_mk (by exact hO.front2.tail.front1.tail) (by omega) (by simpa [maxLen] using hac2) (by rw [splice_length, splice_length]; exact hcl2) ?_
      simp only [Nat.zero_add]
      have := (splice_two cur2 vs (xs.drop (i * 2)) (i * 2) ((i + m) * 2) (by omega) (by omega)).1
      rw [hdl, show (i + m) * 2 + (k * 2 - i * 2) = (k + m) * 2 by omega, htk3] at this
      exact this
end Go.Proofs.Ytcchgkjcoknkcaa
