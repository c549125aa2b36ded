/- The reference of package block: Read. -/
import Derived.Test.YtgcfonjiingpnaaRB
namespace Go.Proofs.Ytgcfonjiingpnaa
set_option linter.unusedVariables false
set_option linter.unusedSimpArgs false
set_option linter.unusedSectionVars false
set_option linter.unnecessarySimpa false
open Go Go.Proofs
set_option maxRecDepth 20000
set_option maxHeartbeats 4000000
attribute [local irreducible] SG WC WO W1 WD WK PS Rd Tri Exit.then Exit.inBlock bodyPost calmQ Mid sadd
variable {W : World} {n : Nat} {F : Fr} {L : List HP} {G : Act → World → Prop}
theorem conv_u8_i64 (b : UInt8) : IntKind.i64.wrap (b.toNat : Int) = (b.toNat : Int) := by
  have := b.toNat_lt
  exact IntWalk.i64_in _ (by omega)
theorem kOf_two {s : List UInt8} (h : s.length = 64) : kOf s = (s[12]'(by omega)).toNat * 256 + (s[13]'(by omega)).toNat := by
  have e : (s.drop 12).take 2 = [s[12], s[13]] := by
    rw [List.drop_eq_getElem_cons (by omega), List.take_succ_cons, List.drop_eq_getElem_cons (by omega), List.take_succ_cons, List.take_zero]
  unfold kOf
  rw [e]
  simp [unbe]
theorem rread3_bad1 {D : DS} {start : Int} {id : Nat} (h : id = 0 ∨ start < 0 ∨ (D.seen.length : Int) ≤ start) : rread3 D start id = ([], 1) := if_pos h
theorem rread3_bad2 {D : DS} {st id : Nat} (h : ¬ (id = 0 ∨ (st : Int) < 0 ∨ (D.seen.length : Int) ≤ (st : Int))) (h2 : nOf (D.seen.getD st []) < 1 ∨ 656 < nOf (D.seen.getD st []) ∨ D.seen.length < st + nOf (D.seen.getD st [])) : rread3 D st id = ([], 2) := by
  unfold rread3
  rw [if_neg h, Int.toNat_natCast, if_pos h2]
theorem rread3_none {D : DS} {st id : Nat} (h : ¬ (id = 0 ∨ (st : Int) < 0 ∨ (D.seen.length : Int) ≤ (st : Int))) (h2 : ¬ (nOf (D.seen.getD st []) < 1 ∨ 656 < nOf (D.seen.getD st []) ∨ D.seen.length < st + nOf (D.seen.getD st [])))
    (hg : gath D.seen st (nOf (D.seen.getD st [])) 0 [] = none) : rread3 D st id = ([], 2) := by
  unfold rread3
  rw [if_neg h, Int.toNat_natCast, if_neg h2, hg]
theorem rread3_some {D : DS} {st id : Nat} {data : List UInt8} (h : ¬ (id = 0 ∨ (st : Int) < 0 ∨ (D.seen.length : Int) ≤ (st : Int))) (h2 : ¬ (nOf (D.seen.getD st []) < 1 ∨ 656 < nOf (D.seen.getD st []) ∨ D.seen.length < st + nOf (D.seen.getD st [])))
    (hg : gath D.seen st (nOf (D.seen.getD st [])) 0 [] = some data) : rread3 D st id = if cnt data.length = nOf (D.seen.getD st []) ∧ ∀ j, j < nOf (D.seen.getD st []) → D.seen.getD (st + j) [] = pad (sect id j (cnt data.length) (partAt data j)) then (data, 0) else ([], 2) := by
  unfold rread3
  rw [if_neg h, Int.toNat_natCast, if_neg h2, hg]
theorem sg_bs_capS {a : Option Addr} {m c sz : Nat} {xs : List Value} (h : m ≤ c → SG W n F (sown a m c sz xs :: L) G) : SG W n F (sown a m c sz xs :: L) G :=
  sg_open (X := Unit) (L' := fun _ => sown a m c sz xs :: L) (φ := fun _ => m ≤ c) (fun w hO => ⟨(), (sown_cap hO).1, hO⟩) (fun _ hb => h hb)
theorem rbread_tri (r : Nat) (D : DS) (start : Int) (id : Nat) (R : List HP) (hs : start ≤ 9223372036854775807) (hn8 : D.seen.length ≤ 4096) (hid : id < 18446744073709551616) :
    Tri Try.prog W 21 [dp r, i64 start, .int .u64 (id : Int)] (RefRep r D :: R) (X := Option Addr × Nat) (fun x => .tuple #[.slice x.1 (bread D start id).1.length x.2, i64 (bread D start id).2]) (fun _ => True)
      (fun x => sown x.1 (bread D start id).1.length x.2 1 ((bread D start id).1.map bv) :: RefRep r D :: R) := by
  refine tri_enter3 Try.func21 rfl Try.ntmps21 rfl ?_
  refine RefRep.open fun x hx => ?_
  obtain ⟨l1, l2, l3⟩ := hx.lens
  rw [← rread3_eq hx.dok.sec start id hid]
  obtain ⟨KK, hKK⟩ : ∃ KK, KK = sown (some ⟨x.kb, 0, none⟩) x.ks.length x.kc 1 (x.ks.map shdr) := ⟨_, rfl⟩
  obtain ⟨TT, hTT⟩ : ∃ TT, TT = sown x.wa x.ws.length x.wc 2 (x.ws.flatMap putc) := ⟨_, rfl⟩
  have hshut : ∀ w L, Own W w (blk r (rdcells D x) :: KK :: sown (some ⟨x.sb, 0, none⟩) x.ss.length x.sc 1 (x.ss.map shdr) :: TT :: blks x.ls :: L) → Own W w (RefRep r D :: L) := fun w L hO => by
    rw [hKK, hTT] at hO; exact RefRep.shut x hx hO
  rw [← hKK, ← hTT]
  by_cases hA : id = 0 ∨ start < 0 ∨ (D.seen.length : Int) ≤ start
  · rw [rread3_bad1 hA]
    repeat' (first | refine sg_wo ?_ | refine sg_ps (ps_move rfl) rfl ?_ | refine sg_ps (ps_assign rfl) rfl ?_ | refine sg_seq ?_ | refine sg_region ?_ | refine sg_nil ?_ | refine sg_then ?_ | refine sg_ps (ps_fieldAddr rfl) rfl ?_ | refine sg_ps (ps_nilCheck rfl) rfl ?_ | refine sg_load 0 rfl rfl rfl rfl ?_ | refine sg_ps (ps_bin rfl rfl inferInstance) rfl ?_ | refine sg_cond_t rfl ?_ | refine sg_guard_yes rfl rfl ?_ | refine sg_guard_nt rfl rfl rfl ?_ | refine sg_ps (ps_pick_t rfl rfl) rfl ?_ | refine sg_ps (ps_pick_f rfl rfl) rfl ?_ | refine sg_ps (ps_len rfl) rfl ?_ | refine sg_ret ?_ | refine ex_then_ret ?_ | (refine sg_guard_dec rfl rfl (fun hg => ?_) (fun hg => ?_) <;> first | (exfalso; omega) | (exact absurd rfl hg) | skip) | (refine sg_cond_dec rfl (fun hg => ?_) (fun hg => ?_) <;> first | (exfalso; omega) | (exact absurd rfl hg) | skip))
    all_goals exact ex_ret2 rfl rfl rfl (none, 0) rfl trivial (fun w hO => own_nil (hshut w _ hO))
  obtain ⟨st, rfl⟩ : ∃ st : Nat, start = (st : Int) := ⟨start.toNat, by omega⟩
  have hst : st < D.seen.length := by omega
  have hsec : ∀ j (h : j < D.seen.length), ∃ h2 : j < x.ss.length, (x.ss[j]).2 = D.seen[j] ∧ D.seen[j].length = 64 ∧ ((x.ss[j]).1, D.seen[j].map bv) ∈ x.ls := by
    intro j h
    have h2 : j < x.ss.length := by omega
    have h9 := congrArg (fun l => l[j]?) hx.seen
    simp only [List.getElem?_map, List.getElem?_eq_getElem h2, List.getElem?_eq_getElem h, Option.map_some, Option.some.injEq] at h9
    refine ⟨h2, h9, hx.dok.sec _ (List.getElem_mem h), ?_⟩
    rw [← h9]; exact hx.sin _ (List.getElem_mem h2)
  have hgetD : ∀ j (h : j < D.seen.length), D.seen.getD j [] = D.seen[j] := fun j h => by rw [List.getD_eq_getElem?_getD, List.getElem?_eq_getElem h]; rfl
  obtain ⟨s1, s2, s3, s4⟩ := hsec st hst
  repeat' (first | refine sg_wo ?_ | refine sg_ps (ps_move rfl) rfl ?_ | refine sg_ps (ps_assign rfl) rfl ?_ | refine sg_seq ?_ | refine sg_region ?_ | refine sg_nil ?_ | refine sg_then ?_ | refine sg_ps (ps_fieldAddr rfl) rfl ?_ | refine sg_ps (ps_nilCheck rfl) rfl ?_ | refine sg_load 0 rfl rfl rfl rfl ?_ | refine sg_ps (ps_bin rfl rfl inferInstance) rfl ?_ | refine sg_guard_yes rfl rfl ?_ | refine sg_ps (ps_pick_f rfl rfl) rfl ?_ | refine sg_ps (ps_len rfl) rfl ?_ | refine sg_ps (ps_indexAddr rfl rfl rfl (by omega)) rfl ?_ | refine sg_skip ?_ | (refine sg_guard_dec rfl rfl (fun hg => ?_) (fun hg => ?_) <;> first | (exfalso; omega) | (exact absurd rfl hg) | skip) | (refine sg_cond_dec rfl (fun hg => ?_) (fun hg => ?_) <;> first | (exfalso; omega) | (exact absurd rfl hg) | skip))
  refine sg_load_rd rfl ((rd_sown 2 rfl (fun _ _ h => h)).get st (v := shdr x.ss[st]) (by rw [List.getElem?_map, List.getElem?_eq_getElem s1]; rfl)) rfl ?_
  repeat' (first | refine sg_wo ?_ | refine sg_ps (ps_move rfl) rfl ?_ | refine sg_ps (ps_assign rfl) rfl ?_ | refine sg_seq ?_ | refine sg_region ?_ | refine sg_nil ?_ | refine sg_then ?_ | refine sg_ps (ps_build rfl rfl) rfl ?_ | refine sg_box rfl rfl (fun bx => ?_))
  have hrb : ∀ L, Rd W (L ++ (blk r (rdcells D x) :: KK :: sown (some ⟨x.sb, 0, none⟩) x.ss.length x.sc 1 (x.ss.map shdr) :: TT :: blks x.ls :: R)) (some ⟨x.ss[st].1, 0, none⟩) (D.seen[st].map bv) := fun L =>
    rd_blks (L.length + 4) (by rw [List.getElem?_append_right (Nat.le_add_right _ _), Nat.add_sub_cancel_left]; rfl) s4 (fun j u h => by rw [Nat.zero_add]; exact h)
  have hn1 := rNumRd_any (W := W) bx (some ⟨x.ss[st].1, 0, none⟩) 64 D.seen[st] 0 10 (by omega) (by omega) _ hrb
  have hn2 := rNumRd_tri (W := W) bx (some ⟨x.ss[st].1, 0, none⟩) 64 D.seen[st] (0 + 10) 2 (by omega) (by omega) (by omega) _ hrb
  rw [s3] at hn1 hn2
  refine sg_call hn1 rfl rfl (fun z _ => ?_)
  repeat' (first | refine sg_wo ?_ | refine sg_ps (ps_move rfl) rfl ?_ | refine sg_seq ?_ | refine sg_region ?_ | refine sg_nil ?_ | refine sg_then ?_)
  refine sg_call hn2 rfl rfl (fun _ _ => ?_)
  obtain ⟨n, hn⟩ : ∃ n, n = unbe ((D.seen[st].drop (0 + 10)).take 2) := ⟨_, rfl⟩
  have hnn : nOf (D.seen.getD st []) = n := by rw [hgetD st hst, hn]; rfl
  have hn16 : n < 65536 := by
    have := unbe_lt ((D.seen[st].drop (0 + 10)).take 2)
    rw [List.length_take, List.length_drop, s3] at this
    rw [hn]; exact this
  rw [← hn]
  refine sg_drop0 ?_
  repeat' (first | refine sg_wo ?_ | refine sg_ps (ps_assign rfl) rfl ?_ | refine sg_nil ?_ | refine sg_then ?_ | refine sg_ps (ps_conv rfl) rfl ?_)
  rw [conv_u16_i64 n hn16]
  by_cases hB : n < 1 ∨ 656 < n ∨ D.seen.length < st + n
  · rw [rread3_bad2 hA (by rw [hnn]; exact hB)]
    repeat' (first | refine sg_wo ?_ | refine sg_ps (ps_move rfl) rfl ?_ | refine sg_ps (ps_assign rfl) rfl ?_ | refine sg_seq ?_ | refine sg_region ?_ | refine sg_nil ?_ | refine sg_then ?_ | refine sg_ps (ps_fieldAddr rfl) rfl ?_ | refine sg_ps (ps_nilCheck rfl) rfl ?_ | refine sg_load 0 rfl rfl rfl rfl ?_ | refine sg_ps (ps_add64 rfl rfl (by omega)) rfl ?_ | refine sg_ps (ps_bin rfl rfl inferInstance) rfl ?_ | refine sg_cond_t rfl ?_ | refine sg_guard_yes rfl rfl ?_ | refine sg_guard_nt rfl rfl rfl ?_ | refine sg_ps (ps_pick_t rfl rfl) rfl ?_ | refine sg_ps (ps_pick_f rfl rfl) rfl ?_ | refine sg_ps (ps_len rfl) rfl ?_ | refine sg_ret ?_ | refine ex_then_ret ?_ | (refine sg_guard_dec rfl rfl (fun hg => ?_) (fun hg => ?_) <;> first | (exfalso; omega) | (exact absurd rfl hg) | skip) | (refine sg_cond_dec rfl (fun hg => ?_) (fun hg => ?_) <;> first | (exfalso; omega) | (exact absurd rfl hg) | skip))
    all_goals exact ex_ret2 rfl rfl rfl (none, 0) rfl trivial (fun w hO => own_nil (hshut w _ hO))
  skip
  refine sg_seq ?_
  refine sg_seq ?_
  repeat' (first | refine sg_wo ?_ | refine sg_ps (ps_move rfl) rfl ?_ | refine sg_region ?_ | refine sg_nil ?_ | refine sg_then ?_ | refine sg_ps (ps_fieldAddr rfl) rfl ?_ | refine sg_ps (ps_nilCheck rfl) rfl ?_ | refine sg_load 0 rfl rfl rfl rfl ?_ | refine sg_ps (ps_add64 rfl rfl (by omega)) rfl ?_ | refine sg_ps (ps_bin rfl rfl inferInstance) rfl ?_ | refine sg_guard_yes rfl rfl ?_ | refine sg_ps (ps_pick_f rfl rfl) rfl ?_ | refine sg_ps (ps_len rfl) rfl ?_ | refine sg_skip ?_ | (refine sg_guard_dec rfl rfl (fun hg => ?_) (fun hg => ?_) <;> first | (exfalso; omega) | (exact absurd rfl hg) | skip) | (refine sg_cond_dec rfl (fun hg => ?_) (fun hg => ?_) <;> first | (exfalso; omega) | (exact absurd rfl hg) | skip))
  refine sg_seq ?_
  repeat' (first | refine sg_wo ?_ | refine sg_ps (ps_assign rfl) rfl ?_ | refine sg_region ?_ | refine sg_nil ?_ | refine sg_then ?_)
  refine sg_seq_mid (γ := List UInt8 × Option Addr × Nat) (fun g => gath D.seen st n 0 [] = some g.1 ∧ g.1.length ≤ 50 * n) (fun g => [(0, dp r), (1, i64 st), (2, .int .u64 (id : Int)), (9, i64 n), (10, .slice g.2.1 g.1.length g.2.2)])
    (fun g => sown g.2.1 g.1.length g.2.2 1 (g.1.map bv) :: blk r (rdcells D x) :: KK :: sown (some ⟨x.sb, 0, none⟩) x.ss.length x.sc 1 (x.ss.map shdr) :: TT :: blks x.ls :: R) ?_ ?_
  · skip
    repeat' (first | refine sg_wo ?_ | refine sg_ps (ps_assign rfl) rfl ?_ | refine sg_seq ?_ | refine sg_region ?_ | refine sg_nil ?_ | refine sg_then ?_ | refine sg_block ?_)
    refine sg_loop (γ := Nat × List UInt8 × Option Addr × Nat) (fun g => g.1 ≤ n ∧ gath D.seen st n 0 [] = gath D.seen st (n - g.1) g.1 g.2.1 ∧ g.2.1.length ≤ 50 * g.1) (fun g => [(0, dp r), (1, i64 st), (2, .int .u64 (id : Int)), (9, i64 n), (10, .slice g.2.2.1 g.2.1.length g.2.2.2), (11, i64 g.1)])
      (fun g => sown g.2.2.1 g.2.1.length g.2.2.2 1 (g.2.1.map bv) :: blk r (rdcells D x) :: KK :: sown (some ⟨x.sb, 0, none⟩) x.ss.length x.sc 1 (x.ss.map shdr) :: TT :: blks x.ls :: R) (fun g => n - g.1) (0, [], none, 0)
      ⟨Nat.zero_le _, rfl, Nat.le_refl _⟩ (.cons rfl (.cons rfl (.cons rfl (.cons rfl (.cons rfl (.cons rfl .nil)))))) (fun w hO => own_nil hO) ?_
    rintro ⟨i, out, oa, oc⟩ ⟨hi, hga, hol⟩
    dsimp only at hi hga hol ⊢
    by_cases hin : i < n
    · have hsi : st + i < D.seen.length := by omega
      obtain ⟨t1, t2, t3, t4⟩ := hsec (st + i) hsi
      have hgi := hgetD (st + i) hsi
      obtain ⟨s, hs0⟩ : ∃ s, s = D.seen[st + i] := ⟨_, rfl⟩
      rw [← hs0] at t2 t3 t4 hgi
      have hk2 := kOf_two t3
      have y12 := (s[12]'(by omega)).toNat_lt
      have y13 := (s[13]'(by omega)).toNat_lt
      have hstep : gath D.seen st (n - i) i out = if 50 < kOf s then none else gath D.seen st (n - (i + 1)) (i + 1) (out ++ (s.drop 14).take (kOf s)) := by
        rw [show n - i = (n - (i + 1)) + 1 by omega]; simp only [gath]; rw [hgi]
      have hadd : (st : Int) + (i : Int) = ((st + i : Nat) : Int) := by omega
      repeat' (first | refine sg_wo ?_ | refine sg_ps (ps_move rfl) rfl ?_ | refine sg_seq ?_ | refine sg_region ?_ | refine sg_nil ?_ | refine sg_then ?_ | refine sg_ps (ps_fieldAddr rfl) rfl ?_ | refine sg_ps (ps_nilCheck rfl) rfl ?_ | refine sg_load 1 rfl rfl rfl rfl ?_ | refine sg_ps (ps_add64 rfl rfl (by omega)) rfl ?_ | refine sg_ps (ps_bin rfl rfl inferInstance) rfl ?_ | refine sg_ps (ps_indexAddr rfl rfl rfl (by omega)) rfl ?_ | refine sg_block ?_ | refine sg_skip ?_ | (refine sg_cond_dec rfl (fun hg => ?_) (fun hg => ?_) <;> first | (exfalso; omega) | (exact absurd rfl hg) | skip))
      rw [hadd]
      skip
      refine sg_load_rd rfl ((rd_sown 3 rfl (fun _ _ h => h)).get (st + i) (v := shdr x.ss[st + i]) (by rw [List.getElem?_map, List.getElem?_eq_getElem t1]; rfl)) rfl ?_
      rw [show shdr x.ss[st + i] = .slice (some ⟨x.ss[st + i].1, 0, none⟩) 64 64 from rfl]
      generalize x.ss[st + i].1 = b at *
      have hrs : Rd W (sown oa out.length oc 1 (out.map bv) :: blk r (rdcells D x) :: KK :: sown (some ⟨x.sb, 0, none⟩) x.ss.length x.sc 1 (x.ss.map shdr) :: TT :: blks x.ls :: R) (some ⟨b, 0, none⟩) (s.map bv) := rd_blks 5 rfl t4 (fun j u h => by rw [Nat.zero_add]; exact h)
      repeat' (first | refine sg_wo ?_ | refine sg_ps (ps_assign rfl) rfl ?_ | refine sg_seq ?_ | refine sg_nil ?_ | refine sg_then ?_)
      refine sg_drawK (sown oa out.length oc 1 (out.map bv) :: blk r (rdcells D x) :: KK :: sown (some ⟨x.sb, 0, none⟩) x.ss.length x.sc 1 (x.ss.map shdr) :: TT :: blks x.ls :: R) [0, 1, 5, 6, 2, 3, 4, 7, 8, 9, 10] (by kernel_rfl) (by kernel_rfl) (fun w hO => hO) ?_
      repeat' (first | refine sk_pure rfl rfl (ps_move rfl) rfl ?_)
      refine sk_pure rfl rfl (ps_indexAddr (j := 12) rfl rfl rfl (by omega)) rfl ?_
      repeat' (first | refine sk_pure rfl rfl (ps_move rfl) rfl ?_)
      refine sk_pure rfl rfl (ps_indexAddr (j := 13) rfl rfl rfl (by omega)) rfl ?_
      skip
      refine sk_load_rd rfl rfl (hrs.get 12 (v := bv (s[12]'(by omega))) (bv_get (by omega))) rfl ?_
      refine sk_pure rfl rfl (ps_conv rfl) rfl ?_
      rw [conv_u8_i64 (s[12]'(by omega))]
      repeat' (first | refine sk_pure rfl rfl (ps_mul64 rfl rfl (by omega)) rfl ?_)
      refine sk_load_rd rfl rfl (hrs.get 13 (v := bv (s[13]'(by omega))) (bv_get (by omega))) rfl ?_
      refine sk_pure rfl rfl (ps_conv rfl) rfl ?_
      rw [conv_u8_i64 (s[13]'(by omega))]
      repeat' (first | refine sk_nil ?_ | refine sk_pure rfl rfl (ps_assign rfl) rfl ?_ | refine sk_pure rfl rfl (ps_add64 rfl rfl (by omega)) rfl ?_)
      rw [show (((s[12]'(by omega)).toNat : Nat) : Int) * (256 : Int) + (((s[13]'(by omega)).toNat : Nat) : Int) = ((kOf s : Nat) : Int) by omega]
      generalize kOf s = k at hk2 hstep
      clear hk2
      repeat' (first | refine sg_then ?_)
      by_cases hk50 : 50 < k
      · rw [if_pos hk50] at hstep
        rw [rread3_none hA (by rw [hnn]; exact hB) (by rw [hnn]; exact hga.trans hstep)]
        repeat' (first | refine sg_wo ?_ | refine sg_ps (ps_move rfl) rfl ?_ | refine sg_ps (ps_assign rfl) rfl ?_ | refine sg_seq ?_ | refine sg_region ?_ | refine sg_nil ?_ | refine sg_then ?_ | refine sg_ps (ps_bin rfl rfl inferInstance) rfl ?_ | refine sg_ret ?_ | refine ex_then_ret ?_ | refine ex_block_ret ?_ | (refine sg_cond_dec rfl (fun hg => ?_) (fun hg => ?_) <;> first | (exfalso; omega) | (exact absurd rfl hg) | skip))
        exact ex_ret2 rfl rfl rfl (none, 0) rfl trivial (fun w hO => own_nil (hshut w _ hO.tail))
      · rw [if_neg hk50] at hstep
        repeat' (first | refine sg_wo ?_ | refine sg_ps (ps_move rfl) rfl ?_ | refine sg_seq ?_ | refine sg_region ?_ | refine sg_nil ?_ | refine sg_then ?_ | refine sg_ps (ps_add64 rfl rfl (by omega)) rfl ?_ | refine sg_ps (ps_bin rfl rfl inferInstance) rfl ?_ | refine sg_skip ?_ | (refine sg_cond_dec rfl (fun hg => ?_) (fun hg => ?_) <;> first | (exfalso; omega) | (exact absurd rfl hg) | skip))
        refine sg_ps (ps_slice_lh1 (l := 14) (h' := 14 + k) rfl rfl rfl (by omega) (by omega) (by omega) (by omega)) rfl ?_
        rw [show 14 + k - 14 = k by omega]
        have hrk : Rd W (sown oa out.length oc 1 (out.map bv) :: blk r (rdcells D x) :: KK :: sown (some ⟨x.sb, 0, none⟩) x.ss.length x.sc 1 (x.ss.map shdr) :: TT :: blks x.ls :: R) (sadd (some ⟨b, 0, none⟩) 64 14) (((s.drop 14).take k).map bv) := by
          have h9 := (hrs.sub (c := 64) 14 (by rw [List.length_map]; omega)).take k
          rw [← List.map_drop, ← List.map_take] at h9
          exact h9
        have hlk : ((s.drop 14).take k).length = k := by rw [List.length_take, List.length_drop]; omega
        repeat' (first | refine sg_wo ?_)
        refine sg_append (sz := 1) (m := k) (news := ((s.drop 14).take k).map bv) rfl rfl rfl (by rw [List.length_map, hlk, Nat.mul_one]) bv_one hrk (by simp only [maxLen]; omega) (by omega) (fun a2 c2 => ?_)
        rw [← List.map_append, show out.length + k = (out ++ (s.drop 14).take k).length by rw [List.length_append, hlk]]
        repeat' (first | refine sg_wo ?_ | refine sg_ps (ps_move rfl) rfl ?_ | refine sg_ps (ps_assign rfl) rfl ?_ | refine sg_region ?_ | refine sg_nil ?_ | refine sg_then ?_ | refine sg_ps (ps_add64 rfl rfl (by omega)) rfl ?_ | refine ex_block_normal ?_)
        exact ex_mid (i + 1, out ++ (s.drop 14).take k, a2, c2) ⟨by show n - (i + 1) < n - i; omega, by show i + 1 ≤ n; omega, hga.trans hstep, by show (out ++ _).length ≤ 50 * (i + 1); rw [List.length_append, hlk]; omega⟩
          (.cons rfl (.cons rfl (.cons rfl (.cons rfl (.cons rfl (.cons rfl .nil)))))) (fun w hO => hO)
    · have hin2 : i = n := by omega
      subst hin2
      rw [Nat.sub_self] at hga
      repeat' (first | refine sg_wo ?_ | refine sg_ps (ps_move rfl) rfl ?_ | refine sg_seq ?_ | refine sg_region ?_ | refine sg_nil ?_ | refine sg_then ?_ | refine sg_ps (ps_bin rfl rfl inferInstance) rfl ?_ | refine sg_exit ?_ | refine ex_then_exit ?_ | refine ex_block_hit ?_ | (refine sg_cond_dec rfl (fun hg => ?_) (fun hg => ?_) <;> first | (exfalso; omega) | (exact absurd rfl hg) | skip))
      exact ex_mid (out, oa, oc) ⟨hga, hol⟩ (.cons rfl (.cons rfl (.cons rfl (.cons rfl (.cons rfl .nil))))) (fun w hO => hO)
  · rintro ⟨out, oa, oc⟩ ⟨hga, hol⟩
    dsimp only at hga hol ⊢
    rw [rread3_some hA (by rw [hnn]; exact hB) (by rw [hnn]; exact hga), hnn]
    repeat' (first | refine sg_wo ?_ | refine sg_ps (ps_move rfl) rfl ?_ | refine sg_seq ?_ | refine sg_region ?_ | refine sg_ps (ps_len rfl) rfl ?_)
    refine sg_call (r3count_tri out.length (by omega) _) rfl rfl (fun _ _ => ?_)
    by_cases hcn : cnt out.length = n
    · rw [hcn]
      refine sg_own (L' := sown oa out.length oc 1 (out.map bv) :: blk r (rdcells D x) :: KK :: sown (some ⟨x.sb, 0, none⟩) x.ss.length x.sc 1 (x.ss.map shdr) :: TT :: blks x.ls :: R) (fun w hO => hO) ?_
      refine sg_bs_capS (fun hcap => ?_)
      repeat' (first | refine sg_wo ?_ | refine sg_ps (ps_move rfl) rfl ?_ | refine sg_seq ?_ | refine sg_region ?_ | refine sg_nil ?_ | refine sg_then ?_ | refine sg_ps (ps_bin rfl rfl inferInstance) rfl ?_ | refine sg_skip ?_ | (refine sg_cond_ndec rfl (fun hg => ?_) (fun hg => ?_) <;> first | (exfalso; omega) | (exact absurd rfl hg) | skip))
      refine sg_call (rsectors_tri id out oa oc hcap (by omega) hid _ (fun L => rd_sown L.length (by rw [List.getElem?_append_right (Nat.le_refl _), Nat.sub_self]; rfl) (fun _ _ h => h))) rfl rfl (fun y hy => ?_)
      obtain ⟨ob, obc, cs⟩ := y
      dsimp only at hy ⊢
      have hcl : cs.length = n := by have := congrArg List.length hy; rw [List.length_map, rsecs_len] at this; omega
      have hcg : ∀ i (h : i < cs.length), cs[i].data = pad (sect id i n (partAt out i)) := by
        intro i h
        have h9 := congrArg (fun l => l[i]?) hy
        simp only [List.getElem?_map, List.getElem?_eq_getElem h, Option.map_some, rsecs_get (show i < cnt out.length by omega), Option.some.injEq] at h9
        rw [hcn] at h9
        exact h9
      have hpl : ∀ i, (partAt out i).length ≤ 50 := fun i => by rw [partAt_length]; omega
      repeat' (first | refine sg_wo ?_ | refine sg_ps (ps_assign rfl) rfl ?_ | refine sg_seq ?_ | refine sg_region ?_ | refine sg_nil ?_ | refine sg_then ?_ | refine sg_block ?_)
      refine sg_loop (γ := Nat) (fun i => i ≤ n ∧ ∀ j, j < i → D.seen.getD (st + j) [] = pad (sect id j n (partAt out j))) (fun i => [(0, dp r), (1, i64 st), (9, i64 n), (10, .slice oa out.length oc), (14, .slice ob cs.length obc), (15, i64 i)])
        (fun _ => BsRep ob obc cs :: sown oa out.length oc 1 (out.map bv) :: blk r (rdcells D x) :: KK :: sown (some ⟨x.sb, 0, none⟩) x.ss.length x.sc 1 (x.ss.map shdr) :: TT :: blks x.ls :: R) (fun i => n - i) 0 ⟨Nat.zero_le _, fun j hj => absurd hj (Nat.not_lt_zero _)⟩
        (.cons rfl (.cons rfl (.cons rfl (.cons rfl (.cons rfl (.cons rfl .nil)))))) (fun w hO => hO) ?_
      rintro i ⟨hi, hall⟩
      by_cases hin : i < n
      · have hsi : st + i < D.seen.length := by omega
        obtain ⟨t1, t2, t3, t4⟩ := hsec (st + i) hsi
        have hgi := hgetD (st + i) hsi
        obtain ⟨s, hs0⟩ : ∃ s, s = D.seen[st + i] := ⟨_, rfl⟩
        rw [← hs0] at t2 t3 t4 hgi
        have hil : i < cs.length := by omega
        have hci := hcg i hil
        have hlen : cs[i].data.length = 64 := by rw [hci]; exact pad_length (by rw [sect_length]; have := hpl i; omega)
        have hadd : (st : Int) + (i : Int) = ((st + i : Nat) : Int) := by omega
        refine sg_bs_some 0 rfl (by omega) ?_
        rintro ob2 rfl
        repeat' (first | refine sg_wo ?_ | refine sg_ps (ps_move rfl) rfl ?_ | refine sg_seq ?_ | refine sg_region ?_ | refine sg_nil ?_ | refine sg_then ?_ | refine sg_ps (ps_bin rfl rfl inferInstance) rfl ?_ | refine sg_block ?_ | refine sg_skip ?_ | (refine sg_cond_dec rfl (fun hg => ?_) (fun hg => ?_) <;> first | (exfalso; omega) | (exact absurd rfl hg) | skip))
        refine sg_drawK (BsRep (some ⟨ob2, 0, none⟩) obc cs :: sown oa out.length oc 1 (out.map bv) :: blk r (rdcells D x) :: KK :: sown (some ⟨x.sb, 0, none⟩) x.ss.length x.sc 1 (x.ss.map shdr) :: TT :: blks x.ls :: R) [0, 1, 2, 5, 6, 7, 9, 10, 11, 3, 4, 8, 12, 13, 14, 15] (by kernel_rfl) (by kernel_rfl) (fun w hO => hO) ?_
        repeat' (first | refine sk_pure rfl rfl (ps_move rfl) rfl ?_ | refine sk_pure rfl rfl (ps_nilCheck rfl) rfl ?_ | refine sk_pure rfl rfl (ps_fieldAddr rfl) rfl ?_ | refine sk_pure rfl rfl (ps_add64 rfl rfl (by omega)) rfl ?_ | refine sk_pure rfl rfl (ps_indexAddr rfl rfl rfl (by omega)) rfl ?_)
        rw [hadd]
        skip
        refine sk_load_rd rfl rfl (rd_bhdr (i := i) 0 rfl (List.getElem?_eq_getElem hil)) rfl ?_
        rw [show CB.hdr cs[i] = .slice cs[i].a cs[i].data.length cs[i].c from rfl]
        skip
        refine sk_str rfl rfl rfl rfl (fun w hO => hO) (rd_bdata (i := i) 0 rfl (List.getElem?_eq_getElem hil)) ?_
        repeat' (first | refine sk_pure rfl rfl (ps_indexAddr rfl rfl rfl (by omega)) rfl ?_ | refine sk_load 2 rfl rfl rfl rfl rfl ?_)
        refine sk_load_rd rfl rfl ((rd_sown 4 rfl (fun _ _ h => h)).get (st + i) (v := shdr x.ss[st + i]) (by rw [List.getElem?_map, List.getElem?_eq_getElem t1]; rfl)) rfl ?_
        rw [show shdr x.ss[st + i] = .slice (some ⟨x.ss[st + i].1, 0, none⟩) 64 64 from rfl]
        skip
        refine sk_str rfl rfl rfl t3 (fun w hO => hO) (rd_blks 6 rfl t4 (fun j u h => by rw [Nat.zero_add]; exact h)) ?_
        repeat' (first | refine sk_nil ?_ | refine sk_pure rfl rfl (ps_bin rfl rfl inferInstance) rfl ?_)
        by_cases heq : cs[i].data = s
        · rw [show decide ((strOf cs[i].data).toList = (strOf s).toList) = true from decide_eq_true ((str_eq _ _).2 heq)]
          repeat' (first | refine sg_wo ?_ | refine sg_ps (ps_move rfl) rfl ?_ | refine sg_ps (ps_assign rfl) rfl ?_ | refine sg_region ?_ | refine sg_nil ?_ | refine sg_then ?_ | refine sg_ps (ps_add64 rfl rfl (by omega)) rfl ?_ | refine sg_cond_f rfl ?_ | refine sg_skip ?_ | refine ex_block_normal ?_)
          exact ex_mid (i + 1) ⟨by omega, by omega, fun j hj => by
            by_cases hji : j = i
            · subst hji; rw [hgi, ← heq, hci]
            · exact hall j (by omega)⟩ (.cons rfl (.cons rfl (.cons rfl (.cons rfl (.cons rfl (.cons rfl .nil)))))) (fun w hO => hO)
        · rw [show decide ((strOf cs[i].data).toList = (strOf s).toList) = false from decide_eq_false (fun h => heq ((str_eq _ _).1 h))]
          have hne : ¬ (n = n ∧ ∀ j, j < n → D.seen.getD (st + j) [] = pad (sect id j n (partAt out j))) := fun h => by
            have h9 := h.2 i hin
            rw [hgi, ← hci] at h9
            exact heq h9.symm
          rw [if_neg hne]
          repeat' (first | refine sg_wo ?_ | refine sg_ps (ps_assign rfl) rfl ?_ | refine sg_seq ?_ | refine sg_region ?_ | refine sg_nil ?_ | refine sg_then ?_ | refine sg_cond_t rfl ?_ | refine sg_ret ?_ | refine ex_then_ret ?_ | refine ex_block_ret ?_)
          exact ex_ret2 rfl rfl rfl (none, 0) rfl trivial (fun w hO => own_nil (hshut w _ hO.tail.tail))
      · have hin2 : i = n := by omega
        have hall2 : n = n ∧ ∀ j, j < n → D.seen.getD (st + j) [] = pad (sect id j n (partAt out j)) := ⟨rfl, fun j hj => hall j (by omega)⟩
        rw [if_pos hall2]
        repeat' (first | refine sg_wo ?_ | refine sg_ps (ps_move rfl) rfl ?_ | refine sg_ps (ps_assign rfl) rfl ?_ | refine sg_seq ?_ | refine sg_region ?_ | refine sg_nil ?_ | refine sg_then ?_ | refine sg_ps (ps_bin rfl rfl inferInstance) rfl ?_ | refine sg_ret ?_ | refine sg_exit ?_ | refine ex_then_exit ?_ | refine ex_block_hit ?_ | (refine sg_cond_dec rfl (fun hg => ?_) (fun hg => ?_) <;> first | (exfalso; omega) | (exact absurd rfl hg) | skip))
        exact ex_ret2 rfl rfl rfl (oa, oc) rfl trivial (fun w hO => (hshut w (_ :: R) (hO.tail.pickT [_, _, _, _, _, _] [1, 2, 3, 4, 5, 0] (by decide))).front1)
    · have hne : ¬ (cnt out.length = n ∧ ∀ j, j < n → D.seen.getD (st + j) [] = pad (sect id j (cnt out.length) (partAt out j))) := fun h => hcn h.1
      rw [if_neg hne]
      repeat' (first | refine sg_wo ?_ | refine sg_ps (ps_move rfl) rfl ?_ | refine sg_ps (ps_assign rfl) rfl ?_ | refine sg_seq ?_ | refine sg_region ?_ | refine sg_nil ?_ | refine sg_then ?_ | refine sg_ps (ps_bin rfl rfl inferInstance) rfl ?_ | refine sg_ret ?_ | refine ex_then_ret ?_ | (refine sg_cond_ndec rfl (fun hg => ?_) (fun hg => ?_) <;> first | (exfalso; omega) | (exact absurd rfl hg) | skip))
      exact ex_ret2 rfl rfl rfl (none, 0) rfl trivial (fun w hO => own_nil (hshut w _ hO.tail))
end Go.Proofs.Ytgcfonjiingpnaa
