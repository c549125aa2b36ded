/- The reference of package wal: Open. -/
import Derived.Test.YtdehkdmnddflhaaWRC
namespace Go.Proofs.Ytdehkdmnddflhaa
set_option linter.unusedVariables false
set_option linter.unusedSimpArgs false
set_option linter.unusedSectionVars false
set_option linter.unnecessarySimpa false
open Go Go.Proofs
set_option maxRecDepth 20000
set_option maxHeartbeats 4000000
attribute [local irreducible] SG WC WO W1 WD WK PS Rd Tri Exit.then Exit.inBlock bodyPost calmQ Mid sadd
variable {W : World} {n : Nat} {F : Fr} {L : List HP} {G : Act → World → Prop}
theorem r5open_tri (r : Nat) (D : DS) (base size least mount head : Nat) (R : List HP) (h1 : 4 ≤ size) (h2 : base + size ≤ D.seen.length) (h3 : D.seen.length ≤ 4096) (h4 : 0 < least) (h5 : least ≤ mount) (h6 : mount < 4294967296) (h7 : 0 < head) (h8 : head ≤ 4611686018427387904) :
    Tri Try.prog W 27 [dp r, i64 base, i64 size, u32v least, u32v mount, u64v head] (RefRep r D :: R) (X := Nat × Option Addr × Nat × List RR) (fun x => .tuple #[dp x.1, .slice x.2.1 x.2.2.2.length x.2.2.1, i64 0])
      (fun x => x.2.2.2.map RR.val = (wfound D base size mount head least).1)
      (fun x => RecsRep x.2.1 x.2.2.1 x.2.2.2 :: blk x.1 (lcells r ⟨base, size, mount, head, (wfound D base size mount head least).2⟩) :: RefRep r D :: R) := by
  refine tri_enter (n := _) (F := [(0, dp r), (1, i64 base), (2, i64 size), (3, u32v least), (4, u32v mount), (5, u64v head)]) Try.func27 rfl Try.ntmps27 rfl (fun i u hi => by simp only [look] at hi; (repeat' split at hi) <;> simp_all [Nat.beq_eq]) ?_
  refine RefRep.open fun x hx => ?_
  obtain ⟨l1, l2, l3⟩ := hx.lens
  obtain ⟨at_, hat⟩ : ∃ at_, at_ = wat D ⟨base, size, mount, head, head⟩ := ⟨_, rfl⟩
  have hpos : ∀ s, LS.pos ⟨base, size, mount, head, head⟩ s < D.seen.length := fun s => by
    have := Nat.mod_lt s (y := size) (by omega)
    show base + s % size < _; omega
  have hatg : ∀ s, at_ s = D.seen[LS.pos ⟨base, size, mount, head, head⟩ s]'(hpos s) := fun s => by
    rw [hat]; unfold wat DS.at
    rw [List.getD_eq_getElem?_getD, List.getElem?_eq_getElem (hpos s)]; rfl
  have h64 : ∀ s, (at_ s).length = 64 := fun s => by rw [hatg]; exact hx.dok.sec _ (List.getElem_mem _)
  have hwf : wfound D base size mount head least = rfind at_ mount size head least [] head [] := by
    rw [rfind_eq size head least head [] [] (fun q _ _ => h64 q) (by omega), hat]; rfl
  rw [hwf]
  obtain ⟨B, hB⟩ : ∃ B, rfind at_ mount size head least [] head [] = B := ⟨_, rfl⟩
  rw [hB]
  clear hwf
  obtain ⟨KK, hKK⟩ : ∃ KK, KK = sown (some ⟨x.kb, 0, none⟩) x.ks.length x.kc 1 (x.ks.map shdr) := ⟨_, rfl⟩
  obtain ⟨TT, hTT⟩ : ∃ TT, TT = sown x.wa x.ws.length x.wc 2 (x.ws.flatMap putc) := ⟨_, rfl⟩
  have hend : ∀ (w : World) (p : HP) (lr : Nat) (oa : Option Addr) (oc nx : Nat) (l : List RR), Own W w (p :: RecsRep oa oc l :: blk lr (lcells r ⟨base, size, mount, head, nx⟩) :: blk r (rdcells D x) :: KK :: sown (some ⟨x.sb, 0, none⟩) x.ss.length x.sc 1 (x.ss.map shdr) :: TT :: blks x.ls :: R) → Own W w (RecsRep oa oc l :: blk lr (lcells r ⟨base, size, mount, head, nx⟩) :: RefRep r D :: R) := fun w p lr oa oc nx l hO => by
    have h9 := hO.tail.pickT [_, _, _, _, _, _, _] [2, 3, 4, 5, 6, 0, 1] (by decide)
    rw [hKK, hTT] at h9
    exact (RefRep.shut (L := _ :: _ :: R) x hx h9).pickT [_, _, _] [1, 2, 0] (by decide)
  rw [← hKK, ← hTT]
  repeat' (first | refine sg_wo ?_ | refine sg_ps (ps_move rfl) rfl ?_ | refine sg_ps (ps_assign rfl) rfl ?_ | refine sg_seq ?_ | refine sg_region ?_ | refine sg_nil ?_ | refine sg_then ?_ | refine sg_ps (ps_fieldAddr rfl) rfl ?_ | refine sg_ps (ps_nilCheck rfl) rfl ?_ | refine sg_load 0 rfl rfl rfl rfl ?_ | refine sg_ps (ps_sub64 rfl rfl (by omega)) rfl ?_ | refine sg_ps (ps_bin rfl rfl inferInstance) rfl ?_ | refine sg_guard_yes rfl rfl ?_ | refine sg_ps (ps_pick_f rfl rfl) rfl ?_ | refine sg_ps (ps_len rfl) rfl ?_ | refine sg_ps (ps_build rfl rfl) rfl ?_ | refine sg_box rfl rfl (fun bx => ?_) | refine sg_block ?_ | refine sg_skip ?_ | (refine sg_guard_dec rfl rfl (fun hg => ?_) (fun hg => ?_) <;> first | (exfalso; omega) | (exact absurd rfl hg) | skip) | (refine sg_cond_dec rfl (fun hg => ?_) (fun hg => ?_) <;> first | (exfalso; omega) | (exact absurd rfl hg) | skip))
  revert bx
  intro lr
  refine sg_own (fun w hO => own_nil (sz := 1) (recs_nil hO)) ?_
  refine sg_loop (γ := FG) (fun g => head ≤ g.s ∧ g.s ≤ head + size ∧ g.data.length ≤ 50 * (g.s - head) ∧ g.next ≤ g.s ∧ head ≤ g.next ∧ g.mount < 4294967296 ∧ g.l.length ≤ g.s - head ∧ B = rfind at_ mount (head + size - g.s) g.s g.mount g.data g.next (g.l.map RR.val))
    (fun g => [(0, dp r), (1, i64 base), (2, i64 size), (4, u32v mount), (5, u64v head), (15, dp lr), (16, .slice g.oa g.l.length g.oc), (17, .slice g.da g.data.length g.dc), (18, u32v g.mount), (19, .bool (decide (g.s = g.next))), (20, u64v g.s)])
    (fun g => sown g.da g.data.length g.dc 1 (g.data.map bv) :: RecsRep g.oa g.oc g.l :: blk lr (lcells r ⟨base, size, mount, head, g.next⟩) :: blk r (rdcells D x) :: KK :: sown (some ⟨x.sb, 0, none⟩) x.ss.length x.sc 1 (x.ss.map shdr) :: TT :: blks x.ls :: R) (fun g => head + size - g.s) ⟨head, least, head, [], none, 0, none, 0, []⟩
    ⟨Nat.le_refl _, Nat.le_add_right _ _, Nat.zero_le _, Nat.le_refl _, Nat.le_refl _, by show least < _; omega, Nat.zero_le _, by rw [Nat.add_sub_cancel_left]; exact hB.symm⟩ (.cons rfl (.cons rfl (.cons rfl (.cons rfl (.cons rfl (.cons rfl (.cons rfl (.cons rfl (.cons rfl (.cons (by show some _ = some (Value.bool (decide (head = head))); rw [decide_eq_true rfl]) (.cons rfl .nil))))))))))) (fun w hO => hO) ?_
  rintro ⟨s, last, nx, data, da, dc, oa, oc, l⟩ ⟨i1, i2, i3, i4, i5, i6, i7, hrun⟩
  dsimp only at i1 i2 i3 i4 i5 i6 i7 hrun ⊢
  have hw1 : IntKind.u64.wrap (size : Int) = ((size : Nat) : Int) := u64_of_nat size (by omega)
  have hw2 : IntKind.u64.wrap ((head : Int) + IntKind.u64.wrap (size : Int)) = ((head + size : Nat) : Int) := by rw [hw1, show (head : Int) + ((size : Nat) : Int) = ((head + size : Nat) : Int) by omega, u64_of_nat (head + size) (by omega)]
  by_cases hs : s < head + size
  · rw [show head + size - s = (head + size - (s + 1)) + 1 by omega, rfind_succ] at hrun
    obtain ⟨q, hq⟩ : ∃ q, q = LS.pos ⟨base, size, mount, head, head⟩ s := ⟨_, rfl⟩
    have hqk := hpos s
    rw [← hq] at hqk
    have hqs : q < x.ss.length := by omega
    have hbq : at_ s = D.seen[q] := by rw [hatg]; congr 1; exact hq.symm
    have hsq : x.ss[q].2 = at_ s := by
      have h9 := congrArg (fun l => l[q]?) hx.seen
      simp only [List.getElem?_map, List.getElem?_eq_getElem hqs, List.getElem?_eq_getElem hqk, Option.map_some, Option.some.injEq] at h9
      rw [hbq]; exact h9
    have hin := hx.sin _ (List.getElem_mem hqs)
    have hb64 := h64 s
    rw [hsq] at hin
    generalize at_ s = b at *
    have hmlt := Nat.mod_lt s (y := size) (by omega)
    have hqv : q = base + s % size := hq
    skip
    refine sg_seq ?_
    refine sg_seq ?_
    repeat' (first | refine sg_wo ?_ | refine sg_ps (ps_move rfl) rfl ?_ | refine sg_region ?_ | refine sg_nil ?_ | refine sg_then ?_ | refine sg_ps (ps_bin rfl rfl inferInstance) rfl ?_ | refine sg_ps (ps_conv rfl) rfl ?_ | refine sg_skip ?_ | (refine sg_cond_dec rfl (fun hg => ?_) (fun hg => ?_) <;> first | (exfalso; omega) | (exact absurd rfl hg) | skip))
    refine sg_seq ?_
    repeat' (first | refine sg_block ?_)
    refine sg_seq ?_
    skip
    refine sg_drawK (sown da data.length dc 1 (data.map bv) :: RecsRep oa oc l :: blk lr (lcells r ⟨base, size, mount, head, nx⟩) :: blk r (rdcells D x) :: KK :: sown (some ⟨x.sb, 0, none⟩) x.ss.length x.sc 1 (x.ss.map shdr) :: TT :: blks x.ls :: R) [0, 1, 2, 4, 5, 6, 7, 8, 9, 10, 3, 11, 12, 13] (by kernel_rfl) (by kernel_rfl) (fun w hO => hO) ?_
    repeat' (first | refine sk_pure rfl rfl (ps_move rfl) rfl ?_ | refine sk_pure rfl rfl (ps_nilCheck rfl) rfl ?_ | refine sk_pure rfl rfl (ps_fieldAddr rfl) rfl ?_ | refine sk_pure rfl rfl (ps_conv rfl) rfl ?_)
    rw [hw1]
    refine sk_pure rfl rfl (ps_rem rfl rfl (by omega)) rfl ?_
    rw [rem_pos s size]
    refine sk_pure rfl rfl (ps_conv rfl) rfl ?_
    rw [i64_of_nat (s % size) (by omega)]
    repeat' (first | refine sk_pure rfl rfl (ps_add64 rfl rfl (by omega)) rfl ?_ | refine sk_pure rfl rfl (ps_indexAddr rfl rfl rfl (by omega)) rfl ?_ | refine sk_load 3 rfl rfl rfl rfl rfl ?_)
    rw [← hqv]
    refine sk_load_rd rfl rfl ((rd_sown 5 rfl (fun _ _ h => h)).get q (v := shdr x.ss[q]) (by rw [List.getElem?_map, List.getElem?_eq_getElem hqs]; rfl)) rfl ?_
    rw [show shdr x.ss[q] = .slice (some ⟨x.ss[q].1, 0, none⟩) 64 64 from rfl]
    generalize x.ss[q].1 = bb at *
    have hrb : ∀ L, Rd W (L ++ (sown da data.length dc 1 (data.map bv) :: RecsRep oa oc l :: blk lr (lcells r ⟨base, size, mount, head, nx⟩) :: blk r (rdcells D x) :: KK :: sown (some ⟨x.sb, 0, none⟩) x.ss.length x.sc 1 (x.ss.map shdr) :: TT :: blks x.ls :: R)) (some ⟨bb, 0, none⟩) (b.map bv) := fun L =>
      rd_blks (L.length + 7) (by rw [List.getElem?_append_right (Nat.le_add_right _ _), Nat.add_sub_cancel_left]; rfl) hin (fun j u h => by rw [Nat.zero_add]; exact h)
    repeat' (first | refine sk_nil ?_ | refine sk_pure rfl rfl (ps_assign rfl) rfl ?_)
    repeat' (first | refine sg_then ?_)
    refine sg_seq ?_
    repeat' (first | refine sg_wo ?_ | refine sg_ps (ps_move rfl) rfl ?_ | refine sg_region ?_)
    refine sg_ps (ps_slice_lh1 (l := 8) (h' := 12) rfl rfl rfl (by decide) (by decide) (by decide) (by decide)) rfl ?_
    repeat' (first | refine sg_wo ?_ | refine sg_ps (ps_build rfl rfl) rfl ?_ | refine sg_box rfl rfl (fun bx => ?_))
    have h4l : ((b.drop 8).take 4).length = 4 := by rw [List.length_take, List.length_drop]; omega
    have hr4 : ∀ L, Rd W (L ++ (sown da data.length dc 1 (data.map bv) :: RecsRep oa oc l :: blk lr (lcells r ⟨base, size, mount, head, nx⟩) :: blk r (rdcells D x) :: KK :: sown (some ⟨x.sb, 0, none⟩) x.ss.length x.sc 1 (x.ss.map shdr) :: TT :: blks x.ls :: R)) (sadd (some ⟨bb, 0, none⟩) 64 8) (((b.drop 8).take 4).map bv) := fun L => by
      have h9 := ((hrb L).sub (c := 64) 8 (by rw [List.length_map]; omega)).take 4
      rw [← List.map_drop, ← List.map_take] at h9
      exact h9
    have hn4 := rNumRd_tri (W := W) bx (sadd (some ⟨bb, 0, none⟩) 64 8) 56 ((b.drop 8).take 4) 0 4 (by decide) (by omega) (by omega) _ hr4
    rw [h4l, show (((b.drop 8).take 4).drop 0).take 4 = (b.drop 8).take 4 by rw [List.drop_zero, List.take_take]; rfl] at hn4
    refine sg_call hn4 rfl rfl (fun _ _ => ?_)
    have hM : lmount b < 4294967296 := unbe4 _
    rw [show unbe ((b.drop 8).take 4) = lmount b from rfl]
    refine sg_drop0 ?_
    repeat' (first | refine sg_wo ?_ | refine sg_ps (ps_assign rfl) rfl ?_ | refine sg_nil ?_ | refine sg_then ?_ | refine sg_ps (ps_conv rfl) rfl ?_)
    rw [show IntKind.u32.wrap (lmount b : Int) = ((lmount b : Nat) : Int) by rw [wrap_u _ rfl, Nat.mod_eq_of_lt (show lmount b < 2 ^ IntKind.u32.bits from hM)]]
    refine sg_seq ?_
    repeat' (first | refine sg_wo ?_ | refine sg_ps (ps_move rfl) rfl ?_ | refine sg_region ?_)
    refine sg_ps (ps_indexAddr (j := 12) rfl rfl rfl (by decide)) rfl ?_
    repeat' (first | refine sg_wo ?_)
    refine sg_load_rd rfl ((hrb []).get 12 (v := bv (b[12]'(by omega))) (bv_get (by omega))) rfl ?_
    repeat' (first | refine sg_wo ?_ | refine sg_ps (ps_assign rfl) rfl ?_ | refine sg_nil ?_ | refine sg_then ?_ | refine sg_ps (ps_conv rfl) rfl ?_)
    rw [conv_u8_i64, show (b[12]'(by omega)).toNat = lflags b by unfold lflags; rw [getD_get (by omega)]]
    refine sg_seq ?_
    repeat' (first | refine sg_wo ?_ | refine sg_ps (ps_move rfl) rfl ?_ | refine sg_region ?_)
    refine sg_ps (ps_indexAddr (j := 13) rfl rfl rfl (by decide)) rfl ?_
    repeat' (first | refine sg_wo ?_)
    refine sg_load_rd rfl ((hrb []).get 13 (v := bv (b[13]'(by omega))) (bv_get (by omega))) rfl ?_
    repeat' (first | refine sg_wo ?_ | refine sg_ps (ps_assign rfl) rfl ?_ | refine sg_nil ?_ | refine sg_then ?_ | refine sg_ps (ps_conv rfl) rfl ?_)
    rw [conv_u8_i64, show (b[13]'(by omega)).toNat = llen b by unfold llen; rw [getD_get (by omega)]]
    have htm : (lflags b : Int).tmod 2 = ((lflags b % 2 : Nat) : Int) := rem_pos (lflags b) 2
    have hk1 : (lflags b % 2 = 1 ↔ s = nx) ↔ (decide ((lflags b : Int).tmod 2 = 1) = decide (s = nx)) := by
      rw [htm]
      constructor
      · intro h; rw [decide_eq_decide]; constructor
        · intro h2; exact h.1 (by omega)
        · intro h2; have := h.2 h2; omega
      · intro h; rw [decide_eq_decide] at h; constructor
        · intro h2; exact h.1 (by omega)
        · intro h2; have := h.2 h2; omega
    obtain ⟨hF, hFd⟩ : ∃ hF : Prop, hF = (llen b ≤ 50 ∧ last ≤ lmount b ∧ lmount b ≤ mount ∧ (s ≠ nx → lmount b = last) ∧ lflags b ≤ 3 ∧ (lflags b % 2 = 1 ↔ s = nx) ∧ (lflags b < 2 → llen b = 50) ∧ (llen b = 0 → lflags b = 3)) := ⟨_, rfl⟩
    have hno : ¬ hF → B = (l.map RR.val, nx) := by
      intro h
      rw [hrun, if_neg]
      rintro ⟨f1, f2, f3, f4, f5, f6, f7, f8, _⟩
      exact h (by rw [hFd]; exact ⟨f1, f2, f3, fun h => f4 (decide_eq_false h), f5, by rw [f6]; exact decide_eq_true_iff, f7, f8⟩)
    refine sg_seq_mid (γ := Unit) (fun _ => hF) (fun _ => [(0, dp r), (1, i64 base), (2, i64 size), (4, u32v mount), (5, u64v head), (15, dp lr), (16, .slice oa l.length oc), (17, .slice da data.length dc), (18, u32v last), (19, .bool (decide (s = nx))), (20, u64v s), (21, .slice (some ⟨bb, 0, none⟩) 64 64), (22, u32v (lmount b)), (23, i64 (lflags b)), (24, i64 (llen b))])
      (fun _ => sown da data.length dc 1 (data.map bv) :: RecsRep oa oc l :: blk lr (lcells r ⟨base, size, mount, head, nx⟩) :: blk r (rdcells D x) :: KK :: sown (some ⟨x.sb, 0, none⟩) x.ss.length x.sc 1 (x.ss.map shdr) :: TT :: blks x.ls :: R) ?_ ?_
    · by_cases hsn : s = nx
      all_goals
        repeat' (first | refine sg_wo ?_ | refine sg_ps (ps_move rfl) rfl ?_ | refine sg_ps (ps_assign rfl) rfl ?_ | refine sg_seq ?_ | refine sg_region ?_ | refine sg_nil ?_ | refine sg_then ?_ | refine sg_ps (ps_bin rfl rfl inferInstance) rfl ?_ | refine sg_ps (ps_rem rfl rfl (by decide)) rfl ?_ | refine sg_ps (ps_not rfl) rfl ?_ | refine sg_cond_t rfl ?_ | refine sg_cond_f rfl ?_ | refine sg_guard_yes rfl rfl ?_ | refine sg_guard_nf rfl rfl rfl ?_ | refine sg_guard_nt rfl rfl rfl ?_ | refine sg_guard_nu rfl rfl rfl ?_ | refine sg_ps (ps_pick_t rfl rfl) rfl ?_ | refine sg_ps (ps_pick_f rfl rfl) rfl ?_ | refine sg_skip ?_ | refine sg_ret ?_ | refine sg_exit ?_ | refine ex_then_exit ?_ | refine ex_block_hit ?_ | refine ex_block_miss rfl ?_ | (refine sg_guard_dec rfl rfl (fun hg => ?_) (fun hg => ?_) <;> first | (exfalso; omega) | (exact absurd rfl hg) | skip) | (refine sg_guard_ndec rfl rfl (fun hg => ?_) (fun hg => ?_) <;> first | (exfalso; omega) | (exact absurd rfl hg) | skip) | (refine sg_cond_ndec rfl (fun hg => ?_) (fun hg => ?_) <;> first | (exfalso; omega) | (exact absurd rfl hg) | skip))
        all_goals first
          | exact ex_mid () (by rw [hFd]; exact ⟨by omega, by omega, by omega, by omega, by omega, hk1.2 (by assumption), by omega, by omega⟩) (.cons rfl (.cons rfl (.cons rfl (.cons rfl (.cons rfl (.cons rfl (.cons rfl (.cons rfl (.cons rfl (.cons rfl (.cons rfl (.cons rfl (.cons rfl (.cons rfl (.cons rfl .nil))))))))))))))) (fun w hO => hO)
          | (rw [hno (by rw [hFd]; rintro ⟨f1, f2, f3, f4, f5, f6, f7, f8⟩; omega)]
             exact ex_ret3 rfl rfl rfl rfl (lr, oa, oc, l) rfl rfl (fun w hO => hend w _ lr oa oc nx l hO))
          | (rw [hno (by rw [hFd]; rintro ⟨f1, f2, f3, f4, f5, f6, f7, f8⟩; exact absurd (hk1.1 f6) (by assumption))]
             exact ex_ret3 rfl rfl rfl rfl (lr, oa, oc, l) rfl rfl (fun w hO => hend w _ lr oa oc nx l hO))
    · intro _ hF2
      rw [hFd] at hF2
      obtain ⟨f1, f2, f3, f4, f5, f6, f7, f8⟩ := hF2
      obtain ⟨pt, hpt⟩ : ∃ pt, pt = (b.drop 14).take (llen b) := ⟨_, rfl⟩
      have hptl : pt.length = llen b := by rw [hpt, List.length_take, List.length_drop]; omega
      have hrp : ∀ L, Rd W (L ++ (sown da data.length dc 1 (data.map bv) :: RecsRep oa oc l :: blk lr (lcells r ⟨base, size, mount, head, nx⟩) :: blk r (rdcells D x) :: KK :: sown (some ⟨x.sb, 0, none⟩) x.ss.length x.sc 1 (x.ss.map shdr) :: TT :: blks x.ls :: R)) (sadd (some ⟨bb, 0, none⟩) 64 14) (pt.map bv) := fun L => by
        have h9 := ((hrb L).sub (c := 64) 14 (by rw [List.length_map]; omega)).take (llen b)
        rw [← List.map_drop, ← List.map_take, ← hpt] at h9
        exact h9
      rw [← hpt] at hrun
      have hsec := rsector_tri (W := W) s (lmount b) (lflags b) pt (sadd (some ⟨bb, 0, none⟩) 64 14) (64 - 14) (by omega) hM (by omega) (by omega) _ hrp
      rw [hptl] at hsec
      refine sg_seq ?_
      refine sg_seq ?_
      refine sg_drawK (sown da data.length dc 1 (data.map bv) :: RecsRep oa oc l :: blk lr (lcells r ⟨base, size, mount, head, nx⟩) :: blk r (rdcells D x) :: KK :: sown (some ⟨x.sb, 0, none⟩) x.ss.length x.sc 1 (x.ss.map shdr) :: TT :: blks x.ls :: R) [0, 1, 2, 3, 4, 5, 6, 9, 10, 7, 8, 11] (by kernel_rfl) (by kernel_rfl) (fun w hO => hO) ?_
      repeat' (first | refine sk_pure rfl rfl (ps_move rfl) rfl ?_ | refine sk_pure rfl rfl (ps_add64 rfl rfl (by omega)) rfl ?_)
      rw [show (14 : Int) + (llen b : Int) = ((14 + llen b : Nat) : Int) by omega]
      refine sk_pure rfl rfl (ps_slice_lh1 (l := 14) (h' := 14 + llen b) rfl rfl rfl rfl rfl (by omega) (by omega)) rfl ?_
      rw [show 14 + llen b - 14 = llen b by omega]
      repeat' (first | refine sk_pure rfl rfl (ps_move rfl) rfl ?_)
      refine sk_str rfl rfl rfl hb64 (fun w hO => hO) (hrb []) ?_
      repeat' (first | refine sk_eff rfl rfl ?_)
      refine sg_call hsec rfl rfl (fun y _ => ?_)
      obtain ⟨ya, yc⟩ := y
      dsimp only
      refine sk_to (sown ya 64 yc 1 ((rsect s (lmount b) (lflags b) pt).map bv) :: sown da data.length dc 1 (data.map bv) :: RecsRep oa oc l :: blk lr (lcells r ⟨base, size, mount, head, nx⟩) :: blk r (rdcells D x) :: KK :: sown (some ⟨x.sb, 0, none⟩) x.ss.length x.sc 1 (x.ss.map shdr) :: TT :: blks x.ls :: R) (fun w hO => hO.tail) (fun w hO => hO) ?_
      skip
      refine sk_str rfl rfl rfl (rsect_len (by omega)) (fun w hO => hO) (rd_sown 0 rfl (fun _ _ h => h)) ?_
      repeat' (first | refine sk_nil ?_ | refine sk_pure rfl rfl (ps_bin rfl rfl inferInstance) rfl ?_)
      by_cases heq : rsect s (lmount b) (lflags b) pt = b
      · rw [show decide ((strOf (rsect s (lmount b) (lflags b) pt)).toList = (strOf b).toList) = true from decide_eq_true ((str_eq _ _).2 heq)]
        have hgo : rgo b mount s last (decide (s = nx)) := ⟨f1, f2, f3, fun h => f4 (of_decide_eq_false h), f5, f6.trans decide_eq_true_iff.symm, f7, f8, by rw [← hpt]; exact heq⟩
        rw [if_pos hgo] at hrun
        refine sg_own (fun w hO => hO.tail) ?_
        repeat' (first | refine sg_wo ?_ | refine sg_ps (ps_move rfl) rfl ?_ | refine sg_seq ?_ | refine sg_region ?_ | refine sg_then ?_ | refine sg_ps (ps_add64 rfl rfl (by omega)) rfl ?_ | refine sg_cond_f rfl ?_ | refine sg_skip ?_)
        rw [show (14 : Int) + (llen b : Int) = ((14 + llen b : Nat) : Int) by omega]
        refine sg_ps (ps_slice_lh1 (l := 14) (h' := 14 + llen b) rfl rfl rfl rfl rfl (by omega) (by omega)) rfl ?_
        rw [show 14 + llen b - 14 = llen b by omega]
        repeat' (first | refine sg_wo ?_)
        refine sg_append (news := pt.map bv) rfl rfl rfl (by rw [List.length_map, hptl, Nat.mul_one]) bv_one (hrp []) (by simp only [maxLen]; omega) (by omega) (fun a' c' => ?_)
        rw [show data.length + llen b = (data ++ pt).length by rw [List.length_append, hptl], ← List.map_append]
        have hndl : (data ++ pt).length ≤ data.length + 50 := by rw [List.length_append]; omega
        obtain ⟨nd, hnd⟩ : ∃ nd, nd = data ++ pt := ⟨_, rfl⟩
        rw [← hnd] at hrun hndl ⊢
        by_cases hf2 : 2 ≤ lflags b
        · rw [if_pos hf2] at hrun
          by_cases hbig : 32768 < nd.length
          · rw [if_pos hbig] at hrun
            rw [hrun]
            repeat' (first | refine sg_wo ?_ | refine sg_ps (ps_move rfl) rfl ?_ | refine sg_ps (ps_assign rfl) rfl ?_ | refine sg_seq ?_ | refine sg_region ?_ | refine sg_nil ?_ | refine sg_then ?_ | refine sg_ps (ps_bin rfl rfl inferInstance) rfl ?_ | refine sg_ps (ps_len rfl) rfl ?_ | refine sg_ret ?_ | refine sg_exit ?_ | refine ex_then_exit ?_ | refine ex_block_hit ?_ | refine ex_block_miss rfl ?_ | (refine sg_cond_dec rfl (fun hg => ?_) (fun hg => ?_) <;> first | (exfalso; omega) | (exact absurd rfl hg) | skip))
            exact ex_ret3 rfl rfl rfl rfl (lr, oa, oc, l) rfl rfl (fun w hO => hend w _ lr oa oc nx l hO)
          · rw [if_neg hbig] at hrun
            repeat' (first | refine sg_wo ?_ | refine sg_ps (ps_move rfl) rfl ?_ | refine sg_ps (ps_assign rfl) rfl ?_ | refine sg_seq ?_ | refine sg_region ?_ | refine sg_nil ?_ | refine sg_then ?_ | refine sg_ps (ps_fieldAddr rfl) rfl ?_ | refine sg_ps (ps_nilCheck rfl) rfl ?_ | refine sg_load 2 rfl rfl rfl rfl ?_ | refine sg_ps (ps_bin rfl rfl inferInstance) rfl ?_ | refine sg_ps (ps_len rfl) rfl ?_ | refine sg_ps (ps_build rfl rfl) rfl ?_ | refine sg_skip ?_ | (refine sg_cond_dec rfl (fun hg => ?_) (fun hg => ?_) <;> first | (exfalso; omega) | (exact absurd rfl hg) | skip))
            rw [show (s : Int) + 1 = ((s + 1 : Nat) : Int) by omega, u64_of_nat (s + 1) (by omega)]
            refine sg_buildSlice1 (sz := 3) (vs := [u64v nx, u64v (s + 1), .slice a' nd.length c']) rfl (by decide) rfl rfl rfl (fun vb => ?_)
            refine sg_own (fun w hO => recs_open (Own.front (L1 := [_, _]) hO)) ?_
            repeat' (first | refine sg_wo ?_)
            refine sg_append (sz := 3) (m := 1) (news := [u64v nx, u64v (s + 1), .slice a' nd.length c']) rfl rfl rfl rfl (by intro u hu; simp at hu; rcases hu with rfl | rfl | rfl <;> rfl) (rd_blk 1 rfl (fun j u h => by rw [Nat.zero_add]; exact h)) (by simp only [maxLen]; omega) (by omega) (fun a2 c2 => ?_)
            refine sg_own (fun w hO => recs_snoc (r := ⟨nx, s + 1, nd, a', c'⟩) (own_rsl_sown hO.front1.tail.front1).front1) ?_
            repeat' (first | refine sg_wo ?_ | refine sg_ps (ps_move rfl) rfl ?_ | refine sg_ps (ps_assign rfl) rfl ?_ | refine sg_seq ?_ | refine sg_region ?_ | refine sg_nil ?_ | refine sg_then ?_ | refine sg_ps (ps_fieldAddr rfl) rfl ?_ | refine sg_ps (ps_nilCheck rfl) rfl ?_ | refine sg_ps (ps_bin rfl rfl inferInstance) rfl ?_ | refine ex_block_normal ?_ | refine sg_store [_] rfl rfl rfl (of_decide_eq_true rfl) ?_)
            rw [show (s : Int) + 1 = ((s + 1 : Nat) : Int) by omega, u64_of_nat (s + 1) (by omega)]
            refine ex_mid (FG.mk (s + 1) (lmount b) (s + 1) [] none 0 a2 c2 (l ++ [RR.mk nx (s + 1) nd a' c'])) ⟨by show head + size - (s + 1) < _; omega, by show head ≤ s + 1; omega, by show s + 1 ≤ head + size; omega, Nat.zero_le _, Nat.le_refl _, by show head ≤ s + 1; omega, hM, by show (l ++ [_]).length ≤ s + 1 - head; rw [List.length_append]; show l.length + 1 ≤ _; omega, ?_⟩
              (.cons rfl (.cons rfl (.cons rfl (.cons rfl (.cons rfl (.cons rfl (.cons ?_ (.cons rfl (.cons rfl (.cons ?_ (.cons rfl .nil))))))))))) (fun w hO => own_nil (sz := 1) hO)
            · show B = rfind at_ mount (head + size - (s + 1)) (s + 1) (lmount b) [] (s + 1) ((l ++ [_]).map RR.val)
              rw [List.map_append]; exact hrun
            · show some (Value.slice a2 (l.length + 1) c2) = some (Value.slice a2 (l ++ [_]).length c2)
              rw [List.length_append]; rfl
            · show some (Value.bool (decide ((lflags b : Int) ≥ 2))) = some (Value.bool (decide (s + 1 = s + 1)))
              rw [decide_eq_true (show (lflags b : Int) ≥ 2 by omega), decide_eq_true rfl]
        · rw [if_neg hf2] at hrun
          repeat' (first | refine sg_wo ?_ | refine sg_ps (ps_move rfl) rfl ?_ | refine sg_ps (ps_assign rfl) rfl ?_ | refine sg_seq ?_ | refine sg_region ?_ | refine sg_nil ?_ | refine sg_then ?_ | refine sg_ps (ps_bin rfl rfl inferInstance) rfl ?_ | refine sg_skip ?_ | refine ex_block_normal ?_ | (refine sg_cond_dec rfl (fun hg => ?_) (fun hg => ?_) <;> first | (exfalso; omega) | (exact absurd rfl hg) | skip))
          rw [show (s : Int) + 1 = ((s + 1 : Nat) : Int) by omega, u64_of_nat (s + 1) (by omega)]
          refine ex_mid ⟨s + 1, lmount b, nx, nd, a', c', oa, oc, l⟩ ⟨by show head + size - (s + 1) < _; omega, by show head ≤ s + 1; omega, by show s + 1 ≤ head + size; omega, by show nd.length ≤ 50 * (s + 1 - head); omega, by show nx ≤ s + 1; omega, i5, hM, by show l.length ≤ s + 1 - head; omega, hrun⟩
            (.cons rfl (.cons rfl (.cons rfl (.cons rfl (.cons rfl (.cons rfl (.cons rfl (.cons rfl (.cons rfl (.cons ?_ (.cons rfl .nil))))))))))) (fun w hO => hO)
          show some (Value.bool (decide ((lflags b : Int) ≥ 2))) = some (Value.bool (decide (s + 1 = nx)))
          rw [decide_eq_false (show ¬ (lflags b : Int) ≥ 2 by omega), decide_eq_false (show ¬ s + 1 = nx by omega)]
      · rw [show decide ((strOf (rsect s (lmount b) (lflags b) pt)).toList = (strOf b).toList) = false from decide_eq_false (fun h => heq ((str_eq _ _).1 h))]
        have hngo : ¬ rgo b mount s last (decide (s = nx)) := fun h => heq (by have := h.2.2.2.2.2.2.2.2; rw [← hpt] at this; exact this)
        rw [if_neg hngo] at hrun
        rw [hrun]
        repeat' (first | refine sg_wo ?_ | refine sg_ps (ps_move rfl) rfl ?_ | refine sg_ps (ps_assign rfl) rfl ?_ | refine sg_seq ?_ | refine sg_region ?_ | refine sg_nil ?_ | refine sg_then ?_ | refine sg_cond_t rfl ?_ | refine sg_ret ?_ | refine sg_exit ?_ | refine ex_then_exit ?_ | refine ex_block_hit ?_ | refine ex_block_miss rfl ?_)
        exact ex_ret3 rfl rfl rfl rfl (lr, oa, oc, l) rfl rfl (fun w hO => hend w _ lr oa oc nx l hO.tail)
  · rw [show head + size - s = 0 by omega] at hrun
    have hB1 : B = (l.map RR.val, nx) := hrun
    rw [hB1]
    repeat' (first | refine sg_wo ?_ | refine sg_ps (ps_move rfl) rfl ?_ | refine sg_ps (ps_assign rfl) rfl ?_ | refine sg_seq ?_ | refine sg_region ?_ | refine sg_nil ?_ | refine sg_then ?_ | refine sg_ps (ps_bin rfl rfl inferInstance) rfl ?_ | refine sg_ps (ps_conv rfl) rfl ?_ | refine sg_ret ?_ | refine sg_exit ?_ | refine ex_then_exit ?_ | refine ex_block_hit ?_ | (refine sg_cond_dec rfl (fun hg => ?_) (fun hg => ?_) <;> first | (exfalso; omega) | (exact absurd rfl hg) | skip))
    exact ex_ret3 rfl rfl rfl rfl (lr, oa, oc, l) rfl rfl (fun w hO => hend w _ lr oa oc nx l hO)
end Go.Proofs.Ytdehkdmnddflhaa
