/- Package pool: Drop (slices.Index); the reference's Dirty; same, asked. -/
import Derived.Test.YtclehoaeppbmpaaPR5
namespace Go.Proofs.Ytclehoaeppbmpaa
set_option linter.unusedVariables false
set_option linter.unusedSimpArgs false
set_option linter.unusedSectionVars false
set_option linter.unnecessarySimpa false
open Go Go.Proofs Go.Sort
theorem pe_two {W w : World} {A1 A2 C : List PE} {x e : PE} {L : List HP} (hO : Own W w (sepL ((A1 ++ x :: A2 ++ e :: C).map PE.own) :: L)) : ∃ L', Own W w (blk0 e.ptr e.cells :: blk0 x.ptr x.cells :: L') := by
  rw [List.append_assoc, List.cons_append, List.map_append, List.map_cons] at hO
  have h1 := hO.sepOut
  rw [List.map_append, List.map_cons, ← List.append_assoc] at h1
  have h2 := (h1.front1).sepOut
  have h3 : Own W w (blk0 e.ptr e.cells :: sown e.a e.pl.bs.length e.c 1 (e.pl.bs.map bv) :: sepL ((A1.map PE.own ++ A2.map PE.own) ++ C.map PE.own) :: x.own :: L) := h2.split
  have h4 : Own W w (blk0 x.ptr x.cells :: sown x.a x.pl.bs.length x.c 1 (x.pl.bs.map bv) :: blk0 e.ptr e.cells :: sown e.a e.pl.bs.length e.c 1 (e.pl.bs.map bv) :: sepL ((A1.map PE.own ++ A2.map PE.own) ++ C.map PE.own) :: L) := (h3.front3).split
  exact ⟨_, (h4.front2)⟩
theorem peq_other {P : Program} {W w : World} {t e : TypeId} {a b : Nat} {ca cb : List Value} {L : List HP} {j : TypeInfo} (ht : P.underlying t = some (.pointer e)) (hte : P.info? e = some j) (hsz : j.size ≠ 0) (hO : Own W w (blk0 a ca :: blk0 b cb :: L)) :
    (binOp .eql t (dp a) (dp b)).run P w = .ok (.bool false) w := by
  have hne := ne_blk (Own.front1 (Own.front1 hO).blk0_blk).blk0_blk
  obtain ⟨T1, h1⟩ := hO.blk0At
  obtain ⟨T2, h2⟩ := (Own.front1 hO).blk0At
  exact run_eql_ptr_other w ht hte hsz (fun h => hne (by simp only [Addr.mk.injEq] at h; first | exact h.1 | exact h.1.symm)) h1 h2
section
variable {P : Program} [BS P] {W : World} {n : Nat} {F : Fr} {L : List HP} {ops : Array Oper} {Q : Exit → Act → World → Prop} {K : Act → World → Prop} {ty : TypeId} {pos : String} {af : Array Edge} {d : Nat}
instance instEqPN (t e : TypeId) (b : Addr) [h : IsT P t (.pointer e)] : BinR P .eql t (.pointer none) (.pointer (some b)) (.bool false) := ⟨fun w _ _ => by
  have hu := run_underlying h.h
  simp [eqGuard, binOp, Op.equal, Op.maxDepth]; rw [Op.equalIn]; simp [hu]⟩
theorem sg_peq_same {t yt e : TypeId} {j : TypeInfo} {x y : Operand} {a : Nat} (ht : P.underlying t = some (.pointer e)) (hte : P.info? e = some j) (hg : P.eqGuardType P.depth t = false) (hx : ev F x = some (dp a)) (hy : ev F y = some (dp a)) (hd : Nat.blt d n = true)
    (h : SG W n ((d, .bool true) :: F) L K) : SG W n F L (W1 P ops Q ⟨some d, .binOp .eql t x y yt, ty, pos, af, none⟩ K) := by
  refine sg_pure (.bool true) hd (fun w hO ac ha => ?_) h
  have he := run_eql_ptr_same (P := P) w (tp := t) ⟨a, 0, none⟩ ht hte
  simp only [execOp, ha.ev hx, ha.ev hy]
  simp [eqGuard, hg, he]
theorem sg_peq_other {t yt e : TypeId} {j : TypeInfo} {x y : Operand} {a b : Nat} (ht : P.underlying t = some (.pointer e)) (hte : P.info? e = some j) (hsz : j.size ≠ 0) (hg : P.eqGuardType P.depth t = false) (hx : ev F x = some (dp a)) (hy : ev F y = some (dp b)) (hd : Nat.blt d n = true)
    (hL : ∀ w, Own W w L → ∃ ca cb L', Own W w (blk0 a ca :: blk0 b cb :: L')) (h : SG W n ((d, .bool false) :: F) L K) : SG W n F L (W1 P ops Q ⟨some d, .binOp .eql t x y yt, ty, pos, af, none⟩ K) := by
  refine sg_pure (.bool false) hd (fun w hO ac ha => ?_) h
  obtain ⟨ca, cb, L', hO'⟩ := hL w hO
  have he := peq_other (P := P) ht hte hsz hO'
  simp only [execOp, ha.ev hx, ha.ev hy]
  simp [eqGuard, hg, he]
end
theorem sorted_eq {l l' : List Int} (h1 : l.Pairwise (· ≤ ·)) (h : l.Perm l') : l = sortL l' := by
  have h2 : (sortL l').Pairwise (fun a b => decide (a ≤ b) = true) := List.pairwise_mergeSort (fun a b c h1 h2 => by simp only [decide_eq_true_eq] at *; omega) (fun a b => by simp only [Bool.or_eq_true, decide_eq_true_eq]; omega) l'
  refine List.Perm.eq_of_pairwise (le := fun a b => decide (a ≤ b) = true) (fun a b _ _ h1 h2 => ?_) (h1.imp (fun h => by simpa using h)) h2 (h.trans (List.mergeSort_perm l' _).symm)
  simp only [decide_eq_true_eq] at h1 h2
  omega
theorem sortL_sorted (l : List Int) : (sortL l).Pairwise (· ≤ ·) :=
  (List.pairwise_mergeSort (fun a b c h1 h2 => by simp only [decide_eq_true_eq] at *; omega) (fun a b => by simp only [Bool.or_eq_true, decide_eq_true_eq]; omega) l : (sortL l).Pairwise (fun a b => decide (a ≤ b) = true)).imp fun h => by simpa using h
theorem sortL_ins {l : List Int} {x : Int} {k : Nat} (hk : k ≤ (sortL l).length) (h1 : k = 0 ∨ ∃ y, (sortL l)[k - 1]? = some y ∧ y ≤ x) (h2 : ∀ y ∈ (sortL l).drop k, x < y) :
    (sortL l).take k ++ x :: (sortL l).drop k = sortL (l ++ [x]) := by
  have hs := sortL_sorted l
  have hp : (sortL l).Perm l := List.mergeSort_perm l _
  generalize sortL l = D at *
  refine sorted_eq ?_ ?_
  · have hta : ∀ a ∈ D.take k, a ≤ x := by
      intro a ha
      rcases h1 with rfl | ⟨y, hy, hyx⟩
      · simp at ha
      · obtain ⟨j, hj, rfl⟩ := List.getElem_of_mem ha
        rw [List.length_take] at hj
        rw [List.getElem_take]
        obtain ⟨hk1, rfl⟩ := List.getElem?_eq_some_iff.1 hy
        rcases Nat.lt_or_ge j (k - 1) with h | h
        · have := List.pairwise_iff_getElem.1 hs j (k - 1) (by omega) hk1 h
          omega
        · have : j = k - 1 := by omega
          subst this; exact hyx
    rw [List.pairwise_append, List.pairwise_cons]
    refine ⟨hs.sublist (List.take_sublist ..), ⟨fun y hy => Int.le_of_lt (h2 y hy), hs.sublist (List.drop_sublist ..)⟩, fun a ha b hb => ?_⟩
    have h3 := hta a ha
    rcases List.mem_cons.1 hb with rfl | hb
    · exact h3
    · have := h2 b hb; omega
  · refine List.perm_middle.trans ?_
    rw [List.take_append_drop]
    exact (List.Perm.cons x hp).trans (List.perm_append_comm (l₁ := [x]) (l₂ := l))
instance isFnIdx : IsFn Try.prog 44 := ⟨_, Try.func44, rfl, rfl⟩
set_option maxRecDepth 20000
set_option maxHeartbeats 4000000
attribute [local irreducible] SG WC WO W1 WD WK PS Rd Tri Exit.then Exit.inBlock bodyPost calmQ Mid sadd
variable {W : World} {n : Nat} {F : Fr} {L : List HP} {G : Act → World → Prop}
theorem pidx_none (vs : List Nat) (a : Option Addr) (c : Nat) (L : List HP) (hl : vs.length ≤ 1000000) (hr : Rd W L a (vs.map dp)) :
    Tri Try.prog W 44 [.slice a vs.length c, .pointer none] L (X := Unit) (fun _ => i64 (-1)) (fun _ => True) (fun _ => L) := by
  refine tri_enter2 Try.func44 rfl Try.ntmps44 rfl ?_
  repeat' (first | refine sg_wo ?_ | refine sg_ps (ps_move rfl) rfl ?_ | refine sg_ps (ps_assign rfl) rfl ?_ | refine sg_seq ?_ | refine sg_region ?_ | refine sg_nil ?_ | refine sg_then ?_ | refine sg_ps (ps_len rfl) rfl ?_ | refine sg_block ?_)
  refine sg_loop (γ := Nat) (fun i => i ≤ vs.length) (fun i => [(0, .slice a vs.length c), (1, .pointer none), (7, i64 vs.length), (8, i64 i)]) (fun _ => L) (fun i => vs.length - i) 0 (Nat.zero_le _)
    (.cons rfl (.cons rfl (.cons rfl (.cons rfl .nil)))) (fun w hO => hO) ?_
  rintro i hi
  by_cases hil : i < vs.length
  · refine sg_rd_some hr (by intro e; have := congrArg List.length e; rw [List.length_map, List.length_nil] at this; omega) fun b0 o0 ha => ?_
    subst ha
    have hra := hr.get i (v := dp vs[i]) (by rw [List.getElem?_map, List.getElem?_eq_getElem hil]; rfl)
    generalize vs[i] = v at hra
    repeat' (first | refine sg_wo ?_ | refine sg_ps (ps_move rfl) rfl ?_ | refine sg_ps (ps_assign rfl) rfl ?_ | refine sg_seq ?_ | refine sg_region ?_ | refine sg_nil ?_ | refine sg_then ?_ | refine sg_ps (ps_bin rfl rfl inferInstance) rfl ?_ | refine sg_ps (ps_indexAddr rfl rfl rfl (by omega)) rfl ?_ | refine sg_block ?_ | refine sg_skip ?_ | (refine sg_cond_dec rfl (fun hg => ?_) (fun hg => ?_) <;> first | (exfalso; omega) | (exact absurd rfl hg) | skip))
    refine sg_load_rd rfl hra rfl ?_
    repeat' (first | refine sg_wo ?_ | refine sg_ps (ps_move rfl) rfl ?_ | refine sg_region ?_ | refine sg_nil ?_ | refine sg_then ?_ | refine sg_ps (ps_add64 rfl rfl (by omega)) rfl ?_ | refine sg_ps (ps_bin rfl rfl inferInstance) rfl ?_ | refine sg_cond_f rfl ?_ | refine sg_skip ?_ | refine ex_block_normal ?_)
    exact ex_mid (i + 1) ⟨by omega, by omega⟩ (.cons rfl (.cons rfl (.cons rfl (.cons rfl .nil)))) (fun w hO => hO)
  · skip
    repeat' (first | refine sg_wo ?_ | refine sg_ps (ps_assign rfl) rfl ?_ | refine sg_seq ?_ | refine sg_region ?_ | refine sg_nil ?_ | refine sg_then ?_ | refine sg_ps (ps_bin rfl rfl inferInstance) rfl ?_ | refine sg_ret ?_ | refine sg_exit ?_ | refine ex_then_exit ?_ | refine ex_block_hit ?_ | (refine sg_cond_dec rfl (fun hg => ?_) (fun hg => ?_) <;> first | (exfalso; omega) | (exact absurd rfl hg) | skip))
    exact ex_ret1 rfl rfl () rfl trivial (fun w hO => hO)
theorem pidx_some (A C : List PE) (e : PE) (a : Option Addr) (c j : Nat) (L : List HP) (hl : (A ++ e :: C).length ≤ 1000000) (hj : L[j]? = some (sepL ((A ++ e :: C).map PE.own))) (hr : Rd W L a ((A ++ e :: C).map PE.dp)) :
    Tri Try.prog W 44 [.slice a (A ++ e :: C).length c, dp e.ptr] L (X := Unit) (fun _ => i64 A.length) (fun _ => True) (fun _ => L) := by
  refine tri_enter2 Try.func44 rfl Try.ntmps44 rfl ?_
  have hAl : A.length < (A ++ e :: C).length := by rw [List.length_append, List.length_cons]; omega
  repeat' (first | refine sg_wo ?_ | refine sg_ps (ps_move rfl) rfl ?_ | refine sg_ps (ps_assign rfl) rfl ?_ | refine sg_seq ?_ | refine sg_region ?_ | refine sg_nil ?_ | refine sg_then ?_ | refine sg_ps (ps_len rfl) rfl ?_ | refine sg_block ?_)
  refine sg_loop (γ := Nat) (fun i => i ≤ A.length) (fun i => [(0, .slice a (A ++ e :: C).length c), (1, dp e.ptr), (7, i64 (A ++ e :: C).length), (8, i64 i)]) (fun _ => L) (fun i => A.length - i) 0 (Nat.zero_le _)
    (.cons rfl (.cons rfl (.cons rfl (.cons rfl .nil)))) (fun w hO => hO) ?_
  rintro i hi
  refine sg_rd_some hr (by simp) fun b0 o0 ha => ?_
  subst ha
  by_cases hil : i < A.length
  · obtain ⟨A1, x, A2, hA⟩ : ∃ A1 x A2, A = A1 ++ x :: A2 ∧ A1.length = i := ⟨A.take i, A[i], A.drop (i + 1), by rw [List.getElem_cons_drop, List.take_append_drop], by rw [List.length_take]; omega⟩
    obtain ⟨rfl, rfl⟩ := hA
    have hra := hr.get A1.length (v := dp x.ptr) (by rw [List.append_assoc, List.cons_append, List.map_append, List.map_cons, List.getElem?_append_right (by simp), List.length_map, Nat.sub_self]; rfl)
    repeat' (first | refine sg_wo ?_ | refine sg_ps (ps_move rfl) rfl ?_ | refine sg_ps (ps_assign rfl) rfl ?_ | refine sg_seq ?_ | refine sg_region ?_ | refine sg_nil ?_ | refine sg_then ?_ | refine sg_ps (ps_bin rfl rfl inferInstance) rfl ?_ | refine sg_ps (ps_indexAddr rfl rfl rfl (by omega)) rfl ?_ | refine sg_block ?_ | refine sg_skip ?_ | (refine sg_cond_dec rfl (fun hg => ?_) (fun hg => ?_) <;> first | (exfalso; omega) | (exact absurd rfl hg) | skip))
    refine sg_load_rd rfl hra rfl ?_
    repeat' (first | refine sg_wo ?_)
    refine sg_peq_other Try.underlying67 (by rfl) (by decide) (by kernel_rfl) rfl rfl rfl (fun w hO => ?_) ?_
    · obtain ⟨L', hO'⟩ := hO.nth hj
      obtain ⟨L2, h2⟩ := pe_two hO'
      exact ⟨_, _, _, h2⟩
    repeat' (first | refine sg_wo ?_ | refine sg_ps (ps_move rfl) rfl ?_ | refine sg_region ?_ | refine sg_nil ?_ | refine sg_then ?_ | refine sg_ps (ps_add64 rfl rfl (by omega)) rfl ?_ | refine sg_cond_f rfl ?_ | refine sg_skip ?_ | refine ex_block_normal ?_)
    exact ex_mid (A1.length + 1) ⟨by omega, by omega⟩ (.cons rfl (.cons rfl (.cons rfl (.cons rfl .nil)))) (fun w hO => hO)
  · obtain rfl : i = A.length := by omega
    have hra := hr.get A.length (v := dp e.ptr) (by rw [List.map_append, List.map_cons, List.getElem?_append_right (by simp), List.length_map, Nat.sub_self]; rfl)
    repeat' (first | refine sg_wo ?_ | refine sg_ps (ps_move rfl) rfl ?_ | refine sg_ps (ps_assign rfl) rfl ?_ | refine sg_seq ?_ | refine sg_region ?_ | refine sg_nil ?_ | refine sg_then ?_ | refine sg_ps (ps_bin rfl rfl inferInstance) rfl ?_ | refine sg_ps (ps_indexAddr rfl rfl rfl (by omega)) rfl ?_ | refine sg_block ?_ | refine sg_skip ?_ | (refine sg_cond_dec rfl (fun hg => ?_) (fun hg => ?_) <;> first | (exfalso; omega) | (exact absurd rfl hg) | skip))
    refine sg_load_rd rfl hra rfl ?_
    repeat' (first | refine sg_wo ?_)
    refine sg_peq_same Try.underlying67 (by rfl) (by kernel_rfl) rfl rfl rfl ?_
    repeat' (first | refine sg_wo ?_ | refine sg_ps (ps_move rfl) rfl ?_ | refine sg_ps (ps_assign rfl) rfl ?_ | refine sg_seq ?_ | refine sg_region ?_ | refine sg_nil ?_ | refine sg_then ?_ | refine sg_cond_t rfl ?_ | refine sg_ret ?_ | refine ex_then_ret ?_ | refine ex_block_ret ?_)
    exact ex_ret1 rfl rfl () rfl trivial (fun w hO => hO)
end Go.Proofs.Ytclehoaeppbmpaa
