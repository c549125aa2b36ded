/- Package lock: Try, Release, Held. -/
import Derived.Test.YtgapgpknghnemaaLK2
namespace Go.Proofs.Ytgapgpknghnemaa
set_option linter.unusedVariables false
set_option linter.unusedSimpArgs false
set_option linter.unusedSectionVars false
set_option linter.unnecessarySimpa false
open Go Go.Proofs
theorem map_st_ne {A : List TE} {o : Int} (h : ∀ x ∈ A, x.owner ≠ o) : ∀ e ∈ A.map TE.st, e.1 ≠ o := by
  intro e he
  obtain ⟨x, hx, rfl⟩ := List.mem_map.1 he
  exact h x hx
theorem TInv.swap {A B : List TE} {e e' : TE} {clk : Nat} (h : TInv (A ++ e :: B) clk) (hb : e'.born = e.born) (ho : e'.owner = e.owner) : TInv (A ++ e' :: B) clk := by
  refine ⟨fun x hx => ?_, ?_, ?_⟩
  · simp only [List.mem_append, List.mem_cons] at hx
    rcases hx with hx | rfl | hx
    · exact h.old x (by simp [hx])
    · rw [hb]; exact h.old e (by simp)
    · exact h.old x (by simp [hx])
  · have := h.nb
    simp only [List.map_append, List.map_cons] at this ⊢
    rw [hb]; exact this
  · have := h.no
    simp only [List.map_append, List.map_cons] at this ⊢
    rw [ho]; exact this
theorem TInv.push {T : List TE} {e : TE} {clk : Nat} (h : TInv T clk) (hb : e.born = clk) (ho : ∀ x ∈ T, x.owner ≠ e.owner) : TInv (T ++ [e]) (clk + 1) := by
  refine ⟨fun x hx => ?_, ?_, ?_⟩
  · rcases List.mem_append.1 hx with hx | hx
    · have := h.old x hx; omega
    · simp at hx; subst hx; omega
  · rw [List.map_append, List.nodup_append]
    refine ⟨h.nb, by simp, fun a ha b hb2 => ?_⟩
    obtain ⟨x, hx, rfl⟩ := List.mem_map.1 ha
    simp at hb2; subst hb2
    have := h.old x hx; omega
  · rw [List.map_append, List.nodup_append]
    refine ⟨h.no, by simp, fun a ha b hb2 => ?_⟩
    obtain ⟨x, hx, rfl⟩ := List.mem_map.1 ha
    simp at hb2; subst hb2
    exact ho x hx
theorem TInv.cut {A B : List TE} {e : TE} {clk : Nat} (h : TInv (A ++ e :: B) clk) : TInv (A ++ B) clk := by
  have hsub : (A ++ B).Sublist (A ++ e :: B) := List.Sublist.append_left (List.sublist_cons_self e B) A
  exact ⟨fun x hx => h.old x (hsub.subset hx), h.nb.sublist (hsub.map _), h.no.sublist (hsub.map _)⟩
set_option maxRecDepth 20000
set_option maxHeartbeats 4000000
attribute [local irreducible] SG WC WO W1 WD WK PS Rd Tri Exit.then Exit.inBlock bodyPost calmQ Mid sadd
variable {W : World} {n : Nat} {F : Fr} {L : List HP} {G : Act → World → Prop}
theorem try_tri (t : Nat) (S : TS) (o : Int) (l : List Lk) (la : Option Addr) (lc : Nat) (R : List HP) (hll : l.length ≤ 1000000) (hSl : ∀ e ∈ S, e.2.length ≤ 1000000) (hr : ∀ L, Rd W (L ++ R) la (lcells l)) :
    Tri Try.prog W 9 [dp t, u64 o, .slice la l.length lc] (TableRep t S :: R) (X := Unit) (fun _ => i64 (tryS S o l).1) (fun _ => True) (fun _ => TableRep t (tryS S o l).2 :: R) := by
  refine tri_enter3 Try.func9 rfl Try.ntmps9 rfl ?_
  by_cases ho : o = 0
  · have he : tryS S o l = (1, S) := by unfold tryS; rw [if_pos ho]
    rw [he]
    repeat' (first | refine sg_wo ?_ | refine sg_ps (ps_move rfl) rfl ?_ | refine sg_ps (ps_assign rfl) rfl ?_ | refine sg_seq ?_ | refine sg_region ?_ | refine sg_nil ?_ | refine sg_then ?_ | refine sg_ps (ps_bin rfl rfl inferInstance) rfl ?_ | refine sg_cond_f rfl ?_ | refine sg_block ?_ | refine sg_ret ?_ | refine ex_then_ret ?_ | refine ex_block_ret ?_ | (refine sg_cond_dec rfl (fun hg => ?_) (fun hg => ?_) <;> first | (exfalso; omega) | (exact absurd rfl hg) | skip))
    exact ex_ret1 rfl rfl () rfl trivial (fun w hO => hO)
  · skip
    repeat' (first | refine sg_wo ?_ | refine sg_ps (ps_move rfl) rfl ?_ | refine sg_ps (ps_assign rfl) rfl ?_ | refine sg_seq ?_ | refine sg_region ?_ | refine sg_nil ?_ | refine sg_then ?_ | refine sg_ps (ps_bin rfl rfl inferInstance) rfl ?_ | refine sg_cond_f rfl ?_ | refine sg_block ?_ | refine sg_skip ?_ | refine ex_block_normal ?_ | (refine sg_cond_dec rfl (fun hg => ?_) (fun hg => ?_) <;> first | (exfalso; omega) | (exact absurd rfl hg) | skip))
    refine sg_call (free_tri t S o l la lc R hll hr) rfl rfl (fun _ _ => ?_)
    cases hf : freeS S o l with
    | false =>
      have he : tryS S o l = (9, S) := by unfold tryS; rw [if_neg ho, hf]; rfl
      rw [he]
      repeat' (first | refine sg_wo ?_ | refine sg_ps (ps_move rfl) rfl ?_ | refine sg_ps (ps_assign rfl) rfl ?_ | refine sg_seq ?_ | refine sg_region ?_ | refine sg_nil ?_ | refine sg_then ?_ | refine sg_ps (ps_bin rfl rfl inferInstance) rfl ?_ | refine sg_cond_f rfl ?_ | refine sg_guard_nf rfl rfl rfl ?_ | refine sg_ps (ps_pick_f rfl rfl) rfl ?_ | refine sg_skip ?_ | refine sg_ret ?_)
      exact ex_ret1 rfl rfl () rfl trivial (fun w hO => hO)
    | true =>
      by_cases hl0 : l.length = 0
      · have hl1 := List.eq_nil_of_length_eq_zero hl0
        have he : tryS S o l = (0, S) := by unfold tryS; rw [if_neg ho, hf, if_pos rfl, if_pos hl1]
        rw [he]
        repeat' (first | refine sg_wo ?_ | refine sg_ps (ps_move rfl) rfl ?_ | refine sg_ps (ps_assign rfl) rfl ?_ | refine sg_seq ?_ | refine sg_region ?_ | refine sg_nil ?_ | refine sg_then ?_ | refine sg_ps (ps_bin rfl rfl inferInstance) rfl ?_ | refine sg_guard_yes rfl rfl ?_ | refine sg_ps (ps_pick_t rfl rfl) rfl ?_ | refine sg_ps (ps_len rfl) rfl ?_ | refine sg_skip ?_ | refine sg_ret ?_ | (refine sg_cond_dec rfl (fun hg => ?_) (fun hg => ?_) <;> first | (exfalso; omega) | (exact absurd rfl hg) | skip))
        exact ex_ret1 rfl rfl () rfl trivial (fun w hO => hO)
      · have hl1 : l ≠ [] := fun h => hl0 (by rw [h]; rfl)
        have he : tryS S o l = (0, addS S o l) := by unfold tryS; rw [if_neg ho, hf, if_pos rfl, if_neg hl1]
        rw [he]
        refine TableRep.open fun T m clk hS hI => ?_
        repeat' (first | refine sg_wo ?_ | refine sg_ps (ps_move rfl) rfl ?_ | refine sg_ps (ps_assign rfl) rfl ?_ | refine sg_seq ?_ | refine sg_region ?_ | refine sg_nil ?_ | refine sg_then ?_ | refine sg_ps (ps_bin rfl rfl inferInstance) rfl ?_ | refine sg_guard_yes rfl rfl ?_ | refine sg_ps (ps_pick_t rfl rfl) rfl ?_ | refine sg_ps (ps_len rfl) rfl ?_ | (refine sg_cond_dec rfl (fun hg => ?_) (fun hg => ?_) <;> first | (exfalso; omega) | (exact absurd rfl hg) | skip))
        refine sg_drawK [blk t [.map (some m)]] [0, 1, 2, 4, 5, 6, 7, 9, 11, 8, 3, 10, 12, 13] (by kernel_rfl) (by kernel_rfl) (fun w hO => hO.pick [0] (by decide)) ?_
        repeat' (first | refine sk_pure rfl rfl (ps_move rfl) rfl ?_ | refine sk_pure rfl rfl (ps_nilCheck rfl) rfl ?_ | refine sk_pure rfl rfl (ps_fieldAddr rfl) rfl ?_ | refine sk_load 0 rfl rfl rfl rfl rfl ?_ | refine sk_eff rfl rfl ?_)
        refine sg_lookup (z := .slice none 0 0) 1 Try.underlying52 Try.underlying27 rfl rfl rfl rfl ?_
        refine sk_back (fun w hO => hO.pick [0] (by decide)) ?_
        repeat' (first | refine sk_eff rfl rfl ?_)
        rcases T_cases T o with ⟨A, e, B, rfl, h2, h3, h4, h5, h6⟩ | ⟨h1, h2, h3, h4⟩
        · rw [h4]
          have hel : e.l.length ≤ 1000000 := hSl e.st (by rw [← hS]; exact List.mem_map_of_mem (by simp))
          have hmap : (A ++ e :: B).map TE.own = A.map TE.own ++ e.own :: B.map TE.own := by simp
          refine sg_own (L' := sown e.a e.l.length e.c 5 (lcells e.l) :: sepL (A.map TE.own ++ B.map TE.own) :: blk t [.map (some m)] :: mapc .u64 m ((A ++ e :: B).map TE.me) clk :: R) (fun w hO => by
            rw [hmap] at hO; exact Own.sepOut hO.front2) ?_
          refine sg_append rfl rfl rfl (lcells_len l) (lcells_one l) (hr [_, _, _, _]) (by simp only [maxLen]; omega) (by omega) fun a' c' => ?_
          refine sk_back (fun w hO => hO.pick [2] (by decide)) ?_
          repeat' (first | refine sk_eff rfl rfl ?_)
          refine sg_mapUpdate (k := .u64) [_, _, _] Try.underlying52 Try.underlying27 rfl rfl rfl ?_
          rw [h5]
          refine sk_back (fun w hO => hO.pick [2] (by decide)) ?_
          repeat' (first | refine sk_nil ?_)
          refine sg_then ?_
          repeat' (first | refine sg_wo ?_ | refine sg_ps (ps_move rfl) rfl ?_ | refine sg_ps (ps_assign rfl) rfl ?_ | refine sg_seq ?_ | refine sg_region ?_ | refine sg_nil ?_ | refine sg_then ?_ | refine sg_ret ?_)
          have hS' : (A ++ ⟨o, a', c', e.l ++ l, e.born⟩ :: B).map TE.st = addS S o l := by
            rw [← hS, List.map_append, List.map_cons, List.map_append, List.map_cons, show e.st = (o, e.l) by rw [← h2]; rfl, addS_at (map_st_ne h3)]; rfl
          refine ex_ret1 rfl rfl () rfl trivial (fun w hO => TableRep.shut (m := m) (clk := clk) hS' (hI.swap rfl h2.symm) ?_)
          have h7 : Own W w ((⟨o, a', c', e.l ++ l, e.born⟩ : TE).own :: sepL (A.map TE.own ++ B.map TE.own) :: blk t [.map (some m)] :: mapc .u64 m (A.map TE.me ++ (o, Value.slice a' (e.l.length + l.length) c', e.born) :: B.map TE.me) clk :: R) := by
            unfold TE.own
            rw [List.length_append, lcells_app]; exact hO
          have h8 := h7.sepIn.front2.front2
          rw [List.map_append, List.map_cons, List.map_append, List.map_cons, show TE.me ⟨o, a', c', e.l ++ l, e.born⟩ = (o, Value.slice a' (e.l.length + l.length) c', e.born) by unfold TE.me; rw [List.length_append]]
          exact h8
        · rw [h2]
          refine sg_own (L' := sown none 0 0 5 [] :: blk t [.map (some m)] :: mapc .u64 m (T.map TE.me) clk :: sepL (T.map TE.own) :: R) (fun w hO => own_nil hO) ?_
          refine sg_append (news := lcells l) rfl rfl rfl (lcells_len l) (lcells_one l) (hr [_, _, _, _]) (by simp only [maxLen]; omega) (by omega) fun a' c' => ?_
          rw [Nat.zero_add, List.nil_append]
          refine sk_back (fun w hO => hO.pick [1] (by decide)) ?_
          repeat' (first | refine sk_eff rfl rfl ?_)
          refine sg_mapUpdate (k := .u64) [_, _] Try.underlying52 Try.underlying27 rfl rfl rfl ?_
          rw [h3]
          refine sk_back (fun w hO => hO.pick [1] (by decide)) ?_
          repeat' (first | refine sk_nil ?_)
          refine sg_then ?_
          repeat' (first | refine sg_wo ?_ | refine sg_ps (ps_move rfl) rfl ?_ | refine sg_ps (ps_assign rfl) rfl ?_ | refine sg_seq ?_ | refine sg_region ?_ | refine sg_nil ?_ | refine sg_then ?_ | refine sg_ret ?_)
          have hS' : (T ++ [(⟨o, a', c', l, clk⟩ : TE)]).map TE.st = addS S o l := by
            rw [← hS, List.map_append, addS_new (map_st_ne h1)]; rfl
          refine ex_ret1 rfl rfl () rfl trivial (fun w hO => TableRep.shut (m := m) (clk := clk + 1) hS' (hI.push rfl h1) ?_)
          have h7 : Own W w ((⟨o, a', c', l, clk⟩ : TE).own :: sepL (T.map TE.own ++ []) :: blk t [.map (some m)] :: mapc .u64 m (T.map TE.me ++ [(o, Value.slice a' l.length c', clk)]) (clk + 1) :: R) := by
            rw [List.append_nil]
            exact hO.front3.front1
          have h8 := h7.sepIn.front2.front2
          rw [List.map_append, List.map_append]
          exact h8
theorem release_tri (t : Nat) (S : TS) (o : Int) (R : List HP) (hSl : ∀ e ∈ S, e.2.length ≤ 1000000) :
    Tri Try.prog W 11 [dp t, u64 o] (TableRep t S :: R) (X := Unit) (fun _ => i64 (if (heldS S o).length = 0 then 5 else 0)) (fun _ => True) (fun _ => TableRep t (if (heldS S o).length = 0 then S else relS S o) :: R) := by
  refine tri_enter2 Try.func11 rfl Try.ntmps11 rfl ?_
  refine TableRep.open fun T m clk hS hI => ?_
  repeat' (first | refine sg_wo ?_ | refine sg_ps (ps_move rfl) rfl ?_ | refine sg_ps (ps_assign rfl) rfl ?_ | refine sg_seq ?_ | refine sg_region ?_ | refine sg_nil ?_ | refine sg_then ?_ | refine sg_ps (ps_fieldAddr rfl) rfl ?_ | refine sg_ps (ps_nilCheck rfl) rfl ?_ | refine sg_load 0 rfl rfl rfl rfl ?_ | refine sg_ps (ps_bin rfl rfl inferInstance) rfl ?_ | refine sg_cond_f rfl ?_ | refine sg_skip ?_)
  refine sg_lookup (z := .slice none 0 0) 1 Try.underlying52 Try.underlying27 rfl rfl rfl rfl ?_
  rcases T_cases T o with ⟨A, e, B, rfl, h2, h3, h4, h5, h6⟩ | ⟨h1, h2, h3, h4⟩
  · rw [h4]
    have hel : e.l.length ≤ 1000000 := hSl e.st (by rw [← hS]; exact List.mem_map_of_mem (by simp))
    have hhe : heldS S o = e.l := by
      rw [← hS, List.map_append, List.map_cons, show e.st = (o, e.l) by rw [← h2]; rfl, heldS_at (map_st_ne h3)]
    rw [hhe]
    by_cases h0 : e.l.length = 0
    · rw [if_pos h0, if_pos h0]
      refine sg_wo ?_
      refine sg_ps (ps_len (a := e.a) (l := e.l.length) (c := e.c) rfl) rfl ?_
      rw [h0]
      repeat' (first | refine sg_wo ?_ | refine sg_ps (ps_assign rfl) rfl ?_ | refine sg_seq ?_ | refine sg_region ?_ | refine sg_nil ?_ | refine sg_then ?_ | refine sg_ps (ps_bin rfl rfl inferInstance) rfl ?_ | refine sg_cond_t rfl ?_ | refine sg_ret ?_ | refine ex_then_ret ?_)
      exact ex_ret1 rfl rfl () rfl trivial (fun w hO => TableRep.shut hS hI hO)
    · rw [if_neg h0, if_neg h0]
      refine sg_wo ?_
      refine sg_ps (ps_len (a := e.a) (l := e.l.length) (c := e.c) rfl) rfl ?_
      repeat' (first | refine sg_wo ?_ | refine sg_ps (ps_move rfl) rfl ?_ | refine sg_seq ?_ | refine sg_region ?_ | refine sg_nil ?_ | refine sg_then ?_ | refine sg_ps (ps_fieldAddr rfl) rfl ?_ | refine sg_ps (ps_nilCheck rfl) rfl ?_ | refine sg_load 0 rfl rfl rfl rfl ?_ | refine sg_ps (ps_bin rfl rfl inferInstance) rfl ?_ | refine sg_skip ?_ | (refine sg_cond_dec rfl (fun hg => ?_) (fun hg => ?_) <;> first | (exfalso; omega) | (exact absurd rfl hg) | skip))
      refine sg_delete (k := .u64) [_] Try.underlying52 Try.underlying27 rfl rfl ?_
      rw [h6]
      repeat' (first | refine sg_wo ?_ | refine sg_ps (ps_assign rfl) rfl ?_ | refine sg_seq ?_ | refine sg_region ?_ | refine sg_nil ?_ | refine sg_then ?_ | refine sg_ret ?_)
      have hS' : (A ++ B).map TE.st = relS S o := by
        rw [← hS, List.map_append, List.map_append, List.map_cons, show e.st = (o, e.l) by rw [← h2]; rfl, relS_at (map_st_ne h3)]
      refine ex_ret1 rfl rfl () rfl trivial (fun w hO => TableRep.shut (m := m) (clk := clk) hS' hI.cut ?_)
      have hmap : (A ++ e :: B).map TE.own = A.map TE.own ++ e.own :: B.map TE.own := by simp
      rw [hmap] at hO
      have h7 := (Own.sepOut hO.front2).tail
      rw [show (A ++ B).map TE.own = A.map TE.own ++ B.map TE.own from List.map_append]
      exact h7.front2.front2
  · rw [h2]
    have hhe : heldS S o = [] := by rw [← hS]; exact heldS_no (map_st_ne h1)
    rw [hhe]
    repeat' (first | refine sg_wo ?_ | refine sg_ps (ps_assign rfl) rfl ?_ | refine sg_seq ?_ | refine sg_region ?_ | refine sg_nil ?_ | refine sg_then ?_ | refine sg_ps (ps_bin rfl rfl inferInstance) rfl ?_ | refine sg_cond_t rfl ?_ | refine sg_ps (ps_len rfl) rfl ?_ | refine sg_ret ?_ | refine ex_then_ret ?_)
    exact ex_ret1 rfl rfl () rfl trivial (fun w hO => TableRep.shut hS hI hO)
theorem held_tri (t : Nat) (S : TS) (o : Int) (R : List HP) (hSl : ∀ e ∈ S, e.2.length ≤ 1000000) :
    Tri Try.prog W 12 [dp t, u64 o] (TableRep t S :: R) (X := Option Addr × Nat) (fun x => .slice x.1 (heldS S o).length x.2) (fun _ => True) (fun x => sown x.1 (heldS S o).length x.2 5 (lcells (heldS S o)) :: TableRep t S :: R) := by
  refine tri_enter2 Try.func12 rfl Try.ntmps12 rfl ?_
  refine TableRep.open fun T m clk hS hI => ?_
  repeat' (first | refine sg_wo ?_ | refine sg_ps (ps_move rfl) rfl ?_ | refine sg_ps (ps_assign rfl) rfl ?_ | refine sg_seq ?_ | refine sg_region ?_ | refine sg_nil ?_ | refine sg_then ?_ | refine sg_ps (ps_fieldAddr rfl) rfl ?_ | refine sg_ps (ps_nilCheck rfl) rfl ?_ | refine sg_load 0 rfl rfl rfl rfl ?_ | refine sg_ps (ps_bin rfl rfl inferInstance) rfl ?_ | refine sg_cond_f rfl ?_ | refine sg_skip ?_)
  refine sg_lookup (z := .slice none 0 0) 1 Try.underlying52 Try.underlying27 rfl rfl rfl rfl ?_
  rcases T_cases T o with ⟨A, e, B, rfl, h2, h3, h4, h5, h6⟩ | ⟨h1, h2, h3, h4⟩
  · rw [h4]
    have hel : e.l.length ≤ 1000000 := hSl e.st (by rw [← hS]; exact List.mem_map_of_mem (by simp))
    have hhe : heldS S o = e.l := by
      rw [← hS, List.map_append, List.map_cons, show e.st = (o, e.l) by rw [← h2]; rfl, heldS_at (map_st_ne h3)]
    rw [hhe]
    have hget : ((A ++ e :: B).map TE.own)[A.length]? = some (sown e.a e.l.length e.c 5 (lcells e.l)) := by
      rw [List.getElem?_map, List.getElem?_append_right (Nat.le_refl _), Nat.sub_self]; rfl
    refine sg_sepcap 2 A.length rfl hget fun _ hnil => ?_
    refine sg_wo ?_
    refine sg_call (lclone_tri e.l e.a e.c _ (by omega) (rd_sep 2 A.length rfl hget) (fun h => ⟨(hnil h).1, List.eq_nil_of_length_eq_zero (hnil h).2⟩)) rfl rfl (fun y _ => ?_)
    obtain ⟨a', c'⟩ := y
    repeat' (first | refine sg_wo ?_ | refine sg_ps (ps_assign rfl) rfl ?_ | refine sg_nil ?_ | refine sg_then ?_ | refine sg_ret ?_)
    exact ex_ret1 rfl rfl (a', c') rfl trivial (fun w hO => Own.back1 (TableRep.shut hS hI hO.back3))
  · rw [h2]
    have hhe : heldS S o = [] := by rw [← hS]; exact heldS_no (map_st_ne h1)
    rw [hhe]
    refine sg_wo ?_
    refine sg_call (lclone_tri [] none 0 _ (by simp) rd_nil (fun _ => ⟨rfl, rfl⟩)) rfl rfl (fun y _ => ?_)
    obtain ⟨a', c'⟩ := y
    repeat' (first | refine sg_wo ?_ | refine sg_ps (ps_assign rfl) rfl ?_ | refine sg_nil ?_ | refine sg_then ?_ | refine sg_ret ?_)
    exact ex_ret1 rfl rfl (a', c') rfl trivial (fun w hO => Own.back1 (TableRep.shut hS hI hO.back3))
end Go.Proofs.Ytgapgpknghnemaa
