/- Package extent: Free. -/
import Derived.Test.YtcchgkjcoknkcaaEX6
namespace Go.Proofs.Ytcchgkjcoknkcaa
set_option linter.unusedVariables false
set_option linter.unusedSimpArgs false
set_option linter.unusedSectionVars false
set_option linter.unnecessarySimpa false
open Go Go.Proofs
theorem take_succ_mem {α : Type} {H : List α} {j : Nat} (hj : j < H.length) {x : α} (hx : x ∈ H.take (j + 1)) : x ∈ H.take j ∨ x = H[j] := by
  rw [List.take_add_one, List.mem_append, List.getElem?_eq_getElem hj] at hx
  rcases hx with hx | hx
  · exact .inl hx
  · right; simpa using hx
theorem free_yes {X : XS} (hX : X.ok) {st m i j hs he : Nat} (hw : 1 ≤ (m : Int) ∧ (m : Int) ≤ X.o.length ∧ (X.lo : Int) ≤ st ∧ (st : Int) + m ≤ X.lo + X.o.length) (hij : i ≤ j) (hj : j ≤ X.runs.length)
    (hA : ∀ x ∈ X.runs.take i, x.1 + x.2 < st) (hG : Grown st m ((X.runs.take j).drop i) hs he) (hB : ∀ h : j < X.runs.length, st + m < X.runs[j].1) :
    X.turn (st : Int) (m : Int) true = (0, { X with o := setr X.o (st - X.lo) m true }) ∧ XS.runs { X with o := setr X.o (st - X.lo) m true } = X.runs.take i ++ [(hs, he - hs)] ++ X.runs.drop j := by
  have e : X.runs = X.runs.take i ++ (X.runs.take j).drop i ++ X.runs.drop j := by
    have h1 : (X.runs.take j).take i = X.runs.take i := by rw [List.take_take, Nat.min_eq_left hij]
    rw [← h1, List.take_append_drop, List.take_append_drop]
  have hBB : ∀ b ∈ X.runs.drop j, st + m < b.1 := by
    intro b hb
    obtain ⟨q, hq, rfl⟩ := List.mem_iff_getElem.1 hb
    rw [List.length_drop] at hq
    rw [List.getElem_drop]
    have h0 := hB (by omega)
    rcases Nat.eq_zero_or_pos q with rfl | hq0
    · exact h0
    · have pw := List.pairwise_iff_getElem.1 (runs_spec X.o X.lo).1.2 j (j + q) (by show _ < X.runs.length; omega) (by show _ < X.runs.length; omega) (by omega)
      have : X.runs[j].1 + X.runs[j].2 < X.runs[j + q].1 := pw
      omega
  have := runs_free (p := X.lo) (o := X.o) (n := m) e (by omega) (by omega) (by omega) hA hG hBB
  refine ⟨?_, this.2⟩
  unfold XS.turn
  rw [if_neg (fun h => h hw), show ((st : Int) - X.lo).toNat = st - X.lo by omega, Int.toNat_natCast, Bool.not_true, if_pos this.1]
theorem free_twice {X : XS} {st m : Nat} {g : Nat × Nat} (hw : 1 ≤ (m : Int) ∧ (m : Int) ≤ X.o.length ∧ (X.lo : Int) ≤ st ∧ (st : Int) + m ≤ X.lo + X.o.length) (hg : g ∈ X.runs) (h1 : g.1 + g.2 > st) (h2 : g.1 < st + m) :
    X.turn (st : Int) (m : Int) true = (6, X) := by
  unfold XS.turn
  have := free_no (p := X.lo) (o := X.o) (st := st) (n := m) (by omega) hg h1 h2 (by omega)
  rw [if_neg (fun h => h hw), show ((st : Int) - X.lo).toNat = st - X.lo by omega, Int.toNat_natCast, Bool.not_true, this]
  rfl
set_option maxRecDepth 20000
set_option maxHeartbeats 4000000
attribute [local irreducible] SG WC WO W1 WD WK PS Rd Tri Exit.then Exit.inBlock bodyPost calmQ Mid sadd
variable {W : World} {n : Nat} {F : Fr} {L : List HP} {G : Act → World → Prop}
theorem freex_tri (p : Nat) (X : XS) (s m : Int) (R : List HP) (hs : -9223372036854775808 ≤ s ∧ s ≤ 9223372036854775807) (hm : -9223372036854775808 ≤ m ∧ m ≤ 9223372036854775807) :
    Tri Try.prog W 9 [dp p, i64 s, i64 m] (SpaceRep p X :: R) (X := Unit) (fun _ => i64 (X.turn s m true).1) (fun _ => True) (fun _ => SpaceRep p (X.turn s m true).2 :: R) := by
  refine tri_enter3 Try.func9 rfl Try.ntmps9 rfl ?_
  refine sg_seq ?_
  repeat' (first | refine sg_wo ?_ | refine sg_ps (ps_assign rfl) rfl ?_ | refine sg_region ?_ | refine sg_nil ?_ | refine sg_then ?_)
  refine sg_seq_mid (γ := Unit) (fun _ => 1 ≤ m ∧ m ≤ X.o.length ∧ (X.lo : Int) ≤ s ∧ s + m ≤ X.lo + X.o.length) (fun _ => [(0, dp p), (1, i64 s), (2, i64 m)]) (fun _ => SpaceRep p X :: R) ?_ ?_
  · skip
    repeat' (first | refine sg_wo ?_ | refine sg_ps (ps_move rfl) rfl ?_ | refine sg_ps (ps_assign rfl) rfl ?_ | refine sg_seq ?_ | refine sg_region ?_ | refine sg_nil ?_ | refine sg_then ?_ | refine sg_ps (ps_bin rfl rfl inferInstance) rfl ?_ | refine sg_cond_f rfl ?_ | refine sg_block ?_)
    refine sg_call (within_tri p X s m R hs hm) rfl rfl (fun _ _ => ?_)
    repeat' (first | refine sg_wo ?_ | refine sg_ps (ps_assign rfl) rfl ?_ | refine sg_seq ?_ | refine sg_region ?_ | refine sg_nil ?_ | refine sg_then ?_ | refine sg_ps (ps_not rfl) rfl ?_ | refine sg_skip ?_ | refine sg_ret ?_ | refine ex_then_ret ?_ | refine ex_block_ret ?_ | refine ex_block_normal ?_ | (refine sg_cond_ndec rfl (fun hg => ?_) (fun hg => ?_) <;> first | (exfalso; omega) | (exact absurd rfl hg) | skip))
    · rw [turn_arg hg]
      exact ex_ret1 rfl rfl () rfl trivial (fun w hO => hO)
    · exact ex_mid () hg (.cons rfl (.cons rfl (.cons rfl .nil))) (fun w hO => hO)
  · rintro - hw
    refine SpaceRep.open fun a c hX => ?_
    have hlen := runs_len X.o X.lo
    have hhi := hX.hi
    have hl : X.runs.length ≤ 4096 := by unfold XS.runs; omega
    obtain ⟨m, rfl⟩ : ∃ m' : Nat, m = (m' : Int) := ⟨m.toNat, by omega⟩
    obtain ⟨st, rfl⟩ : ∃ s' : Nat, s = (s' : Int) := ⟨s.toNat, by omega⟩
    have hrd : Rd W (blk p (xcells X a c) :: sown a X.runs.length c 2 (hcells X.runs) :: R) a (hcells X.runs) := rd_sown 1 rfl fun _ _ h => h
    have hin : ∀ j (h : j < X.runs.length), X.lo ≤ X.runs[j].1 ∧ 1 ≤ X.runs[j].2 ∧ X.runs[j].1 + X.runs[j].2 ≤ X.lo + X.o.length := fun j h => XS.runs_in hX (List.getElem_mem h)
    refine sg_seq ?_
    repeat' (first | refine sg_wo ?_ | refine sg_ps (ps_assign rfl) rfl ?_ | refine sg_region ?_ | refine sg_nil ?_ | refine sg_then ?_)
    refine sg_seq_mid (γ := Nat) (fun i => i ≤ X.runs.length ∧ (∀ x ∈ X.runs.take i, x.1 + x.2 < st) ∧ ∀ h : i < X.runs.length, st ≤ X.runs[i].1 + X.runs[i].2) (fun i => [(0, dp p), (1, i64 st), (2, i64 m), (7, i64 i)])
      (fun _ => blk p (xcells X a c) :: sown a X.runs.length c 2 (hcells X.runs) :: R) ?_ ?_
    · refine sg_block ?_
      refine sg_loop (γ := Nat) (fun i => i ≤ X.runs.length ∧ ∀ x ∈ X.runs.take i, x.1 + x.2 < st) (fun i => [(0, dp p), (1, i64 st), (2, i64 m), (7, i64 i)])
        (fun _ => blk p (xcells X a c) :: sown a X.runs.length c 2 (hcells X.runs) :: R) (fun i => X.runs.length - i) 0 ⟨Nat.zero_le _, by simp⟩ (.cons rfl (.cons rfl (.cons rfl (.cons rfl .nil)))) (fun w hO => hO) ?_
      rintro i ⟨hi, hp⟩
      by_cases hil : i < X.runs.length
      · refine sg_rd_some hrd (hcells_ne (by omega)) fun b o ha => ?_
        have hra := Rd.at2 hrd ha i hil
        have hini := hin i hil
        subst ha
        generalize hge : X.runs[i] = g at hra hini
        obtain ⟨gs, gl⟩ := g
        simp only at hini
        repeat' (first | refine sg_wo ?_ | refine sg_ps (ps_move rfl) rfl ?_ | refine sg_seq ?_ | refine sg_region ?_ | refine sg_ps (ps_fieldAddr rfl) rfl ?_ | refine sg_ps (ps_nilCheck rfl) rfl ?_ | refine sg_load 0 rfl rfl rfl rfl ?_ | refine sg_ps (ps_bin rfl rfl inferInstance) rfl ?_ | refine sg_guard_yes rfl rfl ?_ | refine sg_ps (ps_len rfl) rfl ?_ | refine sg_ps (ps_indexAddr rfl rfl rfl (by omega)) rfl ?_ | (refine sg_guard_dec rfl rfl (fun hg => ?_) (fun hg => ?_) <;> first | (exfalso; omega) | (exact absurd rfl hg) | skip))
        refine sg_load_agg_rd rfl rfl hra rfl ?_
        repeat' (first | refine sg_wo ?_ | refine sg_guard_yes rfl rfl ?_)
        refine sg_call (end_tri gs gl _ (by omega)) rfl rfl (fun _ _ => ?_)
        repeat' (first | refine sg_wo ?_ | refine sg_ps (ps_move rfl) rfl ?_ | refine sg_ps (ps_assign rfl) rfl ?_ | refine sg_region ?_ | refine sg_nil ?_ | refine sg_then ?_ | refine sg_ps (ps_add64 rfl rfl (by omega)) rfl ?_ | refine sg_ps (ps_bin rfl rfl inferInstance) rfl ?_ | refine sg_guard_yes rfl rfl ?_ | refine sg_ps (ps_pick_t rfl rfl) rfl ?_ | refine sg_block ?_ | refine sg_skip ?_ | refine sg_exit ?_ | refine ex_then_exit ?_ | refine ex_block_normal ?_ | refine ex_block_hit ?_ | (refine sg_cond_dec rfl (fun hg => ?_) (fun hg => ?_) <;> first | (exfalso; omega) | (exact absurd rfl hg) | skip))
        · refine ex_mid (i + 1) ⟨by omega, by omega, fun x hx => ?_⟩ (.cons rfl (.cons rfl (.cons rfl (.cons rfl .nil)))) (fun w hO => hO)
          rcases take_succ_mem hil hx with hx | rfl
          · exact hp x hx
          · rw [hge]; simp only; omega
        · exact ex_mid i ⟨hi, hp, fun _ => by rw [hge]; simp only; omega⟩ (.cons rfl (.cons rfl (.cons rfl (.cons rfl .nil)))) (fun w hO => hO)
      · obtain rfl : i = X.runs.length := by omega
        repeat' (first | refine sg_wo ?_ | refine sg_ps (ps_move rfl) rfl ?_ | refine sg_seq ?_ | refine sg_region ?_ | refine sg_nil ?_ | refine sg_then ?_ | refine sg_ps (ps_fieldAddr rfl) rfl ?_ | refine sg_ps (ps_nilCheck rfl) rfl ?_ | refine sg_load 0 rfl rfl rfl rfl ?_ | refine sg_ps (ps_bin rfl rfl inferInstance) rfl ?_ | refine sg_cond_f rfl ?_ | refine sg_guard_nf rfl rfl rfl ?_ | refine sg_ps (ps_pick_f rfl rfl) rfl ?_ | refine sg_ps (ps_len rfl) rfl ?_ | refine sg_exit ?_ | refine ex_then_exit ?_ | refine ex_block_hit ?_ | (refine sg_guard_dec rfl rfl (fun hg => ?_) (fun hg => ?_) <;> first | (exfalso; omega) | (exact absurd rfl hg) | skip))
        exact ex_mid _ ⟨Nat.le_refl _, hp, fun h => absurd h (Nat.lt_irrefl _)⟩ (.cons rfl (.cons rfl (.cons rfl (.cons rfl .nil)))) (fun w hO => hO)
    · rintro i ⟨hi, hA, hAe⟩
      refine sg_seq ?_
      repeat' (first | refine sg_wo ?_ | refine sg_ps (ps_move rfl) rfl ?_ | refine sg_ps (ps_assign rfl) rfl ?_ | refine sg_region ?_ | refine sg_nil ?_ | refine sg_then ?_ | refine sg_ps (ps_build rfl rfl) rfl ?_ | refine sg_store_whole [] rfl rfl rfl rfl rfl ?_ | refine sg_alloc rfl (fun al => ?_))
      have hEnd : ∀ j (h : j < X.runs.length), i ≤ j → st ≤ X.runs[j].1 + X.runs[j].2 := by
        intro j h hij
        rcases Nat.eq_or_lt_of_le hij with rfl | hlt
        · exact hAe h
        · have pw := List.pairwise_iff_getElem.1 (runs_spec X.o X.lo).1.2 i j (by show _ < X.runs.length; omega) (by show _ < X.runs.length; omega) hlt
          have h1 : X.runs[i].1 + X.runs[i].2 < X.runs[j].1 := pw
          have h2 := hAe (by omega)
          omega
      have hbound : ∀ j hs he, Grown st m ((X.runs.take j).drop i) hs he → he ≤ 4096 := by
        intro j hs he hG
        rcases hG.hi.2 with h1 | ⟨x, hx, h1⟩
        · omega
        · have := XS.runs_in hX (List.mem_of_mem_take (List.mem_of_mem_drop hx)); omega
      have hrd2 : ∀ (al : Nat) (cs : List Value), Rd W (blk al cs :: blk p (xcells X a c) :: sown a X.runs.length c 2 (hcells X.runs) :: R) a (hcells X.runs) := fun al cs => rd_sown 2 rfl fun _ _ h => h
      refine sg_seq_mid (γ := Nat × Nat × Nat) (fun x => i ≤ x.1 ∧ x.1 ≤ X.runs.length ∧ Grown st m ((X.runs.take x.1).drop i) x.2.1 x.2.2 ∧ ∀ h : x.1 < X.runs.length, st + m < X.runs[x.1].1)
        (fun x => [(0, dp p), (1, i64 st), (2, i64 m), (7, i64 i), (8, dp al), (9, i64 x.1)])
        (fun x => blk al (hc (x.2.1, x.2.2 - x.2.1)) :: blk p (xcells X a c) :: sown a X.runs.length c 2 (hcells X.runs) :: R) ?_ ?_
      · refine sg_block ?_
        refine sg_loop (γ := Nat × Nat × Nat) (fun x => i ≤ x.1 ∧ x.1 ≤ X.runs.length ∧ Grown st m ((X.runs.take x.1).drop i) x.2.1 x.2.2)
          (fun x => [(0, dp p), (1, i64 st), (2, i64 m), (7, i64 i), (8, dp al), (9, i64 x.1)])
          (fun x => blk al (hc (x.2.1, x.2.2 - x.2.1)) :: blk p (xcells X a c) :: sown a X.runs.length c 2 (hcells X.runs) :: R) (fun x => X.runs.length - x.1) (i, st, st + m)
          ⟨Nat.le_refl _, hi, by rw [List.drop_eq_nil_of_le (by rw [List.length_take]; omega)]; exact Grown.start st m⟩
          (.cons rfl (.cons rfl (.cons rfl (.cons rfl (.cons rfl (.cons rfl .nil)))))) (fun w hO => by
            show Own W w (blk al [i64 st, i64 ((st + m - st : Nat) : Int)] :: _)
            rw [show st + m - st = m by omega]; exact hO) ?_
        rintro ⟨j, hs, he⟩ ⟨hij, hj, hG⟩
        dsimp only at hij hj hG ⊢
        have hhe := hbound j hs he hG
        have hle : hs ≤ he := by have := hG.lo.1; have := hG.hi.1; omega
        by_cases hjl : j < X.runs.length
        · have hrd3 := hrd2 al (hc (hs, he - hs))
          refine sg_rd_some hrd3 (hcells_ne (by omega)) fun b o ha => ?_
          have hra := Rd.at2 hrd3 ha j hjl
          have hinj := hin j hjl
          have hej := hEnd j hjl hij
          have hmem : X.runs[j] ∈ X.runs := List.getElem_mem hjl
          have hM : (X.runs.take (j + 1)).drop i = (X.runs.take j).drop i ++ [X.runs[j]] := by
            rw [List.take_add_one, List.getElem?_eq_getElem hjl, Option.toList_some, List.drop_append_of_le_length (by rw [List.length_take]; omega)]
          subst ha
          generalize hge : X.runs[j] = g at hra hinj hej hmem hM
          obtain ⟨gs, gl⟩ := g
          simp only at hinj hej
          have hra0 : Rd W (blk al (hc (hs, he - hs)) :: blk p (xcells X (some ⟨b, o, none⟩) c) :: sown (some ⟨b, o, none⟩) X.runs.length c 2 (hcells X.runs) :: R) (some ⟨b, o + j * 2 + 0, none⟩) [i64 gs] := hra.at 0 (fun j u hj => by
            match j, hj with
            | 0, hj => rw [Nat.zero_add]; exact hj)
          refine sg_seq ?_
          refine sg_seq ?_
          repeat' (first | refine sg_wo ?_ | refine sg_ps (ps_move rfl) rfl ?_ | refine sg_region ?_ | refine sg_ps (ps_fieldAddr rfl) rfl ?_ | refine sg_ps (ps_nilCheck rfl) rfl ?_ | refine sg_load 1 rfl rfl rfl rfl ?_ | refine sg_ps (ps_bin rfl rfl inferInstance) rfl ?_ | refine sg_guard_yes rfl rfl ?_ | refine sg_ps (ps_len rfl) rfl ?_ | refine sg_ps (ps_indexAddr rfl rfl rfl (by omega)) rfl ?_ | (refine sg_guard_dec rfl rfl (fun hg => ?_) (fun hg => ?_) <;> first | (exfalso; omega) | (exact absurd rfl hg) | skip))
          refine sg_load_rd rfl hra0 rfl ?_
          repeat' (first | refine sg_wo ?_ | refine sg_ps (ps_move rfl) rfl ?_ | refine sg_nil ?_ | refine sg_then ?_ | refine sg_ps (ps_add64 rfl rfl (by omega)) rfl ?_ | refine sg_ps (ps_bin rfl rfl inferInstance) rfl ?_ | refine sg_guard_yes rfl rfl ?_ | refine sg_ps (ps_pick_t rfl rfl) rfl ?_ | refine sg_block ?_ | refine sg_skip ?_ | refine sg_exit ?_ | refine ex_then_exit ?_ | refine ex_block_hit ?_ | (refine sg_cond_dec rfl (fun hg => ?_) (fun hg => ?_) <;> first | (exfalso; omega) | (exact absurd rfl hg) | skip))
          · refine sg_seq_mid (γ := Unit) (fun _ => ¬ (gs + gl > st ∧ gs < st + m)) (fun _ => [(0, dp p), (1, i64 st), (2, i64 m), (7, i64 i), (8, dp al), (9, i64 j)])
              (fun _ => blk al (hc (hs, he - hs)) :: blk p (xcells X (some ⟨b, o, none⟩) c) :: sown (some ⟨b, o, none⟩) X.runs.length c 2 (hcells X.runs) :: R) ?_ ?_
            · skip
              repeat' (first | refine sg_wo ?_ | refine sg_ps (ps_move rfl) rfl ?_ | refine sg_seq ?_ | refine sg_region ?_ | refine sg_ps (ps_fieldAddr rfl) rfl ?_ | refine sg_ps (ps_nilCheck rfl) rfl ?_ | refine sg_load 1 rfl rfl rfl rfl ?_ | refine sg_ps (ps_indexAddr rfl rfl rfl (by omega)) rfl ?_)
              refine sg_load_agg_rd rfl rfl hra rfl ?_
              repeat' (first | refine sg_wo ?_)
              refine sg_call (end_tri gs gl _ (by omega)) rfl rfl (fun _ _ => ?_)
              repeat' (first | refine sg_wo ?_ | refine sg_ps (ps_move rfl) rfl ?_ | refine sg_nil ?_ | refine sg_then ?_ | refine sg_ps (ps_fieldAddr rfl) rfl ?_ | refine sg_ps (ps_nilCheck rfl) rfl ?_ | refine sg_load 1 rfl rfl rfl rfl ?_ | refine sg_ps (ps_bin rfl rfl inferInstance) rfl ?_ | refine sg_cond_f rfl ?_ | refine sg_guard_yes rfl rfl ?_ | refine sg_guard_nf rfl rfl rfl ?_ | refine sg_ps (ps_pick_f rfl rfl) rfl ?_ | refine sg_ps (ps_indexAddr rfl rfl rfl (by omega)) rfl ?_ | refine sg_skip ?_ | (refine sg_guard_dec rfl rfl (fun hg => ?_) (fun hg => ?_) <;> first | (exfalso; omega) | (exact absurd rfl hg) | skip))
              · refine sg_load_rd rfl hra0 rfl ?_
                repeat' (first | refine sg_wo ?_ | refine sg_ps (ps_move rfl) rfl ?_ | refine sg_ps (ps_assign rfl) rfl ?_ | refine sg_seq ?_ | refine sg_region ?_ | refine sg_nil ?_ | refine sg_then ?_ | refine sg_ps (ps_add64 rfl rfl (by omega)) rfl ?_ | refine sg_ps (ps_bin rfl rfl inferInstance) rfl ?_ | refine sg_guard_yes rfl rfl ?_ | refine sg_ps (ps_pick_t rfl rfl) rfl ?_ | refine sg_skip ?_ | refine sg_ret ?_ | refine ex_then_ret ?_ | refine ex_block_ret ?_ | (refine sg_cond_dec rfl (fun hg => ?_) (fun hg => ?_) <;> first | (exfalso; omega) | (exact absurd rfl hg) | skip))
                · rw [free_twice hw hmem (by simp only; omega) (by simp only; omega)]
                  exact ex_ret1 rfl rfl () rfl trivial (fun w hO => SpaceRep.shut hX hO.tail)
                · exact ex_mid () (by omega) (.cons rfl (.cons rfl (.cons rfl (.cons rfl (.cons rfl (.cons rfl .nil)))))) (fun w hO => hO)
              · exact ex_mid () (by omega) (.cons rfl (.cons rfl (.cons rfl (.cons rfl (.cons rfl (.cons rfl .nil)))))) (fun w hO => hO)
            · rintro - hnot
              refine sg_seq ?_
              refine sg_drawK (blk al (hc (hs, he - hs)) :: blk p (xcells X (some ⟨b, o, none⟩) c) :: sown (some ⟨b, o, none⟩) X.runs.length c 2 (hcells X.runs) :: R) [0, 2, 3, 4, 6, 13, 14, 15, 17, 1, 5, 7, 8, 9, 10, 11, 16, 18, 19, 12, 20, 21, 22, 23] (by kernel_rfl) (by kernel_rfl) (fun w hO => hO) ?_
              repeat' (first | refine sk_pure rfl rfl (ps_move rfl) rfl ?_ | refine sk_pure rfl rfl (ps_nilCheck rfl) rfl ?_ | refine sk_pure rfl rfl (ps_fieldAddr rfl) rfl ?_ | refine sk_pure rfl rfl (ps_indexAddr rfl rfl rfl (by omega)) rfl ?_ | refine sk_load 0 rfl rfl rfl rfl rfl ?_ | refine sk_load 1 rfl rfl rfl rfl rfl ?_)
              refine sk_load_rd rfl rfl hra0 rfl ?_
              repeat' (first | refine sk_pure rfl rfl (ps_indexAddr rfl rfl rfl (by omega)) rfl ?_ | refine sk_pure rfl rfl (ps_min2 rfl rfl) rfl ?_ | refine sk_load 1 rfl rfl rfl rfl rfl ?_ | refine sk_lw 0 rfl rfl rfl rfl rfl ?_)
              refine sk_load_agg_rd rfl rfl rfl (fun w hO => hO) hra rfl ?_
              repeat' (first | refine sk_eff rfl rfl ?_)
              refine sg_call (end_tri hs (he - hs) _ (by omega)) rfl rfl (fun _ _ => ?_)
              refine sk_back (fun w hO => hO) ?_
              repeat' (first | refine sk_eff rfl rfl ?_)
              refine sg_call (end_tri gs gl _ (by omega)) rfl rfl (fun _ _ => ?_)
              refine sk_back (fun w hO => hO) ?_
              rw [show hs + (he - hs) = he by omega]
              repeat' (first | refine sk_nil ?_ | refine sk_pure rfl rfl (ps_assign rfl) rfl ?_ | refine sk_pure rfl rfl (ps_max2 rfl rfl) rfl ?_)
              have emin : min ((hs, he - hs).1 : Int) (gs : Int) = ((min hs gs : Nat) : Int) := by simp only; omega
              have emax : max (he : Int) ((gs + gl : Nat) : Int) = ((max he (gs + gl) : Nat) : Int) := by omega
              rw [emin, emax]
              repeat' (first | refine sg_wo ?_ | refine sg_ps (ps_move rfl) rfl ?_ | refine sg_ps (ps_assign rfl) rfl ?_ | refine sg_region ?_ | refine sg_nil ?_ | refine sg_then ?_ | refine sg_ps (ps_add64 rfl rfl (by omega)) rfl ?_ | refine sg_ps (ps_sub64 rfl rfl (by omega)) rfl ?_ | refine sg_ps (ps_build rfl rfl) rfl ?_ | refine sg_store_whole [] rfl rfl rfl rfl rfl ?_ | refine ex_block_normal ?_)
              have esub : ((max he (gs + gl) : Nat) : Int) - ((min hs gs : Nat) : Int) = ((max he (gs + gl) - min hs gs : Nat) : Int) := by omega
              rw [esub]
              refine ex_mid (j + 1, min hs gs, max he (gs + gl)) ⟨by omega, by omega, by omega, by rw [hM]; exact hG.more (by simp only; omega) (by simp only; omega) (by simp only; omega) hnot⟩
                (.cons rfl (.cons rfl (.cons rfl (.cons rfl (.cons rfl (.cons rfl .nil)))))) (fun w hO => hO)
          · exact ex_mid (j, hs, he) ⟨hij, hj, hG, fun _ => by rw [hge]; simp only; omega⟩ (.cons rfl (.cons rfl (.cons rfl (.cons rfl (.cons rfl (.cons rfl .nil)))))) (fun w hO => hO)
        · obtain rfl : j = X.runs.length := by omega
          repeat' (first | refine sg_wo ?_ | refine sg_ps (ps_move rfl) rfl ?_ | refine sg_seq ?_ | refine sg_region ?_ | refine sg_nil ?_ | refine sg_then ?_ | refine sg_ps (ps_fieldAddr rfl) rfl ?_ | refine sg_ps (ps_nilCheck rfl) rfl ?_ | refine sg_load 1 rfl rfl rfl rfl ?_ | refine sg_ps (ps_bin rfl rfl inferInstance) rfl ?_ | refine sg_cond_f rfl ?_ | refine sg_guard_nf rfl rfl rfl ?_ | refine sg_ps (ps_pick_f rfl rfl) rfl ?_ | refine sg_ps (ps_len rfl) rfl ?_ | refine sg_exit ?_ | refine ex_then_exit ?_ | refine ex_block_hit ?_ | (refine sg_guard_dec rfl rfl (fun hg => ?_) (fun hg => ?_) <;> first | (exfalso; omega) | (exact absurd rfl hg) | skip))
          exact ex_mid (_, hs, he) ⟨hij, Nat.le_refl _, hG, fun h => absurd h (Nat.lt_irrefl _)⟩ (.cons rfl (.cons rfl (.cons rfl (.cons rfl (.cons rfl (.cons rfl .nil)))))) (fun w hO => hO)
      · rintro ⟨j, hs, he⟩ ⟨hij, hj, hG, hB⟩
        dsimp only at hij hj hG hB ⊢
        have hhe := hbound j hs he hG
        have hle : hs ≤ he := by have := hG.lo.1; have := hG.hi.1; omega
        obtain ⟨hy1, hy2⟩ := free_yes hX (st := st) (m := m) hw hij hj hA hG hB
        rw [hy1]
        refine sg_seq ?_
        refine sg_drawK (blk al (hc (hs, he - hs)) :: blk p (xcells X a c) :: sown a X.runs.length c 2 (hcells X.runs) :: R) [0, 1, 2, 3, 5, 6, 4, 7, 8, 9, 10, 11, 12] (by kernel_rfl) (by kernel_rfl) (fun w hO => hO) ?_
        repeat' (first | refine sk_pure rfl rfl (ps_move rfl) rfl ?_ | refine sk_pure rfl rfl (ps_nilCheck rfl) rfl ?_ | refine sk_pure rfl rfl (ps_fieldAddr rfl) rfl ?_ | refine sk_load 1 rfl rfl rfl rfl rfl ?_ | refine sk_lw 0 rfl rfl rfl rfl rfl ?_ | refine sk_eff rfl rfl ?_)
        refine sg_buildSlice0 (sz := 2) (vs := hcells [(hs, he - hs)]) rfl (by omega) (by omega) rfl rfl rfl (fun b => ?_)
        refine sk_back (fun w hO => hO.tail) ?_
        repeat' (first | refine sk_eff rfl rfl ?_)
        refine sg_call ((replace_tri (hcells X.runs) (hcells [(hs, he - hs)]) a (some ⟨b, 0, none⟩) X.runs.length c 1 1 i j (blk al (hc (hs, he - hs)) :: blk p (xcells X a c) :: R) hij hj (by omega) (by omega) (hcells_one _) (hcells_one _) rfl (hcells_len _)).pre
          (fun w hO => own_mk0 (sz := 2) (hO.front3.front1) (Nat.le_refl _) (by simp only [maxLen]; omega) rfl rfl)) rfl rfl (fun y _ => ?_)
        obtain ⟨na, nc⟩ := y
        dsimp only
        refine sk_end (by kernel_rfl) ?_
        repeat' (first | refine sk_pure rfl rfl (ps_nilCheck rfl) rfl ?_ | refine sk_pure rfl rfl (ps_fieldAddr rfl) rfl ?_ | refine sk_eff rfl rfl ?_ | refine sg_store [_, _] rfl rfl rfl (of_decide_eq_true rfl) ?_)
        refine sk_back (fun w hO => hO.pick [] (by decide)) ?_
        repeat' (first | refine sk_nil ?_)
        refine sg_then ?_
        repeat' (first | refine sg_wo ?_ | refine sg_ps (ps_assign rfl) rfl ?_ | refine sg_seq ?_ | refine sg_region ?_ | refine sg_nil ?_ | refine sg_then ?_ | refine sg_ret ?_)
        have hcc : List.take (i * 2) (hcells X.runs) ++ hcells [(hs, he - hs)] ++ List.drop (j * 2) (hcells X.runs) = hcells (XS.runs { X with o := setr X.o (st - X.lo) m true }) := by
          rw [hy2, hcells_app, hcells_app]
          have h1 := hcells_take (X.runs.take i) (X.runs.drop i)
          rw [List.take_append_drop, List.length_take, Nat.min_eq_left (by omega)] at h1
          have h2 := hcells_drop (X.runs.take j) (X.runs.drop j)
          rw [List.take_append_drop, List.length_take, Nat.min_eq_left hj] at h2
          rw [h1, h2]
        have hlc : i + 1 + (X.runs.length - j) = (XS.runs { X with o := setr X.o (st - X.lo) m true }).length := by
          rw [hy2]; simp only [List.length_append, List.length_take, List.length_drop, List.length_singleton]; omega
        rw [hcc, hlc]
        have hX' : XS.ok { X with o := setr X.o (st - X.lo) m true } := ⟨by show X.lo + (setr _ _ _ _).length ≤ _; rw [setr_len]; exact hhi⟩
        refine ex_ret1 rfl rfl () rfl trivial (fun w hO => SpaceRep.shut (a := na) (c := nc) hX' ?_)
        have h2 := hO.front2.front2.tail
        rw [show xcells { X with o := setr X.o (st - X.lo) m true } na nc = (xcells X a c).set (0 + 2) (.slice na (XS.runs { X with o := setr X.o (st - X.lo) m true }).length nc) by
          simp only [xcells, setr_len]; rfl]
        exact h2
end Go.Proofs.Ytcchgkjcoknkcaa
