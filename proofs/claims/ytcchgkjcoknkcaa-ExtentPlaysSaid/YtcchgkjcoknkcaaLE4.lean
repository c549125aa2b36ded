/- ExtentPlays: any calls in any order on any space. -/
import Derived.Test.YtcchgkjcoknkcaaLES
namespace Go.Proofs.Ytcchgkjcoknkcaa
set_option linter.unusedVariables false
set_option linter.unusedSimpArgs false
set_option linter.unusedSectionVars false
set_option linter.unnecessarySimpa false
open Go Go.Proofs
set_option maxRecDepth 20000
set_option maxHeartbeats 4000000
attribute [local irreducible] SG WC WO W1 WD WK PS Rd Tri Exit.then Exit.inBlock bodyPost calmQ Mid sadd
variable {W : World} {n : Nat} {F : Fr} {L : List HP} {G : Act → World → Prop}
theorem alloc_nil (m : Int) (R : List HP) : Tri Try.prog W 10 [.pointer none, i64 m] R (X := Unit) (fun _ => .tuple #[i64 0, i64 11]) (fun _ => True) (fun _ => R) := by
  refine tri_enter2 Try.func10 rfl Try.ntmps10 rfl ?_
  repeat' (first | refine sg_wo ?_ | refine sg_ps (ps_move rfl) rfl ?_ | refine sg_ps (ps_assign rfl) rfl ?_ | refine sg_seq ?_ | refine sg_region ?_ | refine sg_nil ?_ | refine sg_then ?_ | refine sg_ps (ps_bin rfl rfl inferInstance) rfl ?_ | refine sg_cond_t rfl ?_ | refine sg_box rfl rfl (fun bx => ?_) | refine sg_block ?_ | refine sg_ret ?_ | refine ex_then_ret ?_ | refine ex_block_ret ?_)
  exact ex_ret2 rfl rfl rfl () rfl trivial (fun w hO => hO.tail)
theorem take_nil (s m : Int) (R : List HP) : Tri Try.prog W 14 [.pointer none, i64 s, i64 m] R (X := Unit) (fun _ => i64 11) (fun _ => True) (fun _ => R) := by
  refine tri_enter3 Try.func14 rfl Try.ntmps14 rfl ?_
  repeat' (first | refine sg_wo ?_ | refine sg_ps (ps_move rfl) rfl ?_ | refine sg_ps (ps_assign rfl) rfl ?_ | refine sg_seq ?_ | refine sg_region ?_ | refine sg_nil ?_ | refine sg_then ?_ | refine sg_ps (ps_bin rfl rfl inferInstance) rfl ?_ | refine sg_cond_t rfl ?_ | refine sg_box rfl rfl (fun bx => ?_) | refine sg_block ?_ | refine sg_ret ?_ | refine ex_then_ret ?_ | refine ex_block_ret ?_)
  exact ex_ret1 rfl rfl () rfl trivial (fun w hO => hO.tail.tail)
theorem free_nil (s m : Int) (R : List HP) : Tri Try.prog W 9 [.pointer none, i64 s, i64 m] R (X := Unit) (fun _ => i64 11) (fun _ => True) (fun _ => R) := by
  refine tri_enter3 Try.func9 rfl Try.ntmps9 rfl ?_
  repeat' (first | refine sg_wo ?_ | refine sg_ps (ps_move rfl) rfl ?_ | refine sg_ps (ps_assign rfl) rfl ?_ | refine sg_seq ?_ | refine sg_region ?_ | refine sg_nil ?_ | refine sg_then ?_ | refine sg_ps (ps_bin rfl rfl inferInstance) rfl ?_ | refine sg_cond_t rfl ?_ | refine sg_block ?_ | refine sg_ret ?_ | refine ex_then_ret ?_ | refine ex_block_ret ?_)
  exact ex_ret1 rfl rfl () rfl trivial (fun w hO => hO)
theorem holes_nil (R : List HP) : Tri Try.prog W 11 [.pointer none] R (X := Unit) (fun _ => .slice none 0 0) (fun _ => True) (fun _ => R) := by
  refine tri_enter1 Try.func11 rfl Try.ntmps11 rfl ?_
  repeat' (first | refine sg_wo ?_ | refine sg_ps (ps_move rfl) rfl ?_ | refine sg_ps (ps_assign rfl) rfl ?_ | refine sg_seq ?_ | refine sg_region ?_ | refine sg_nil ?_ | refine sg_then ?_ | refine sg_ps (ps_bin rfl rfl inferInstance) rfl ?_ | refine sg_cond_t rfl ?_ | refine sg_ret ?_ | refine ex_then_ret ?_)
  exact ex_ret1 rfl rfl () rfl trivial (fun w hO => hO)
theorem left_nil (R : List HP) : Tri Try.prog W 12 [.pointer none] R (X := Unit) (fun _ => i64 0) (fun _ => True) (fun _ => R) := by
  refine tri_enter1 Try.func12 rfl Try.ntmps12 rfl ?_
  repeat' (first | refine sg_wo ?_ | refine sg_ps (ps_move rfl) rfl ?_ | refine sg_ps (ps_assign rfl) rfl ?_ | refine sg_seq ?_ | refine sg_region ?_ | refine sg_nil ?_ | refine sg_then ?_)
  refine sg_call (holes_nil R) rfl rfl (fun _ _ => ?_)
  repeat' (first | refine sg_wo ?_ | refine sg_ps (ps_move rfl) rfl ?_ | refine sg_nil ?_ | refine sg_then ?_ | refine sg_ps (ps_len rfl) rfl ?_ | refine sg_block ?_)
  refine sg_loop (γ := Unit) (fun _ => True) (fun _ => [(3, i64 0), (7, .slice none 0 0), (8, i64 0), (9, i64 0)]) (fun _ => R) (fun _ => 0) () trivial (.cons rfl (.cons rfl (.cons rfl (.cons rfl .nil)))) (fun w hO => hO) ?_
  rintro - -
  repeat' (first | refine sg_wo ?_ | refine sg_ps (ps_move rfl) rfl ?_ | refine sg_ps (ps_assign rfl) rfl ?_ | refine sg_seq ?_ | refine sg_region ?_ | refine sg_nil ?_ | refine sg_then ?_ | refine sg_ps (ps_bin rfl rfl inferInstance) rfl ?_ | refine sg_cond_f rfl ?_ | refine sg_ret ?_ | refine sg_exit ?_ | refine ex_then_exit ?_ | refine ex_block_hit ?_)
  exact ex_ret1 rfl rfl () rfl trivial (fun w hO => hO)
theorem extentPlays_tri (a b : Int) (l : List EO) (la : Option Addr) (lc : Nat) (hl : EOpsAt W l la) :
    Tri Try.prog W 4 [i64 a, i64 b, .slice la l.length lc] [old W] (X := Unit) (fun _ => .bool true) (fun _ => True) (fun _ => [old W]) := by
  obtain ⟨hp, hll, hl⟩ := hl
  refine tri_enter3 Try.func4 rfl Try.ntmps4 rfl ?_
  repeat' (first | refine sg_wo ?_ | refine sg_ps (ps_assign rfl) rfl ?_ | refine sg_seq ?_ | refine sg_region ?_ | refine sg_nil ?_ | refine sg_then ?_)
  refine sg_call (awake_tri _) rfl rfl (fun _ _ => ?_)
  repeat' (first | refine sg_wo ?_ | refine sg_ps (ps_move rfl) rfl ?_ | refine sg_seq ?_ | refine sg_region ?_ | refine sg_nil ?_ | refine sg_then ?_ | refine sg_ps (ps_not rfl) rfl ?_ | refine sg_cond_f rfl ?_ | refine sg_skip ?_)
  by_cases hab : 0 ≤ a ∧ a ≤ b ∧ b ≤ 4096
  · obtain ⟨lo, rfl⟩ : ∃ lo : Nat, a = (lo : Int) := ⟨a.toNat, by omega⟩
    obtain ⟨k, rfl⟩ : ∃ k : Nat, b = ((lo + k : Nat) : Int) := ⟨b.toNat - lo, by omega⟩
    refine sg_call (newx_tri lo k _ (by omega)) rfl rfl (fun p _ => ?_)
    repeat' (first | refine sg_wo ?_ | refine sg_ps (ps_move rfl) rfl ?_ | refine sg_ps (ps_assign rfl) rfl ?_ | refine sg_seq ?_ | refine sg_region ?_ | refine sg_nil ?_ | refine sg_then ?_ | refine sg_ps (ps_extract rfl rfl) rfl ?_)
    refine sg_call (rnewx_tri lo k _ (by omega)) rfl rfl (fun r _ => ?_)
    repeat' (first | refine sg_wo ?_ | refine sg_ps (ps_move rfl) rfl ?_ | refine sg_ps (ps_assign rfl) rfl ?_ | refine sg_seq ?_ | refine sg_region ?_ | refine sg_nil ?_ | refine sg_then ?_ | refine sg_ps (ps_bin rfl rfl inferInstance) rfl ?_ | refine sg_cond_f rfl ?_ | refine sg_guard_yes rfl rfl ?_ | refine sg_ps (ps_pick_f rfl rfl) rfl ?_ | refine sg_ps (ps_extract rfl rfl) rfl ?_ | refine sg_block ?_ | refine sg_skip ?_)
    refine sg_loop (γ := Nat × XS) (fun g => g.1 ≤ l.length ∧ g.1 ≤ 300) (fun g => [(2, .slice la l.length lc), (7, dp p), (9, dp r), (13, i64 g.1)]) (fun g => [RefSp r g.2, SpaceRep p g.2, old W]) (fun g => 300 - g.1) (0, XS.new lo k)
      ⟨Nat.zero_le _, Nat.zero_le _⟩ (.cons rfl (.cons rfl (.cons rfl (.cons rfl .nil)))) (fun w hO => hO) ?_
    rintro ⟨i, X⟩ ⟨hi1, hi2⟩
    dsimp only at hi1 hi2 ⊢
    by_cases hi : i < l.length ∧ i < 300
    · obtain ⟨hil, hi300⟩ := hi
      obtain ⟨b, ob, rfl⟩ := hp (by omega)
      obtain ⟨hR, hb0, hb1, hb2⟩ := hl i hil b ob rfl
      have hr : Rd W [RefSp r X, SpaceRep p X, old W] (some ⟨b, ob + i * 3, none⟩) (ecells l[i]) := hR.rd 2 rfl
      generalize l[i] = x at hR hb0 hb1 hb2 hr
      obtain ⟨kd, st, m, u⟩ := x
      simp only at hb0 hb1 hb2
      have hec : ecells (kd, st, m, u) = [i64 kd, i64 st, i64 m] := rfl
      rw [hec] at hr
      have hkl := rem_lt kd (m := 3) (by omega)
      refine sg_seq ?_
      refine sg_seq ?_
      repeat' (first | refine sg_wo ?_ | refine sg_ps (ps_move rfl) rfl ?_ | refine sg_region ?_ | refine sg_nil ?_ | refine sg_then ?_ | refine sg_ps (ps_bin rfl rfl inferInstance) rfl ?_ | refine sg_guard_yes rfl rfl ?_ | refine sg_ps (ps_pick_t rfl rfl) rfl ?_ | refine sg_ps (ps_len rfl) rfl ?_ | refine sg_skip ?_ | (refine sg_guard_dec rfl rfl (fun hg => ?_) (fun hg => ?_) <;> first | (exfalso; omega) | (exact absurd rfl hg) | skip) | (refine sg_cond_dec rfl (fun hg => ?_) (fun hg => ?_) <;> first | (exfalso; omega) | (exact absurd rfl hg) | skip))
      refine sg_seq_mid (γ := XS) (fun _ => True) (fun _ => [(2, .slice (some ⟨b, ob, none⟩) l.length lc), (7, dp p), (9, dp r), (13, i64 i)]) (fun X => [RefSp r X, SpaceRep p X, old W]) ?_ ?_
      · refine sg_block ?_
        refine sg_seq ?_
        repeat' (first | refine sg_wo ?_ | refine sg_ps (ps_move rfl) rfl ?_ | refine sg_region ?_ | refine sg_ps (ps_indexAddr rfl rfl rfl (by omega)) rfl ?_)
        refine sg_load_agg_rd rfl rfl hr rfl ?_
        repeat' (first | refine sg_wo ?_ | refine sg_nil ?_ | refine sg_then ?_ | refine sg_store_whole [] rfl rfl rfl rfl rfl ?_ | refine sg_alloc rfl (fun al => ?_))
        refine sg_seq_mid (γ := XS) (fun _ => True) (fun _ => [(2, .slice (some ⟨b, ob, none⟩) l.length lc), (7, dp p), (9, dp r), (13, i64 i)]) (fun X => [RefSp r X, SpaceRep p X, old W]) ?_ ?_
        · skip
          repeat' (first | refine sg_wo ?_ | refine sg_ps (ps_move rfl) rfl ?_ | refine sg_ps (ps_assign rfl) rfl ?_ | refine sg_seq ?_ | refine sg_region ?_ | refine sg_nil ?_ | refine sg_then ?_ | refine sg_ps (ps_fieldAddr rfl) rfl ?_ | refine sg_load 0 rfl rfl rfl rfl ?_ | refine sg_ps (ps_add64 rfl rfl (by omega)) rfl ?_ | refine sg_ps (ps_bin rfl rfl inferInstance) rfl ?_ | refine sg_ps (ps_rem rfl rfl (by decide)) rfl ?_ | refine sg_block ?_ | (refine sg_cond_dec rfl (fun hg => ?_) (fun hg => ?_) <;> first | (exfalso; omega) | (exact absurd rfl hg) | skip))
          · refine sg_call ((alloc_tri p X m [blk al [i64 kd, i64 st, i64 m], RefSp r X, old W]).pre (fun w hO => hO.front2)) rfl rfl (fun _ _ => ?_)
            repeat' (first | refine sg_wo ?_ | refine sg_ps (ps_move rfl) rfl ?_ | refine sg_ps (ps_assign rfl) rfl ?_ | refine sg_seq ?_ | refine sg_region ?_ | refine sg_nil ?_ | refine sg_then ?_ | refine sg_ps (ps_fieldAddr rfl) rfl ?_ | refine sg_load 1 rfl rfl rfl rfl ?_ | refine sg_ps (ps_extract rfl rfl) rfl ?_)
            refine sg_call ((ralloc_tri r X m [SpaceRep p (X.alloc m).2.2, blk al [i64 kd, i64 st, i64 m], old W]).pre (fun w hO => hO.front2)) rfl rfl (fun _ _ => ?_)
            repeat' (first | refine sg_wo ?_ | refine sg_ps (ps_move rfl) rfl ?_ | refine sg_ps (ps_assign rfl) rfl ?_ | refine sg_seq ?_ | refine sg_region ?_ | refine sg_nil ?_ | refine sg_then ?_ | refine sg_ps (ps_bin rfl rfl inferInstance) rfl ?_ | refine sg_guard_yes rfl rfl ?_ | refine sg_ps (ps_pick_f rfl rfl) rfl ?_ | refine sg_ps (ps_extract rfl rfl) rfl ?_ | refine sg_skip ?_ | refine ex_block_normal ?_ | (refine sg_guard_ndec rfl rfl (fun hg => ?_) (fun hg => ?_) <;> first | (exfalso; omega) | (exact absurd rfl hg) | skip) | (refine sg_cond_ndec rfl (fun hg => ?_) (fun hg => ?_) <;> first | (exfalso; omega) | (exact absurd rfl hg) | skip))
            exact ex_mid (X.alloc m).2.2 trivial (.cons rfl (.cons rfl (.cons rfl (.cons rfl .nil)))) (fun w hO => hO.pick [0, 1, 3] (by decide))
          · refine sg_drawK [blk al [i64 kd, i64 st, i64 m]] [0, 1, 3, 6, 7, 9, 2, 4, 8, 10, 5, 11, 12] (by kernel_rfl) (by kernel_rfl) (fun w hO => hO.pick [0] (by decide)) ?_
            repeat' (first | refine sk_pure rfl rfl (ps_move rfl) rfl ?_ | refine sk_pure rfl rfl (ps_fieldAddr rfl) rfl ?_ | refine sk_load 0 rfl rfl rfl rfl rfl ?_ | refine sk_eff rfl rfl ?_)
            refine sg_call ((take_tri p X st m [blk al [i64 kd, i64 st, i64 m], RefSp r X, old W] hb1 hb2).pre (fun w hO => hO.front2)) rfl rfl (fun _ _ => ?_)
            refine sk_back (fun w hO => hO.pick [1] (by decide)) ?_
            repeat' (first | refine sk_eff rfl rfl ?_)
            refine sg_call ((rtake_tri r X st m [SpaceRep p (X.turn st m false).2, blk al [i64 kd, i64 st, i64 m], old W] hb1 hb2).pre (fun w hO => hO.front2)) rfl rfl (fun _ _ => ?_)
            refine sk_back (fun w hO => hO.pick [2] (by decide)) ?_
            repeat' (first | refine sk_nil ?_ | refine sk_pure rfl rfl (ps_bin rfl rfl inferInstance) rfl ?_)
            refine sg_then ?_
            repeat' (first | refine sg_skip ?_ | refine ex_block_normal ?_ | (refine sg_cond_ndec rfl (fun hg => ?_) (fun hg => ?_) <;> first | (exfalso; omega) | (exact absurd rfl hg) | skip))
            exact ex_mid (X.turn st m false).2 trivial (.cons rfl (.cons rfl (.cons rfl (.cons rfl .nil)))) (fun w hO => hO.pick [0, 1, 3] (by decide))
          · refine sg_drawK [blk al [i64 kd, i64 st, i64 m]] [0, 1, 3, 6, 7, 9, 2, 4, 8, 10, 5, 11, 12] (by kernel_rfl) (by kernel_rfl) (fun w hO => hO.pick [0] (by decide)) ?_
            repeat' (first | refine sk_pure rfl rfl (ps_move rfl) rfl ?_ | refine sk_pure rfl rfl (ps_fieldAddr rfl) rfl ?_ | refine sk_load 0 rfl rfl rfl rfl rfl ?_ | refine sk_eff rfl rfl ?_)
            refine sg_call ((freex_tri p X st m [blk al [i64 kd, i64 st, i64 m], RefSp r X, old W] hb1 hb2).pre (fun w hO => hO.front2)) rfl rfl (fun _ _ => ?_)
            refine sk_back (fun w hO => hO.pick [1] (by decide)) ?_
            repeat' (first | refine sk_eff rfl rfl ?_)
            refine sg_call ((rfree_tri r X st m [SpaceRep p (X.turn st m true).2, blk al [i64 kd, i64 st, i64 m], old W] hb1 hb2).pre (fun w hO => hO.front2)) rfl rfl (fun _ _ => ?_)
            refine sk_back (fun w hO => hO.pick [2] (by decide)) ?_
            repeat' (first | refine sk_nil ?_ | refine sk_pure rfl rfl (ps_bin rfl rfl inferInstance) rfl ?_)
            refine sg_then ?_
            repeat' (first | refine sg_skip ?_ | refine ex_block_normal ?_ | (refine sg_cond_ndec rfl (fun hg => ?_) (fun hg => ?_) <;> first | (exfalso; omega) | (exact absurd rfl hg) | skip))
            exact ex_mid (X.turn st m true).2 trivial (.cons rfl (.cons rfl (.cons rfl (.cons rfl .nil)))) (fun w hO => hO.pick [0, 1, 3] (by decide))
        · rintro X' -
          have hlen' := runs_len X'.o X'.lo
          refine sg_own (L' := SpaceRep p X' :: RefSp r X' :: [old W]) (fun w hO => hO.front1) ?_
          refine SpaceRep.open fun aa cc hX' => ?_
          have hhi' := hX'.hi
          have hrl : X'.runs.length ≤ 4096 := by unfold XS.runs; omega
          refine sg_own (L' := SpaceRep p X' :: RefSp r X' :: [old W]) (fun w hO => SpaceRep.shut hX' hO) ?_
          repeat' (first | refine sg_wo ?_ | refine sg_ps (ps_move rfl) rfl ?_ | refine sg_seq ?_ | refine sg_region ?_)
          refine sg_call (left_tri p X' [RefSp r X', old W]) rfl rfl (fun _ _ => ?_)
          repeat' (first | refine sg_wo ?_ | refine sg_ps (ps_move rfl) rfl ?_)
          refine sg_call ((rleft_tri r X' [SpaceRep p X', old W]).pre (fun w hO => hO.front1)) rfl rfl (fun _ _ => ?_)
          repeat' (first | refine sg_wo ?_ | refine sg_ps (ps_move rfl) rfl ?_ | refine sg_seq ?_ | refine sg_region ?_ | refine sg_nil ?_ | refine sg_then ?_ | refine sg_ps (ps_bin rfl rfl inferInstance) rfl ?_ | refine sg_skip ?_ | (refine sg_cond_ndec rfl (fun hg => ?_) (fun hg => ?_) <;> first | (exfalso; omega) | (exact absurd rfl hg) | skip))
          refine sg_call ((holes_tri p X' [RefSp r X', old W]).pre (fun w hO => hO.front1)) rfl rfl (fun y _ => ?_)
          obtain ⟨ha, hcp⟩ := y
          dsimp only
          repeat' (first | refine sg_wo ?_ | refine sg_ps (ps_move rfl) rfl ?_ | refine sg_ps (ps_assign rfl) rfl ?_ | refine sg_seq ?_ | refine sg_region ?_ | refine sg_nil ?_ | refine sg_then ?_)
          refine sg_call ((rholes_tri r X' [sown ha X'.runs.length hcp 2 (hcells X'.runs), SpaceRep p X', old W]).pre (fun w hO => hO.front2)) rfl rfl (fun y _ => ?_)
          obtain ⟨ra, rc⟩ := y
          dsimp only
          repeat' (first | refine sg_wo ?_)
          refine sg_call (same_tri X'.runs ha ra hcp rc [sown ra X'.runs.length rc 2 (hcells X'.runs), RefSp r X', sown ha X'.runs.length hcp 2 (hcells X'.runs), SpaceRep p X', old W] (by omega) (rd_sown 2 rfl fun _ _ h => h) (rd_sown 0 rfl fun _ _ h => h)) rfl rfl (fun _ _ => ?_)
          repeat' (first | refine sg_wo ?_ | refine sg_ps (ps_assign rfl) rfl ?_ | refine sg_seq ?_ | refine sg_region ?_ | refine sg_nil ?_ | refine sg_then ?_ | refine sg_ps (ps_not rfl) rfl ?_ | refine sg_cond_f rfl ?_ | refine sg_block ?_ | refine sg_skip ?_)
          refine sg_own (L' := [sown ha X'.runs.length hcp 2 (hcells X'.runs), RefSp r X', SpaceRep p X', old W]) (fun w hO => hO.pick [2, 1, 3, 4] (by decide)) ?_
          by_cases h0 : X'.runs.length = 0
          · rw [h0]
            refine sg_loop (γ := Unit) (fun _ => True) (fun _ => [(2, .slice (some ⟨b, ob, none⟩) l.length lc), (7, dp p), (9, dp r), (13, i64 i), (19, .slice ha 0 hcp), (20, i64 0)]) (fun _ => [RefSp r X', SpaceRep p X', old W]) (fun _ => 0) () trivial
              (.cons rfl (.cons rfl (.cons rfl (.cons rfl (.cons rfl (.cons rfl .nil)))))) (fun w hO => hO.tail) ?_
            rintro - -
            repeat' (first | refine sg_wo ?_ | refine sg_ps (ps_move rfl) rfl ?_ | refine sg_seq ?_ | refine sg_region ?_ | refine sg_nil ?_ | refine sg_then ?_ | refine sg_ps (ps_bin rfl rfl inferInstance) rfl ?_ | refine sg_cond_f rfl ?_ | refine sg_ps (ps_len rfl) rfl ?_ | refine sg_exit ?_ | refine ex_then_exit ?_ | refine ex_block_normal ?_ | refine ex_block_hit ?_)
            exact ex_mid X' trivial (.cons rfl (.cons rfl (.cons rfl (.cons rfl .nil)))) (fun w hO => hO)
          · refine sg_capc [] fun hk1 hk2 _ => ?_
            refine sg_blockc [] (by omega) fun g cur hga _ _ hcl _ => ?_
            subst hga
            rw [List.nil_append]
            refine sg_loop (γ := Nat × List Value) (fun x => x.1 ≤ X'.runs.length ∧ x.2.length = hcp * 2) (fun x => [(2, .slice (some ⟨b, ob, none⟩) l.length lc), (7, dp p), (9, dp r), (13, i64 i), (19, .slice (some ⟨g, 0, none⟩) X'.runs.length hcp), (20, i64 x.1)])
              (fun x => [blk g x.2, RefSp r X', SpaceRep p X', old W]) (fun x => X'.runs.length - x.1) (0, cur) ⟨Nat.zero_le _, hcl⟩
              (.cons rfl (.cons rfl (.cons rfl (.cons rfl (.cons rfl (.cons rfl .nil)))))) (fun w hO => hO) ?_
            rintro ⟨j, cs⟩ ⟨hj, hcs⟩
            dsimp only at hj hcs ⊢
            repeat' (first | refine sg_wo ?_ | refine sg_ps (ps_move rfl) rfl ?_ | refine sg_seq ?_ | refine sg_region ?_ | refine sg_nil ?_ | refine sg_then ?_ | refine sg_ps (ps_bin rfl rfl inferInstance) rfl ?_ | refine sg_ps (ps_len rfl) rfl ?_ | refine sg_ps (ps_build rfl rfl) rfl ?_ | refine sg_ps (ps_indexAddr rfl rfl rfl (by omega)) rfl ?_ | refine sg_block ?_ | refine sg_skip ?_ | refine sg_exit ?_ | refine ex_then_exit ?_ | refine ex_block_normal ?_ | refine ex_block_hit ?_ | (refine sg_cond_dec rfl (fun hg => ?_) (fun hg => ?_) <;> first | (exfalso; omega) | (exact absurd rfl hg) | skip))
            · refine sg_store_agg (vs := [i64 0, i64 0]) [] rfl rfl rfl (allOne_spec rfl) (by rw [hcs]; simp only [List.length_cons, List.length_nil]; omega) ?_
              rw [List.nil_append]
              repeat' (first | refine sg_wo ?_ | refine sg_ps (ps_move rfl) rfl ?_ | refine sg_ps (ps_assign rfl) rfl ?_ | refine sg_region ?_ | refine sg_nil ?_ | refine sg_then ?_ | refine sg_ps (ps_add64 rfl rfl (by omega)) rfl ?_ | refine ex_block_normal ?_)
              exact ex_mid (j + 1, splice cs (0 + j * 2) [i64 0, i64 0]) ⟨by omega, by omega, by rw [splice_length]; exact hcs⟩ (.cons rfl (.cons rfl (.cons rfl (.cons rfl (.cons rfl (.cons rfl .nil)))))) (fun w hO => hO)
            · exact ex_mid X' trivial (.cons rfl (.cons rfl (.cons rfl (.cons rfl .nil)))) (fun w hO => hO.tail)
      · rintro X' -
        repeat' (first | refine sg_wo ?_ | refine sg_ps (ps_move rfl) rfl ?_ | refine sg_ps (ps_assign rfl) rfl ?_ | refine sg_region ?_ | refine sg_nil ?_ | refine sg_ps (ps_add64 rfl rfl (by omega)) rfl ?_)
        exact ex_mid (i + 1, X') ⟨by omega, by omega, by omega⟩ (.cons rfl (.cons rfl (.cons rfl (.cons rfl .nil)))) (fun w hO => hO)
    · skip
      repeat' (first | refine sg_wo ?_ | refine sg_ps (ps_move rfl) rfl ?_ | refine sg_ps (ps_assign rfl) rfl ?_ | refine sg_seq ?_ | refine sg_region ?_ | refine sg_nil ?_ | refine sg_then ?_ | refine sg_ps (ps_bin rfl rfl inferInstance) rfl ?_ | refine sg_cond_f rfl ?_ | refine sg_guard_yes rfl rfl ?_ | refine sg_guard_nf rfl rfl rfl ?_ | refine sg_ps (ps_pick_t rfl rfl) rfl ?_ | refine sg_ps (ps_pick_f rfl rfl) rfl ?_ | refine sg_ps (ps_len rfl) rfl ?_ | refine sg_ret ?_ | refine sg_exit ?_ | refine ex_then_exit ?_ | refine ex_block_hit ?_ | (refine sg_guard_dec rfl rfl (fun hg => ?_) (fun hg => ?_) <;> first | (exfalso; omega) | (exact absurd rfl hg) | skip) | (refine sg_cond_dec rfl (fun hg => ?_) (fun hg => ?_) <;> first | (exfalso; omega) | (exact absurd rfl hg) | skip))
      all_goals exact ex_ret1 rfl rfl () rfl trivial (fun w hO => hO.tail.tail)
  · refine sg_call (newx_bad a b _ hab) rfl rfl (fun _ _ => ?_)
    repeat' (first | refine sg_wo ?_ | refine sg_ps (ps_move rfl) rfl ?_ | refine sg_ps (ps_assign rfl) rfl ?_ | refine sg_seq ?_ | refine sg_region ?_ | refine sg_nil ?_ | refine sg_then ?_ | refine sg_ps (ps_extract rfl rfl) rfl ?_)
    refine sg_call (rnewx_bad a b _ hab) rfl rfl (fun _ _ => ?_)
    repeat' (first | refine sg_wo ?_ | refine sg_ps (ps_move rfl) rfl ?_ | refine sg_ps (ps_assign rfl) rfl ?_ | refine sg_seq ?_ | refine sg_region ?_ | refine sg_nil ?_ | refine sg_then ?_ | refine sg_ps (ps_bin rfl rfl inferInstance) rfl ?_ | refine sg_cond_t rfl ?_ | refine sg_cond_f rfl ?_ | refine sg_guard_yes rfl rfl ?_ | refine sg_ps (ps_pick_f rfl rfl) rfl ?_ | refine sg_ps (ps_extract rfl rfl) rfl ?_ | refine sg_skip ?_)
    refine sg_call (alloc_nil 1 _) rfl rfl (fun _ _ => ?_)
    repeat' (first | refine sg_wo ?_ | refine sg_ps (ps_move rfl) rfl ?_ | refine sg_ps (ps_assign rfl) rfl ?_ | refine sg_seq ?_ | refine sg_region ?_ | refine sg_nil ?_ | refine sg_then ?_ | refine sg_ps (ps_bin rfl rfl inferInstance) rfl ?_ | refine sg_guard_yes rfl rfl ?_ | refine sg_ps (ps_extract rfl rfl) rfl ?_)
    refine sg_call (take_nil 0 1 _) rfl rfl (fun _ _ => ?_)
    repeat' (first | refine sg_wo ?_ | refine sg_ps (ps_move rfl) rfl ?_ | refine sg_ps (ps_bin rfl rfl inferInstance) rfl ?_ | refine sg_guard_yes rfl rfl ?_ | refine sg_ps (ps_pick_t rfl rfl) rfl ?_)
    refine sg_call (free_nil 0 1 _) rfl rfl (fun _ _ => ?_)
    repeat' (first | refine sg_wo ?_ | refine sg_ps (ps_move rfl) rfl ?_ | refine sg_ps (ps_bin rfl rfl inferInstance) rfl ?_ | refine sg_guard_yes rfl rfl ?_ | refine sg_ps (ps_pick_t rfl rfl) rfl ?_)
    refine sg_call (left_nil _) rfl rfl (fun _ _ => ?_)
    repeat' (first | refine sg_wo ?_ | refine sg_ps (ps_move rfl) rfl ?_ | refine sg_ps (ps_bin rfl rfl inferInstance) rfl ?_ | refine sg_guard_yes rfl rfl ?_ | refine sg_ps (ps_pick_t rfl rfl) rfl ?_)
    refine sg_call (holes_nil _) rfl rfl (fun _ _ => ?_)
    repeat' (first | refine sg_wo ?_ | refine sg_ps (ps_assign rfl) rfl ?_ | refine sg_nil ?_ | refine sg_then ?_ | refine sg_ps (ps_bin rfl rfl inferInstance) rfl ?_ | refine sg_guard_yes rfl rfl ?_ | refine sg_ps (ps_pick_t rfl rfl) rfl ?_ | refine sg_ps (ps_len rfl) rfl ?_ | refine sg_ret ?_ | refine ex_then_ret ?_)
    exact ex_ret1 rfl rfl () rfl trivial (fun w hO => hO)
theorem extentPlays_opened (W : World) (vs : List Value) (h : Opens Try.prog W Try.f4.params.toList vs) :
    Tri Try.prog W 4 vs [old W] (X := Unit) (fun _ => .bool true) (fun _ => True) (fun _ => [old W]) := by
  obtain ⟨a2, c2, vs, rfl, e2, h⟩ := Opens.cons (RT.int .i64 Try.underlying3) h
  obtain ⟨a3, c3, vs, rfl, e3, h⟩ := Opens.cons (RT.int .i64 Try.underlying3) h
  obtain ⟨a1, c1, vs, rfl, e1, h⟩ := Opens.cons (RT.slice 3 24 Try.underlying38 (by kernel_rfl) (by kernel_rfl) (RT.struct (tot := 3) Try.underlying43 (by kernel_rfl) (RF.cons 1 (RT.int .i64 Try.underlying3) rfl (by kernel_rfl) (RF.cons 1 (RT.int .i64 Try.underlying3) rfl (by kernel_rfl) (RF.cons 1 (RT.int .i64 Try.underlying3) rfl (by kernel_rfl) (RF.nil rfl)))))) h
  obtain rfl := Opens.nil h
  obtain ⟨rfl, _⟩ := e2
  obtain ⟨rfl, _⟩ := e3
  obtain ⟨la, lc, rfl, hl⟩ := eopsAt_of e1
  exact extentPlays_tri a2 a3 a1 la lc hl
set_option maxRecDepth 100000 in
theorem extentPlays_lifted (os : Os) (started : os.Started) (H : Type) (enc : TypeId × Value → H) :
    ReturnsInHanded {} Try.checked os 4 .any (Rows.extentPlaysSpec.pre6 enc Try.prog Try.f4 Rows.extentPlaysRow.domain false) (Rows.extentPlaysSpec.post enc Try.prog Try.f4 false true false false) :=
  lift (tb := 4) started law_own law_laidOut (by kernel_rfl) Try.func4
    (ChangeSpec.witness6 (enc := enc) (C := Try.checked) false ⟨#[], #[.int .i64 0, .int .i64 0, .slice none 0 0], []⟩ 8 (by kernel_rfl) (by kernel_rfl) (by kernel_rfl) (by kernel_rfl))
    rfl rfl Try.underlying4 (by kernel_rfl) (fun ds h => by
      match ds, h with
      | [d1, d2, d3], _ => rfl) extentPlays_opened
theorem extentPlays_over : Rows.extentPlaysRow.holds Try.pinned (OpenSpec.ofChange Rows.extentPlaysSpec) :=
  OpenClaim.holds_of_wide 4 Try.f4 rfl rfl rfl rfl rfl rfl rfl ⟨rfl, rfl, rfl, rfl, rfl⟩ rfl rfl rfl rfl rfl (by kernel_rfl) Try.func4 (by kernel_rfl)
    (of_decide_eq_true (by kernel_rfl)) (by unfold Func.isWrapper; first | (rw [if_pos (by decide +kernel)]; kernel_rfl) | (rw [if_neg (by decide +kernel)]; exact ⟨rfl, rfl⟩))
    (fun os started H enc _ => extentPlays_lifted os started H enc)
theorem extentPlays_proved : Rows.ExtentPlaysSaid := extentPlays_over
#print axioms extentPlays_proved
end Go.Proofs.Ytcchgkjcoknkcaa
