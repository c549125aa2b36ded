/- Package pool, plain: what going and coming keep. | Package pool: room is made. -/
import Derived.Test.YtclehoaeppbmpaaPO7
namespace Go.Proofs.Ytclehoaeppbmpaa
set_option linter.unusedVariables false
set_option linter.unusedSimpArgs false
set_option linter.unusedSectionVars false
set_option linter.unnecessarySimpa false
open Go Go.Proofs
abbrev bigB : Nat := 140737488355328
structure Fit (S : PlS) (B : BkS) (N : Nat) : Prop where
  hand : S.hand < S.rows.length ∨ (S.rows = [] ∧ S.hand = 0)
  rbs : ∀ r ∈ S.rows, r.bs.length ≤ bigB
  ebs : ∀ e ∈ B.ent, e.2.length ≤ bigB
  asked : B.asked.length + S.rows.length ≤ N
  ent : B.ent.length + S.rows.length ≤ N
theorem Fit.ok {S : PlS} {B : BkS} {N : Nat} (h : Fit S B N) (hN : N ≤ 100000) : S.Ok := ⟨by have := h.asked; omega, h.hand, h.rbs⟩
theorem Fit.okB {S : PlS} {B : BkS} {N : Nat} (h : Fit S B N) (hN : N ≤ 100000) : B.Ok := ⟨by have := h.ent; omega, by have := h.asked; omega, h.ebs⟩
theorem Fit.mono {S : PlS} {B : BkS} {N M : Nat} (h : Fit S B N) (hN : N ≤ M) : Fit S B M := ⟨h.hand, h.rbs, h.ebs, Nat.le_trans h.asked hN, Nat.le_trans h.ent hN⟩
theorem Fit.rot {S : PlS} {B : BkS} {N : Nat} (h : Fit S B N) (hp : 0 < S.rows.length) : Fit (rotS S) B N := by
  refine ⟨?_, h.rbs, h.ebs, h.asked, h.ent⟩
  exact .inl (Nat.mod_lt _ hp)
theorem mem_modify {α : Type} {f : α → α} {y : α} : ∀ {l : List α} {i : Nat}, y ∈ l.modify i f → y ∈ l ∨ ∃ x ∈ l, y = f x
  | [], i, h => by cases i <;> simp at h
  | x :: l, 0, h => by
    rw [List.modify_zero_cons] at h
    rcases List.mem_cons.1 h with rfl | h
    · exact .inr ⟨x, by simp, rfl⟩
    · exact .inl (by simp [h])
  | x :: l, i + 1, h => by
    rw [List.modify_succ_cons] at h
    rcases List.mem_cons.1 h with rfl | h
    · exact .inl (by simp)
    · rcases mem_modify h with h | ⟨z, hz, rfl⟩
      · exact .inl (by simp [h])
      · exact .inr ⟨z, by simp [hz], rfl⟩
theorem Fit.set {S : PlS} {B : BkS} {N : Nat} (h : Fit S B N) (i : Nat) (f : Pl → Pl) (hf : ∀ r ∈ S.rows, (f r).bs.length ≤ bigB) : Fit (rowSet S i f) B N := by
  have hl : (rowSet S i f).rows.length = S.rows.length := by unfold rowSet; rw [List.length_modify]
  refine ⟨?_, fun r hr => ?_, h.ebs, by rw [hl]; exact h.asked, by rw [hl]; exact h.ent⟩
  · rcases h.hand with h1 | ⟨h1, h2⟩
    · exact .inl (by rw [hl]; exact h1)
    · exact .inr ⟨by unfold rowSet; rw [h1]; simp, h2⟩
  · rcases mem_modify (show r ∈ S.rows.modify i f from hr) with hr | ⟨x, hx, rfl⟩
    · exact h.rbs r hr
    · exact hf x hx
theorem take_len {S : PlS} {i : Nat} (hi : i < S.rows.length) : (takeS S i).rows.length + 1 = S.rows.length := by
  unfold takeS
  dsimp only
  rw [List.length_eraseIdx, if_pos hi]; omega
theorem Fit.take {S : PlS} {B : BkS} {N i : Nat} (h : Fit S B (N + 1)) (hi : i < S.rows.length) : Fit (takeS S i) B N := by
  have hl := take_len hi
  refine ⟨?_, fun r hr => h.rbs r (List.mem_of_mem_eraseIdx hr), h.ebs, by have := h.asked; omega, by have := h.ent; omega⟩
  have hh : (takeS S i).hand = if S.rows.length - 1 ≤ (if i < S.hand then S.hand - 1 else S.hand) then 0 else (if i < S.hand then S.hand - 1 else S.hand) := rfl
  rw [hh]
  by_cases h0 : (takeS S i).rows = []
  · refine .inr ⟨h0, ?_⟩
    rw [h0] at hl
    simp only [List.length_nil] at hl
    rw [if_pos (by omega)]
  · left
    have hpos : 0 < (takeS S i).rows.length := List.length_pos_iff.2 h0
    repeat' split
    all_goals omega
theorem setB_facts (l : EL) (id : Int) (v : List UInt8) : (setB l id v).length ≤ l.length + 1 ∧ ∀ e ∈ setB l id v, e ∈ l ∨ e = (id, v) := by
  rcases idx_cases id l 0 with ⟨A, bs, C, h1, h2, h3, h4, h5⟩ | ⟨h1, h2, h3, h4⟩
  · rw [h5, h1]
    refine ⟨by simp, fun e he => ?_⟩
    simp only [List.mem_append, List.mem_cons] at he ⊢
    rcases he with he | he | he
    · exact .inl (.inl he)
    · exact .inr he
    · exact .inl (.inr (.inr he))
  · rw [h4]
    refine ⟨by simp, fun e he => ?_⟩
    simp only [List.mem_append, List.mem_singleton] at he
    exact he
theorem Fit.save {S : PlS} {B : BkS} {N : Nat} {id : Int} {bs : List UInt8} (h : Fit S B N) (hb : bs.length ≤ bigB) : Fit S (saveS B id bs).2 (N + 1) := by
  obtain ⟨h1, h2⟩ := setB_facts B.ent id bs
  unfold saveS
  split
  · refine ⟨h.hand, h.rbs, h.ebs, ?_, by have := h.ent; show B.ent.length + _ ≤ _; omega⟩
    have := h.asked
    dsimp only
    rw [askS_len]; omega
  · refine ⟨h.hand, h.rbs, fun e he => ?_, ?_, ?_⟩
    · rcases h2 e he with h3 | rfl
      · exact h.ebs e h3
      · exact hb
    · have := h.asked
      show (askS B (ask1 id)).asked.length + _ ≤ _
      rw [askS_len]; omega
    · have := h.ent
      show (setB B.ent id bs).length + _ ≤ _
      omega
theorem goL_fit {N st : Nat} : ∀ (k : Nat) (S : PlS) (B : BkS), Fit S B N → (st < S.rows.length ∨ (S.rows = [] ∧ st = 0)) →
    ((goL st k S B).1.2 = 0 → Fit (goL st k S B).2.1 (goL st k S B).2.2 N ∧ (goL st k S B).2.1.rows.length + 1 = S.rows.length) ∧ Fit (goL st k S B).2.1 (goL st k S B).2.2 (N + 1) ∧ (goL st k S B).2.1.most = S.most
  | 0, S, B, h, hst => by
    refine ⟨fun h0 => by simp [goL] at h0, ?_, rfl⟩
    exact ⟨hst, h.rbs, h.ebs, by have := h.asked; show B.asked.length + S.rows.length ≤ _; omega, by have := h.ent; show B.ent.length + S.rows.length ≤ _; omega⟩
  | k + 1, S, B, h, hst => by
    unfold goL
    split
    · exact ⟨fun h0 => by simp at h0, h.mono (by omega), rfl⟩
    · rename_i x hx
      obtain ⟨hlt, hxe⟩ := List.getElem?_eq_some_iff.1 hx
      have hxb : x.bs.length ≤ bigB := h.rbs x (by rw [← hxe]; exact List.getElem_mem hlt)
      split
      · exact goL_fit k (rotS S) B (h.rot (by omega)) hst
      · split
        · have hl : (rowSet S S.hand unuse).rows.length = S.rows.length := by unfold rowSet; rw [List.length_modify]
          have hf := (h.set S.hand unuse h.rbs).rot (by omega)
          have hst2 : st < (rotS (rowSet S S.hand unuse)).rows.length ∨ ((rotS (rowSet S S.hand unuse)).rows = [] ∧ st = 0) := by
            rcases hst with h1 | ⟨h1, h2⟩
            · exact .inl (by show st < (rowSet S S.hand unuse).rows.length; rw [hl]; exact h1)
            · rw [h1] at hlt; simp at hlt
          have := goL_fit k _ B hf hst2
          have hl2 : (rotS (rowSet S S.hand unuse)).rows.length = S.rows.length := hl
          rw [hl2] at this
          exact this
        · have hs := h.save (id := x.id) hxb
          split
          · split
            · exact ⟨fun _ => ⟨hs.take hlt, take_len hlt⟩, (hs.take hlt).mono (by omega), rfl⟩
            · rename_i hne
              exact ⟨fun h0 => absurd h0 hne, hs, rfl⟩
          · exact ⟨fun _ => ⟨(h.mono (Nat.le_succ N)).take hlt, take_len hlt⟩, ((h.mono (Nat.le_succ N)).take hlt).mono (by omega), rfl⟩
theorem goes_fit {N : Nat} {S : PlS} {B : BkS} (h : Fit S B N) : ((goesS S B).1.2 = 0 → Fit (goesS S B).2.1 (goesS S B).2.2 N ∧ (goesS S B).2.1.rows.length + 1 = S.rows.length) ∧ Fit (goesS S B).2.1 (goesS S B).2.2 (N + 1) ∧ (goesS S B).2.1.most = S.most := goL_fit _ S B h h.hand
def roomL : Nat → PlS → BkS → PlS × BkS
  | 0, S, B => (S, B)
  | k + 1, S, B => if S.most < (S.rows.length : Int) then (if (goesS S B).1.2 = 0 then roomL k (goesS S B).2.1 (goesS S B).2.2 else (goesS S B).2) else (S, B)
def roomS (S : PlS) (B : BkS) : PlS × BkS := roomL (S.rows.length + 1) S B
theorem roomL_fit {N : Nat} : ∀ (k : Nat) (S : PlS) (B : BkS), Fit S B N → Fit (roomL k S B).1 (roomL k S B).2 (N + 1) ∧ (roomL k S B).1.most = S.most
  | 0, S, B, h => ⟨h.mono (by omega), rfl⟩
  | k + 1, S, B, h => by
    have hg := goes_fit h
    unfold roomL
    split
    · split
      · rename_i h0
        have := roomL_fit k _ _ (hg.1 h0).1
        exact ⟨this.1, by rw [this.2]; exact hg.2.2⟩
      · exact ⟨hg.2.1, hg.2.2⟩
    · exact ⟨h.mono (by omega), rfl⟩
theorem room_fit {N : Nat} {S : PlS} {B : BkS} (h : Fit S B N) : Fit (roomS S B).1 (roomS S B).2 (N + 1) ∧ (roomS S B).1.most = S.most := roomL_fit _ S B h
end Go.Proofs.Ytclehoaeppbmpaa
namespace Go.Proofs.Ytclehoaeppbmpaa
set_option linter.unusedVariables false
set_option linter.unusedSimpArgs false
set_option linter.unusedSectionVars false
set_option linter.unnecessarySimpa false
open Go Go.Proofs
set_option maxRecDepth 20000
set_option maxHeartbeats 4000000
attribute [local irreducible] SG WC WO W1 WD WK PS Rd Tri Exit.then Exit.inBlock bodyPost calmQ Mid sadd
variable {W : World} {n : Nat} {F : Fr} {L : List HP} {G : Act → World → Prop}
theorem proom_tri {N : Nat} (p bp : Nat) (S : PlS) (B : BkS) (R : List HP) (hF : Fit S B N) (hN : N ≤ 100000) :
    Tri Try.prog W 34 [dp p] (PoolRep p bp S :: BackRep bp B :: R) (X := Unit) (fun _ => .tuple #[]) (fun _ => True) (fun _ => PoolRep p bp (roomS S B).1 :: BackRep bp (roomS S B).2 :: R) := by
  refine tri_enter1 Try.func34 rfl Try.ntmps34 rfl ?_
  generalize hr : roomS S B = r
  refine sg_block ?_
  refine sg_loop (γ := Nat × PlS × BkS) (fun g => roomL g.1 g.2.1 g.2.2 = r ∧ Fit g.2.1 g.2.2 N ∧ g.2.1.rows.length < g.1) (fun _ => [(0, dp p)]) (fun g => PoolRep p bp g.2.1 :: BackRep bp g.2.2 :: R) (fun g => g.1) (S.rows.length + 1, S, B) ⟨hr, hF, Nat.lt_succ_self _⟩
    (.cons rfl .nil) (fun w hO => hO) ?_
  rintro ⟨k, S', B'⟩ ⟨hgo, hf, hk⟩
  dsimp only at hgo hf hk ⊢
  obtain ⟨k, rfl⟩ : ∃ k', k = k' + 1 := ⟨k - 1, by omega⟩
  rw [roomL] at hgo
  refine PoolRep.open fun T ra rc m clk hT hI => ?_
  have hTl : T.length = S'.rows.length := by rw [← hT, List.length_map]
  unfold pcells
  rw [hTl]
  repeat' (first | refine sg_seq ?_)
  refine sg_drawK [blk p [.iface 24 (dp bp), i64 S'.most, .slice ra S'.rows.length rc, .map (some m), i64 S'.hand]] [0, 1, 2, 5, 6, 7, 3, 4, 8, 9] (by kernel_rfl) (by kernel_rfl) (fun w hO => hO.pick [0] (by decide)) ?_
  repeat' (first | refine sk_nil ?_ | refine sk_pure rfl rfl (ps_move rfl) rfl ?_ | refine sk_pure rfl rfl (ps_nilCheck rfl) rfl ?_ | refine sk_pure rfl rfl (ps_fieldAddr rfl) rfl ?_ | refine sk_pure rfl rfl (ps_bin rfl rfl inferInstance) rfl ?_ | refine sk_pure rfl rfl (ps_len rfl) rfl ?_ | refine sk_load 0 rfl rfl rfl rfl rfl ?_)
  refine sg_then ?_
  by_cases hm : S'.most < (S'.rows.length : Int)
  · rw [if_pos hm] at hgo
    refine sg_own (L' := PoolRep p bp S' :: BackRep bp B' :: R) (fun w hO => PoolRep.shut hT hI (by unfold pcells; rw [hTl]; exact hO)) ?_
    repeat' (first | refine sg_wo ?_ | refine sg_ps (ps_move rfl) rfl ?_ | refine sg_seq ?_ | refine sg_region ?_ | refine sg_then ?_ | refine sg_block ?_ | refine sg_skip ?_ | (refine sg_cond_dec rfl (fun hg => ?_) (fun hg => ?_) <;> first | (exfalso; omega) | (exact absurd rfl hg) | skip))
    refine sg_call (pgoes_tri p bp S' B' R (hf.ok hN) (hf.okB hN)) rfl rfl (fun _ _ => ?_)
    have hgf := goes_fit hf
    generalize goesS S' B' = q at hgo hgf
    obtain ⟨⟨id, e⟩, S2, B2⟩ := q
    dsimp only at hgo hgf ⊢
    by_cases he : e = 0
    · rw [if_pos he] at hgo
      subst he
      repeat' (first | refine sg_wo ?_ | refine sg_ps (ps_move rfl) rfl ?_ | refine sg_ps (ps_assign rfl) rfl ?_ | refine sg_seq ?_ | refine sg_region ?_ | refine sg_nil ?_ | refine sg_then ?_ | refine sg_ps (ps_bin rfl rfl inferInstance) rfl ?_ | refine sg_cond_f rfl ?_ | refine sg_ps (ps_extract rfl rfl) rfl ?_ | refine sg_skip ?_ | refine ex_block_normal ?_)
      exact ex_mid (k, S2, B2) ⟨by omega, hgo, (hgf.1 rfl).1, by have := (hgf.1 rfl).2; show S2.rows.length < k; omega⟩ (.cons rfl .nil) (fun w hO => hO)
    · rw [if_neg he] at hgo
      repeat' (first | refine sg_wo ?_ | refine sg_ps (ps_move rfl) rfl ?_ | refine sg_ps (ps_assign rfl) rfl ?_ | refine sg_seq ?_ | refine sg_region ?_ | refine sg_nil ?_ | refine sg_then ?_ | refine sg_ps (ps_bin rfl rfl inferInstance) rfl ?_ | refine sg_ps (ps_extract rfl rfl) rfl ?_ | refine sg_ret ?_ | refine ex_then_ret ?_ | refine ex_block_ret ?_ | (refine sg_cond_ndec rfl (fun hg => ?_) (fun hg => ?_) <;> first | (exfalso; omega) | (exact absurd rfl hg) | skip))
      subst hgo
      exact ex_ret0 rfl () rfl trivial (fun w hO => hO)
  · rw [if_neg hm] at hgo
    repeat' (first | refine sg_exit ?_ | refine ex_then_exit ?_ | refine ex_block_hit ?_ | (refine sg_cond_dec rfl (fun hg => ?_) (fun hg => ?_) <;> first | (exfalso; omega) | (exact absurd rfl hg) | skip))
    subst hgo
    exact ex_end0 rfl () rfl trivial (fun w hO => PoolRep.shut hT hI (by unfold pcells; rw [hTl]; exact hO))
end Go.Proofs.Ytclehoaeppbmpaa
