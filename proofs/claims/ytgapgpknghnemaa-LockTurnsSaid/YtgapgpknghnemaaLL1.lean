/- LockBoth: two locks together are refused just if one of them is. -/
import Derived.Test.YtgapgpknghnemaaLL
namespace Go.Proofs.Ytgapgpknghnemaa
set_option linter.unusedVariables false
set_option linter.unusedSimpArgs false
set_option linter.unusedSectionVars false
set_option linter.unnecessarySimpa false
open Go Go.Proofs
theorem freeS_nil (S : TS) (o : Int) : freeS S o [] = true := by
  unfold freeS
  rw [List.all_eq_true]
  intro e _
  simp [okS]
theorem okS_cons (e : Int × List Lk) (o : Int) (a : Lk) (l : List Lk) : okS e o (a :: l) = (okS e o [a] && okS e o l) := by
  unfold okS
  by_cases h : e.1 = o
  · simp [h]
  · simp [h]
theorem freeS_cons (S : TS) (o : Int) (a : Lk) (l : List Lk) : freeS S o (a :: l) = (freeS S o [a] && freeS S o l) := by
  induction S with
  | nil => rfl
  | cons e S ih =>
    have h1 : ∀ l, freeS (e :: S) o l = (okS e o l && freeS S o l) := fun l => rfl
    rw [h1, h1, h1, ih, okS_cons]
    cases okS e o [a] <;> cases okS e o l <;> cases freeS S o [a] <;> cases freeS S o l <;> rfl
theorem addS_len {S : TS} {o : Int} {l : List Lk} {k m : Nat} (hS : ∀ e ∈ S, e.2.length ≤ k) (hl : l.length ≤ m) : ∀ e ∈ addS S o l, e.2.length ≤ k + m := by
  induction S with
  | nil =>
    intro e he
    simp [addS] at he
    subst he; simp only; omega
  | cons x S ih =>
    intro e he
    unfold addS at he
    split at he
    · rcases List.mem_cons.1 he with rfl | he
      · have := hS x (by simp)
        rw [List.length_append]; omega
      · have := hS e (by simp [he]); omega
    · rcases List.mem_cons.1 he with rfl | he
      · have := hS e (by simp); omega
      · exact ih (fun e he => hS e (by simp [he])) e he
theorem tryS_len {S : TS} {o : Int} {l : List Lk} {k m : Nat} (hS : ∀ e ∈ S, e.2.length ≤ k) (hl : l.length ≤ m) : ∀ e ∈ (tryS S o l).2, e.2.length ≤ k + m := by
  unfold tryS
  split
  · intro e he; have := hS e he; omega
  · split
    · dsimp only
      split
      · intro e he; have := hS e he; omega
      · exact addS_len hS hl
    · intro e he; have := hS e he; omega
abbrev LO := Int × Int × List Lk
def LOpsAt (W : World) (l : List LO) (la : Option Addr) : Prop :=
  (0 < l.length → ∃ b o, la = some ⟨b, o, none⟩) ∧ l.length ≤ 9223372036854775807 ∧ ∀ (i : Nat) (h : i < l.length) (b o : Nat), la = some ⟨b, o, none⟩ →
    ∃ (ka : Option Addr) (kc : Nat), RdO W (some ⟨b, o + i * 3, none⟩) [i64 l[i].1, u64 l[i].2.1, .slice ka l[i].2.2.length kc] ∧ l[i].2.2.length ≤ 9223372036854775807 ∧ RdO W ka (lcells l[i].2.2)
theorem lopsAt_of {W : World} {cs : List Value} {ts : List (Int × Int × List (Int × (List UInt8 × List UInt8 × Bool × Unit) × Bool × Unit) × Unit)} (h : ((RT.slice 3 40 Try.underlying22 (by kernel_rfl) (by kernel_rfl) (RT.struct (tot := 3) Try.underlying33 (by kernel_rfl) (RF.cons 1 (RT.int .i64 Try.underlying3) rfl (by kernel_rfl) (RF.cons 1 (RT.int .u64 Try.underlying27) rfl (by kernel_rfl) (RF.cons 1 (RT.slice 5 56 Try.underlying31 (by kernel_rfl) (by kernel_rfl) (RT.struct (tot := 5) Try.underlying26 (by kernel_rfl) (RF.cons 1 (RT.int .i64 Try.underlying3) rfl (by kernel_rfl) (RF.cons 3 (RT.struct (tot := 3) Try.underlying24 (by kernel_rfl) (RF.cons 1 (RT.str Try.underlying9) rfl (by kernel_rfl) (RF.cons 1 (RT.str Try.underlying9) rfl (by kernel_rfl) (RF.cons 1 (RT.bool Try.underlying4) rfl (by kernel_rfl) (RF.nil rfl))))) rfl (by kernel_rfl) (RF.cons 1 (RT.bool Try.underlying4) rfl (by kernel_rfl) (RF.nil rfl)))))) rfl (by kernel_rfl) (RF.nil rfl)))))) : RT Try.prog 22 (List _)).E W ts cs) :
    ∃ (l : List LO) (la : Option Addr) (lc : Nat), cs = [.slice la l.length lc] ∧ LOpsAt W l la := by
  obtain ⟨ad, cap, rfl, _, _, h1, hp, r1⟩ := SliceE.at (by decide) h
  obtain ⟨l, hl, hpl⟩ := exists_list (fun i (m : LO) => ∀ b o, ad = some ⟨b, o, none⟩ → ∃ (ka : Option Addr) (kc : Nat), RdO W (some ⟨b, o + i * 3, none⟩) [i64 m.1, u64 m.2.1, .slice ka m.2.2.length kc] ∧ m.2.2.length ≤ 9223372036854775807 ∧ RdO W ka (lcells m.2.2)) ts.length (fun i hi => by
    obtain ⟨b0, o0, e0⟩ := hp (by omega)
    obtain ⟨vs, _, ⟨_, c1, c2, rfl, ⟨rfl, w1⟩, c3, c4, rfl, ⟨rfl, w2⟩, c5, c6, rfl, e3, rfl⟩, hR⟩ := r1 i hi b0 o0 e0
    obtain ⟨ls, ka, kc, rfl, g1, g2⟩ := locks_of e3
    refine ⟨(ts[i].1, ts[i].2.1, ls), fun b o e => ?_⟩
    rw [e0] at e
    simp only [Option.some.injEq, Addr.mk.injEq, and_true] at e
    obtain ⟨rfl, rfl⟩ := e
    exact ⟨ka, kc, hR, g1, g2⟩)
  refine ⟨l, ad, cap, by rw [hl], fun h => hp (by omega), by omega, fun i hi b o e => ?_⟩
  exact hpl i l[i] (List.getElem?_eq_getElem hi) b o e
set_option maxRecDepth 20000
set_option maxHeartbeats 4000000
attribute [local irreducible] SG WC WO W1 WD WK PS Rd Tri Exit.then Exit.inBlock bodyPost calmQ Mid sadd
variable {W : World} {n : Nat} {F : Fr} {L : List HP} {G : Act → World → Prop}
theorem lockBoth_tri (l : List LO) (la : Option Addr) (lc : Nat) (x y : Lk) (o : Int) (hl : LOpsAt W l la) :
    Tri Try.prog W 3 [.slice la l.length lc, .agg x.cells.toArray, .agg y.cells.toArray, u64 o] [old W] (X := Unit) (fun _ => .bool true) (fun _ => True) (fun _ => [old W]) := by
  obtain ⟨hp, hll, hl⟩ := hl
  refine tri_enter4 Try.func3 rfl Try.ntmps3 rfl ?_
  repeat' (first | refine sg_wo ?_ | refine sg_ps (ps_assign rfl) rfl ?_ | refine sg_seq ?_ | refine sg_region ?_ | refine sg_nil ?_ | refine sg_then ?_ | refine sg_box rfl rfl (fun bx => ?_))
  rename_i bx1
  refine sg_call (awake_tri _) rfl rfl (fun _ _ => ?_)
  repeat' (first | refine sg_wo ?_ | refine sg_seq ?_ | refine sg_region ?_ | refine sg_nil ?_ | refine sg_then ?_ | refine sg_ps (ps_not rfl) rfl ?_ | refine sg_cond_f rfl ?_ | refine sg_skip ?_)
  refine sg_call (newt_tri _) rfl rfl (fun t _ => ?_)
  repeat' (first | refine sg_wo ?_ | refine sg_ps (ps_assign rfl) rfl ?_ | refine sg_nil ?_ | refine sg_then ?_)
  refine sg_seq_mid (γ := TS) (fun S => ∀ e ∈ S, e.2.length ≤ 1000) (fun _ => [(3, u64 o), (5, dp bx1), (6, dp bx), (9, dp t)]) (fun S => [TableRep t S, blk bx y.cells, blk bx1 x.cells, old W]) ?_ ?_
  · refine sg_seq ?_
    repeat' (first | refine sg_wo ?_ | refine sg_ps (ps_assign rfl) rfl ?_ | refine sg_region ?_ | refine sg_nil ?_ | refine sg_then ?_ | refine sg_block ?_)
    refine sg_loop (γ := Nat × TS) (fun g => (g.1 ≤ l.length ∧ g.1 ≤ 40) ∧ ∀ e ∈ g.2, e.2.length ≤ g.1 * 20) (fun g => [(0, .slice la l.length lc), (3, u64 o), (5, dp bx1), (6, dp bx), (9, dp t), (10, i64 g.1)]) (fun g => [TableRep t g.2, blk bx y.cells, blk bx1 x.cells, old W]) (fun g => 40 - g.1) (0, [])
      ⟨⟨Nat.zero_le _, Nat.zero_le _⟩, fun e he => by simp at he⟩ (.cons rfl (.cons rfl (.cons rfl (.cons rfl (.cons rfl (.cons rfl .nil)))))) (fun w hO => hO) ?_
    rintro ⟨i, S⟩ ⟨⟨hi1, hi2⟩, hS⟩
    dsimp only at hi1 hi2 hS ⊢
    have hS1 : ∀ e ∈ S, e.2.length ≤ 1000000 := fun e he => by have := hS e he; omega
    by_cases hi : i < l.length ∧ i < 40
    · obtain ⟨hil, hi40⟩ := hi
      obtain ⟨b, ob, rfl⟩ := hp (by omega)
      obtain ⟨ka, kc, hR, hk1, hk2⟩ := hl i hil b ob rfl
      have hr1 : Rd W [TableRep t S, blk bx y.cells, blk bx1 x.cells, old W] (some ⟨b, ob + i * 3 + 1, none⟩) [u64 l[i].2.1] := (rdo_part hR (i := 1) rfl).rd 3 rfl
      have hr2 : Rd W [TableRep t S, blk bx y.cells, blk bx1 x.cells, old W] (some ⟨b, ob + i * 3 + 2, none⟩) [.slice ka l[i].2.2.length kc] := (rdo_part hR (i := 2) rfl).rd 3 rfl
      generalize l[i] = z at hR hk1 hk2 hr1 hr2
      obtain ⟨zk, zo, zl⟩ := z
      simp only at hR hk1 hk2 hr1 hr2
      by_cases hz : zl.length < 20
      · skip
        repeat' (first | refine sg_wo ?_ | refine sg_ps (ps_move rfl) rfl ?_ | refine sg_seq ?_ | refine sg_region ?_ | refine sg_nil ?_ | refine sg_then ?_ | refine sg_ps (ps_fieldAddr rfl) rfl ?_ | refine sg_ps (ps_bin rfl rfl inferInstance) rfl ?_ | refine sg_guard_yes rfl rfl ?_ | refine sg_ps (ps_pick_t rfl rfl) rfl ?_ | refine sg_ps (ps_len rfl) rfl ?_ | refine sg_ps (ps_indexAddr rfl rfl rfl (by omega)) rfl ?_ | refine sg_block ?_ | refine sg_skip ?_ | (refine sg_guard_dec rfl rfl (fun hg => ?_) (fun hg => ?_) <;> first | (exfalso; omega) | (exact absurd rfl hg) | skip) | (refine sg_cond_dec rfl (fun hg => ?_) (fun hg => ?_) <;> first | (exfalso; omega) | (exact absurd rfl hg) | skip))
        refine sg_load_rd rfl hr2 rfl ?_
        repeat' (first | refine sg_wo ?_ | refine sg_nil ?_ | refine sg_then ?_ | refine sg_ps (ps_bin rfl rfl inferInstance) rfl ?_ | refine sg_ps (ps_len rfl) rfl ?_ | (refine sg_cond_dec rfl (fun hg => ?_) (fun hg => ?_) <;> first | (exfalso; omega) | (exact absurd rfl hg) | skip))
        refine sg_drawK [TableRep t S, blk bx y.cells, blk bx1 x.cells, old W] [0, 1, 2, 3, 4, 7, 8, 9, 10, 11, 5, 6, 12, 13] (by kernel_rfl) (by kernel_rfl) (fun w hO => hO) ?_
        repeat' (first | refine sk_pure rfl rfl (ps_move rfl) rfl ?_ | refine sk_pure rfl rfl (ps_fieldAddr rfl) rfl ?_ | refine sk_pure rfl rfl (ps_indexAddr rfl rfl rfl (by omega)) rfl ?_)
        refine sk_load_rd rfl rfl hr2 rfl ?_
        skip
        refine sk_load_rd rfl rfl hr1 rfl ?_
        repeat' (first | refine sk_eff rfl rfl ?_)
        refine sg_buildSlice (parts := []) (vs := []) (cells := []) rfl (by omega) rfl rfl (fun b2 => ?_)
        refine sk_back (fun w hO => hO.tail) ?_
        repeat' (first | refine sk_eff rfl rfl ?_)
        refine sg_own_mk (m := 0) (c := 0) (sz := 5) (xs := []) (Nat.le_refl _) (Nat.zero_le _) rfl rfl ?_
        refine sg_append (news := lcells zl) rfl rfl rfl (lcells_len zl) (lcells_one zl) (hk2.rd 4 rfl) (by simp only [maxLen]; omega) (by omega) fun a' c' => ?_
        rw [List.nil_append, Nat.zero_add]
        refine sk_back (fun w hO => hO.tail) ?_
        repeat' (first | refine sk_eff rfl rfl ?_)
        refine sg_call ((try_tri t S zo zl a' c' (sown a' zl.length c' 5 (lcells zl) :: [blk bx y.cells, blk bx1 x.cells, old W]) (by omega) hS1 rd_tail_sown).pre (fun w hO => hO.front1)) rfl rfl (fun _ _ => ?_)
        refine sk_end (by kernel_rfl) ?_
        repeat' (first | refine sk_nil ?_)
        repeat' (first | refine sg_wo ?_ | refine sg_ps (ps_move rfl) rfl ?_ | refine sg_ps (ps_assign rfl) rfl ?_ | refine sg_region ?_ | refine sg_nil ?_ | refine sg_then ?_ | refine sg_ps (ps_add64 rfl rfl (by omega)) rfl ?_ | refine ex_block_normal ?_)
        refine ex_mid (i + 1, (tryS S zo zl).2) ⟨by omega, ⟨by omega, by omega⟩, fun e he => ?_⟩ (.cons rfl (.cons rfl (.cons rfl (.cons rfl (.cons rfl (.cons rfl .nil)))))) (fun w hO => hO.front1.tail)
        have := tryS_len (k := i * 20) (m := 20) hS (by omega) e he
        omega
      · skip
        repeat' (first | refine sg_wo ?_ | refine sg_ps (ps_move rfl) rfl ?_ | refine sg_seq ?_ | refine sg_region ?_ | refine sg_nil ?_ | refine sg_then ?_ | refine sg_ps (ps_fieldAddr rfl) rfl ?_ | refine sg_ps (ps_bin rfl rfl inferInstance) rfl ?_ | refine sg_guard_yes rfl rfl ?_ | refine sg_ps (ps_pick_t rfl rfl) rfl ?_ | refine sg_ps (ps_len rfl) rfl ?_ | refine sg_ps (ps_indexAddr rfl rfl rfl (by omega)) rfl ?_ | refine sg_block ?_ | refine sg_skip ?_ | (refine sg_guard_dec rfl rfl (fun hg => ?_) (fun hg => ?_) <;> first | (exfalso; omega) | (exact absurd rfl hg) | skip) | (refine sg_cond_dec rfl (fun hg => ?_) (fun hg => ?_) <;> first | (exfalso; omega) | (exact absurd rfl hg) | skip))
        refine sg_load_rd rfl hr2 rfl ?_
        repeat' (first | refine sg_wo ?_ | refine sg_ps (ps_move rfl) rfl ?_ | refine sg_ps (ps_assign rfl) rfl ?_ | refine sg_region ?_ | refine sg_nil ?_ | refine sg_then ?_ | refine sg_ps (ps_add64 rfl rfl (by omega)) rfl ?_ | refine sg_ps (ps_bin rfl rfl inferInstance) rfl ?_ | refine sg_ps (ps_len rfl) rfl ?_ | refine sg_skip ?_ | refine ex_block_normal ?_ | (refine sg_cond_dec rfl (fun hg => ?_) (fun hg => ?_) <;> first | (exfalso; omega) | (exact absurd rfl hg) | skip))
        refine ex_mid (i + 1, S) ⟨by omega, ⟨by omega, by omega⟩, fun e he => ?_⟩ (.cons rfl (.cons rfl (.cons rfl (.cons rfl (.cons rfl (.cons rfl .nil)))))) (fun w hO => hO)
        have := hS e he; omega
    · skip
      repeat' (first | refine sg_wo ?_ | refine sg_ps (ps_move rfl) rfl ?_ | refine sg_seq ?_ | refine sg_region ?_ | refine sg_nil ?_ | refine sg_then ?_ | refine sg_ps (ps_bin rfl rfl inferInstance) rfl ?_ | refine sg_cond_f rfl ?_ | refine sg_guard_yes rfl rfl ?_ | refine sg_guard_nf rfl rfl rfl ?_ | refine sg_ps (ps_pick_t rfl rfl) rfl ?_ | refine sg_ps (ps_pick_f rfl rfl) rfl ?_ | refine sg_ps (ps_len rfl) rfl ?_ | refine sg_exit ?_ | refine ex_then_exit ?_ | refine ex_block_hit ?_ | (refine sg_guard_dec rfl rfl (fun hg => ?_) (fun hg => ?_) <;> first | (exfalso; omega) | (exact absurd rfl hg) | skip) | (refine sg_cond_dec rfl (fun hg => ?_) (fun hg => ?_) <;> first | (exfalso; omega) | (exact absurd rfl hg) | skip))
      all_goals exact ex_mid S (fun e he => by have := hS e he; omega) (.cons rfl (.cons rfl (.cons rfl (.cons rfl .nil)))) (fun w hO => hO)
  · rintro S hS
    have hS1 : ∀ e ∈ S, e.2.length ≤ 1000000 := fun e he => by have := hS e he; omega
    have hxy : freeS S o [x, y] = (freeS S o [x] && freeS S o [y]) := freeS_cons S o x [y]
    have hyx : freeS S o [y, x] = (freeS S o [y] && freeS S o [x]) := freeS_cons S o y [x]
    have hnil := freeS_nil S o
    repeat' (first | refine sg_wo ?_ | refine sg_ps (ps_move rfl) rfl ?_ | refine sg_seq ?_ | refine sg_region ?_ | refine sg_load_whole 2 rfl rfl rfl rfl ?_)
    refine sg_buildSlice1 (vs := lcells [x]) rfl (of_decide_eq_true rfl) rfl rfl rfl (fun b1 => ?_)
    repeat' (first | refine sg_wo ?_)
    refine sg_call ((free_tri t S o [x] (some ⟨b1, 0, none⟩) 1 (blk b1 (lcells [x]) :: [blk bx y.cells, blk bx1 x.cells, old W]) (by simp) rd_tail_blk).pre (fun w hO => hO.front1)) rfl rfl (fun _ _ => ?_)
    repeat' (first | refine sg_wo ?_ | refine sg_ps (ps_move rfl) rfl ?_ | refine sg_ps (ps_assign rfl) rfl ?_ | refine sg_seq ?_ | refine sg_region ?_ | refine sg_nil ?_ | refine sg_then ?_ | refine sg_load_whole 2 rfl rfl rfl rfl ?_)
    refine sg_buildSlice1 (vs := lcells [y]) rfl (of_decide_eq_true rfl) rfl rfl rfl (fun b2 => ?_)
    repeat' (first | refine sg_wo ?_)
    refine sg_call ((free_tri t S o [y] (some ⟨b2, 0, none⟩) 1 (blk b2 (lcells [y]) :: blk b1 (lcells [x]) :: [blk bx y.cells, blk bx1 x.cells, old W]) (by simp) rd_tail_blk).pre (fun w hO => hO.front1)) rfl rfl (fun _ _ => ?_)
    repeat' (first | refine sg_wo ?_ | refine sg_ps (ps_move rfl) rfl ?_ | refine sg_ps (ps_assign rfl) rfl ?_ | refine sg_seq ?_ | refine sg_region ?_ | refine sg_nil ?_ | refine sg_then ?_ | refine sg_load_whole 3 rfl rfl rfl rfl ?_ | refine sg_load_whole 4 rfl rfl rfl rfl ?_)
    refine sg_buildSlice (parts := [(0, .tmp 60), (1, .tmp 61)]) (vs := [.agg x.cells.toArray, .agg y.cells.toArray]) (cells := lcells [x, y]) rfl (by omega) rfl rfl (fun b3 => ?_)
    repeat' (first | refine sg_wo ?_)
    refine sg_call ((free_tri t S o [x, y] (some ⟨b3, 0, none⟩) 2 (blk b3 (lcells [x, y]) :: blk b2 (lcells [y]) :: blk b1 (lcells [x]) :: [blk bx y.cells, blk bx1 x.cells, old W]) (by simp) rd_tail_blk).pre (fun w hO => hO.front1)) rfl rfl (fun _ _ => ?_)
    rw [hxy]
    generalize freeS S o [x] = fx at hxy hyx
    generalize freeS S o [y] = fy at hxy hyx
    cases fx <;> cases fy <;> (
      repeat' (first | refine sg_wo ?_ | refine sg_ps (ps_move rfl) rfl ?_ | refine sg_ps (ps_assign rfl) rfl ?_ | refine sg_seq ?_ | refine sg_region ?_ | refine sg_nil ?_ | refine sg_then ?_ | refine sg_ps (ps_bin rfl rfl inferInstance) rfl ?_ | refine sg_guard_yes rfl rfl ?_ | refine sg_guard_nf rfl rfl rfl ?_ | refine sg_ps (ps_pick_t rfl rfl) rfl ?_ | refine sg_ps (ps_pick_f rfl rfl) rfl ?_)
      refine sg_call (free_tri t S o [] none 0 (blk b3 (lcells [x, y]) :: blk b2 (lcells [y]) :: blk b1 (lcells [x]) :: [blk bx y.cells, blk bx1 x.cells, old W]) (by simp) (fun _ => rd_nil)) rfl rfl (fun _ _ => ?_)
      rw [hnil]
      repeat' (first | refine sg_wo ?_ | refine sg_ps (ps_move rfl) rfl ?_ | refine sg_ps (ps_bin rfl rfl inferInstance) rfl ?_ | refine sg_guard_yes rfl rfl ?_ | refine sg_ps (ps_pick_t rfl rfl) rfl ?_ | refine sg_load_whole 4 rfl rfl rfl rfl ?_ | refine sg_load_whole 5 rfl rfl rfl rfl ?_)
      refine sg_buildSlice (parts := [(0, .tmp 83), (1, .tmp 84)]) (vs := [.agg y.cells.toArray, .agg x.cells.toArray]) (cells := lcells [y, x]) rfl (by omega) rfl rfl (fun b4 => ?_)
      repeat' (first | refine sg_wo ?_ | refine sg_guard_yes rfl rfl ?_)
      refine sg_call ((free_tri t S o [y, x] (some ⟨b4, 0, none⟩) 2 (blk b4 (lcells [y, x]) :: blk b3 (lcells [x, y]) :: blk b2 (lcells [y]) :: blk b1 (lcells [x]) :: [blk bx y.cells, blk bx1 x.cells, old W]) (by simp) rd_tail_blk).pre (fun w hO => hO.front1)) rfl rfl (fun _ _ => ?_)
      rw [hyx]
      repeat' (first | refine sg_wo ?_ | refine sg_ps (ps_assign rfl) rfl ?_ | refine sg_nil ?_ | refine sg_then ?_ | refine sg_ps (ps_bin rfl rfl inferInstance) rfl ?_ | refine sg_guard_yes rfl rfl ?_ | refine sg_ps (ps_pick_t rfl rfl) rfl ?_ | refine sg_ret ?_)
      refine ex_ret1 rfl rfl () rfl trivial (fun w hO => hO.tail.tail.tail.tail.tail.tail.tail))
theorem lockBoth_opened (W : World) (vs : List Value) (h : Opens Try.prog W Try.f3.params.toList vs) :
    Tri Try.prog W 3 vs [old W] (X := Unit) (fun _ => .bool true) (fun _ => True) (fun _ => [old W]) := by
  obtain ⟨a1, c1, vs, rfl, e1, h⟩ := Opens.cons (RT.slice 3 40 Try.underlying22 (by kernel_rfl) (by kernel_rfl) (RT.struct (tot := 3) Try.underlying33 (by kernel_rfl) (RF.cons 1 (RT.int .i64 Try.underlying3) rfl (by kernel_rfl) (RF.cons 1 (RT.int .u64 Try.underlying27) rfl (by kernel_rfl) (RF.cons 1 (RT.slice 5 56 Try.underlying31 (by kernel_rfl) (by kernel_rfl) (RT.struct (tot := 5) Try.underlying26 (by kernel_rfl) (RF.cons 1 (RT.int .i64 Try.underlying3) rfl (by kernel_rfl) (RF.cons 3 (RT.struct (tot := 3) Try.underlying24 (by kernel_rfl) (RF.cons 1 (RT.str Try.underlying9) rfl (by kernel_rfl) (RF.cons 1 (RT.str Try.underlying9) rfl (by kernel_rfl) (RF.cons 1 (RT.bool Try.underlying4) rfl (by kernel_rfl) (RF.nil rfl))))) rfl (by kernel_rfl) (RF.cons 1 (RT.bool Try.underlying4) rfl (by kernel_rfl) (RF.nil rfl)))))) rfl (by kernel_rfl) (RF.nil rfl)))))) h
  obtain ⟨a2, c2, vs, rfl, e2, h⟩ := Opens.cons (RT.struct (tot := 5) Try.underlying26 (by kernel_rfl) (RF.cons 1 (RT.int .i64 Try.underlying3) rfl (by kernel_rfl) (RF.cons 3 (RT.struct (tot := 3) Try.underlying24 (by kernel_rfl) (RF.cons 1 (RT.str Try.underlying9) rfl (by kernel_rfl) (RF.cons 1 (RT.str Try.underlying9) rfl (by kernel_rfl) (RF.cons 1 (RT.bool Try.underlying4) rfl (by kernel_rfl) (RF.nil rfl))))) rfl (by kernel_rfl) (RF.cons 1 (RT.bool Try.underlying4) rfl (by kernel_rfl) (RF.nil rfl))))) h
  obtain ⟨a3, c3, vs, rfl, e3, h⟩ := Opens.cons (RT.struct (tot := 5) Try.underlying26 (by kernel_rfl) (RF.cons 1 (RT.int .i64 Try.underlying3) rfl (by kernel_rfl) (RF.cons 3 (RT.struct (tot := 3) Try.underlying24 (by kernel_rfl) (RF.cons 1 (RT.str Try.underlying9) rfl (by kernel_rfl) (RF.cons 1 (RT.str Try.underlying9) rfl (by kernel_rfl) (RF.cons 1 (RT.bool Try.underlying4) rfl (by kernel_rfl) (RF.nil rfl))))) rfl (by kernel_rfl) (RF.cons 1 (RT.bool Try.underlying4) rfl (by kernel_rfl) (RF.nil rfl))))) h
  obtain ⟨a4, c4, vs, rfl, e4, h⟩ := Opens.cons (RT.int .u64 Try.underlying27) h
  obtain rfl := Opens.nil h
  obtain ⟨rfl, _⟩ := e4
  obtain ⟨x, rfl⟩ := lock_of e2
  obtain ⟨y, rfl⟩ := lock_of e3
  obtain ⟨l, la, lc, rfl, hl⟩ := lopsAt_of e1
  exact lockBoth_tri l la lc x y a4 hl
set_option maxRecDepth 100000 in
theorem lockBoth_lifted (os : Os) (started : os.Started) (H : Type) (enc : TypeId × Value → H) :
    ReturnsInHanded {} Try.checked os 3 .any (Rows.lockBothSpec.pre6 enc Try.prog Try.f3 Rows.lockBothRow.domain false) (Rows.lockBothSpec.post enc Try.prog Try.f3 false true false false) :=
  lift (tb := 4) started law_own law_laidOut (by kernel_rfl) Try.func3
    (ChangeSpec.witness6 (enc := enc) (C := Try.checked) false ⟨#[], #[.slice none 0 0, .agg #[.int .i64 0, .string ByteArray.empty, .string ByteArray.empty, .bool false, .bool false], .agg #[.int .i64 0, .string ByteArray.empty, .string ByteArray.empty, .bool false, .bool false], .int .u64 0], []⟩ 8 (by kernel_rfl) (by kernel_rfl) (by kernel_rfl) (by kernel_rfl))
    rfl rfl Try.underlying4 (by kernel_rfl) (fun ds h => by
      match ds, h with
      | [d1, d2, d3, d4], _ => rfl) lockBoth_opened
theorem lockBoth_over : Rows.lockBothRow.holds Try.pinned (OpenSpec.ofChange Rows.lockBothSpec) :=
  OpenClaim.holds_of_wide 3 Try.f3 rfl rfl rfl rfl rfl rfl rfl ⟨rfl, rfl, rfl, rfl, rfl⟩ rfl rfl rfl rfl rfl (by kernel_rfl) Try.func3 (by kernel_rfl)
    (of_decide_eq_true (by kernel_rfl)) (by unfold Func.isWrapper; first | (rw [if_pos (by decide +kernel)]; kernel_rfl) | (rw [if_neg (by decide +kernel)]; exact ⟨rfl, rfl⟩))
    (fun os started H enc _ => lockBoth_lifted os started H enc)
theorem lockBoth_proved : Rows.LockBothSaid := lockBoth_over
#print axioms lockBoth_proved
end Go.Proofs.Ytgapgpknghnemaa
