/- The reference of package extent: Alloc, Holes; two lists of stretches compared. -/
import Derived.Test.YtcchgkjcoknkcaaLER
namespace Go.Proofs.Ytcchgkjcoknkcaa
set_option linter.unusedVariables false
set_option linter.unusedSimpArgs false
set_option linter.unusedSectionVars false
set_option linter.unnecessarySimpa false
open Go Go.Proofs
/-- No stretch of n open sectors ends at i or ahead of it. -/
def NoRun (o : List Bool) (n i : Nat) : Prop := ∀ k, k + n ≤ i → allB o k n true = false
theorem allB_false {o : List Bool} {k n x : Nat} (h1 : k ≤ x) (h2 : x < k + n) (h : o[x]? ≠ some true) : allB o k n true = false := by
  cases e : allB o k n true with
  | false => rfl
  | true => exact absurd (allB_iff.1 e x h1 h2) h
theorem firstK_found {o : List Bool} {n i : Nat} (hn : 1 ≤ n) (hno : NoRun o n i) (h : allB o (i + 1 - n) n true = true) (hi : n ≤ i + 1) : firstK o n = some (i + 1 - n) := by
  have := allB_room h hn
  exact find_range (by omega) h (fun j hj => hno j (by omega))
theorem firstK_never {o : List Bool} {n : Nat} (hn : 1 ≤ n) (hno : NoRun o n o.length) : firstK o n = none := by
  unfold firstK
  rw [List.find?_eq_none]
  intro k _ e
  have := hno k (allB_room e hn)
  rw [this] at e; cases e
set_option maxRecDepth 20000
set_option maxHeartbeats 4000000
attribute [local irreducible] SG WC WO W1 WD WK PS Rd Tri Exit.then Exit.inBlock bodyPost calmQ Mid sadd
variable {W : World} {n : Nat} {F : Fr} {L : List HP} {G : Act → World → Prop}
theorem ralloc_tri (r : Nat) (X : XS) (m : Int) (R : List HP) :
    Tri Try.prog W 15 [dp r, i64 m] (RefSp r X :: R) (X := Unit) (fun _ => .tuple #[i64 (X.alloc m).1, i64 (X.alloc m).2.1]) (fun _ => True) (fun _ => RefSp r (X.alloc m).2.2 :: R) := by
  refine tri_enter2 Try.func15 rfl Try.ntmps15 rfl ?_
  refine RefSp.open fun ob hX => ?_
  have hhi := hX.hi
  repeat' (first | refine sg_wo ?_ | refine sg_ps (ps_move rfl) rfl ?_ | refine sg_ps (ps_assign rfl) rfl ?_ | refine sg_seq ?_ | refine sg_region ?_ | refine sg_nil ?_ | refine sg_then ?_ | refine sg_ps (ps_bin rfl rfl inferInstance) rfl ?_ | refine sg_block ?_ | refine sg_skip ?_ | refine sg_ret ?_ | refine ex_then_ret ?_ | (refine sg_cond_dec rfl (fun hg => ?_) (fun hg => ?_) <;> first | (exfalso; omega) | (exact absurd rfl hg) | skip))
  · have he : X.alloc m = (0, 1, X) := by unfold XS.alloc; rw [if_pos hg]
    rw [he]
    exact ex_ret2 rfl rfl rfl () rfl trivial (fun w hO => RefSp.shut hX hO)
  · obtain ⟨M, rfl⟩ : ∃ M : Nat, m = (M : Int) := ⟨m.toNat, by omega⟩
    have hM : 1 ≤ M := by omega
    have hal : X.alloc (M : Int) = match firstK X.o M with | none => (0, 3, X) | some k => (((X.lo + k : Nat) : Int), 0, { X with o := setr X.o k M false }) := by
      unfold XS.alloc
      rw [if_neg hg, Int.toNat_natCast]
      cases firstK X.o M <;> rfl
    refine sg_loop (γ := Nat × Nat) (fun g => g.1 ≤ X.o.length ∧ g.2 ≤ g.1 ∧ g.2 < M ∧ (∀ x, g.1 - g.2 ≤ x → x < g.1 → X.o[x]? = some true) ∧ (g.2 < g.1 → X.o[g.1 - g.2 - 1]? = some false) ∧ NoRun X.o M g.1) (fun g => [(0, dp r), (1, i64 M), (6, i64 g.2), (7, i64 g.1)])
      (fun _ => blk r (rcells X ob) :: blk ob (X.o.map bb) :: R) (fun g => X.o.length - g.1) (0, 0) ⟨Nat.zero_le _, Nat.le_refl _, hM, fun x h1 h2 => by omega, fun h => by omega, fun k h => by omega⟩
      (.cons rfl (.cons rfl (.cons rfl (.cons rfl .nil)))) (fun w hO => hO) ?_
    rintro ⟨i, u⟩ ⟨hi, hu, huM, hopen, hshut, hno⟩
    dsimp only at hi hu huM hopen hshut hno ⊢
    by_cases hil : i < X.o.length
    · have hget := bb_get (o := X.o) hil
      have hg2 : X.o[i]? = some X.o[i] := List.getElem?_eq_getElem hil
      generalize X.o[i] = b at hget hg2
      repeat' (first | refine sg_wo ?_ | refine sg_ps (ps_move rfl) rfl ?_ | refine sg_seq ?_ | refine sg_region ?_ | refine sg_nil ?_ | refine sg_then ?_ | refine sg_ps (ps_fieldAddr rfl) rfl ?_ | refine sg_ps (ps_nilCheck rfl) rfl ?_ | refine sg_load 0 rfl rfl rfl rfl ?_ | refine sg_ps (ps_bin rfl rfl inferInstance) rfl ?_ | refine sg_ps (ps_len rfl) rfl ?_ | refine sg_ps (ps_indexAddr rfl rfl rfl (by omega)) rfl ?_ | refine sg_block ?_ | refine sg_skip ?_ | (refine sg_cond_dec rfl (fun hg => ?_) (fun hg => ?_) <;> first | (exfalso; omega) | (exact absurd rfl hg) | skip))
      refine sg_load 1 rfl rfl hget rfl ?_
      cases b with
      | false =>
        repeat' (first | refine sg_wo ?_ | refine sg_ps (ps_move rfl) rfl ?_ | refine sg_ps (ps_assign rfl) rfl ?_ | refine sg_seq ?_ | refine sg_region ?_ | refine sg_nil ?_ | refine sg_then ?_ | refine sg_ps (ps_add64 rfl rfl (by omega)) rfl ?_ | refine sg_ps (ps_not rfl) rfl ?_ | refine sg_cond_t rfl ?_ | refine sg_exit ?_ | refine ex_then_exit ?_ | refine ex_block_hit ?_)
        refine ex_mid (i + 1, 0) ⟨by omega, by omega, Nat.zero_le _, hM, fun x h1 h2 => by omega, fun h => by rw [show i + 1 - 0 - 1 = i by omega]; exact hg2, fun k hk => ?_⟩ (.cons rfl (.cons rfl (.cons rfl (.cons rfl .nil)))) (fun w hO => hO)
        by_cases h1 : k + M ≤ i
        · exact hno k h1
        · exact allB_false (x := i) (by omega) (by omega) (by rw [hg2]; simp)
      | true =>
        have hopen' : ∀ x, i - u ≤ x → x < i + 1 → X.o[x]? = some true := by
          intro x h1 h2
          by_cases h3 : x = i
          · subst h3; exact hg2
          · exact hopen x h1 (by omega)
        repeat' (first | refine sg_wo ?_ | refine sg_ps (ps_move rfl) rfl ?_ | refine sg_ps (ps_assign rfl) rfl ?_ | refine sg_seq ?_ | refine sg_region ?_ | refine sg_nil ?_ | refine sg_then ?_ | refine sg_ps (ps_add64 rfl rfl (by omega)) rfl ?_ | refine sg_ps (ps_sub64 rfl rfl (by omega)) rfl ?_ | refine sg_ps (ps_bin rfl rfl inferInstance) rfl ?_ | refine sg_ps (ps_not rfl) rfl ?_ | refine sg_cond_f rfl ?_ | refine sg_skip ?_ | refine ex_block_normal ?_ | (refine sg_cond_dec rfl (fun hg => ?_) (fun hg => ?_) <;> first | (exfalso; omega) | (exact absurd rfl hg) | skip))
        · have hall : allB X.o (i + 1 - M) M true = true := allB_iff.2 fun x h1 h2 => hopen' x (by omega) (by omega)
          have hf := firstK_found hM hno hall (by omega)
          rw [hf] at hal
          rw [hal]
          dsimp only
          rw [show (i : Int) - (M : Int) + 1 = ((i + 1 - M : Nat) : Int) by omega]
          refine sg_call ((rturn_tri r X (i + 1 - M) M false R (by omega)).pre (fun w hO => RefSp.shut hX hO)) rfl rfl (fun _ _ => ?_)
          obtain ⟨X2, hX2d⟩ : ∃ X2 : XS, X2 = { X with o := setr X.o (i + 1 - M) M false } := ⟨_, rfl⟩
          have hlo2 : X2.lo = X.lo := by rw [hX2d]
          rw [← hX2d]
          refine RefSp.open fun ob2 hX2 => ?_
          repeat' (first | refine sg_wo ?_ | refine sg_ps (ps_move rfl) rfl ?_ | refine sg_ps (ps_assign rfl) rfl ?_ | refine sg_seq ?_ | refine sg_region ?_ | refine sg_nil ?_ | refine sg_then ?_ | refine sg_ps (ps_fieldAddr rfl) rfl ?_ | refine sg_ps (ps_nilCheck rfl) rfl ?_ | refine sg_load 0 rfl rfl rfl rfl ?_ | refine sg_ps (ps_add64 rfl rfl (by omega)) rfl ?_ | refine sg_ps (ps_sub64 rfl rfl (by omega)) rfl ?_ | refine sg_ret ?_ | refine ex_then_ret ?_ | refine ex_block_ret ?_)
          refine ex_ret2 rfl rfl rfl () ?_ trivial (fun w hO => RefSp.shut hX2 hO)
          rw [show ((X.lo + (i + 1 - M) : Nat) : Int) = (X2.lo : Int) + (i : Int) - (M : Int) + 1 by omega]
        · refine ex_mid (i + 1, u + 1) ⟨by omega, by omega, by omega, by omega, fun x h1 h2 => hopen' x (by omega) h2, fun h => by rw [show i + 1 - (u + 1) - 1 = i - u - 1 by omega]; exact hshut (by omega), fun k hk => ?_⟩ (.cons rfl (.cons rfl (.cons rfl (.cons rfl .nil)))) (fun w hO => hO)
          by_cases h1 : k + M ≤ i
          · exact hno k h1
          · by_cases h2 : u < i
            · exact allB_false (x := i - u - 1) (by omega) (by omega) (by rw [hshut h2]; simp)
            · omega
    · obtain rfl : i = X.o.length := by omega
      rw [firstK_never hM hno] at hal
      rw [hal]
      repeat' (first | refine sg_wo ?_ | refine sg_ps (ps_move rfl) rfl ?_ | refine sg_ps (ps_assign rfl) rfl ?_ | refine sg_seq ?_ | refine sg_region ?_ | refine sg_nil ?_ | refine sg_then ?_ | refine sg_ps (ps_fieldAddr rfl) rfl ?_ | refine sg_ps (ps_nilCheck rfl) rfl ?_ | refine sg_load 0 rfl rfl rfl rfl ?_ | refine sg_ps (ps_bin rfl rfl inferInstance) rfl ?_ | refine sg_ps (ps_len rfl) rfl ?_ | refine sg_ret ?_ | refine sg_exit ?_ | refine ex_then_exit ?_ | refine ex_block_hit ?_ | (refine sg_cond_dec rfl (fun hg => ?_) (fun hg => ?_) <;> first | (exfalso; omega) | (exact absurd rfl hg) | skip))
      exact ex_ret2 rfl rfl rfl () rfl trivial (fun w hO => RefSp.shut hX hO)
theorem rholes_tri (r : Nat) (X : XS) (R : List HP) :
    Tri Try.prog W 20 [dp r] (RefSp r X :: R) (X := Option Addr × Nat) (fun x => .slice x.1 X.runs.length x.2) (fun _ => True) (fun x => sown x.1 X.runs.length x.2 2 (hcells X.runs) :: RefSp r X :: R) := by
  refine tri_enter1 Try.func20 rfl Try.ntmps20 rfl ?_
  refine RefSp.open fun ob hX => ?_
  have hhi := hX.hi
  repeat' (first | refine sg_wo ?_ | refine sg_ps (ps_assign rfl) rfl ?_ | refine sg_seq ?_ | refine sg_region ?_ | refine sg_nil ?_ | refine sg_then ?_ | refine sg_block ?_)
  refine sg_loop (γ := Nat × Option Addr × Nat) (fun g => g.1 ≤ X.o.length) (fun g => [(0, dp r), (3, .slice g.2.1 (runs X.lo (X.o.take g.1)).length g.2.2), (4, i64 g.1)])
    (fun g => sown g.2.1 (runs X.lo (X.o.take g.1)).length g.2.2 2 (hcells (runs X.lo (X.o.take g.1))) :: blk r (rcells X ob) :: blk ob (X.o.map bb) :: R) (fun g => X.o.length - g.1) (0, none, 0) (Nat.zero_le _)
    (.cons rfl (.cons rfl (.cons rfl .nil))) (fun w hO => own_nil hO) ?_
  rintro ⟨j, a, c⟩ hj
  dsimp only at hj ⊢
  have hrl : (runs X.lo (X.o.take j)).length ≤ j := by have := runs_len (X.o.take j) X.lo; rw [List.length_take] at this; omega
  by_cases hjl : j < X.o.length
  · have hget := bb_get (o := X.o) hjl
    have htk : X.o.take (j + 1) = X.o.take j ++ [X.o[j]] := by rw [List.take_add_one, List.getElem?_eq_getElem hjl]; rfl
    have hlt : (X.o.take j).length = j := by rw [List.length_take]; omega
    generalize X.o[j] = b at hget htk
    cases b with
    | false =>
      have hst := runs_snoc_no X.lo (X.o.take j)
      rw [← htk] at hst
      repeat' (first | refine sg_wo ?_ | refine sg_ps (ps_move rfl) rfl ?_ | refine sg_seq ?_ | refine sg_region ?_ | refine sg_nil ?_ | refine sg_then ?_ | refine sg_ps (ps_fieldAddr rfl) rfl ?_ | refine sg_ps (ps_nilCheck rfl) rfl ?_ | refine sg_load 1 rfl rfl rfl rfl ?_ | refine sg_ps (ps_bin rfl rfl inferInstance) rfl ?_ | refine sg_ps (ps_len rfl) rfl ?_ | refine sg_ps (ps_indexAddr rfl rfl rfl (by omega)) rfl ?_ | refine sg_block ?_ | refine sg_skip ?_ | (refine sg_cond_dec rfl (fun hg => ?_) (fun hg => ?_) <;> first | (exfalso; omega) | (exact absurd rfl hg) | skip))
      refine sg_load 2 rfl rfl hget rfl ?_
      repeat' (first | refine sg_wo ?_ | refine sg_ps (ps_move rfl) rfl ?_ | refine sg_ps (ps_assign rfl) rfl ?_ | refine sg_region ?_ | refine sg_nil ?_ | refine sg_then ?_ | refine sg_ps (ps_add64 rfl rfl (by omega)) rfl ?_ | refine sg_ps (ps_not rfl) rfl ?_ | refine sg_cond_t rfl ?_ | refine sg_exit ?_ | refine ex_then_exit ?_ | refine ex_block_hit ?_)
      exact ex_mid (j + 1, a, c) ⟨by omega, by omega⟩ (.cons rfl (.cons (by rw [hst]; rfl) (.cons rfl .nil))) (fun w hO => by rw [hst]; exact hO)
    | true =>
      by_cases hj0 : j = 0
      · have hst := runs_snoc_new X.lo (X.o.take j) (.inl (by rw [hj0]; rfl))
        rw [← htk, hlt] at hst
        repeat' (first | refine sg_wo ?_ | refine sg_ps (ps_move rfl) rfl ?_ | refine sg_seq ?_ | refine sg_region ?_ | refine sg_nil ?_ | refine sg_then ?_ | refine sg_ps (ps_fieldAddr rfl) rfl ?_ | refine sg_ps (ps_nilCheck rfl) rfl ?_ | refine sg_load 1 rfl rfl rfl rfl ?_ | refine sg_ps (ps_bin rfl rfl inferInstance) rfl ?_ | refine sg_ps (ps_len rfl) rfl ?_ | refine sg_ps (ps_indexAddr rfl rfl rfl (by omega)) rfl ?_ | refine sg_block ?_ | refine sg_skip ?_ | (refine sg_cond_dec rfl (fun hg => ?_) (fun hg => ?_) <;> first | (exfalso; omega) | (exact absurd rfl hg) | skip))
        refine sg_load 2 rfl rfl hget rfl ?_
        repeat' (first | refine sg_wo ?_ | refine sg_ps (ps_move rfl) rfl ?_ | refine sg_seq ?_ | refine sg_region ?_ | refine sg_nil ?_ | refine sg_then ?_ | refine sg_ps (ps_fieldAddr rfl) rfl ?_ | refine sg_ps (ps_nilCheck rfl) rfl ?_ | refine sg_load 1 rfl rfl rfl rfl ?_ | refine sg_ps (ps_add64 rfl rfl (by omega)) rfl ?_ | refine sg_ps (ps_bin rfl rfl inferInstance) rfl ?_ | refine sg_ps (ps_not rfl) rfl ?_ | refine sg_cond_f rfl ?_ | refine sg_guard_nf rfl rfl rfl ?_ | refine sg_ps (ps_pick_f rfl rfl) rfl ?_ | refine sg_ps (ps_build rfl rfl) rfl ?_ | refine sg_skip ?_ | (refine sg_guard_dec rfl rfl (fun hg => ?_) (fun hg => ?_) <;> first | (exfalso; omega) | (exact absurd rfl hg) | skip))
        have e1 : [Value.int .i64 ((X.lo : Int) + (j : Int)), i64 1] = hcells [(X.lo + j, 1)] := by
          simp only [hcells, hc, List.flatMap_cons, List.flatMap_nil, List.append_nil, Int.natCast_add]; rfl
        refine sg_buildSlice1 (vs := hcells [(X.lo + j, 1)]) rfl (of_decide_eq_true rfl) e1 rfl rfl (fun b2 => ?_)
        refine sg_front1 ?_
        refine sg_wo ?_
        refine sg_append (news := hcells [(X.lo + j, 1)]) rfl rfl rfl rfl (hcells_one _) (rd_blk 1 rfl fun j u hj => by rw [Nat.zero_add]; exact hj) (by simp only [maxLen]; omega) (by omega) fun a' c' => ?_
        rw [← hcells_app]
        repeat' (first | refine sg_wo ?_ | refine sg_ps (ps_move rfl) rfl ?_ | refine sg_ps (ps_assign rfl) rfl ?_ | refine sg_region ?_ | refine sg_nil ?_ | refine sg_then ?_ | refine sg_ps (ps_add64 rfl rfl (by omega)) rfl ?_ | refine ex_block_normal ?_)
        have hl2 : (runs X.lo (X.o.take (j + 1))).length = (runs X.lo (X.o.take j)).length + 1 := by rw [hst, List.length_append]; rfl
        exact ex_mid (j + 1, a', c') ⟨by omega, by omega⟩ (.cons rfl (.cons (by rw [hl2]; rfl) (.cons rfl .nil))) (fun w hO => by dsimp only; rw [hl2, hst]; exact hO.front1.tail)
      · have hj1 : j - 1 < X.o.length := by omega
        have hget1 := bb_get (o := X.o) hj1
        have hlast : (X.o.take j)[(X.o.take j).length - 1]? = some X.o[j - 1] := by
          rw [hlt, List.getElem?_take, if_pos (by omega), List.getElem?_eq_getElem hj1]
        generalize X.o[j - 1] = b' at hget1 hlast
        cases b' with
        | false =>
          have hst := runs_snoc_new X.lo (X.o.take j) (.inr hlast)
          rw [← htk, hlt] at hst
          repeat' (first | refine sg_wo ?_ | refine sg_ps (ps_move rfl) rfl ?_ | refine sg_seq ?_ | refine sg_region ?_ | refine sg_nil ?_ | refine sg_then ?_ | refine sg_ps (ps_fieldAddr rfl) rfl ?_ | refine sg_ps (ps_nilCheck rfl) rfl ?_ | refine sg_load 1 rfl rfl rfl rfl ?_ | refine sg_ps (ps_bin rfl rfl inferInstance) rfl ?_ | refine sg_ps (ps_len rfl) rfl ?_ | refine sg_ps (ps_indexAddr rfl rfl rfl (by omega)) rfl ?_ | refine sg_block ?_ | refine sg_skip ?_ | (refine sg_cond_dec rfl (fun hg => ?_) (fun hg => ?_) <;> first | (exfalso; omega) | (exact absurd rfl hg) | skip))
          refine sg_load 2 rfl rfl hget rfl ?_
          repeat' (first | refine sg_wo ?_ | refine sg_ps (ps_move rfl) rfl ?_ | refine sg_seq ?_ | refine sg_region ?_ | refine sg_nil ?_ | refine sg_then ?_ | refine sg_ps (ps_fieldAddr rfl) rfl ?_ | refine sg_ps (ps_nilCheck rfl) rfl ?_ | refine sg_load 1 rfl rfl rfl rfl ?_ | refine sg_ps (ps_sub64 rfl rfl (by omega)) rfl ?_ | refine sg_ps (ps_bin rfl rfl inferInstance) rfl ?_ | refine sg_ps (ps_not rfl) rfl ?_ | refine sg_cond_f rfl ?_ | refine sg_guard_yes rfl rfl ?_ | refine sg_skip ?_ | (refine sg_guard_dec rfl rfl (fun hg => ?_) (fun hg => ?_) <;> first | (exfalso; omega) | (exact absurd rfl hg) | skip))
          refine sg_ps (ps_indexAddr (j := j - 1) rfl rfl (by omega) (by omega)) rfl ?_
          repeat' (first | refine sg_wo ?_ | refine sg_guard_yes rfl rfl ?_)
          refine sg_load 2 rfl rfl hget1 rfl ?_
          repeat' (first | refine sg_wo ?_ | refine sg_ps (ps_move rfl) rfl ?_ | refine sg_region ?_ | refine sg_nil ?_ | refine sg_then ?_ | refine sg_ps (ps_fieldAddr rfl) rfl ?_ | refine sg_ps (ps_nilCheck rfl) rfl ?_ | refine sg_load 1 rfl rfl rfl rfl ?_ | refine sg_ps (ps_add64 rfl rfl (by omega)) rfl ?_ | refine sg_cond_f rfl ?_ | refine sg_ps (ps_pick_t rfl rfl) rfl ?_ | refine sg_ps (ps_build rfl rfl) rfl ?_)
          have e1 : [Value.int .i64 ((X.lo : Int) + (j : Int)), i64 1] = hcells [(X.lo + j, 1)] := by
            simp only [hcells, hc, List.flatMap_cons, List.flatMap_nil, List.append_nil, Int.natCast_add]; rfl
          refine sg_buildSlice1 (vs := hcells [(X.lo + j, 1)]) rfl (of_decide_eq_true rfl) e1 rfl rfl (fun b2 => ?_)
          refine sg_front1 ?_
          refine sg_wo ?_
          refine sg_append (news := hcells [(X.lo + j, 1)]) rfl rfl rfl rfl (hcells_one _) (rd_blk 1 rfl fun j u hj => by rw [Nat.zero_add]; exact hj) (by simp only [maxLen]; omega) (by omega) fun a' c' => ?_
          rw [← hcells_app]
          repeat' (first | refine sg_wo ?_ | refine sg_ps (ps_move rfl) rfl ?_ | refine sg_ps (ps_assign rfl) rfl ?_ | refine sg_region ?_ | refine sg_nil ?_ | refine sg_then ?_ | refine sg_ps (ps_add64 rfl rfl (by omega)) rfl ?_ | refine ex_block_normal ?_)
          have hl2 : (runs X.lo (X.o.take (j + 1))).length = (runs X.lo (X.o.take j)).length + 1 := by rw [hst, List.length_append]; rfl
          exact ex_mid (j + 1, a', c') ⟨by omega, by omega⟩ (.cons rfl (.cons (by rw [hl2]; rfl) (.cons rfl .nil))) (fun w hO => by dsimp only; rw [hl2, hst]; exact hO.front1.tail)
        | true =>
          obtain ⟨A, st, l, hA, hst⟩ := runs_snoc_more X.lo (X.o.take j) hlast
          rw [← htk] at hst
          have hlA : (runs X.lo (X.o.take j)).length = A.length + 1 := by rw [hA, List.length_append]; rfl
          rw [hlA, hA]
          have hll : l ≤ 4096 := by
            have := runs_lo (o := X.o.take j) (p := X.lo) (h := (st, l)) (by rw [hA]; simp)
            simp only at this; omega
          refine sg_capc [] fun hac hac2 hacl => ?_
          refine sg_blockc [] (by omega) fun g cur hga _ _ hcl htk2 => ?_
          subst hga
          rw [List.nil_append]
          have hgl : cur[0 + A.length * 2 + 1]? = some (i64 l) := by
            refine get_take htk2 _ _ ?_
            rw [hcells_app, List.getElem?_append_right (by rw [hcells_len]; omega), hcells_len, show 0 + A.length * 2 + 1 - A.length * 2 = 1 by omega]; rfl
          repeat' (first | refine sg_wo ?_ | refine sg_ps (ps_move rfl) rfl ?_ | refine sg_seq ?_ | refine sg_region ?_ | refine sg_nil ?_ | refine sg_then ?_ | refine sg_ps (ps_fieldAddr rfl) rfl ?_ | refine sg_ps (ps_nilCheck rfl) rfl ?_ | refine sg_load 1 rfl rfl rfl rfl ?_ | refine sg_ps (ps_bin rfl rfl inferInstance) rfl ?_ | refine sg_ps (ps_len rfl) rfl ?_ | refine sg_ps (ps_indexAddr rfl rfl rfl (by omega)) rfl ?_ | refine sg_block ?_ | refine sg_skip ?_ | (refine sg_cond_dec rfl (fun hg => ?_) (fun hg => ?_) <;> first | (exfalso; omega) | (exact absurd rfl hg) | skip))
          refine sg_load 2 rfl rfl hget rfl ?_
          repeat' (first | refine sg_wo ?_ | refine sg_ps (ps_move rfl) rfl ?_ | refine sg_seq ?_ | refine sg_region ?_ | refine sg_nil ?_ | refine sg_then ?_ | refine sg_ps (ps_fieldAddr rfl) rfl ?_ | refine sg_ps (ps_nilCheck rfl) rfl ?_ | refine sg_load 1 rfl rfl rfl rfl ?_ | refine sg_ps (ps_sub64 rfl rfl (by omega)) rfl ?_ | refine sg_ps (ps_bin rfl rfl inferInstance) rfl ?_ | refine sg_ps (ps_not rfl) rfl ?_ | refine sg_cond_f rfl ?_ | refine sg_guard_yes rfl rfl ?_ | refine sg_skip ?_ | (refine sg_guard_dec rfl rfl (fun hg => ?_) (fun hg => ?_) <;> first | (exfalso; omega) | (exact absurd rfl hg) | skip))
          refine sg_ps (ps_indexAddr (j := j - 1) rfl rfl (by omega) (by omega)) rfl ?_
          repeat' (first | refine sg_wo ?_ | refine sg_guard_yes rfl rfl ?_)
          refine sg_load 2 rfl rfl hget1 rfl ?_
          repeat' (first | refine sg_wo ?_ | refine sg_ps (ps_move rfl) rfl ?_ | refine sg_region ?_ | refine sg_nil ?_ | refine sg_then ?_ | refine sg_ps (ps_sub64 rfl rfl (by omega)) rfl ?_ | refine sg_cond_t rfl ?_ | refine sg_ps (ps_pick_t rfl rfl) rfl ?_ | refine sg_ps (ps_len rfl) rfl ?_)
          refine sg_ps (ps_indexAddr (j := A.length) rfl rfl (by omega) (by omega)) rfl ?_
          repeat' (first | refine sg_wo ?_ | refine sg_ps (ps_fieldAddr rfl) rfl ?_)
          refine sg_load 0 rfl rfl hgl rfl ?_
          repeat' (first | refine sg_wo ?_ | refine sg_ps (ps_add64 rfl rfl (by omega)) rfl ?_)
          refine sg_ps (ps_indexAddr (j := A.length) rfl rfl (by omega) (by omega)) rfl ?_
          repeat' (first | refine sg_wo ?_ | refine sg_ps (ps_fieldAddr rfl) rfl ?_)
          refine sg_store [] rfl rfl rfl (by rw [hcl]; omega) ?_
          rw [List.nil_append]
          repeat' (first | refine sg_wo ?_ | refine sg_ps (ps_move rfl) rfl ?_ | refine sg_ps (ps_assign rfl) rfl ?_ | refine sg_region ?_ | refine sg_nil ?_ | refine sg_then ?_ | refine sg_ps (ps_add64 rfl rfl (by omega)) rfl ?_ | refine ex_block_normal ?_)
          have hl2 : (runs X.lo (X.o.take (j + 1))).length = A.length + 1 := by rw [hst, List.length_append]; rfl
          refine ex_mid (j + 1, some ⟨g, 0, none⟩, c) ⟨by omega, by omega⟩ (.cons rfl (.cons (by rw [hl2]; rfl) (.cons rfl .nil))) (fun w hO => ?_)
          dsimp only
          rw [hl2, hst]
          refine own_mk hO hac (by simpa [maxLen] using hac2) (by rw [List.length_set]; exact hcl) ?_
          rw [← hcells_set A st l (l + 1), ← htk2, show 0 + A.length * 2 + 1 = A.length * 2 + 1 by omega, List.take_set, Int.natCast_add]
          rfl
  · obtain rfl : j = X.o.length := by omega
    rw [List.take_length]
    repeat' (first | refine sg_wo ?_ | refine sg_ps (ps_move rfl) rfl ?_ | refine sg_ps (ps_assign rfl) rfl ?_ | refine sg_seq ?_ | refine sg_region ?_ | refine sg_nil ?_ | refine sg_then ?_ | refine sg_ps (ps_fieldAddr rfl) rfl ?_ | refine sg_ps (ps_nilCheck rfl) rfl ?_ | refine sg_load 1 rfl rfl rfl rfl ?_ | refine sg_ps (ps_bin rfl rfl inferInstance) rfl ?_ | refine sg_ps (ps_len rfl) rfl ?_ | refine sg_ret ?_ | refine sg_exit ?_ | refine ex_then_exit ?_ | refine ex_block_hit ?_ | (refine sg_cond_dec rfl (fun hg => ?_) (fun hg => ?_) <;> first | (exfalso; omega) | (exact absurd rfl hg) | skip))
    exact ex_ret1 rfl rfl (a, c) rfl trivial (fun w hO => Own.back1 (RefSp.shut hX hO.front1.front2.front1))
theorem same_tri (H : HL) (a b : Option Addr) (c c' : Nat) (R : List HP) (hl : H.length ≤ 5000) (ha : Rd W R a (hcells H)) (hb : Rd W R b (hcells H)) :
    Tri Try.prog W 19 [.slice a H.length c, .slice b H.length c'] R (X := Unit) (fun _ => .bool true) (fun _ => True) (fun _ => R) := by
  refine tri_enter2 Try.func19 rfl Try.ntmps19 rfl ?_
  repeat' (first | refine sg_wo ?_ | refine sg_ps (ps_move rfl) rfl ?_ | refine sg_ps (ps_assign rfl) rfl ?_ | refine sg_seq ?_ | refine sg_region ?_ | refine sg_nil ?_ | refine sg_then ?_ | refine sg_ps (ps_bin rfl rfl inferInstance) rfl ?_ | refine sg_ps (ps_len rfl) rfl ?_ | refine sg_block ?_ | refine sg_skip ?_ | (refine sg_cond_ndec rfl (fun hg => ?_) (fun hg => ?_) <;> first | (exfalso; omega) | (exact absurd rfl hg) | skip))
  refine sg_loop (γ := Nat) (fun j => j ≤ H.length) (fun j => [(0, .slice a H.length c), (1, .slice b H.length c'), (5, i64 j)]) (fun _ => R) (fun j => H.length - j) 0 (Nat.zero_le _) (.cons rfl (.cons rfl (.cons rfl .nil))) (fun w hO => hO) ?_
  intro j hj
  by_cases hjl : j < H.length
  · refine sg_rd_some ha (hcells_ne (by omega)) fun ga go hga => ?_
    refine sg_rd_some hb (hcells_ne (by omega)) fun gb gp hgb => ?_
    have hra := Rd.at2 ha hga j hjl
    have hrb := Rd.at2 hb hgb j hjl
    subst hga hgb
    generalize H[j] = g at hra hrb
    obtain ⟨gs, gl⟩ := g
    have hra0 : Rd W R (some ⟨ga, go + j * 2 + 0, none⟩) [i64 gs] := hra.at 0 (fun q u hq => by match q, hq with | 0, hq => exact hq)
    have hra1 : Rd W R (some ⟨ga, go + j * 2 + 1, none⟩) [i64 gl] := hra.at 1 (fun q u hq => by match q, hq with | 0, hq => exact hq)
    have hrb0 : Rd W R (some ⟨gb, gp + j * 2 + 0, none⟩) [i64 gs] := hrb.at 0 (fun q u hq => by match q, hq with | 0, hq => exact hq)
    have hrb1 : Rd W R (some ⟨gb, gp + j * 2 + 1, none⟩) [i64 gl] := hrb.at 1 (fun q u hq => by match q, hq with | 0, hq => exact hq)
    repeat' (first | refine sg_wo ?_ | refine sg_ps (ps_move rfl) rfl ?_ | refine sg_seq ?_ | refine sg_region ?_ | refine sg_nil ?_ | refine sg_then ?_ | refine sg_ps (ps_bin rfl rfl inferInstance) rfl ?_ | refine sg_ps (ps_len rfl) rfl ?_ | refine sg_block ?_ | refine sg_skip ?_ | (refine sg_cond_dec rfl (fun hg => ?_) (fun hg => ?_) <;> first | (exfalso; omega) | (exact absurd rfl hg) | skip))
    refine sg_drawK R [0, 1, 2, 3, 5, 6, 7, 8, 4, 9, 10, 11, 12, 13, 14, 15, 17, 18, 19, 20, 16, 21, 22, 23] (by kernel_rfl) (by kernel_rfl) (fun w hO => hO) ?_
    repeat' (first | refine sk_pure rfl rfl (ps_move rfl) rfl ?_ | refine sk_pure rfl rfl (ps_fieldAddr rfl) rfl ?_ | refine sk_pure rfl rfl (ps_indexAddr rfl rfl rfl (by omega)) rfl ?_)
    refine sk_load_rd rfl rfl hra0 rfl ?_
    skip
    refine sk_load_rd rfl rfl hrb0 rfl ?_
    repeat' (first | refine sk_pure rfl rfl (ps_move rfl) rfl ?_ | refine sk_pure rfl rfl (ps_bin rfl rfl inferInstance) rfl ?_ | refine sk_pure_g rfl rfl rfl rfl (ps_move rfl) rfl ?_ | refine sk_pure_g rfl rfl rfl rfl (ps_fieldAddr rfl) rfl ?_ | refine sk_pure_g rfl rfl rfl rfl (ps_indexAddr rfl rfl rfl (by omega)) rfl ?_ | (refine sk_ndec rfl rfl rfl rfl (fun hg => ?_) (fun hg => ?_) <;> first | (exfalso; omega) | (exact absurd rfl hg) | skip))
    refine sk_load_rd_g rfl rfl rfl rfl hra1 rfl ?_
    skip
    refine sk_load_rd_g rfl rfl rfl rfl hrb1 rfl ?_
    repeat' (first | refine sk_nil ?_ | refine sk_pure rfl rfl (ps_pick_f rfl rfl) rfl ?_ | refine sk_pure_g rfl rfl rfl rfl (ps_bin rfl rfl inferInstance) rfl ?_)
    refine sg_then ?_
    repeat' (first | refine sg_wo ?_ | refine sg_ps (ps_move rfl) rfl ?_ | refine sg_ps (ps_assign rfl) rfl ?_ | refine sg_region ?_ | refine sg_nil ?_ | refine sg_then ?_ | refine sg_ps (ps_add64 rfl rfl (by omega)) rfl ?_ | refine sg_skip ?_ | refine ex_block_normal ?_ | (refine sg_cond_ndec rfl (fun hg => ?_) (fun hg => ?_) <;> first | (exfalso; omega) | (exact absurd rfl hg) | skip))
    exact ex_mid (j + 1) ⟨by omega, by omega⟩ (.cons rfl (.cons rfl (.cons rfl .nil))) (fun w hO => hO)
  · obtain rfl : j = H.length := by omega
    repeat' (first | refine sg_wo ?_ | refine sg_ps (ps_move rfl) rfl ?_ | refine sg_ps (ps_assign rfl) rfl ?_ | refine sg_seq ?_ | refine sg_region ?_ | refine sg_nil ?_ | refine sg_then ?_ | refine sg_ps (ps_bin rfl rfl inferInstance) rfl ?_ | refine sg_ps (ps_len rfl) rfl ?_ | refine sg_ret ?_ | refine sg_exit ?_ | refine ex_then_exit ?_ | refine ex_block_hit ?_ | (refine sg_cond_dec rfl (fun hg => ?_) (fun hg => ?_) <;> first | (exfalso; omega) | (exact absurd rfl hg) | skip))
    exact ex_ret1 rfl rfl () rfl trivial (fun w hO => hO)
end Go.Proofs.Ytcchgkjcoknkcaa
