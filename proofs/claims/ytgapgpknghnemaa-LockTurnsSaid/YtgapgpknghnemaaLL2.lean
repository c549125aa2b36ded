/- LockTurns: what one owner has had, another can have after it. -/
import Derived.Test.YtgapgpknghnemaaLL1
namespace Go.Proofs.Ytgapgpknghnemaa
set_option linter.unusedVariables false
set_option linter.unusedSimpArgs false
set_option linter.unusedSectionVars false
set_option linter.unnecessarySimpa false
open Go Go.Proofs
def oneS (a : Int) (A : List Lk) : TS := if A = [] then [] else [(a, A)]
theorem oneS_len {a : Int} {A : List Lk} (h : A.length ≤ 1000) : ∀ e ∈ oneS a A, e.2.length ≤ 1000000 := by
  intro e he
  unfold oneS at he
  split at he
  · simp at he
  · simp only [List.mem_singleton] at he
    subst he; simp only; omega
theorem twoS_len {a b : Int} {A B : List Lk} (h : A.length ≤ 1000) (h2 : B.length ≤ 1000) : ∀ e ∈ oneS a A ++ oneS b B, e.2.length ≤ 1000000 := by
  intro e he
  rcases List.mem_append.1 he with he | he
  · exact oneS_len h e he
  · exact oneS_len h2 e he
theorem tryS_own {a : Int} {A l : List Lk} (ha : a ≠ 0) : tryS (oneS a A) a l = (0, oneS a (A ++ l)) := by
  unfold tryS oneS
  rw [if_neg ha]
  cases A with
  | nil =>
    cases l with
    | nil => simp [freeS]
    | cons x l => simp [freeS, addS]
  | cons y A =>
    cases l with
    | nil => simp [freeS, okS]
    | cons x l => simp [freeS, okS, addS]
theorem tryS_own1 {a : Int} {A l : List Lk} (ha : a ≠ 0) : (tryS (oneS a A) a l).1 = 0 := by rw [tryS_own ha]
theorem tryS_own2 {a : Int} {A l : List Lk} (ha : a ≠ 0) : (tryS (oneS a A) a l).2 = oneS a (A ++ l) := by rw [tryS_own ha]
theorem tryS_no1 {a : Int} {l : List Lk} (ha : a ≠ 0) : (tryS [] a l).1 = 0 := tryS_own1 (A := []) ha
theorem tryS_no2 {a : Int} {l : List Lk} (ha : a ≠ 0) : (tryS [] a l).2 = oneS a l := tryS_own2 (A := []) ha
theorem oneS_ne {a b : Int} {A : List Lk} (h : a ≠ b) : ∀ e ∈ oneS a A, e.1 ≠ b := by
  intro e he
  unfold oneS at he
  split at he
  · simp at he
  · simp only [List.mem_singleton] at he
    subst he; exact h
theorem tryS_other {a b : Int} {A l : List Lk} (hb : b ≠ 0) (hab : a ≠ b) :
    (freeS (oneS a A) b l = true ∧ (tryS (oneS a A) b l).1 = 0 ∧ (tryS (oneS a A) b l).2 = oneS a A ++ oneS b l) ∨ (freeS (oneS a A) b l = false ∧ (tryS (oneS a A) b l).1 = 9 ∧ (tryS (oneS a A) b l).2 = oneS a A ++ oneS b []) := by
  unfold tryS
  rw [if_neg hb]
  cases hf : freeS (oneS a A) b l
  · right
    exact ⟨rfl, by simp, by simp [oneS]⟩
  · left
    rw [if_pos rfl]
    refine ⟨rfl, rfl, ?_⟩
    dsimp only
    by_cases hl : l = []
    · subst hl; simp [oneS]
    · rw [if_neg hl, addS_new (oneS_ne hab)]
      simp [oneS, hl]
theorem heldS_two {a b : Int} {A B : List Lk} (hab : a ≠ b) : heldS (oneS a A ++ oneS b B) b = B := by
  by_cases hB : B = []
  · subst hB
    have : oneS b [] = [] := rfl
    rw [this, List.append_nil, heldS_no (oneS_ne hab)]
  · have : oneS b B = (b, B) :: [] := by simp [oneS, hB]
    rw [this, heldS_at (oneS_ne hab)]
theorem relS_two {a b : Int} {A B : List Lk} (hab : a ≠ b) : (if (heldS (oneS a A ++ oneS b B) b).length = 0 then oneS a A ++ oneS b B else relS (oneS a A ++ oneS b B) b) = oneS a A := by
  rw [heldS_two hab]
  by_cases hB : B = []
  · subst hB
    exact List.append_nil _
  · have : oneS b B = (b, B) :: [] := by simp [oneS, hB]
    rw [if_neg (by cases B <;> simp_all), this, relS_at (oneS_ne hab), List.append_nil]
theorem freeS_two {a b : Int} {A B l : List Lk} : freeS (oneS a A ++ oneS b B) b l = freeS (oneS a A) b l := by
  unfold freeS
  rw [List.all_append]
  have : (oneS b B).all (fun e => okS e b l) = true := by
    rw [List.all_eq_true]
    intro e he
    unfold oneS at he
    split at he
    · simp at he
    · simp only [List.mem_singleton] at he
      subst he; simp [okS]
  rw [this, Bool.and_true]
theorem held_one {a : Int} {A : List Lk} : heldS (oneS a A) a = A := by
  unfold oneS
  split
  · rename_i h; rw [h]; rfl
  · simp [heldS]
theorem rel_one {a : Int} {A : List Lk} : (if (heldS (oneS a A) a).length = 0 then oneS a A else relS (oneS a A) a) = [] := by
  rw [held_one]
  unfold oneS
  cases A with
  | nil => rfl
  | cons x A => simp [relS]
set_option maxRecDepth 20000
set_option maxHeartbeats 4000000
attribute [local irreducible] SG WC WO W1 WD WK PS Rd Tri Exit.then Exit.inBlock bodyPost calmQ Mid sadd
variable {W : World} {n : Nat} {F : Fr} {L : List HP} {G : Act → World → Prop}
theorem lockTurns_tri (l k : List Lk) (la ka : Option Addr) (lc kc : Nat) (a b : Int) (hl : RdO W la (lcells l)) (hk : RdO W ka (lcells k)) :
    Tri Try.prog W 4 [.slice la l.length lc, .slice ka k.length kc, u64 a, u64 b] [old W] (X := Unit) (fun _ => .bool true) (fun _ => True) (fun _ => [old W]) := by
  refine tri_enter4 Try.func4 rfl Try.ntmps4 rfl ?_
  repeat' (first | refine sg_wo ?_ | refine sg_ps (ps_assign rfl) rfl ?_ | refine sg_seq ?_ | refine sg_region ?_ | refine sg_nil ?_ | refine sg_then ?_)
  refine sg_call (awake_tri _) rfl rfl (fun _ _ => ?_)
  repeat' (first | refine sg_wo ?_ | refine sg_ps (ps_move rfl) rfl ?_ | refine sg_ps (ps_assign rfl) rfl ?_ | refine sg_seq ?_ | refine sg_region ?_ | refine sg_nil ?_ | refine sg_then ?_ | refine sg_ps (ps_bin rfl rfl inferInstance) rfl ?_ | refine sg_ps (ps_not rfl) rfl ?_ | refine sg_cond_t rfl ?_ | refine sg_cond_f rfl ?_ | refine sg_guard_yes rfl rfl ?_ | refine sg_guard_nt rfl rfl rfl ?_ | refine sg_ps (ps_pick_t rfl rfl) rfl ?_ | refine sg_ps (ps_pick_f rfl rfl) rfl ?_ | refine sg_ps (ps_len rfl) rfl ?_ | refine sg_skip ?_ | refine sg_ret ?_ | refine ex_then_ret ?_ | (refine sg_guard_dec rfl rfl (fun hg => ?_) (fun hg => ?_) <;> first | (exfalso; omega) | (exact absurd rfl hg) | skip) | (refine sg_cond_dec rfl (fun hg => ?_) (fun hg => ?_) <;> first | (exfalso; omega) | (exact absurd rfl hg) | skip))
  iterate 5 exact ex_ret1 rfl rfl () rfl trivial (fun w hO => hO)
  rename_i ha hb hab hll
  have hl20 : l.length ≤ 20 := by omega
  have hk20 : k.length ≤ 20 := by omega
  have hal : (l ++ l).length ≤ 1000 := by rw [List.length_append]; omega
  have halk : (l ++ l ++ k).length ≤ 1000 := by rw [List.length_append, List.length_append]; omega
  have hlk : (l ++ k).length ≤ 1000 := by rw [List.length_append]; omega
  refine sg_call (newt_tri _) rfl rfl (fun t _ => ?_)
  repeat' (first | refine sg_wo ?_ | refine sg_ps (ps_move rfl) rfl ?_ | refine sg_ps (ps_assign rfl) rfl ?_ | refine sg_seq ?_ | refine sg_region ?_ | refine sg_nil ?_ | refine sg_then ?_)
  refine sg_buildSlice (parts := []) (vs := []) (cells := []) rfl (by omega) rfl rfl (fun _ => ?_)
  repeat' (first | refine sg_wo ?_ | refine sg_ps (ps_move rfl) rfl ?_)
  refine sg_own_mk (m := 0) (c := 0) (sz := 5) (xs := []) (Nat.le_refl _) (Nat.zero_le _) rfl rfl ?_
  refine sg_append (news := lcells l) rfl rfl rfl (lcells_len l) (lcells_one l) (hl.rd 2 rfl) (by simp only [maxLen]; omega) (by omega) fun a' c' => ?_
  rw [List.nil_append, Nat.zero_add]
  repeat' (first | refine sg_wo ?_)
  refine sg_call ((try_tri t _ a l a' c' (sown a' l.length c' 5 (lcells l) :: [old W]) (by omega) (fun e he => by simp at he) rd_tail_sown).pre (fun w hO => hO.front1)) rfl rfl (fun _ _ => ?_)
  refine sg_drop1 ?_
  rw [tryS_no1 ha, tryS_no2 ha]
  repeat' (first | refine sg_wo ?_ | refine sg_ps (ps_move rfl) rfl ?_ | refine sg_ps (ps_bin rfl rfl inferInstance) rfl ?_ | refine sg_guard_yes rfl rfl ?_)
  refine sg_buildSlice (parts := []) (vs := []) (cells := []) rfl (by omega) rfl rfl (fun _ => ?_)
  repeat' (first | refine sg_wo ?_ | refine sg_ps (ps_move rfl) rfl ?_ | refine sg_guard_yes rfl rfl ?_)
  refine sg_own_mk (m := 0) (c := 0) (sz := 5) (xs := []) (Nat.le_refl _) (Nat.zero_le _) rfl rfl ?_
  refine sg_append (news := lcells l) rfl rfl rfl (lcells_len l) (lcells_one l) (hl.rd 2 rfl) (by simp only [maxLen]; omega) (by omega) fun a' c' => ?_
  rw [List.nil_append, Nat.zero_add]
  repeat' (first | refine sg_wo ?_ | refine sg_guard_yes rfl rfl ?_)
  refine sg_call ((try_tri t _ a l a' c' (sown a' l.length c' 5 (lcells l) :: [old W]) (by omega) (oneS_len (by omega)) rd_tail_sown).pre (fun w hO => hO.front1)) rfl rfl (fun _ _ => ?_)
  refine sg_drop1 ?_
  rw [tryS_own1 ha, tryS_own2 ha]
  repeat' (first | refine sg_wo ?_ | refine sg_ps (ps_move rfl) rfl ?_ | refine sg_ps (ps_bin rfl rfl inferInstance) rfl ?_ | refine sg_guard_yes rfl rfl ?_ | refine sg_ps (ps_pick_f rfl rfl) rfl ?_)
  refine sg_buildSlice (parts := []) (vs := []) (cells := []) rfl (by omega) rfl rfl (fun _ => ?_)
  repeat' (first | refine sg_wo ?_ | refine sg_ps (ps_move rfl) rfl ?_ | refine sg_guard_yes rfl rfl ?_)
  refine sg_own_mk (m := 0) (c := 0) (sz := 5) (xs := []) (Nat.le_refl _) (Nat.zero_le _) rfl rfl ?_
  refine sg_append (news := lcells k) rfl rfl rfl (lcells_len k) (lcells_one k) (hk.rd 2 rfl) (by simp only [maxLen]; omega) (by omega) fun a' c' => ?_
  rw [List.nil_append, Nat.zero_add]
  repeat' (first | refine sg_wo ?_ | refine sg_guard_yes rfl rfl ?_)
  refine sg_call ((try_tri t _ a k a' c' (sown a' k.length c' 5 (lcells k) :: [old W]) (by omega) (oneS_len hal) rd_tail_sown).pre (fun w hO => hO.front1)) rfl rfl (fun _ _ => ?_)
  refine sg_drop1 ?_
  rw [tryS_own1 ha, tryS_own2 ha]
  repeat' (first | refine sg_wo ?_ | refine sg_ps (ps_move rfl) rfl ?_ | refine sg_seq ?_ | refine sg_region ?_ | refine sg_nil ?_ | refine sg_then ?_ | refine sg_ps (ps_bin rfl rfl inferInstance) rfl ?_ | refine sg_cond_f rfl ?_ | refine sg_guard_yes rfl rfl ?_ | refine sg_ps (ps_pick_f rfl rfl) rfl ?_ | refine sg_skip ?_)
  refine sg_buildSlice (parts := []) (vs := []) (cells := []) rfl (by omega) rfl rfl (fun _ => ?_)
  repeat' (first | refine sg_wo ?_ | refine sg_ps (ps_move rfl) rfl ?_)
  refine sg_own_mk (m := 0) (c := 0) (sz := 5) (xs := []) (Nat.le_refl _) (Nat.zero_le _) rfl rfl ?_
  refine sg_append (news := lcells l) rfl rfl rfl (lcells_len l) (lcells_one l) (hl.rd 2 rfl) (by simp only [maxLen]; omega) (by omega) fun a' c' => ?_
  rw [List.nil_append, Nat.zero_add]
  repeat' (first | refine sg_wo ?_)
  refine sg_call ((try_tri t _ b l a' c' (sown a' l.length c' 5 (lcells l) :: [old W]) (by omega) (oneS_len halk) rd_tail_sown).pre (fun w hO => hO.front1)) rfl rfl (fun _ _ => ?_)
  refine sg_drop1 ?_
  rcases tryS_other (A := l ++ l ++ k) (l := l) hb hab with ⟨hf, ht, ht2⟩ | ⟨hf, ht, ht2⟩
  all_goals rw [ht, ht2]
  all_goals (
    repeat' (first | refine sg_wo ?_ | refine sg_ps (ps_move rfl) rfl ?_ | refine sg_ps (ps_assign rfl) rfl ?_ | refine sg_seq ?_ | refine sg_region ?_ | refine sg_nil ?_ | refine sg_then ?_)
    refine sg_buildSlice (parts := []) (vs := []) (cells := []) rfl (by omega) rfl rfl (fun _ => ?_)
    repeat' (first | refine sg_wo ?_ | refine sg_ps (ps_move rfl) rfl ?_)
    refine sg_own_mk (m := 0) (c := 0) (sz := 5) (xs := []) (Nat.le_refl _) (Nat.zero_le _) rfl rfl ?_
    refine sg_append (news := lcells l) rfl rfl rfl (lcells_len l) (lcells_one l) (hl.rd 2 rfl) (by simp only [maxLen]; omega) (by omega) fun a' c' => ?_
    rw [List.nil_append, Nat.zero_add]
    repeat' (first | refine sg_wo ?_)
    refine sg_call ((free_tri t _ b l a' c' (sown a' l.length c' 5 (lcells l) :: [old W]) (by omega) rd_tail_sown).pre (fun w hO => hO.front1)) rfl rfl (fun _ _ => ?_)
    refine sg_drop1 ?_
    rw [freeS_two, hf]
    repeat' (first | refine sg_wo ?_ | refine sg_ps (ps_move rfl) rfl ?_ | refine sg_seq ?_ | refine sg_region ?_ | refine sg_nil ?_ | refine sg_then ?_ | refine sg_ps (ps_bin rfl rfl inferInstance) rfl ?_ | refine sg_cond_f rfl ?_ | refine sg_guard_nf rfl rfl rfl ?_ | refine sg_ps (ps_pick_f rfl rfl) rfl ?_ | refine sg_skip ?_)
    refine sg_call (release_tri t _ b _ (twoS_len halk (by first | omega | exact Nat.zero_le _))) rfl rfl (fun _ _ => ?_)
    rw [relS_two hab]
    repeat' (first | refine sg_wo ?_ | refine sg_ps (ps_move rfl) rfl ?_ | refine sg_seq ?_ | refine sg_region ?_ | refine sg_nil ?_ | refine sg_then ?_ | refine sg_ps (ps_add64 rfl rfl (by omega)) rfl ?_ | refine sg_ps (ps_bin rfl rfl inferInstance) rfl ?_ | refine sg_cond_f rfl ?_ | refine sg_guard_yes rfl rfl ?_ | refine sg_guard_nf rfl rfl rfl ?_ | refine sg_ps (ps_pick_f rfl rfl) rfl ?_ | refine sg_ps (ps_len rfl) rfl ?_ | refine sg_skip ?_ | (refine sg_guard_dec rfl rfl (fun hg => ?_) (fun hg => ?_) <;> first | (exfalso; omega) | (exact absurd rfl hg) | skip))
    skip)
  all_goals first
  | (refine sg_call (release_tri t _ a _ (oneS_len halk)) rfl rfl (fun _ _ => ?_)
     rw [rel_one, held_one, if_neg (by rw [List.length_append, List.length_append]; omega)])
  | (have e0 : oneS a (l ++ l ++ k) = [] := by
       have h1 : l = [] := List.eq_nil_of_length_eq_zero (by omega)
       have h2 : k = [] := List.eq_nil_of_length_eq_zero (by omega)
       subst h1 h2; rfl
     rw [e0])
  all_goals (
    repeat' (first | refine sg_wo ?_ | refine sg_ps (ps_move rfl) rfl ?_ | refine sg_seq ?_ | refine sg_region ?_ | refine sg_nil ?_ | refine sg_then ?_ | refine sg_ps (ps_bin rfl rfl inferInstance) rfl ?_ | refine sg_cond_f rfl ?_ | refine sg_guard_yes rfl rfl ?_ | refine sg_ps (ps_pick_t rfl rfl) rfl ?_ | refine sg_skip ?_)
    refine sg_buildSlice (parts := []) (vs := []) (cells := []) rfl (by omega) rfl rfl (fun _ => ?_)
    repeat' (first | refine sg_wo ?_ | refine sg_ps (ps_move rfl) rfl ?_)
    refine sg_own_mk (m := 0) (c := 0) (sz := 5) (xs := []) (Nat.le_refl _) (Nat.zero_le _) rfl rfl ?_
    refine sg_append (news := lcells l) rfl rfl rfl (lcells_len l) (lcells_one l) (hl.rd 2 rfl) (by simp only [maxLen]; omega) (by omega) fun a' c' => ?_
    rw [show ([] : List Value) ++ lcells l = lcells l from rfl, Nat.zero_add]
    repeat' (first | refine sg_wo ?_ | refine sg_ps (ps_move rfl) rfl ?_)
    refine sg_append (news := lcells k) rfl rfl rfl (lcells_len k) (lcells_one k) (hk.rd 2 rfl) (by simp only [maxLen]; omega) (by omega) fun a2 c2 => ?_
    rw [← lcells_app, ← List.length_append]
    repeat' (first | refine sg_wo ?_)
    refine sg_call ((try_tri t _ b (l ++ k) a2 c2 (sown a2 (l ++ k).length c2 5 (lcells (l ++ k)) :: [old W]) (by omega) (fun e he => by simp at he) rd_tail_sown).pre (fun w hO => hO.front1)) rfl rfl (fun _ _ => ?_)
    refine sg_drop1 ?_
    rw [tryS_no1 hb, tryS_no2 hb]
    repeat' (first | refine sg_wo ?_ | refine sg_ps (ps_move rfl) rfl ?_ | refine sg_ps (ps_bin rfl rfl inferInstance) rfl ?_ | refine sg_guard_yes rfl rfl ?_)
    refine sg_call (held_tri t _ b _ (oneS_len hlk)) rfl rfl (fun x1 _ => ?_)
    rw [held_one]
    repeat' (first | refine sg_wo ?_ | refine sg_ps (ps_move rfl) rfl ?_ | refine sg_ps (ps_assign rfl) rfl ?_ | refine sg_nil ?_ | refine sg_then ?_ | refine sg_ps (ps_add64 rfl rfl (by omega)) rfl ?_ | refine sg_ps (ps_bin rfl rfl inferInstance) rfl ?_ | refine sg_guard_yes rfl rfl ?_ | refine sg_guard_nf rfl rfl rfl ?_ | refine sg_ps (ps_pick_t rfl rfl) rfl ?_ | refine sg_ps (ps_pick_f rfl rfl) rfl ?_ | refine sg_ps (ps_len rfl) rfl ?_ | refine sg_ret ?_ | (refine sg_guard_dec rfl rfl (fun hg => ?_) (fun hg => ?_) <;> first | (exfalso; omega) | (exact absurd rfl hg) | skip))
    refine sg_call ((held_tri t _ a (sown x1.1 (l ++ k).length x1.2 5 (lcells (l ++ k)) :: [old W]) (oneS_len hlk)).pre (fun w hO => hO.front1)) rfl rfl (fun x2 _ => ?_)
    rw [heldS_no (oneS_ne fun h => hab h.symm)]
    repeat' (first | refine sg_wo ?_ | refine sg_ps (ps_assign rfl) rfl ?_ | refine sg_nil ?_ | refine sg_then ?_ | refine sg_ps (ps_bin rfl rfl inferInstance) rfl ?_ | refine sg_guard_yes rfl rfl ?_ | refine sg_ps (ps_pick_t rfl rfl) rfl ?_ | refine sg_ps (ps_len rfl) rfl ?_ | refine sg_ret ?_)
    all_goals first
      | exact ex_ret1 rfl rfl () rfl trivial (fun w hO => hO.tail.tail.tail)
      | (exfalso; have e3 : (l ++ k).length = l.length + k.length := List.length_append; omega))
theorem lockTurns_opened (W : World) (vs : List Value) (h : Opens Try.prog W Try.f4.params.toList vs) :
    Tri Try.prog W 4 vs [old W] (X := Unit) (fun _ => .bool true) (fun _ => True) (fun _ => [old W]) := by
  obtain ⟨a1, c1, vs, rfl, e1, h⟩ := Opens.cons (RT.slice 5 56 Try.underlying31 (by kernel_rfl) (by kernel_rfl) (RT.struct (tot := 5) Try.underlying26 (by kernel_rfl) (RF.cons 1 (RT.int .i64 Try.underlying3) rfl (by kernel_rfl) (RF.cons 3 (RT.struct (tot := 3) Try.underlying24 (by kernel_rfl) (RF.cons 1 (RT.str Try.underlying9) rfl (by kernel_rfl) (RF.cons 1 (RT.str Try.underlying9) rfl (by kernel_rfl) (RF.cons 1 (RT.bool Try.underlying4) rfl (by kernel_rfl) (RF.nil rfl))))) rfl (by kernel_rfl) (RF.cons 1 (RT.bool Try.underlying4) rfl (by kernel_rfl) (RF.nil rfl)))))) h
  obtain ⟨a2, c2, vs, rfl, e2, h⟩ := Opens.cons (RT.slice 5 56 Try.underlying31 (by kernel_rfl) (by kernel_rfl) (RT.struct (tot := 5) Try.underlying26 (by kernel_rfl) (RF.cons 1 (RT.int .i64 Try.underlying3) rfl (by kernel_rfl) (RF.cons 3 (RT.struct (tot := 3) Try.underlying24 (by kernel_rfl) (RF.cons 1 (RT.str Try.underlying9) rfl (by kernel_rfl) (RF.cons 1 (RT.str Try.underlying9) rfl (by kernel_rfl) (RF.cons 1 (RT.bool Try.underlying4) rfl (by kernel_rfl) (RF.nil rfl))))) rfl (by kernel_rfl) (RF.cons 1 (RT.bool Try.underlying4) rfl (by kernel_rfl) (RF.nil rfl)))))) h
  obtain ⟨a3, c3, vs, rfl, e3, h⟩ := Opens.cons (RT.int .u64 Try.underlying27) h
  obtain ⟨a4, c4, vs, rfl, e4, h⟩ := Opens.cons (RT.int .u64 Try.underlying27) h
  obtain rfl := Opens.nil h
  obtain ⟨rfl, _⟩ := e3
  obtain ⟨rfl, _⟩ := e4
  obtain ⟨l, la, lc, rfl, _, hl⟩ := locks_of e1
  obtain ⟨k, ka, kc, rfl, _, hk⟩ := locks_of e2
  exact lockTurns_tri l k la ka lc kc a3 a4 hl hk
set_option maxRecDepth 100000 in
theorem lockTurns_lifted (os : Os) (started : os.Started) (H : Type) (enc : TypeId × Value → H) :
    ReturnsInHanded {} Try.checked os 4 .any (Rows.lockTurnsSpec.pre6 enc Try.prog Try.f4 Rows.lockTurnsRow.domain false) (Rows.lockTurnsSpec.post enc Try.prog Try.f4 false true false false) :=
  lift (tb := 4) started law_own law_laidOut (by kernel_rfl) Try.func4
    (ChangeSpec.witness6 (enc := enc) (C := Try.checked) false ⟨#[], #[.slice none 0 0, .slice none 0 0, .int .u64 0, .int .u64 0], []⟩ 8 (by kernel_rfl) (by kernel_rfl) (by kernel_rfl) (by kernel_rfl))
    rfl rfl Try.underlying4 (by kernel_rfl) (fun ds h => by
      match ds, h with
      | [d1, d2, d3, d4], _ => rfl) lockTurns_opened
theorem lockTurns_over : Rows.lockTurnsRow.holds Try.pinned (OpenSpec.ofChange Rows.lockTurnsSpec) :=
  OpenClaim.holds_of_wide 4 Try.f4 rfl rfl rfl rfl rfl rfl rfl ⟨rfl, rfl, rfl, rfl, rfl⟩ rfl rfl rfl rfl rfl (by kernel_rfl) Try.func4 (by kernel_rfl)
    (of_decide_eq_true (by kernel_rfl)) (by unfold Func.isWrapper; first | (rw [if_pos (by decide +kernel)]; kernel_rfl) | (rw [if_neg (by decide +kernel)]; exact ⟨rfl, rfl⟩))
    (fun os started H enc _ => lockTurns_lifted os started H enc)
theorem lockTurns_proved : Rows.LockTurnsSaid := lockTurns_over
#print axioms lockTurns_proved
end Go.Proofs.Ytgapgpknghnemaa
