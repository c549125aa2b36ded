/- LockClash, the plain law: no key lies in two owners' locks of which one is own. -/
import Derived.Test.YtgapgpknghnemaaLLO
import Derived.Test.YtgapgpknghnemaaOW
namespace Go.Proofs.Ytgapgpknghnemaa
set_option linter.unusedVariables false
set_option linter.unusedSimpArgs false
set_option linter.unusedSectionVars false
set_option linter.unnecessarySimpa false
open Go Go.Proofs
theorem bl_trans : ∀ a b c : List UInt8, bl a b = true → bl b c = true → bl a c = true
  | _, [], _, h1, _ => by simp [bl, Op.bytesLess] at h1
  | _, _ :: _, [], _, h2 => by simp [bl, Op.bytesLess] at h2
  | [], _ :: _, _ :: _, _, _ => rfl
  | x :: a, y :: b, z :: c, h1, h2 => by
    have ih := bl_trans a b c
    simp only [bl, Op.bytesLess, Bool.or_eq_true, Bool.and_eq_true, decide_eq_true_eq, beq_iff_eq, UInt8.lt_iff_toNat_lt, ← UInt8.toNat_inj] at h1 h2 ih ⊢
    rcases h1 with h1 | ⟨h1, h1'⟩ <;> rcases h2 with h2 | ⟨h2, h2'⟩
    · left; omega
    · left; omega
    · left; omega
    · exact .inr ⟨by omega, ih h1' h2'⟩
theorem bl_tot : ∀ a b : List UInt8, bl a b = true ∨ a = b ∨ bl b a = true
  | [], [] => .inr (.inl rfl)
  | [], _ :: _ => .inl rfl
  | _ :: _, [] => .inr (.inr rfl)
  | x :: a, y :: b => by
    have ih := bl_tot a b
    simp only [bl, Op.bytesLess, Bool.or_eq_true, Bool.and_eq_true, decide_eq_true_eq, beq_iff_eq, UInt8.lt_iff_toNat_lt, List.cons.injEq] at ih ⊢
    by_cases h1 : x.toNat < y.toNat
    · exact .inl (.inl h1)
    by_cases h2 : y.toNat < x.toNat
    · exact .inr (.inr (.inl h2))
    have h3 : x = y := UInt8.toNat_inj.1 (by omega)
    subst h3
    rcases ih with ih | ih | ih
    · exact .inl (.inr ⟨rfl, ih⟩)
    · exact .inr (.inl ⟨rfl, ih⟩)
    · exact .inr (.inr (.inr ⟨rfl, ih⟩))
def ble (a b : List UInt8) : Prop := bl a b = true ∨ a = b
theorem ble_trans {a b c : List UInt8} (h1 : ble a b) (h2 : ble b c) : ble a c := by
  rcases h1 with h1 | rfl
  · rcases h2 with h2 | rfl
    · exact .inl (bl_trans _ _ _ h1 h2)
    · exact .inl h1
  · exact h2
theorem ble_bl {a b c : List UInt8} (h1 : ble a b) (h2 : bl b c = true) : bl a c = true := by
  rcases h1 with h1 | rfl
  · exact bl_trans _ _ _ h1 h2
  · exact h2
theorem inS_iff {lo hi k : List UInt8} {op : Bool} : inS lo hi op k = true ↔ ble lo k ∧ (op = true ∨ bl k hi = true) := by
  simp [inS, ble]
theorem smax_l (a b : List UInt8) : ble a (smax a b) := by
  unfold smax
  split
  · exact .inl ‹_›
  · exact .inr rfl
theorem smax_r (a b : List UInt8) : ble b (smax a b) := by
  unfold smax
  split
  · exact .inr rfl
  · rcases bl_tot a b with h | h | h
    · contradiction
    · exact .inr h.symm
    · exact .inl h
theorem smax_le {a b k : List UInt8} (h1 : ble a k) (h2 : ble b k) : ble (smax a b) k := by
  unfold smax
  split
  · exact h2
  · exact h1
theorem inS_of {lo hi m k : List UInt8} {op : Bool} (h : inS lo hi op k = true) (h1 : ble lo m) (h2 : ble m k) : inS lo hi op m = true := by
  rw [inS_iff] at h ⊢
  refine ⟨h1, ?_⟩
  rcases h.2 with h | h
  · exact .inl h
  · exact .inr (ble_bl h2 h)
theorem cl_of {x y : Lk} {k : List UInt8} (hs : x.space = y.space) (ho : (x.own || y.own) = true) (h1 : inS x.lo x.hi x.op k = true) (h2 : inS y.lo y.hi y.op k = true) : cl x y = true := by
  have hm := smax_le (inS_iff.1 h1).1 (inS_iff.1 h2).1
  unfold cl meet
  rw [inS_of h1 (smax_l _ _) hm, inS_of h2 (smax_r _ _) hm, ho, hs]
  simp
structure CI (S : TS) (n : Nat) : Prop where
  no : (S.map (·.1)).Nodup
  len : S.length ≤ n
  ll : ∀ e ∈ S, e.2.length ≤ n * 20
  ap : ∀ e ∈ S, ∀ e' ∈ S, e.1 ≠ e'.1 → ∀ x ∈ e.2, ∀ y ∈ e'.2, cl x y = false ∨ cl y x = false
theorem CI.nil : CI [] 0 := ⟨List.nodup_nil, Nat.le_refl _, by simp, by simp⟩
theorem relS_sub : ∀ (S : TS) (o : Int), (relS S o).Sublist S
  | [], _ => List.Sublist.slnil
  | e :: S, o => by
    unfold relS
    split
    · exact List.sublist_cons_self ..
    · exact (relS_sub S o).cons_cons e
theorem CI.rel {S : TS} {n : Nat} (h : CI S n) (o : Int) : CI (relS S o) n :=
  have hs := relS_sub S o
  ⟨h.no.sublist (hs.map _), Nat.le_trans hs.length_le h.len, fun e he => h.ll e (hs.mem he), fun e he e' he' => h.ap e (hs.mem he) e' (hs.mem he')⟩
theorem CI.up {S : TS} {n m : Nat} (h : CI S n) (hm : n ≤ m) : CI S m :=
  ⟨h.no, by have := h.len; omega, fun e he => by have := h.ll e he; omega, h.ap⟩
theorem addS_owners {o : Int} {l : List Lk} : ∀ S : TS, (addS S o l).map (·.1) = S.map (·.1) ∨ (o ∉ S.map (·.1) ∧ (addS S o l).map (·.1) = S.map (·.1) ++ [o])
  | [] => .inr ⟨by simp, rfl⟩
  | e :: S => by
    unfold addS
    split
    · rename_i he; left; simp only [List.map_cons, he]
    · rename_i he
      rcases addS_owners (o := o) (l := l) S with h | ⟨h1, h2⟩
      · left; simp only [List.map_cons, h]
      · right
        refine ⟨?_, by simp only [List.map_cons, h2, List.cons_append]⟩
        rw [List.map_cons, List.mem_cons, not_or]
        exact ⟨fun h => he h.symm, h1⟩
theorem addS_mem {o : Int} {l : List Lk} : ∀ {S : TS} {e : Int × List Lk}, e ∈ addS S o l → e ∈ S ∨ (e.1 = o ∧ ∃ old : List Lk, e.2 = old ++ l ∧ (old = [] ∨ (o, old) ∈ S))
  | [], e, h => by
    simp only [addS, List.mem_singleton] at h
    subst h
    exact .inr ⟨rfl, [], rfl, .inl rfl⟩
  | x :: S, e, h => by
    unfold addS at h
    split at h
    · rename_i hx
      rcases List.mem_cons.1 h with rfl | h
      · exact .inr ⟨rfl, x.2, rfl, .inr (by rw [← hx]; exact List.mem_cons_self)⟩
      · exact .inl (List.mem_cons_of_mem _ h)
    · rcases List.mem_cons.1 h with rfl | h
      · exact .inl List.mem_cons_self
      · rcases addS_mem h with h | ⟨h1, old, h2, h3⟩
        · exact .inl (List.mem_cons_of_mem _ h)
        · exact .inr ⟨h1, old, h2, h3.imp id (List.mem_cons_of_mem _)⟩
theorem freeS_spec {S : TS} {o : Int} {l : List Lk} (h : freeS S o l = true) {e : Int × List Lk} (he : e ∈ S) (ho : e.1 ≠ o) {a : Lk} (ha : a ∈ l) {b : Lk} (hb : b ∈ e.2) : cl a b = false := by
  unfold freeS at h
  rw [List.all_eq_true] at h
  have h1 := h e he
  unfold okS at h1
  rw [decide_eq_false ho, Bool.false_or, List.all_eq_true] at h1
  have h2 := h1 a ha
  rw [Bool.not_eq_true', List.any_eq_false] at h2
  exact Bool.not_eq_true _ |>.mp (h2 b hb)
theorem CI.tri {S : TS} {n : Nat} (h : CI S n) {o : Int} {l : List Lk} (hl : l.length ≤ 20) : CI (tryS S o l).2 (n + 1) := by
  unfold tryS
  split
  · exact h.up (by omega)
  split
  · rename_i hf
    dsimp only
    split
    · exact h.up (by omega)
    refine ⟨?_, ?_, fun e he => ?_, fun e he e' he' hne x hx y hy => ?_⟩
    · rcases addS_owners (o := o) (l := l) S with h1 | ⟨h1, h2⟩
      · rw [h1]; exact h.no
      · rw [h2]
        exact List.nodup_append.2 ⟨h.no, by simp, fun a ha b hb => by
          simp only [List.mem_singleton] at hb
          subst hb; rintro rfl; exact h1 ha⟩
    · have h0 := h.len
      have h1 : (addS S o l).length = ((addS S o l).map (·.1)).length := (List.length_map _).symm
      rcases addS_owners (o := o) (l := l) S with h2 | ⟨_, h2⟩
      · rw [h1, h2, List.length_map]; omega
      · rw [h1, h2, List.length_append, List.length_map]; simp only [List.length_singleton]; omega
    · rcases addS_mem he with he | ⟨_, old, h2, h3⟩
      · have := h.ll e he; omega
      · rw [h2, List.length_append]
        rcases h3 with rfl | h3
        · simp only [List.length_nil]; omega
        · have := h.ll _ h3
          dsimp only at this
          omega
    · rcases addS_mem he with he | ⟨e1, old, h2, h3⟩ <;> rcases addS_mem he' with he' | ⟨e1', old', h2', h3'⟩
      · exact h.ap e he e' he' hne x hx y hy
      · rw [h2', List.mem_append] at hy
        rcases hy with hy | hy
        · rcases h3' with rfl | h3'
          · simp at hy
          · exact h.ap e he _ h3' (by rw [e1'] at hne; exact hne) x hx y hy
        · exact .inr (freeS_spec hf he (by rw [e1'] at hne; exact hne) hy hx)
      · rw [h2, List.mem_append] at hx
        rcases hx with hx | hx
        · rcases h3 with rfl | h3
          · simp at hx
          · exact h.ap _ h3 e' he' (by rw [e1] at hne; exact hne) x hx y hy
        · exact .inl (freeS_spec hf he' (by rw [e1] at hne; exact fun h => hne h.symm) hx hy)
      · exact absurd (e1.trans e1'.symm) hne
  · exact h.up (by omega)
theorem heldS_mem {o : Int} : ∀ {S : TS} {x : Lk}, x ∈ heldS S o → ∃ e ∈ S, e.1 = o ∧ x ∈ e.2
  | [], x, h => by simp [heldS] at h
  | e :: S, x, h => by
    unfold heldS at h
    split at h
    · exact ⟨e, List.mem_cons_self, ‹_›, h⟩
    · obtain ⟨e', h1, h2⟩ := heldS_mem h
      exact ⟨e', List.mem_cons_of_mem _ h1, h2⟩
theorem heldS_len {k : Nat} {o : Int} : ∀ {S : TS}, (∀ e ∈ S, e.2.length ≤ k) → (heldS S o).length ≤ k
  | [], _ => Nat.zero_le _
  | e :: S, h => by
    unfold heldS
    split
    · exact h e List.mem_cons_self
    · exact heldS_len fun e he => h e (List.mem_cons_of_mem _ he)
theorem CI.key {S : TS} {n : Nat} (h : CI S n) {a b : Int} (hab : a ≠ b) {x y : Lk} (hx : x ∈ heldS S a) (hy : y ∈ heldS S b) {k : List UInt8} (hs : x.space = y.space) (ho : x.own = true) (h1 : inS x.lo x.hi x.op k = true) (h2 : inS y.lo y.hi y.op k = true) : False := by
  obtain ⟨e, he, rfl, hx'⟩ := heldS_mem hx
  obtain ⟨e', he', rfl, hy'⟩ := heldS_mem hy
  rcases h.ap e he e' he' hab x hx' y hy' with h3 | h3
  · rw [cl_of hs (by rw [ho]; rfl) h1 h2] at h3; cases h3
  · rw [cl_of hs.symm (by rw [ho, Bool.or_true]) h2 h1] at h3; cases h3
theorem sortL_perm_self (l : List Int) : (sortL l).Perm l := List.mergeSort_perm l _
theorem CI.own_ne {S : TS} {n : Nat} (h : CI S n) {i j : Nat} (hi : i < (sortL (S.map (·.1))).length) (hj : j < (sortL (S.map (·.1))).length) (hij : i ≠ j) : (sortL (S.map (·.1)))[i] ≠ (sortL (S.map (·.1)))[j] := fun he =>
  hij (List.getElem_inj ((sortL_perm_self _).nodup_iff.2 h.no) |>.1 he)
theorem tryS_again {S : TS} {o : Int} {l : List Lk} (h : (tryS S o l).1 = 9) : (tryS [] o l).1 = 0 := by
  unfold tryS at h ⊢
  by_cases ho : o = 0
  · rw [if_pos ho] at h; cases h
  · rw [if_neg ho]
    rw [show freeS [] o l = true from rfl]
    rfl
theorem tryS_codes (S : TS) (o : Int) (l : List Lk) : (tryS S o l).1 = 0 ∨ (tryS S o l).1 = 1 ∨ (tryS S o l).1 = 9 := by
  unfold tryS
  split
  · exact .inr (.inl rfl)
  · split
    · exact .inl rfl
    · exact .inr (.inr rfl)
end Go.Proofs.Ytgapgpknghnemaa
