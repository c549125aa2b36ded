/- Plain law of the spaces: lists of open sectors and their stretches. -/
import Derived.WalkKit
namespace Go.Proofs.Ytcchgkjcoknkcaa
set_option linter.unusedVariables false
set_option linter.unusedSimpArgs false
set_option linter.unusedSectionVars false
set_option linter.unnecessarySimpa false
abbrev HL := List (Nat × Nat)
def memH (H : HL) (x : Nat) : Prop := ∃ h ∈ H, h.1 ≤ x ∧ x < h.1 + h.2
def Norm (lo hi : Nat) (H : HL) : Prop := (∀ h ∈ H, lo ≤ h.1 ∧ 1 ≤ h.2 ∧ h.1 + h.2 ≤ hi) ∧ H.Pairwise (fun a b => a.1 + a.2 < b.1)
theorem memH_nil {x : Nat} : memH [] x ↔ False := by simp [memH]
theorem memH_cons {h : Nat × Nat} {H : HL} {x : Nat} : memH (h :: H) x ↔ (h.1 ≤ x ∧ x < h.1 + h.2) ∨ memH H x := by simp [memH]
theorem memH_append {A B : HL} {x : Nat} : memH (A ++ B) x ↔ memH A x ∨ memH B x := by
  unfold memH; constructor
  · rintro ⟨h, hm, hx⟩
    rcases List.mem_append.1 hm with hm | hm
    · exact .inl ⟨h, hm, hx⟩
    · exact .inr ⟨h, hm, hx⟩
  · rintro (⟨h, hm, hx⟩ | ⟨h, hm, hx⟩)
    · exact ⟨h, List.mem_append_left _ hm, hx⟩
    · exact ⟨h, List.mem_append_right _ hm, hx⟩
theorem norm_nil {lo hi : Nat} : Norm lo hi [] := ⟨by simp, by simp⟩
theorem norm_cons {lo hi : Nat} {h : Nat × Nat} {H : HL} : Norm lo hi (h :: H) ↔ (lo ≤ h.1 ∧ 1 ≤ h.2 ∧ h.1 + h.2 ≤ hi) ∧ Norm lo hi H ∧ ∀ b ∈ H, h.1 + h.2 < b.1 := by
  unfold Norm
  rw [List.pairwise_cons, List.forall_mem_cons]
  constructor
  · rintro ⟨⟨a, b⟩, c, d⟩; exact ⟨a, ⟨b, d⟩, c⟩
  · rintro ⟨a, ⟨b, d⟩, c⟩; exact ⟨⟨a, b⟩, c, d⟩
theorem norm_append {lo hi : Nat} {A B : HL} : Norm lo hi (A ++ B) ↔ Norm lo hi A ∧ Norm lo hi B ∧ ∀ a ∈ A, ∀ b ∈ B, a.1 + a.2 < b.1 := by
  unfold Norm
  rw [List.pairwise_append]
  constructor
  · rintro ⟨a, b, c, d⟩
    exact ⟨⟨fun h hh => a h (List.mem_append_left _ hh), b⟩, ⟨fun h hh => a h (List.mem_append_right _ hh), c⟩, d⟩
  · rintro ⟨⟨a, b⟩, ⟨c, d⟩, e⟩
    exact ⟨fun h hh => (List.mem_append.1 hh).elim (a h) (c h), b, d, e⟩
theorem norm_one {lo hi : Nat} {h : Nat × Nat} (h1 : lo ≤ h.1) (h2 : 1 ≤ h.2) (h3 : h.1 + h.2 ≤ hi) : Norm lo hi [h] := norm_cons.2 ⟨⟨h1, h2, h3⟩, norm_nil, by simp⟩
theorem Norm.gt {lo hi : Nat} {h : Nat × Nat} {H : HL} {x : Nat} (hn : Norm lo hi (h :: H)) (hx : memH H x) : h.1 + h.2 < x := by
  obtain ⟨b, hb, h1, _⟩ := hx
  have := (norm_cons.1 hn).2.2 b hb
  omega
theorem Norm.head {lo hi : Nat} {h : Nat × Nat} {H : HL} (hn : Norm lo hi (h :: H)) : memH (h :: H) h.1 := by
  have := (norm_cons.1 hn).1
  exact memH_cons.2 (.inl ⟨by omega, by omega⟩)
theorem Norm.ge {lo hi : Nat} {h : Nat × Nat} {H : HL} {x : Nat} (hn : Norm lo hi (h :: H)) (hx : memH (h :: H) x) : h.1 ≤ x := by
  rcases memH_cons.1 hx with h1 | h1
  · exact h1.1
  · have := hn.gt h1; omega
theorem Norm.uniq {lo hi : Nat} : ∀ {H1 H2 : HL}, Norm lo hi H1 → Norm lo hi H2 → (∀ x, memH H1 x ↔ memH H2 x) → H1 = H2
  | [], [], _, _, _ => rfl
  | [], h :: t, _, n2, hx => by have := (hx h.1).2 n2.head; simp [memH] at this
  | h :: t, [], n1, _, hx => by have := (hx h.1).1 n1.head; simp [memH] at this
  | h1 :: t1, h2 :: t2, n1, n2, hx => by
    have a1 := n2.ge ((hx h1.1).1 n1.head)
    have a2 := n1.ge ((hx h2.1).2 n2.head)
    have b1 := (norm_cons.1 n1).1
    have b2 := (norm_cons.1 n2).1
    have c : h1.2 = h2.2 := by
      rcases Nat.lt_trichotomy h1.2 h2.2 with h | h | h
      · have h3 : memH (h2 :: t2) (h1.1 + h1.2) := memH_cons.2 (.inl ⟨by omega, by omega⟩)
        rcases memH_cons.1 ((hx _).2 h3) with h4 | h4
        · omega
        · have := n1.gt h4; omega
      · exact h
      · have h3 : memH (h1 :: t1) (h2.1 + h2.2) := memH_cons.2 (.inl ⟨by omega, by omega⟩)
        rcases memH_cons.1 ((hx _).1 h3) with h4 | h4
        · omega
        · have := n2.gt h4; omega
    have e : h1 = h2 := Prod.ext (by omega) c
    subst e
    have : t1 = t2 := by
      refine Norm.uniq (norm_cons.1 n1).2.1 (norm_cons.1 n2).2.1 (fun x => ⟨fun h => ?_, fun h => ?_⟩)
      · have g := n1.gt h
        rcases memH_cons.1 ((hx x).1 (memH_cons.2 (.inr h))) with h4 | h4
        · omega
        · exact h4
      · have g := n2.gt h
        rcases memH_cons.1 ((hx x).2 (memH_cons.2 (.inr h))) with h4 | h4
        · omega
        · exact h4
    rw [this]

/-- The stretches of open sectors; p is the first sector's number. -/
def runs (p : Nat) : List Bool → HL
  | [] => []
  | false :: t => runs (p + 1) t
  | true :: t => match runs (p + 1) t with
    | [] => [(p, 1)]
    | (s, l) :: r => if s = p + 1 then (p, l + 1) :: r else (p, 1) :: (s, l) :: r
theorem get_cons_sub {α : Type} {a : α} {t : List α} {x p : Nat} (h : p < x) : (a :: t)[x - p]? = t[x - (p + 1)]? := by
  rw [show x - p = (x - (p + 1)) + 1 by omega]; rfl
theorem Norm.wide {lo hi lo2 hi2 : Nat} {H : HL} (h : Norm lo hi H) (h1 : lo2 ≤ lo) (h2 : hi ≤ hi2) : Norm lo2 hi2 H :=
  ⟨fun x hx => by have := h.1 x hx; omega, h.2⟩
theorem runs_spec : ∀ (o : List Bool) (p : Nat), Norm p (p + o.length) (runs p o) ∧ ∀ x, memH (runs p o) x ↔ (p ≤ x ∧ o[x - p]? = some true)
  | [], p => ⟨norm_nil, fun x => by simp [runs, memH]⟩
  | false :: t, p => by
    obtain ⟨h1, h2⟩ := runs_spec t (p + 1)
    refine ⟨h1.wide (by omega) (by simp; omega), fun x => ?_⟩
    show memH (runs (p + 1) t) x ↔ _
    rw [h2]
    rcases Nat.lt_trichotomy x p with h | h | h
    · constructor <;> (intro ⟨a, _⟩; omega)
    · subst h; constructor
      · intro ⟨a, _⟩; omega
      · simp
    · rw [get_cons_sub h]
      constructor <;> (intro ⟨a, b⟩; exact ⟨by omega, b⟩)
  | true :: t, p => by
    obtain ⟨h1, h2⟩ := runs_spec t (p + 1)
    have key : ∀ x, (p ≤ x ∧ (true :: t)[x - p]? = some true) ↔ x = p ∨ memH (runs (p + 1) t) x := by
      intro x
      rw [h2]
      rcases Nat.lt_trichotomy x p with h | h | h
      · constructor
        · intro ⟨a, _⟩; omega
        · rintro (a | ⟨a, _⟩) <;> omega
      · subst h; simp
      · rw [get_cons_sub h]
        constructor
        · intro ⟨_, b⟩; exact .inr ⟨by omega, b⟩
        · rintro (a | ⟨_, b⟩)
          · omega
          · exact ⟨by omega, b⟩
    simp only [key]
    rw [runs]
    split
    · rename_i e
      rw [e]
      refine ⟨norm_one (by simp) (by simp) (by simp), fun x => ?_⟩
      rw [memH_cons]
      simp only [memH_nil, or_false]
      show (p ≤ x ∧ x < p + 1) ↔ _
      omega
    · rename_i s l r e
      rw [e] at h1 ⊢
      obtain ⟨⟨g1, g2, g3⟩, g4, g5⟩ := norm_cons.1 h1
      simp only at g1 g2 g3 g5
      simp only [List.length_cons]
      split
      · rename_i es
        subst es
        refine ⟨norm_cons.2 ⟨⟨by simp, by simp, by simp; omega⟩, g4.wide (by omega) (by omega), fun b hb => by have := g5 b hb; simp; omega⟩, fun x => ?_⟩
        rw [memH_cons, memH_cons]
        show ((p ≤ x ∧ x < p + (l + 1)) ∨ _) ↔ (x = p ∨ (p + 1 ≤ x ∧ x < p + 1 + l) ∨ _)
        constructor
        · rintro (h | h)
          · by_cases hp : x = p
            · exact .inl hp
            · exact .inr (.inl ⟨by omega, by omega⟩)
          · exact .inr (.inr h)
        · rintro (h | h | h)
          · exact .inl ⟨by omega, by omega⟩
          · exact .inl ⟨by omega, by omega⟩
          · exact .inr h
      · rename_i es
        refine ⟨norm_cons.2 ⟨⟨by simp, by simp, by simp⟩, h1.wide (by omega) (by omega), fun b hb => ?_⟩, fun x => ?_⟩
        · rcases List.mem_cons.1 hb with rfl | hb
          · simp; omega
          · have := g5 b hb; simp; omega
        · rw [memH_cons]
          show ((p ≤ x ∧ x < p + 1) ∨ _) ↔ _
          constructor
          · rintro (h | h)
            · exact .inl (by omega)
            · exact .inr h
          · rintro (h | h)
            · exact .inl ⟨by omega, by omega⟩
            · exact .inr h
theorem runs_sum : ∀ (o : List Bool) (p : Nat), ((runs p o).map (·.2)).sum = o.count true
  | [], p => rfl
  | false :: t, p => by
    show ((runs (p + 1) t).map (·.2)).sum = _
    rw [runs_sum t (p + 1)]; simp
  | true :: t, p => by
    have h := runs_sum t (p + 1)
    rw [List.count_cons_self, ← h, runs]
    split
    · rename_i e; rw [e]; rfl
    · rename_i s l r e
      rw [e]
      split <;> simp <;> omega
/-- n sectors from k on turned to b. -/
def setr (o : List Bool) (k n : Nat) (b : Bool) : List Bool := o.mapIdx fun i x => if k ≤ i ∧ i < k + n then b else x
@[simp] theorem setr_len (o : List Bool) (k n : Nat) (b : Bool) : (setr o k n b).length = o.length := by simp [setr]
theorem setr_get (o : List Bool) (k n : Nat) (b : Bool) (i : Nat) : (setr o k n b)[i]? = o[i]?.map fun x => if k ≤ i ∧ i < k + n then b else x := by simp [setr]
theorem setr_mem (o : List Bool) (k n : Nat) (b : Bool) (i : Nat) (v : Bool) : (setr o k n b)[i]? = some v ↔ (k ≤ i ∧ i < k + n ∧ i < o.length ∧ v = b) ∨ (¬ (k ≤ i ∧ i < k + n) ∧ o[i]? = some v) := by
  rw [setr_get]
  by_cases h : k ≤ i ∧ i < k + n
  · simp only [h, and_self, if_true, not_true, false_and, or_false, true_and]
    cases e : o[i]? with
    | none => have := List.getElem?_eq_none_iff.1 e; simp; omega
    | some u => have := (List.getElem?_eq_some_iff.1 e).1; simp [this]; exact eq_comm
  · simp only [h, not_false_eq_true, true_and, if_false]
    constructor
    · intro h2; exact .inr (by simpa using h2)
    · rintro (⟨a, b, _⟩ | h2)
      · exact absurd ⟨a, b⟩ h
      · simpa using h2
theorem runs_lo {o : List Bool} {p : Nat} {h : Nat × Nat} (hm : h ∈ runs p o) : p ≤ h.1 ∧ 1 ≤ h.2 ∧ h.1 + h.2 ≤ p + o.length := (runs_spec o p).1.1 h hm
theorem runs_in {o : List Bool} {p x : Nat} {h : Nat × Nat} (hm : h ∈ runs p o) (h1 : h.1 ≤ x) (h2 : x < h.1 + h.2) : p ≤ x ∧ o[x - p]? = some true := ((runs_spec o p).2 x).1 ⟨h, hm, h1, h2⟩
/-- What is cut out of a stretch. -/
def cutL (s l st n : Nat) : HL := (if s < st then [(s, st - s)] else []) ++ (if st + n < s + l then [(st + n, s + l - st - n)] else [])
theorem cutL_mem {s l st n x : Nat} (h1 : s ≤ st) (h2 : st + n ≤ s + l) : memH (cutL s l st n) x ↔ (s ≤ x ∧ x < s + l) ∧ ¬ (st ≤ x ∧ x < st + n) := by
  unfold cutL
  rw [memH_append]
  split <;> split <;> simp only [memH_cons, memH_nil, or_false, false_or, false_iff] <;> omega
theorem runs_cut {p s l st n : Nat} {o : List Bool} {A B : HL} (h : runs p o = A ++ (s, l) :: B) (h1 : s ≤ st) (h2 : st + n ≤ s + l) (hn : 1 ≤ n) :
    runs p (setr o (st - p) n false) = A ++ cutL s l st n ++ B := by
  obtain ⟨n1, m1⟩ := runs_spec o p
  obtain ⟨n2, m2⟩ := runs_spec (setr o (st - p) n false) p
  rw [setr_len] at n2
  have hlo := n1.1 (s, l) (by rw [h]; simp)
  simp only at hlo
  rw [h] at n1 m1
  obtain ⟨a1, a2, a3⟩ := norm_append.1 n1
  obtain ⟨b1, b2, b3⟩ := norm_cons.1 a2
  simp only at b1 b3
  have hA : ∀ a ∈ A, a.1 + a.2 < s := fun a ha => a3 a ha (s, l) (by simp)
  refine Norm.uniq n2 ?_ (fun x => ?_)
  · rw [List.append_assoc]
    have hc : ∀ c ∈ cutL s l st n, s ≤ c.1 ∧ 1 ≤ c.2 ∧ c.1 + c.2 ≤ s + l := by
      intro c hc
      unfold cutL at hc
      rcases List.mem_append.1 hc with hc | hc
      · split at hc
        · simp at hc; subst hc; simp; omega
        · simp at hc
      · split at hc
        · simp at hc; subst hc; simp; omega
        · simp at hc
    refine norm_append.2 ⟨a1, norm_append.2 ⟨⟨fun c hcc => by have := hc c hcc; omega, ?_⟩, b2, ?_⟩, ?_⟩
    · unfold cutL
      split <;> split <;> simp
      omega
    · intro c hcc b hb
      have := hc c hcc; have := b3 b hb; omega
    · intro a ha c hcc
      have g := hA a ha
      rcases List.mem_append.1 hcc with hcc | hcc
      · have := hc c hcc; omega
      · have := b3 c hcc; omega
  · rw [m2, setr_mem, memH_append, memH_append, cutL_mem h1 h2]
    have hx := m1 x
    rw [memH_append, memH_cons] at hx
    constructor
    · rintro ⟨hp, ⟨_, _, _, hf⟩ | ⟨hn, ho⟩⟩
      · simp at hf
      · rcases hx.2 ⟨hp, ho⟩ with g | g | g
        · exact .inl (.inl g)
        · exact .inl (.inr ⟨g, by omega⟩)
        · exact .inr g
    · rintro ((g | ⟨g, g'⟩) | g)
      · obtain ⟨hp, ho⟩ := hx.1 (.inl g)
        refine ⟨hp, .inr ⟨?_, ho⟩⟩
        obtain ⟨a, ha, _, g2⟩ := g
        have := hA a ha; omega
      · obtain ⟨hp, ho⟩ := hx.1 (.inr (.inl g))
        exact ⟨hp, .inr ⟨by omega, ho⟩⟩
      · obtain ⟨hp, ho⟩ := hx.1 (.inr (.inr g))
        refine ⟨hp, .inr ⟨?_, ho⟩⟩
        obtain ⟨b, hb, g1, _⟩ := g
        have := b3 b hb; omega
/-- n sectors from k on that are all b. -/
def allB (o : List Bool) (k n : Nat) (b : Bool) : Bool := (List.range n).all fun i => o[k + i]? == some b
theorem allB_iff {o : List Bool} {k n : Nat} {b : Bool} : allB o k n b = true ↔ ∀ i, k ≤ i → i < k + n → o[i]? = some b := by
  unfold allB
  rw [List.all_eq_true]
  constructor
  · intro h i h1 h2
    have := h (i - k) (by simp; omega)
    rw [show k + (i - k) = i by omega] at this
    simpa using this
  · intro h i hi
    simp at hi
    simpa using h (k + i) (by omega) (by omega)
/-- Sectors side by side that are all open lie in one stretch. -/
theorem Norm.contig {lo hi : Nat} {H : HL} (hn : Norm lo hi H) {a : Nat} : ∀ n, 1 ≤ n → (∀ x, a ≤ x → x < a + n → memH H x) → ∃ h ∈ H, h.1 ≤ a ∧ a + n ≤ h.1 + h.2
  | 0, h, _ => by omega
  | 1, _, hx => by
    obtain ⟨h, hm, h1, h2⟩ := hx a (by omega) (by omega)
    exact ⟨h, hm, h1, by omega⟩
  | n + 2, _, hx => by
    obtain ⟨h, hm, h1, h2⟩ := Norm.contig hn (n + 1) (by omega) (fun x g1 g2 => hx x g1 (by omega))
    obtain ⟨k, km, k1, k2⟩ := hx (a + (n + 1)) (by omega) (by omega)
    by_cases he : a + (n + 2) ≤ h.1 + h.2
    · exact ⟨h, hm, h1, he⟩
    · exfalso
      have hh := hn.1 h hm
      have hk := hn.1 k km
      obtain ⟨i, hi, rfl⟩ := List.mem_iff_getElem.1 hm
      obtain ⟨j, hj, rfl⟩ := List.mem_iff_getElem.1 km
      have pw := List.pairwise_iff_getElem.1 hn.2
      rcases Nat.lt_trichotomy i j with g | g | g
      · have := pw i j hi hj g; omega
      · subst g; omega
      · have := pw j i hj hi g; omega
theorem mem_allB {o : List Bool} {p a n : Nat} (ha : p ≤ a) : allB o (a - p) n true = true ↔ ∀ x, a ≤ x → x < a + n → memH (runs p o) x := by
  rw [allB_iff]
  constructor
  · intro h x h1 h2
    exact ((runs_spec o p).2 x).2 ⟨by omega, h (x - p) (by omega) (by omega)⟩
  · intro h i h1 h2
    have := (((runs_spec o p).2 (p + i)).1 (h (p + i) (by omega) (by omega))).2
    rwa [show p + i - p = i by omega] at this
def firstK (o : List Bool) (n : Nat) : Option Nat := (List.range o.length).find? fun k => allB o k n true
theorem find_range {m k : Nat} {f : Nat → Bool} (hk : k < m) (h1 : f k = true) (h2 : ∀ j, j < k → f j = false) : (List.range m).find? f = some k := by
  rw [List.find?_eq_some_iff_getElem]
  refine ⟨h1, k, by simpa using hk, by simp, fun j hj => by simpa using h2 j hj⟩
theorem first_some {p s l n : Nat} {o : List Bool} {A B : HL} (h : runs p o = A ++ (s, l) :: B) (hn : 1 ≤ n) (hl : n ≤ l) (hA : ∀ a ∈ A, a.2 < n) : firstK o n = some (s - p) := by
  obtain ⟨n1, m1⟩ := runs_spec o p
  have hm : (s, l) ∈ runs p o := by rw [h]; simp
  have hlo := n1.1 _ hm
  simp only at hlo
  refine find_range (by omega) ((mem_allB hlo.1).2 fun x h1 h2 => ⟨_, hm, h1, by simp only; omega⟩) (fun j hj => ?_)
  cases e : allB o j n true with
  | false => rfl
  | true =>
    exfalso
    have e2 : allB o (p + j - p) n true = true := by rw [show p + j - p = j by omega]; exact e
    obtain ⟨g, gm, g1, g2⟩ := n1.contig n hn ((mem_allB (by omega)).1 e2)
    rw [h] at gm n1
    obtain ⟨a1, a2, a3⟩ := norm_append.1 n1
    rcases List.mem_append.1 gm with gm | gm
    · have := hA g gm; omega
    · rcases List.mem_cons.1 gm with rfl | gm
      · simp only at g1; omega
      · have := (norm_cons.1 a2).2.2 g gm; simp only at this; omega
theorem first_none {p n : Nat} {o : List Bool} (hn : 1 ≤ n) (hA : ∀ a ∈ runs p o, a.2 < n) : firstK o n = none := by
  unfold firstK
  rw [List.find?_eq_none]
  intro k _ e
  have e2 : allB o (p + k - p) n true = true := by rw [show p + k - p = k by omega]; exact e
  obtain ⟨g, gm, g1, g2⟩ := (runs_spec o p).1.contig n hn ((mem_allB (by omega)).1 e2)
  have := hA g gm; omega
/-- A place to take: in one stretch just if all of it is open. -/
theorem take_yes {p s l st n : Nat} {o : List Bool} (hm : (s, l) ∈ runs p o) (h1 : s ≤ st) (h2 : st + n ≤ s + l) : allB o (st - p) n true = true := by
  have hlo := (runs_spec o p).1.1 _ hm
  simp only at hlo
  exact (mem_allB (by omega)).2 fun x g1 g2 => ⟨_, hm, by simp only; omega, by simp only; omega⟩
theorem take_no {p st n : Nat} {o : List Bool} (hp : p ≤ st) (hn : 1 ≤ n) (h : ∀ g ∈ runs p o, ¬ (g.1 ≤ st ∧ st + n ≤ g.1 + g.2)) : allB o (st - p) n true = false := by
  cases e : allB o (st - p) n true with
  | false => rfl
  | true =>
    obtain ⟨g, gm, g1, g2⟩ := (runs_spec o p).1.contig n hn ((mem_allB hp).1 e)
    exact absurd ⟨g1, g2⟩ (h g gm)
/-- What holds of the stretches that freed sectors grow together with. -/
structure Grown (st n : Nat) (M : HL) (hs he : Nat) : Prop where
  lo : hs ≤ st ∧ (hs = st ∨ ∃ m ∈ M, hs = m.1)
  hi : st + n ≤ he ∧ (he = st + n ∨ ∃ m ∈ M, he = m.1 + m.2)
  mem : ∀ x, (hs ≤ x ∧ x < he) ↔ (st ≤ x ∧ x < st + n) ∨ memH M x
  non : ∀ m ∈ M, ¬ (m.1 + m.2 > st ∧ m.1 < st + n)
theorem Grown.start (st n : Nat) : Grown st n [] st (st + n) := ⟨⟨by omega, .inl rfl⟩, ⟨by omega, .inl rfl⟩, fun x => by simp [memH], by simp⟩
theorem Grown.more {st n hs he : Nat} {M : HL} {g : Nat × Nat} (h : Grown st n M hs he) (hg : 1 ≤ g.2) (h1 : st ≤ g.1 + g.2) (h2 : g.1 ≤ st + n) (h3 : ¬ (g.1 + g.2 > st ∧ g.1 < st + n)) :
    Grown st n (M ++ [g]) (min hs g.1) (max he (g.1 + g.2)) := by
  refine ⟨⟨by have := h.lo.1; omega, ?_⟩, ⟨by have := h.hi.1; omega, ?_⟩, fun x => ?_, ?_⟩
  · by_cases hl : hs ≤ g.1
    · rw [Nat.min_eq_left hl]
      rcases h.lo.2 with h4 | ⟨m, hm, h4⟩
      · exact .inl h4
      · exact .inr ⟨m, by simp [hm], h4⟩
    · rw [Nat.min_eq_right (by omega)]; exact .inr ⟨g, by simp, rfl⟩
  · by_cases hl : g.1 + g.2 ≤ he
    · rw [Nat.max_eq_left hl]
      rcases h.hi.2 with h4 | ⟨m, hm, h4⟩
      · exact .inl h4
      · exact .inr ⟨m, by simp [hm], h4⟩
    · rw [Nat.max_eq_right (by omega)]; exact .inr ⟨g, by simp, rfl⟩
  · have hx := h.mem x
    have a := h.lo.1
    have b := h.hi.1
    rw [memH_append, memH_cons]
    simp only [memH_nil, or_false]
    rw [← or_assoc, ← hx]
    omega
  · intro m hm
    rcases List.mem_append.1 hm with hm | hm
    · exact h.non m hm
    · simp at hm; subst hm; exact h3
/-- Freed: what lies ahead ends ahead, what lies behind begins behind. -/
theorem runs_free {p st n hs he : Nat} {o : List Bool} {A M B : HL} (h : runs p o = A ++ M ++ B) (hp : p ≤ st) (hl : st + n ≤ p + o.length) (hn : 1 ≤ n)
    (hA : ∀ a ∈ A, a.1 + a.2 < st) (hG : Grown st n M hs he) (hB : ∀ b ∈ B, st + n < b.1) :
    allB o (st - p) n false = true ∧ runs p (setr o (st - p) n true) = A ++ [(hs, he - hs)] ++ B := by
  obtain ⟨n1, m1⟩ := runs_spec o p
  obtain ⟨n2, m2⟩ := runs_spec (setr o (st - p) n true) p
  rw [setr_len] at n2
  rw [h] at n1 m1
  obtain ⟨a1, a2, a3⟩ := norm_append.1 n1
  obtain ⟨c1, c2, c3⟩ := norm_append.1 a1
  have lo1 := hG.lo.1
  have hi1 := hG.hi.1
  have hs_lo : p ≤ hs := by
    rcases hG.lo.2 with e | ⟨m, hm, e⟩
    · omega
    · have := c2.1 m hm; omega
  have he_hi : he ≤ p + o.length := by
    rcases hG.hi.2 with e | ⟨m, hm, e⟩
    · omega
    · have := c2.1 m hm; omega
  have hAs : ∀ a ∈ A, a.1 + a.2 < hs := by
    intro a ha
    rcases hG.lo.2 with e | ⟨m, hm, e⟩
    · have := hA a ha; omega
    · have := c3 a ha m hm; omega
  have hBs : ∀ b ∈ B, he < b.1 := by
    intro b hb
    rcases hG.hi.2 with e | ⟨m, hm, e⟩
    · have := hB b hb; omega
    · have := a3 m (by simp [hm]) b hb; omega
  constructor
  · rw [allB_iff]
    intro i g1 g2
    have hi : i < o.length := by omega
    cases e : o[i]? with
    | none => have := List.getElem?_eq_none_iff.1 e; omega
    | some v =>
      cases v with
      | false => rfl
      | true =>
        exfalso
        have hm := (m1 (p + i)).2 ⟨by omega, by rw [show p + i - p = i by omega]; exact e⟩
        rcases memH_append.1 hm with hm | ⟨b, hb, k1, k2⟩
        · rcases memH_append.1 hm with ⟨a, ha, k1, k2⟩ | ⟨m, hm, k1, k2⟩
          · have := hA a ha; omega
          · exact hG.non m hm ⟨by omega, by omega⟩
        · have := hB b hb; omega
  · refine Norm.uniq n2 (norm_append.2 ⟨norm_append.2 ⟨c1, norm_one hs_lo (by simp only; omega) (by simp only; omega), ?_⟩, a2, ?_⟩) (fun x => ?_)
    · intro a ha b hb
      simp at hb; subst hb; exact hAs a ha
    · intro a ha b hb
      rcases List.mem_append.1 ha with ha | ha
      · have := a3 a (by simp [ha]) b hb; exact this
      · simp at ha; subst ha; have := hBs b hb; simp only; omega
    · have hx := m1 x
      have hg := hG.mem x
      rw [memH_append, memH_append] at hx
      rw [m2, setr_mem, memH_append, memH_append, memH_cons]
      simp only [memH_nil, or_false]
      rw [show hs + (he - hs) = he by omega, hg]
      by_cases hr : st ≤ x ∧ x < st + n
      · constructor
        · intro _; exact .inl (.inr (.inl hr))
        · intro _; exact ⟨by omega, .inl ⟨by omega, by omega, by omega, trivial⟩⟩
      · constructor
        · rintro ⟨g1, ⟨g2, g3, _⟩ | ⟨_, g3⟩⟩
          · omega
          · rcases hx.2 ⟨g1, g3⟩ with (g | g) | g
            · exact .inl (.inl g)
            · exact .inl (.inr (.inr g))
            · exact .inr g
        · intro g
          have : p ≤ x ∧ o[x - p]? = some true := by
            rcases g with (g | g | g) | g
            · exact hx.1 (.inl (.inl g))
            · exact absurd g hr
            · exact hx.1 (.inl (.inr g))
            · exact hx.1 (.inr g)
          exact ⟨this.1, .inr ⟨by omega, this.2⟩⟩
theorem free_no {p st n : Nat} {o : List Bool} {g : Nat × Nat} (hp : p ≤ st) (hg : g ∈ runs p o) (h1 : g.1 + g.2 > st) (h2 : g.1 < st + n) (hn : 1 ≤ n) : allB o (st - p) n false = false := by
  cases e : allB o (st - p) n false with
  | false => rfl
  | true =>
    have hlo := (runs_spec o p).1.1 _ hg
    have hi := runs_in hg (x := max g.1 st) (by omega) (by omega)
    have := allB_iff.1 e (max g.1 st - p) (by omega) (by omega)
    rw [hi.2] at this; simp at this
end Go.Proofs.Ytcchgkjcoknkcaa
