/- The reference of package extent: a list of open sectors. -/
import Derived.Test.YtcchgkjcoknkcaaLE
namespace Go.Proofs.Ytcchgkjcoknkcaa
set_option linter.unusedVariables false
set_option linter.unusedSimpArgs false
set_option linter.unusedSectionVars false
set_option linter.unnecessarySimpa false
open Go Go.Proofs
theorem runs_snoc_no (p : Nat) (o : List Bool) : runs p (o ++ [false]) = runs p o := by
  obtain ⟨n1, m1⟩ := runs_spec (o ++ [false]) p
  obtain ⟨n2, m2⟩ := runs_spec o p
  refine Norm.uniq n1 (n2.wide (Nat.le_refl _) (by simp)) (fun x => ?_)
  rw [m1, m2]
  by_cases h : x - p < o.length
  · rw [List.getElem?_append_left h]
  · rw [List.getElem?_append_right (by omega), List.getElem?_eq_none (by omega : o.length ≤ x - p)]
    constructor
    · rintro ⟨_, h2⟩
      have := List.mem_of_getElem? h2; simp at this
    · rintro ⟨_, h2⟩; simp at h2
theorem snoc_get {o : List Bool} {p x : Nat} : (p ≤ x ∧ (o ++ [true])[x - p]? = some true) ↔ (p ≤ x ∧ o[x - p]? = some true) ∨ x = p + o.length := by
  by_cases h : x - p < o.length
  · rw [List.getElem?_append_left h]
    constructor
    · intro h2; exact .inl h2
    · rintro (h2 | h2)
      · exact h2
      · omega
  · rw [List.getElem?_append_right (by omega)]
    constructor
    · rintro ⟨h1, h2⟩
      right
      have := (List.getElem?_eq_some_iff.1 h2).1
      simp at this; omega
    · rintro (⟨_, h2⟩ | h2)
      · have := (List.getElem?_eq_some_iff.1 h2).1; omega
      · subst h2; simp
theorem runs_snoc_new (p : Nat) (o : List Bool) (h : o = [] ∨ o[o.length - 1]? = some false) : runs p (o ++ [true]) = runs p o ++ [(p + o.length, 1)] := by
  obtain ⟨n1, m1⟩ := runs_spec (o ++ [true]) p
  obtain ⟨n2, m2⟩ := runs_spec o p
  rw [List.length_append, List.length_singleton] at n1
  refine Norm.uniq n1 (norm_append.2 ⟨n2.wide (Nat.le_refl _) (by omega), norm_one (by simp) (by simp) (by simp only; omega), ?_⟩) (fun x => ?_)
  · intro a ha b hb
    simp at hb; subst hb
    simp only
    have hl := n2.1 a ha
    rcases Nat.lt_or_ge (a.1 + a.2) (p + o.length) with g | g
    · exact g
    · exfalso
      have := ((m2 (p + o.length - 1)).1 ⟨a, ha, by omega, by omega⟩).2
      rcases h with rfl | h
      · simp at hl; omega
      · rw [show p + o.length - 1 - p = o.length - 1 by omega, h] at this; simp at this
  · rw [m1, snoc_get, memH_append, memH_cons, m2]
    simp only [memH_nil, or_false]
    constructor
    · rintro (h1 | h1)
      · exact .inl h1
      · exact .inr (by omega)
    · rintro (h1 | h1)
      · exact .inl h1
      · exact .inr (by omega)
theorem runs_snoc_more (p : Nat) (o : List Bool) (h : o[o.length - 1]? = some true) : ∃ A s l, runs p o = A ++ [(s, l)] ∧ runs p (o ++ [true]) = A ++ [(s, l + 1)] := by
  obtain ⟨n1, m1⟩ := runs_spec (o ++ [true]) p
  obtain ⟨n2, m2⟩ := runs_spec o p
  have hpos := (List.getElem?_eq_some_iff.1 h).1
  obtain ⟨g, hg, g1, g2⟩ := (m2 (p + o.length - 1)).2 ⟨by omega, by rw [show p + o.length - 1 - p = o.length - 1 by omega]; exact h⟩
  obtain ⟨A, B, hAB⟩ := List.append_of_mem hg
  have hgl := n2.1 g hg
  have hB : B = [] := by
    cases B with
    | nil => rfl
    | cons b B =>
      exfalso
      have hn := n2
      rw [hAB] at hn
      have h1 := (norm_cons.1 (norm_append.1 hn).2.1).2.2 b (by simp)
      have h2 := hn.1 b (by simp)
      omega
  subst hB
  obtain ⟨s, l⟩ := g
  simp only at g1 g2 hgl
  refine ⟨A, s, l, hAB, ?_⟩
  rw [List.length_append, List.length_singleton] at n1
  rw [hAB] at n2 m2
  obtain ⟨a1, a2, a3⟩ := norm_append.1 n2
  refine Norm.uniq n1 (norm_append.2 ⟨a1.wide (Nat.le_refl _) (by omega), norm_one (by simp only; omega) (by simp only; omega) (by simp only; omega), ?_⟩) (fun x => ?_)
  · intro a ha b hb
    simp at hb; subst hb
    exact a3 a ha (s, l) (by simp)
  · have hx := m2 x
    rw [memH_append, memH_cons] at hx
    simp only [memH_nil, or_false] at hx
    rw [m1, snoc_get, memH_append, memH_cons, ← hx]
    simp only [memH_nil, or_false]
    constructor
    · rintro ((h1 | h1) | h1)
      · exact .inl h1
      · exact .inr (by omega)
      · exact .inr (by omega)
    · rintro (h1 | h1)
      · exact .inl (.inl h1)
      · by_cases he : x = p + o.length
        · exact .inr he
        · exact .inl (.inr (by omega))
theorem hcells_set (A : HL) (s l l' : Nat) : (hcells (A ++ [(s, l)])).set (A.length * 2 + 1) (i64 l') = hcells (A ++ [(s, l')]) := by
  rw [hcells_app, hcells_app, List.set_append_right _ _ (by rw [hcells_len]; omega), hcells_len, show A.length * 2 + 1 - A.length * 2 = 1 by omega]
  rfl
def rcells (X : XS) (ob : Nat) : List Value := [i64 X.lo, .slice (some ⟨ob, 0, none⟩) X.o.length X.o.length]
abbrev bb (b : Bool) : Value := .bool b
def RefSp (r : Nat) (X : XS) : HP := fun h => ∃ ob : Nat, X.ok ∧ sepL [blk r (rcells X ob), blk ob (X.o.map bb)] h
theorem RefSp.open {W : World} {n : Nat} {F : Fr} {L : List HP} {G : Act → World → Prop} {r : Nat} {X : XS} (h : ∀ ob, X.ok → SG W n F (blk r (rcells X ob) :: blk ob (X.o.map bb) :: L) G) : SG W n F (RefSp r X :: L) G := by
  refine sg_ex (p := fun (ob : Nat) h => X.ok ∧ sepL [blk r (rcells X ob), blk ob (X.o.map bb)] h) fun ob => sg_and fun hX => sg_split (h ob hX)
theorem RefSp.shut {W w : World} {L : List HP} {r : Nat} {X : XS} {ob : Nat} (hX : X.ok) (hO : Own W w (blk r (rcells X ob) :: blk ob (X.o.map bb) :: L)) : Own W w (RefSp r X :: L) :=
  (Own.join (L1 := [blk r (rcells X ob), blk ob (X.o.map bb)]) hO).imp fun k hk => ⟨ob, hX, hk⟩
theorem bb_get {o : List Bool} {j : Nat} (hj : j < o.length) : (o.map bb)[0 + j * 1]? = some (.bool o[j]) := by
  rw [show 0 + j * 1 = j by omega, List.getElem?_map, List.getElem?_eq_getElem hj]; rfl
set_option maxRecDepth 20000
set_option maxHeartbeats 4000000
attribute [local irreducible] SG WC WO W1 WD WK PS Rd Tri Exit.then Exit.inBlock bodyPost calmQ Mid sadd
variable {W : World} {n : Nat} {F : Fr} {L : List HP} {G : Act → World → Prop}
theorem rnewx_bad (a b : Int) (R : List HP) (h : ¬ (0 ≤ a ∧ a ≤ b ∧ b ≤ 4096)) :
    Tri Try.prog W 13 [i64 a, i64 b] R (X := Unit) (fun _ => .tuple #[.pointer none, i64 1]) (fun _ => True) (fun _ => R) := by
  refine tri_enter2 Try.func13 rfl Try.ntmps13 rfl ?_
  repeat' (first | refine sg_wo ?_ | refine sg_ps (ps_move rfl) rfl ?_ | refine sg_ps (ps_assign rfl) rfl ?_ | refine sg_seq ?_ | refine sg_region ?_ | refine sg_nil ?_ | refine sg_then ?_ | refine sg_ps (ps_bin rfl rfl inferInstance) rfl ?_ | refine sg_cond_t rfl ?_ | refine sg_guard_yes rfl rfl ?_ | refine sg_guard_nt rfl rfl rfl ?_ | refine sg_ps (ps_pick_t rfl rfl) rfl ?_ | refine sg_ps (ps_pick_f rfl rfl) rfl ?_ | refine sg_ret ?_ | refine ex_then_ret ?_ | (refine sg_guard_dec rfl rfl (fun hg => ?_) (fun hg => ?_) <;> first | (exfalso; omega) | (exact absurd rfl hg) | skip) | (refine sg_cond_dec rfl (fun hg => ?_) (fun hg => ?_) <;> first | (exfalso; omega) | (exact absurd rfl hg) | skip))
  all_goals first
    | exact ex_ret2 rfl rfl rfl () rfl trivial (fun w hO => hO)
    | (exfalso; omega)
theorem setr_step2 {o : List Bool} {k j : Nat} {b : Bool} : (setr o k j b).set (k + j) b = setr o k (j + 1) b := by
  apply List.ext_getElem?
  intro i
  rw [List.getElem?_set, setr_len, setr_get, setr_get]
  by_cases h : k + j = i
  · subst h
    rw [if_pos rfl]
    by_cases h2 : k + j < o.length
    · rw [if_pos h2, List.getElem?_eq_getElem h2, Option.map_some, if_pos (by omega)]
    · rw [if_neg h2, List.getElem?_eq_none (by omega)]; rfl
  · rw [if_neg h]
    congr 1
    funext x
    by_cases h2 : k ≤ i ∧ i < k + j
    · rw [if_pos h2, if_pos (by omega)]
    · rw [if_neg h2, if_neg (by omega)]
theorem setr_zero2 (o : List Bool) (k : Nat) (b : Bool) : setr o k 0 b = o := by
  apply List.ext_getElem?
  intro i
  rw [setr_get, Option.map_congr (g := id) (fun x _ => by rw [if_neg (by omega)]; rfl)]; simp
theorem setr_all (k : Nat) : setr (List.replicate k false) 0 k true = List.replicate k true := by
  apply List.ext_getElem?
  intro i
  rw [setr_get, List.getElem?_replicate, List.getElem?_replicate]
  by_cases h : i < k
  · rw [if_pos h, if_pos h, Option.map_some, if_pos ⟨Nat.zero_le _, by omega⟩]
  · rw [if_neg h, if_neg h]; rfl
theorem rnewx_tri (a k : Nat) (R : List HP) (h : a + k ≤ 4096) :
    Tri Try.prog W 13 [i64 a, i64 ((a + k : Nat) : Int)] R (X := Nat) (fun r => .tuple #[dp r, i64 0]) (fun _ => True) (fun r => RefSp r (XS.new a k) :: R) := by
  have hX : (XS.new a k).ok := ⟨by simp [XS.new]; exact h⟩
  refine tri_enter2 Try.func13 rfl Try.ntmps13 rfl ?_
  repeat' (first | refine sg_wo ?_ | refine sg_ps (ps_move rfl) rfl ?_ | refine sg_ps (ps_assign rfl) rfl ?_ | refine sg_seq ?_ | refine sg_region ?_ | refine sg_nil ?_ | refine sg_then ?_ | refine sg_ps (ps_sub64 rfl rfl (by omega)) rfl ?_ | refine sg_ps (ps_bin rfl rfl inferInstance) rfl ?_ | refine sg_guard_yes rfl rfl ?_ | refine sg_ps (ps_pick_f rfl rfl) rfl ?_ | refine sg_skip ?_ | (refine sg_guard_dec rfl rfl (fun hg => ?_) (fun hg => ?_) <;> first | (exfalso; omega) | (exact absurd rfl hg) | skip) | (refine sg_cond_dec rfl (fun hg => ?_) (fun hg => ?_) <;> first | (exfalso; omega) | (exact absurd rfl hg) | skip))
  refine sg_make (ln := k) (cn := k) rfl rfl rfl (by omega) (by omega) (Nat.le_refl _) (by omega) (by omega) (fun t => ?_)
  have hz0 : (List.range (k * 1)).map (fun i => (Value.bool false).cells[i % (Value.bool false).cells.size]!) = (setr (List.replicate k false) 0 0 true).map bb := by
    rw [setr_zero2, Nat.mul_one, List.map_replicate, List.eq_replicate_iff]
    refine ⟨by simp, fun b hb => ?_⟩
    obtain ⟨i, _, rfl⟩ := List.mem_map.1 hb
    show (#[Value.bool false] : Array Value)[i % 1]! = _
    rw [Nat.mod_one]; rfl
  rw [hz0]
  repeat' (first | refine sg_wo ?_ | refine sg_ps (ps_assign rfl) rfl ?_ | refine sg_seq ?_ | refine sg_region ?_ | refine sg_nil ?_ | refine sg_then ?_ | refine sg_ps (ps_build rfl rfl) rfl ?_ | refine sg_box rfl rfl (fun bx => ?_) | refine sg_block ?_)
  refine sg_loop (γ := Nat) (fun j => j ≤ k) (fun j => [(6, dp bx), (7, i64 j)]) (fun j => blk bx [i64 a, .slice (some ⟨t, 0, none⟩) k k] :: blk t ((setr (List.replicate k false) 0 j true).map bb) :: R) (fun j => k - j) 0 (Nat.zero_le _)
    (.cons rfl (.cons rfl .nil)) (fun w hO => hO) ?_
  intro j hj
  repeat' (first | refine sg_wo ?_ | refine sg_ps (ps_move rfl) rfl ?_ | refine sg_ps (ps_assign rfl) rfl ?_ | refine sg_seq ?_ | refine sg_region ?_ | refine sg_nil ?_ | refine sg_then ?_ | refine sg_ps (ps_fieldAddr rfl) rfl ?_ | refine sg_ps (ps_nilCheck rfl) rfl ?_ | refine sg_load 0 rfl rfl rfl rfl ?_ | refine sg_ps (ps_bin rfl rfl inferInstance) rfl ?_ | refine sg_ps (ps_len rfl) rfl ?_ | refine sg_ps (ps_indexAddr rfl rfl rfl (by omega)) rfl ?_ | refine sg_block ?_ | refine sg_skip ?_ | refine sg_ret ?_ | refine sg_exit ?_ | refine ex_then_exit ?_ | refine ex_block_hit ?_ | (refine sg_cond_dec rfl (fun hg => ?_) (fun hg => ?_) <;> first | (exfalso; omega) | (exact absurd rfl hg) | skip))
  · refine sg_store [_] rfl rfl rfl (by rw [List.length_map, setr_len, List.length_replicate]; omega) ?_
    repeat' (first | refine sg_wo ?_ | refine sg_ps (ps_move rfl) rfl ?_ | refine sg_ps (ps_assign rfl) rfl ?_ | refine sg_region ?_ | refine sg_nil ?_ | refine sg_then ?_ | refine sg_ps (ps_add64 rfl rfl (by omega)) rfl ?_ | refine ex_block_normal ?_)
    refine ex_mid (j + 1) ⟨by omega, by omega⟩ (.cons rfl (.cons rfl .nil)) (fun w hO => ?_)
    rw [← setr_step2, List.map_set, show 0 + j = 0 + j * 1 by omega]; exact hO
  · obtain rfl : j = k := by omega
    rw [setr_all]
    skip
    refine ex_ret2 rfl rfl rfl bx rfl trivial (fun w hO => RefSp.shut (ob := t) hX ?_)
    have hl : (XS.new a j).o.length = j := by simp [XS.new]
    unfold rcells
    rw [hl]
    exact hO
theorem rturn_tri (r : Nat) (X : XS) (at_ m : Nat) (to : Bool) (R : List HP) (hm : at_ + m ≤ X.o.length) :
    Tri Try.prog W 29 [dp r, i64 at_, i64 m, .bool to] (RefSp r X :: R) (X := Unit) (fun _ => .tuple #[]) (fun _ => True) (fun _ => RefSp r { X with o := setr X.o at_ m to } :: R) := by
  refine tri_enter4 Try.func29 rfl Try.ntmps29 rfl ?_
  refine RefSp.open fun ob hX => ?_
  have hhi := hX.hi
  repeat' (first | refine sg_wo ?_ | refine sg_ps (ps_move rfl) rfl ?_ | refine sg_ps (ps_assign rfl) rfl ?_ | refine sg_seq ?_ | refine sg_region ?_ | refine sg_nil ?_ | refine sg_then ?_ | refine sg_block ?_)
  refine sg_loop (γ := Nat) (fun j => j ≤ m) (fun j => [(0, dp r), (1, i64 at_), (2, i64 m), (3, .bool to), (8, i64 ((at_ + j : Nat) : Int))]) (fun j => blk r (rcells X ob) :: blk ob ((setr X.o at_ j to).map bb) :: R) (fun j => m - j) 0 (Nat.zero_le _)
    (.cons rfl (.cons rfl (.cons rfl (.cons rfl (.cons rfl .nil))))) (fun w hO => by rw [setr_zero2]; exact hO) ?_
  intro j hj
  repeat' (first | refine sg_wo ?_ | refine sg_ps (ps_move rfl) rfl ?_ | refine sg_seq ?_ | refine sg_region ?_ | refine sg_nil ?_ | refine sg_then ?_ | refine sg_ps (ps_fieldAddr rfl) rfl ?_ | refine sg_ps (ps_nilCheck rfl) rfl ?_ | refine sg_load 0 rfl rfl rfl rfl ?_ | refine sg_ps (ps_add64 rfl rfl (by omega)) rfl ?_ | refine sg_ps (ps_bin rfl rfl inferInstance) rfl ?_ | refine sg_ps (ps_indexAddr rfl rfl rfl (by omega)) rfl ?_ | refine sg_block ?_ | refine sg_skip ?_ | refine sg_exit ?_ | refine ex_then_exit ?_ | refine ex_block_hit ?_ | (refine sg_cond_dec rfl (fun hg => ?_) (fun hg => ?_) <;> first | (exfalso; omega) | (exact absurd rfl hg) | skip))
  · refine sg_store [_] rfl rfl rfl (by rw [List.length_map, setr_len]; omega) ?_
    repeat' (first | refine sg_wo ?_ | refine sg_ps (ps_move rfl) rfl ?_ | refine sg_ps (ps_assign rfl) rfl ?_ | refine sg_region ?_ | refine sg_nil ?_ | refine sg_then ?_ | refine sg_ps (ps_add64 rfl rfl (by omega)) rfl ?_ | refine ex_block_normal ?_)
    refine ex_mid (j + 1) ⟨by omega, by omega⟩ (.cons rfl (.cons rfl (.cons rfl (.cons rfl (.cons rfl .nil))))) (fun w hO => ?_)
    rw [← setr_step2, List.map_set, show at_ + j = 0 + (at_ + j) * 1 by omega]; exact hO
  · obtain rfl : j = m := by omega
    have hX' : XS.ok { X with o := setr X.o at_ j to } := ⟨by simp only [setr_len]; exact hhi⟩
    refine ex_end0 rfl () rfl trivial (fun w hO => RefSp.shut (ob := ob) hX' ?_)
    rw [show rcells { X with o := setr X.o at_ j to } ob = rcells X ob by simp only [rcells, setr_len]]
    exact hO
theorem rset_tri (r : Nat) (X : XS) (s m : Int) (to : Bool) (R : List HP) (hs : -9223372036854775808 ≤ s ∧ s ≤ 9223372036854775807) (hm : -9223372036854775808 ≤ m ∧ m ≤ 9223372036854775807) :
    Tri Try.prog W 30 [dp r, i64 s, i64 m, .bool to] (RefSp r X :: R) (X := Unit) (fun _ => i64 (X.turn s m to).1) (fun _ => True) (fun _ => RefSp r (X.turn s m to).2 :: R) := by
  refine tri_enter4 Try.func30 rfl Try.ntmps30 rfl ?_
  refine RefSp.open fun ob hX => ?_
  have hhi := hX.hi
  refine sg_seq ?_
  repeat' (first | refine sg_wo ?_ | refine sg_ps (ps_assign rfl) rfl ?_ | refine sg_region ?_ | refine sg_nil ?_ | refine sg_then ?_)
  refine sg_seq_mid (γ := Unit) (fun _ => 1 ≤ m ∧ m ≤ X.o.length ∧ (X.lo : Int) ≤ s ∧ s + m ≤ X.lo + X.o.length) (fun _ => [(0, dp r), (1, i64 s), (2, i64 m), (3, .bool to)]) (fun _ => blk r (rcells X ob) :: blk ob (X.o.map bb) :: R) ?_ ?_
  · refine sg_seq ?_
    refine sg_drawK (blk r (rcells X ob) :: blk ob (X.o.map bb) :: R) [0, 1, 2, 3, 4, 5, 6, 7, 8, 9, 10, 11, 12, 13, 14, 15, 16, 17, 18, 19, 20, 21, 22, 23, 25, 26, 27, 31, 28, 29, 24, 30, 32, 33, 34] (by kernel_rfl) (by kernel_rfl) (fun w hO => hO) ?_
    repeat' (first | refine sk_nil ?_ | refine sk_pure rfl rfl (ps_move rfl) rfl ?_ | refine sk_pure rfl rfl (ps_bin rfl rfl inferInstance) rfl ?_ | refine sk_pure rfl rfl (ps_pick_t rfl rfl) rfl ?_ | refine sk_pure rfl rfl (ps_pick_f rfl rfl) rfl ?_ | refine sk_no rfl rfl rfl rfl rfl ?_ | refine sk_pure_g rfl rfl rfl rfl (ps_move rfl) rfl ?_ | refine sk_pure_g rfl rfl rfl rfl (ps_nilCheck rfl) rfl ?_ | refine sk_pure_g rfl rfl rfl rfl (ps_fieldAddr rfl) rfl ?_ | refine sk_pure_g rfl rfl rfl rfl (ps_add64 rfl rfl (by omega)) rfl ?_ | refine sk_pure_g rfl rfl rfl rfl (ps_sub64 rfl rfl (by omega)) rfl ?_ | refine sk_pure_g rfl rfl rfl rfl (ps_bin rfl rfl inferInstance) rfl ?_ | refine sk_pure_g rfl rfl rfl rfl (ps_len rfl) rfl ?_ | refine sk_load_g 0 rfl rfl rfl rfl rfl rfl rfl ?_ | (refine sk_dec rfl rfl rfl rfl (fun hg => ?_) (fun hg => ?_) <;> first | (exfalso; omega) | (exact absurd rfl hg) | skip))
    all_goals
      refine sg_then ?_
      repeat' (first | refine sg_wo ?_ | refine sg_ps (ps_assign rfl) rfl ?_ | refine sg_seq ?_ | refine sg_region ?_ | refine sg_nil ?_ | refine sg_then ?_ | refine sg_cond_t rfl ?_ | refine sg_skip ?_ | refine sg_ret ?_ | refine ex_then_ret ?_ | (refine sg_cond_dec rfl (fun hg => ?_) (fun hg => ?_) <;> first | (exfalso; omega) | (exact absurd rfl hg) | skip))
      all_goals first
        | (rw [turn_arg (by omega)]; exact ex_ret1 rfl rfl () rfl trivial (fun w hO => RefSp.shut hX hO))
        | exact ex_mid () (by omega) (.cons rfl (.cons rfl (.cons rfl (.cons rfl .nil)))) (fun w hO => hO)
  · rintro - hw
    obtain ⟨m, rfl⟩ : ∃ m' : Nat, m = (m' : Int) := ⟨m.toNat, by omega⟩
    obtain ⟨k, rfl⟩ : ∃ k : Nat, s = ((X.lo + k : Nat) : Int) := ⟨s.toNat - X.lo, by omega⟩
    have hk : k + m ≤ X.o.length := by omega
    have hto : (((X.lo + k : Nat) : Int) - X.lo).toNat = k := by omega
    have hsub : ((X.lo + k : Nat) : Int) - (X.lo : Int) = (k : Int) := by omega
    refine sg_seq_mid (γ := Unit) (fun _ => allB X.o k m (!to) = true) (fun _ => [(0, dp r), (1, i64 ((X.lo + k : Nat) : Int)), (2, i64 m), (3, .bool to)]) (fun _ => blk r (rcells X ob) :: blk ob (X.o.map bb) :: R) ?_ ?_
    · skip
      repeat' (first | refine sg_wo ?_ | refine sg_ps (ps_move rfl) rfl ?_ | refine sg_ps (ps_assign rfl) rfl ?_ | refine sg_seq ?_ | refine sg_region ?_ | refine sg_nil ?_ | refine sg_then ?_ | refine sg_ps (ps_fieldAddr rfl) rfl ?_ | refine sg_ps (ps_nilCheck rfl) rfl ?_ | refine sg_load 0 rfl rfl rfl rfl ?_ | refine sg_ps (ps_sub64 rfl rfl (by omega)) rfl ?_ | refine sg_block ?_)
      rw [hsub]
      refine sg_loop (γ := Nat) (fun j => j ≤ m ∧ ∀ i, k ≤ i → i < k + j → X.o[i]? = some (!to)) (fun j => [(0, dp r), (1, i64 ((X.lo + k : Nat) : Int)), (2, i64 m), (3, .bool to), (9, i64 ((k + j : Nat) : Int))]) (fun _ => blk r (rcells X ob) :: blk ob (X.o.map bb) :: R) (fun j => m - j) 0
        ⟨Nat.zero_le _, fun i h1 h2 => by omega⟩ (.cons rfl (.cons rfl (.cons rfl (.cons rfl (.cons rfl .nil))))) (fun w hO => hO) ?_
      rintro j ⟨hj, hall⟩
      by_cases hjm : j < m
      · have hget := bb_get (o := X.o) (j := k + j) (by omega)
        have hg2 : X.o[k + j]? = some X.o[k + j] := List.getElem?_eq_getElem (by omega)
        generalize X.o[k + j] = b at hget hg2
        repeat' (first | refine sg_wo ?_ | refine sg_ps (ps_move rfl) rfl ?_ | refine sg_seq ?_ | refine sg_region ?_ | refine sg_nil ?_ | refine sg_then ?_ | refine sg_ps (ps_fieldAddr rfl) rfl ?_ | refine sg_ps (ps_nilCheck rfl) rfl ?_ | refine sg_load 0 rfl rfl rfl rfl ?_ | refine sg_ps (ps_add64 rfl rfl (by omega)) rfl ?_ | refine sg_ps (ps_sub64 rfl rfl (by omega)) rfl ?_ | refine sg_ps (ps_bin rfl rfl inferInstance) rfl ?_ | refine sg_ps (ps_indexAddr rfl rfl rfl (by omega)) rfl ?_ | refine sg_block ?_ | refine sg_skip ?_ | (refine sg_cond_dec rfl (fun hg => ?_) (fun hg => ?_) <;> first | (exfalso; omega) | (exact absurd rfl hg) | skip))
        refine sg_load 1 rfl rfl hget rfl ?_
        by_cases hb : b = to
        · subst hb
          have hno : allB X.o k m (!b) = false := by
            cases e : allB X.o k m (!b) with
            | false => rfl
            | true =>
              have := allB_iff.1 e (k + j) (by omega) (by omega)
              rw [hg2] at this
              cases b <;> simp at this
          have hturn : X.turn ((X.lo + k : Nat) : Int) (m : Int) b = (6, X) := by
            unfold XS.turn
            rw [if_neg (fun h => h hw), hto, Int.toNat_natCast, hno]; rfl
          rw [hturn]
          cases b <;> (
            repeat' (first | refine sg_wo ?_ | refine sg_ps (ps_move rfl) rfl ?_ | refine sg_ps (ps_assign rfl) rfl ?_ | refine sg_seq ?_ | refine sg_region ?_ | refine sg_nil ?_ | refine sg_then ?_ | refine sg_ps (ps_bin rfl rfl inferInstance) rfl ?_ | refine sg_cond_t rfl ?_ | refine sg_ret ?_ | refine ex_then_ret ?_ | refine ex_block_ret ?_)
            exact ex_ret1 rfl rfl () rfl trivial (fun w hO => RefSp.shut hX hO))
        · have hb2 : b = !to := by cases b <;> cases to <;> simp_all
          subst hb2
          have hall' : ∀ i, k ≤ i → i < k + (j + 1) → X.o[i]? = some (!to) := by
            intro i h1 h2
            by_cases h3 : i = k + j
            · subst h3; exact hg2
            · exact hall i h1 (by omega)
          cases to <;> (
            repeat' (first | refine sg_wo ?_ | refine sg_ps (ps_move rfl) rfl ?_ | refine sg_ps (ps_assign rfl) rfl ?_ | refine sg_region ?_ | refine sg_nil ?_ | refine sg_then ?_ | refine sg_ps (ps_add64 rfl rfl (by omega)) rfl ?_ | refine sg_ps (ps_bin rfl rfl inferInstance) rfl ?_ | refine sg_cond_f rfl ?_ | refine sg_skip ?_ | refine ex_block_normal ?_)
            exact ex_mid (j + 1) ⟨by omega, by omega, hall'⟩ (.cons rfl (.cons rfl (.cons rfl (.cons rfl (.cons rfl .nil))))) (fun w hO => hO))
      · obtain rfl : j = m := by omega
        repeat' (first | refine sg_wo ?_ | refine sg_ps (ps_move rfl) rfl ?_ | refine sg_seq ?_ | refine sg_region ?_ | refine sg_nil ?_ | refine sg_then ?_ | refine sg_ps (ps_fieldAddr rfl) rfl ?_ | refine sg_ps (ps_nilCheck rfl) rfl ?_ | refine sg_load 0 rfl rfl rfl rfl ?_ | refine sg_ps (ps_add64 rfl rfl (by omega)) rfl ?_ | refine sg_ps (ps_sub64 rfl rfl (by omega)) rfl ?_ | refine sg_ps (ps_bin rfl rfl inferInstance) rfl ?_ | refine sg_exit ?_ | refine ex_then_exit ?_ | refine ex_block_hit ?_ | (refine sg_cond_dec rfl (fun hg => ?_) (fun hg => ?_) <;> first | (exfalso; omega) | (exact absurd rfl hg) | skip))
        exact ex_mid () (allB_iff.2 hall) (.cons rfl (.cons rfl (.cons rfl (.cons rfl .nil)))) (fun w hO => hO)
    · rintro - hall
      have hturn : X.turn ((X.lo + k : Nat) : Int) (m : Int) to = (0, { X with o := setr X.o k m to }) := by
        unfold XS.turn
        rw [if_neg (fun h => h hw), hto, Int.toNat_natCast, if_pos hall]
      rw [hturn]
      repeat' (first | refine sg_wo ?_ | refine sg_ps (ps_move rfl) rfl ?_ | refine sg_seq ?_ | refine sg_region ?_ | refine sg_ps (ps_fieldAddr rfl) rfl ?_ | refine sg_ps (ps_nilCheck rfl) rfl ?_ | refine sg_load 0 rfl rfl rfl rfl ?_ | refine sg_ps (ps_sub64 rfl rfl (by omega)) rfl ?_)
      rw [hsub]
      refine sg_call ((rturn_tri r X k m to R hk).pre (fun w hO => RefSp.shut hX hO)) rfl rfl (fun _ _ => ?_)
      repeat' (first | refine sg_wo ?_ | refine sg_ps (ps_assign rfl) rfl ?_ | refine sg_seq ?_ | refine sg_region ?_ | refine sg_nil ?_ | refine sg_then ?_ | refine sg_ret ?_)
      exact ex_ret1 rfl rfl () rfl trivial (fun w hO => hO)
theorem rtake_tri (r : Nat) (X : XS) (s m : Int) (R : List HP) (hs : -9223372036854775808 ≤ s ∧ s ≤ 9223372036854775807) (hm : -9223372036854775808 ≤ m ∧ m ≤ 9223372036854775807) :
    Tri Try.prog W 16 [dp r, i64 s, i64 m] (RefSp r X :: R) (X := Unit) (fun _ => i64 (X.turn s m false).1) (fun _ => True) (fun _ => RefSp r (X.turn s m false).2 :: R) := by
  refine tri_enter3 Try.func16 rfl Try.ntmps16 rfl ?_
  repeat' (first | refine sg_wo ?_ | refine sg_ps (ps_move rfl) rfl ?_ | refine sg_ps (ps_assign rfl) rfl ?_ | refine sg_seq ?_ | refine sg_region ?_ | refine sg_nil ?_ | refine sg_then ?_)
  refine sg_call (rset_tri r X s m false R hs hm) rfl rfl (fun _ _ => ?_)
  repeat' (first | refine sg_wo ?_ | refine sg_ps (ps_assign rfl) rfl ?_ | refine sg_nil ?_ | refine sg_then ?_ | refine sg_ret ?_)
  exact ex_ret1 rfl rfl () rfl trivial (fun w hO => hO)
theorem rfree_tri (r : Nat) (X : XS) (s m : Int) (R : List HP) (hs : -9223372036854775808 ≤ s ∧ s ≤ 9223372036854775807) (hm : -9223372036854775808 ≤ m ∧ m ≤ 9223372036854775807) :
    Tri Try.prog W 17 [dp r, i64 s, i64 m] (RefSp r X :: R) (X := Unit) (fun _ => i64 (X.turn s m true).1) (fun _ => True) (fun _ => RefSp r (X.turn s m true).2 :: R) := by
  refine tri_enter3 Try.func17 rfl Try.ntmps17 rfl ?_
  repeat' (first | refine sg_wo ?_ | refine sg_ps (ps_move rfl) rfl ?_ | refine sg_ps (ps_assign rfl) rfl ?_ | refine sg_seq ?_ | refine sg_region ?_ | refine sg_nil ?_ | refine sg_then ?_)
  refine sg_call (rset_tri r X s m true R hs hm) rfl rfl (fun _ _ => ?_)
  repeat' (first | refine sg_wo ?_ | refine sg_ps (ps_assign rfl) rfl ?_ | refine sg_nil ?_ | refine sg_then ?_ | refine sg_ret ?_)
  exact ex_ret1 rfl rfl () rfl trivial (fun w hO => hO)
theorem rleft_tri (r : Nat) (X : XS) (R : List HP) :
    Tri Try.prog W 18 [dp r] (RefSp r X :: R) (X := Unit) (fun _ => i64 ((X.o.count true : Nat) : Int)) (fun _ => True) (fun _ => RefSp r X :: R) := by
  refine tri_enter1 Try.func18 rfl Try.ntmps18 rfl ?_
  refine RefSp.open fun ob hX => ?_
  have hhi := hX.hi
  repeat' (first | refine sg_wo ?_ | refine sg_ps (ps_assign rfl) rfl ?_ | refine sg_seq ?_ | refine sg_region ?_ | refine sg_nil ?_ | refine sg_then ?_ | refine sg_block ?_)
  refine sg_loop (γ := Nat) (fun j => j ≤ X.o.length) (fun j => [(0, dp r), (3, i64 (((X.o.take j).count true : Nat) : Int)), (4, i64 j)]) (fun _ => blk r (rcells X ob) :: blk ob (X.o.map bb) :: R) (fun j => X.o.length - j) 0 (Nat.zero_le _) (.cons rfl (.cons rfl (.cons rfl .nil))) (fun w hO => hO) ?_
  intro j hj
  have hcj : (X.o.take j).count true ≤ j := by
    have := List.count_le_length (a := true) (l := X.o.take j)
    rw [List.length_take] at this; omega
  by_cases hjl : j < X.o.length
  · have hget := bb_get (o := X.o) hjl
    have hst : (X.o.take (j + 1)).count true = (X.o.take j).count true + (if X.o[j] = true then 1 else 0) := by
      rw [List.take_add_one, List.getElem?_eq_getElem hjl, Option.toList_some, List.count_append]
      cases X.o[j] <;> rfl
    generalize X.o[j] = b at hget hst
    repeat' (first | refine sg_wo ?_ | refine sg_ps (ps_move rfl) rfl ?_ | refine sg_seq ?_ | refine sg_region ?_ | refine sg_nil ?_ | refine sg_then ?_ | refine sg_ps (ps_fieldAddr rfl) rfl ?_ | refine sg_ps (ps_nilCheck rfl) rfl ?_ | refine sg_load 0 rfl rfl rfl rfl ?_ | refine sg_ps (ps_bin rfl rfl inferInstance) rfl ?_ | refine sg_ps (ps_len rfl) rfl ?_ | refine sg_ps (ps_indexAddr rfl rfl rfl (by omega)) rfl ?_ | refine sg_block ?_ | refine sg_skip ?_ | (refine sg_cond_dec rfl (fun hg => ?_) (fun hg => ?_) <;> first | (exfalso; omega) | (exact absurd rfl hg) | skip))
    refine sg_load 1 rfl rfl hget rfl ?_
    cases b with
    | true =>
      rw [if_pos rfl] at hst
      repeat' (first | refine sg_wo ?_ | refine sg_ps (ps_move rfl) rfl ?_ | refine sg_ps (ps_assign rfl) rfl ?_ | refine sg_region ?_ | refine sg_nil ?_ | refine sg_then ?_ | refine sg_ps (ps_add64 rfl rfl (by omega)) rfl ?_ | refine sg_cond_t rfl ?_ | refine ex_block_normal ?_)
      exact ex_mid (j + 1) ⟨by omega, by omega⟩ (.cons rfl (.cons (by rw [hst, Int.natCast_add]; rfl) (.cons rfl .nil))) (fun w hO => hO)
    | false =>
      rw [if_neg (by decide), Nat.add_zero] at hst
      repeat' (first | refine sg_wo ?_ | refine sg_ps (ps_move rfl) rfl ?_ | refine sg_ps (ps_assign rfl) rfl ?_ | refine sg_region ?_ | refine sg_nil ?_ | refine sg_then ?_ | refine sg_ps (ps_add64 rfl rfl (by omega)) rfl ?_ | refine sg_cond_f rfl ?_ | refine sg_skip ?_ | refine ex_block_normal ?_)
      exact ex_mid (j + 1) ⟨by omega, by omega⟩ (.cons rfl (.cons (by rw [hst]; rfl) (.cons rfl .nil))) (fun w hO => hO)
  · obtain rfl : j = X.o.length := by omega
    rw [List.take_length]
    repeat' (first | refine sg_wo ?_ | refine sg_ps (ps_move rfl) rfl ?_ | refine sg_ps (ps_assign rfl) rfl ?_ | refine sg_seq ?_ | refine sg_region ?_ | refine sg_nil ?_ | refine sg_then ?_ | refine sg_ps (ps_fieldAddr rfl) rfl ?_ | refine sg_ps (ps_nilCheck rfl) rfl ?_ | refine sg_load 0 rfl rfl rfl rfl ?_ | refine sg_ps (ps_bin rfl rfl inferInstance) rfl ?_ | refine sg_ps (ps_len rfl) rfl ?_ | refine sg_ret ?_ | refine sg_exit ?_ | refine ex_then_exit ?_ | refine ex_block_hit ?_ | (refine sg_cond_dec rfl (fun hg => ?_) (fun hg => ?_) <;> first | (exfalso; omega) | (exact absurd rfl hg) | skip))
    exact ex_ret1 rfl rfl () rfl trivial (fun w hO => RefSp.shut hX hO)
end Go.Proofs.Ytcchgkjcoknkcaa
