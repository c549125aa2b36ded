/- Package extent: the contracts of its small functions, IndexFunc, cut. -/
import Derived.Test.YtcchgkjcoknkcaaEX2
import Derived.Test.YtcchgkjcoknkcaaEXP
import Derived.Test.YtcchgkjcoknkcaaDR5
namespace Go.Proofs.Ytcchgkjcoknkcaa
set_option linter.unusedVariables false
set_option linter.unusedSimpArgs false
set_option linter.unusedSectionVars false
set_option linter.unnecessarySimpa false
open Go Go.Proofs
def hc (h : Nat × Nat) : List Value := [i64 h.1, i64 h.2]
def hcells (H : HL) : List Value := H.flatMap hc
theorem hcells_len (H : HL) : (hcells H).length = H.length * 2 := flat_length 2 hc H (fun _ _ => rfl)
theorem hcells_app (A B : HL) : hcells (A ++ B) = hcells A ++ hcells B := by simp [hcells]
theorem hcells_one (H : HL) : ∀ u ∈ hcells H, u.oneCell' = true := by
  intro u hu
  simp only [hcells, List.mem_flatMap] at hu
  obtain ⟨h, _, hu⟩ := hu
  simp only [hc, List.mem_cons, List.not_mem_nil, or_false] at hu
  rcases hu with rfl | rfl <;> rfl
theorem hcells_take (A B : HL) : (hcells (A ++ B)).take (A.length * 2) = hcells A := by rw [hcells_app, ← hcells_len A, List.take_left]
theorem hcells_drop (A B : HL) : (hcells (A ++ B)).drop (A.length * 2) = hcells B := by rw [hcells_app, ← hcells_len A, List.drop_left]
theorem hcells_get (H : HL) (j : Nat) (hj : j < H.length) : ∀ (q : Nat) (u : Value), (hc H[j])[q]? = some u → (hcells H)[j * 2 + q]? = some u := by
  intro q u hq
  have hq2 : q < 2 := (List.getElem?_eq_some_iff.1 hq).1
  unfold hcells
  rw [flat_get 2 hc H j q H[j] (fun _ _ => rfl) (by simp [hj]) hq2]
  exact hq
structure XS where
  lo : Nat
  o : List Bool
structure XS.ok (X : XS) : Prop where
  hi : X.lo + X.o.length ≤ 4096
def XS.runs (X : XS) : HL := Ytcchgkjcoknkcaa.runs X.lo X.o
def XS.turn (X : XS) (start n : Int) (to : Bool) : Int × XS :=
  if ¬ (1 ≤ n ∧ n ≤ X.o.length ∧ X.lo ≤ start ∧ start + n ≤ X.lo + X.o.length) then (1, X)
  else if allB X.o (start - X.lo).toNat n.toNat (!to) then (0, { X with o := setr X.o (start - X.lo).toNat n.toNat to }) else (6, X)
def XS.alloc (X : XS) (n : Int) : Int × Int × XS :=
  if n < 1 then (0, 1, X) else match firstK X.o n.toNat with
    | none => (0, 3, X)
    | some k => (((X.lo + k : Nat) : Int), 0, { X with o := setr X.o k n.toNat false })
theorem XS.turn_ok {X : XS} (h : X.ok) (s n : Int) (to : Bool) : (X.turn s n to).2.ok := by
  unfold XS.turn
  split
  · exact h
  · split
    · exact ⟨by simp only [setr_len]; exact h.hi⟩
    · exact h
theorem XS.alloc_ok {X : XS} (h : X.ok) (n : Int) : (X.alloc n).2.2.ok := by
  unfold XS.alloc
  split
  · exact h
  · split
    · exact h
    · exact ⟨by simp only [setr_len]; exact h.hi⟩
theorem runs_len : ∀ (o : List Bool) (p : Nat), (runs p o).length ≤ o.length
  | [], p => Nat.le_refl _
  | false :: t, p => by have := runs_len t (p + 1); show (runs (p + 1) t).length ≤ t.length + 1; omega
  | true :: t, p => by
    have := runs_len t (p + 1)
    rw [runs]
    split
    · simp
    · rename_i s l r e
      rw [e] at this
      simp only [List.length_cons] at this
      split <;> simp <;> omega
def xcells (X : XS) (a : Option Addr) (c : Nat) : List Value := [i64 X.lo, i64 ((X.lo + X.o.length : Nat) : Int), .slice a X.runs.length c]
def SpaceRep (p : Nat) (X : XS) : HP := fun h => ∃ x : Option Addr × Nat, X.ok ∧ sepL [blk p (xcells X x.1 x.2), sown x.1 X.runs.length x.2 2 (hcells X.runs)] h
section
variable {W : World} {n : Nat} {F : Fr} {L : List HP} {G : Act → World → Prop}
theorem SpaceRep.open {p : Nat} {X : XS} (h : ∀ a c, X.ok → SG W n F (blk p (xcells X a c) :: sown a X.runs.length c 2 (hcells X.runs) :: L) G) : SG W n F (SpaceRep p X :: L) G := by
  refine sg_ex (p := fun (x : Option Addr × Nat) h => X.ok ∧ sepL [blk p (xcells X x.1 x.2), sown x.1 X.runs.length x.2 2 (hcells X.runs)] h) ?_
  rintro ⟨a, c⟩
  refine sg_and fun hX => sg_split (h a c hX)
theorem SpaceRep.shut {w : World} {p : Nat} {X : XS} {a : Option Addr} {c : Nat} (hX : X.ok) (hO : Own W w (blk p (xcells X a c) :: sown a X.runs.length c 2 (hcells X.runs) :: L)) : Own W w (SpaceRep p X :: L) :=
  (Own.join (L1 := [blk p (xcells X a c), sown a X.runs.length c 2 (hcells X.runs)]) hO).imp fun k hk => ⟨(a, c), hX, hk⟩
theorem sg_nil0 (sz : Nat) (h : SG W n F (sown0 none 0 0 sz [] :: L) G) : SG W n F L G := fun w hO a ha => h w (own_nil0 hO) a ha
theorem Rd.at2 {L : List HP} {a : Option Addr} {H : HL} (hr : Rd W L a (hcells H)) {b o : Nat} (ha : a = some ⟨b, o, none⟩) (j : Nat) (hj : j < H.length) : Rd W L (some ⟨b, o + j * 2, none⟩) (hc H[j]) := by
  subst ha
  exact hr.at (j * 2) (hcells_get H j hj)
theorem hcells_ne {H : HL} (h : 0 < H.length) : hcells H ≠ [] := by
  intro e; have := hcells_len H; rw [e] at this; simp only [List.length_nil] at this; omega
end
set_option maxRecDepth 20000
set_option maxHeartbeats 4000000
attribute [local irreducible] SG WC WO W1 WD WK PS Rd Tri Exit.then Exit.inBlock bodyPost calmQ Mid sadd
variable {W : World} {n : Nat} {F : Fr} {L : List HP} {G : Act → World → Prop}
theorem end_tri (s l : Nat) (R : List HP) (h : s + l ≤ 100000) :
    Tri Try.prog W 22 [.agg #[i64 s, i64 l]] R (X := Unit) (fun _ => i64 ((s + l : Nat) : Int)) (fun _ => True) (fun _ => R) := by
  refine tri_enter1 Try.func22 rfl Try.ntmps22 rfl ?_
  repeat' (first | refine sg_wo ?_ | refine sg_ps (ps_assign rfl) rfl ?_ | refine sg_seq ?_ | refine sg_region ?_ | refine sg_nil ?_ | refine sg_then ?_ | refine sg_ps (ps_fieldAddr rfl) rfl ?_ | refine sg_load 0 rfl rfl rfl rfl ?_ | refine sg_ps (ps_add64 rfl rfl (by omega)) rfl ?_ | refine sg_box rfl rfl (fun bx => ?_) | refine sg_ret ?_)
  exact ex_ret1 rfl rfl () (by rw [Int.natCast_add]) trivial (fun w hO => hO.tail)
theorem allocf_tri (h : Nat × Nat) (b : Nat) (m : Int) (R : List HP) :
    Tri Try.prog W 25 [.agg #[i64 h.1, i64 h.2], dp b] (blk b [i64 m] :: R) (X := Unit) (fun _ => .bool (decide (m ≤ h.2))) (fun _ => True) (fun _ => blk b [i64 m] :: R) := by
  refine tri_enter2 Try.func25 rfl Try.ntmps25 rfl ?_
  repeat' (first | refine sg_wo ?_ | refine sg_ps (ps_assign rfl) rfl ?_ | refine sg_seq ?_ | refine sg_region ?_ | refine sg_nil ?_ | refine sg_then ?_ | refine sg_ps (ps_fieldAddr rfl) rfl ?_ | refine sg_load 0 rfl rfl rfl rfl ?_ | refine sg_load 1 rfl rfl rfl rfl ?_ | refine sg_ps (ps_bin rfl rfl inferInstance) rfl ?_ | refine sg_box rfl rfl (fun bx => ?_) | refine sg_ret ?_)
  exact ex_ret1 rfl rfl () (by simp [ge_iff_le]) trivial (fun w hO => hO.tail)
theorem takef_tri (h : Nat × Nat) (b1 b2 : Nat) (s m : Int) (R : List HP) (hh : h.1 + h.2 ≤ 100000) (hs : -100000 ≤ s ∧ s ≤ 100000) (hm : -100000 ≤ m ∧ m ≤ 100000) :
    Tri Try.prog W 28 [.agg #[i64 h.1, i64 h.2], dp b1, dp b2] (blk b1 [i64 s] :: blk b2 [i64 m] :: R) (X := Unit) (fun _ => .bool (decide (h.1 ≤ s ∧ s + m ≤ ((h.1 + h.2 : Nat) : Int)))) (fun _ => True)
      (fun _ => blk b1 [i64 s] :: blk b2 [i64 m] :: R) := by
  refine tri_enter3 Try.func28 rfl Try.ntmps28 rfl ?_
  repeat' (first | refine sg_wo ?_ | refine sg_ps (ps_assign rfl) rfl ?_ | refine sg_seq ?_ | refine sg_region ?_ | refine sg_nil ?_ | refine sg_then ?_ | refine sg_box rfl rfl (fun bx => ?_))
  refine sg_drawK (blk bx [i64 h.1, i64 h.2] :: blk b1 [i64 s] :: blk b2 [i64 m] :: R) [0, 1, 2, 3, 4, 5, 6, 7, 8, 9, 10, 11, 12] (by kernel_rfl) (by kernel_rfl) (fun w hO => hO) ?_
  repeat' (first | refine sk_nil ?_ | refine sk_pure rfl rfl (ps_move rfl) rfl ?_ | refine sk_pure rfl rfl (ps_assign rfl) rfl ?_ | refine sk_pure rfl rfl (ps_fieldAddr rfl) rfl ?_ | refine sk_pure rfl rfl (ps_bin rfl rfl inferInstance) rfl ?_ | refine sk_pure rfl rfl (ps_pick_f rfl rfl) rfl ?_ | refine sk_no rfl rfl rfl rfl rfl ?_ | refine sk_pure_g rfl rfl rfl rfl (ps_add64 rfl rfl (by omega)) rfl ?_ | refine sk_load 0 rfl rfl rfl rfl rfl ?_ | refine sk_load 1 rfl rfl rfl rfl rfl ?_ | refine sk_load_g 1 rfl rfl rfl rfl rfl rfl rfl ?_ | refine sk_load_g 2 rfl rfl rfl rfl rfl rfl rfl ?_ | refine sk_lwg 0 rfl rfl rfl rfl rfl rfl rfl ?_ | refine sk_eff rfl rfl ?_ | refine sg_guard_yes rfl rfl ?_ | refine sg_guard_nf rfl rfl rfl ?_ | refine sk_back (fun w hO => hO) ?_ | (refine sk_dec rfl rfl rfl rfl (fun hg => ?_) (fun hg => ?_) <;> first | (exfalso; omega) | (exact absurd rfl hg) | skip))
  · refine sg_call (end_tri h.1 h.2 _ hh) rfl rfl (fun _ _ => ?_)
    refine sk_back (fun w hO => hO) ?_
    repeat' (first | refine sk_nil ?_ | refine sk_pure rfl rfl (ps_assign rfl) rfl ?_ | refine sk_pure rfl rfl (ps_pick_t rfl rfl) rfl ?_ | refine sk_pure_g rfl rfl rfl rfl (ps_bin rfl rfl inferInstance) rfl ?_)
    refine sg_then ?_
    repeat' (first | refine sg_ret ?_)
    exact ex_ret1 rfl rfl () (by simp [hg]) trivial (fun w hO => hO.tail)
  · skip
    repeat' (first | refine sg_then ?_ | refine sg_ret ?_)
    exact ex_ret1 rfl rfl () (by simp [hg]) trivial (fun w hO => hO.tail)
theorem index_tri (q : FuncId) [IsFn Try.prog q] (ds : List Value) (pr : Nat × Nat → Prop) [DecidablePred pr] (H : HL) (a : Option Addr) (c : Nat) (L : List HP) (hl : H.length ≤ 5000) (hr : Rd W L a (hcells H))
    (hC : ∀ h ∈ H, Tri Try.prog W q (.agg #[i64 h.1, i64 h.2] :: ds) L (X := Unit) (fun _ => .bool (decide (pr h))) (fun _ => True) (fun _ => L)) :
    Tri Try.prog W 24 [.slice a H.length c, .func (.func q) #[] ds.toArray] L (X := Int) (fun x => i64 x)
      (fun x => (∃ A h B, H = A ++ h :: B ∧ x = (A.length : Int) ∧ pr h ∧ ∀ a ∈ A, ¬ pr a) ∨ (x = -1 ∧ ∀ h ∈ H, ¬ pr h)) (fun _ => L) := by
  refine tri_enter2 Try.func24 rfl Try.ntmps24 rfl ?_
  repeat' (first | refine sg_wo ?_ | refine sg_ps (ps_move rfl) rfl ?_ | refine sg_ps (ps_assign rfl) rfl ?_ | refine sg_seq ?_ | refine sg_region ?_ | refine sg_nil ?_ | refine sg_then ?_ | refine sg_ps (ps_len rfl) rfl ?_ | refine sg_block ?_)
  refine sg_loop (γ := Nat) (fun j => j ≤ H.length ∧ ∀ x ∈ H.take j, ¬ pr x) (fun j => [(0, .slice a H.length c), (1, .func (.func q) #[] ds.toArray), (7, i64 H.length), (8, i64 j)]) (fun _ => L) (fun j => H.length - j) 0 ⟨Nat.zero_le _, by simp⟩
    (.cons rfl (.cons rfl (.cons rfl (.cons rfl .nil)))) (fun w hO => hO) ?_
  rintro j ⟨hj, hp⟩
  by_cases hjl : j < H.length
  · refine sg_rd_some hr (hcells_ne (by omega)) fun b o ha => ?_
    have hra := Rd.at2 hr ha j hjl
    subst ha
    repeat' (first | refine sg_wo ?_ | refine sg_ps (ps_move rfl) rfl ?_ | refine sg_ps (ps_assign rfl) rfl ?_ | refine sg_seq ?_ | refine sg_region ?_ | refine sg_nil ?_ | refine sg_then ?_ | refine sg_ps (ps_bin rfl rfl inferInstance) rfl ?_ | refine sg_ps (ps_indexAddr rfl rfl rfl (by omega)) rfl ?_ | refine sg_block ?_ | refine sg_skip ?_ | (refine sg_cond_dec rfl (fun hg => ?_) (fun hg => ?_) <;> first | (exfalso; omega) | (exact absurd rfl hg) | skip))
    refine sg_load_agg_rd rfl rfl hra rfl ?_
    refine sg_wo ?_
    refine sg_callc (ds := ds) rfl (hC H[j] (List.getElem_mem hjl)) rfl rfl (fun _ _ => ?_)
    repeat' (first | refine sg_wo ?_ | refine sg_ps (ps_move rfl) rfl ?_ | refine sg_ps (ps_assign rfl) rfl ?_ | refine sg_seq ?_ | refine sg_region ?_ | refine sg_nil ?_ | refine sg_then ?_ | refine sg_ps (ps_add64 rfl rfl (by omega)) rfl ?_ | refine sg_skip ?_ | refine sg_ret ?_ | refine ex_then_ret ?_ | refine ex_block_ret ?_ | refine ex_block_normal ?_ | (refine sg_cond_dec rfl (fun hg => ?_) (fun hg => ?_) <;> first | (exfalso; omega) | (exact absurd rfl hg) | skip))
    · refine ex_ret1 rfl rfl (j : Int) rfl (.inl ⟨H.take j, H[j], H.drop (j + 1), by simp, by rw [List.length_take, Nat.min_eq_left hj], hg, hp⟩) (fun w hO => hO)
    · refine ex_mid (j + 1) ⟨by omega, by omega, fun x hx => ?_⟩ (.cons rfl (.cons rfl (.cons rfl (.cons rfl .nil)))) (fun w hO => hO)
      rw [List.take_add_one, List.mem_append, List.getElem?_eq_getElem hjl] at hx
      rcases hx with hx | hx
      · exact hp x hx
      · simp at hx; subst hx; exact hg
  · have hje : j = H.length := by omega
    subst hje
    repeat' (first | refine sg_wo ?_ | refine sg_ps (ps_assign rfl) rfl ?_ | refine sg_seq ?_ | refine sg_region ?_ | refine sg_nil ?_ | refine sg_then ?_ | refine sg_ps (ps_bin rfl rfl inferInstance) rfl ?_ | refine sg_ret ?_ | refine sg_exit ?_ | refine ex_then_exit ?_ | refine ex_block_hit ?_ | (refine sg_cond_dec rfl (fun hg => ?_) (fun hg => ?_) <;> first | (exfalso; omega) | (exact absurd rfl hg) | skip))
    refine ex_ret1 rfl rfl (-1) rfl (.inr ⟨rfl, fun h hh => hp h (by rw [List.take_length]; exact hh)⟩) (fun w hO => hO)
theorem clone_tri (H : HL) (a : Option Addr) (c : Nat) (L : List HP) (hl : H.length ≤ 5000) (hr : Rd W L a (hcells H)) (ha : a = none → c = 0 ∧ H = []) :
    Tri Try.prog W 27 [.slice a H.length c] L (X := Option Addr × Nat) (fun x => .slice x.1 H.length x.2) (fun _ => True) (fun x => sown x.1 H.length x.2 2 (hcells H) :: L) := by
  refine tri_enter1 Try.func27 rfl Try.ntmps27 rfl ?_
  cases a with
  | none =>
    obtain ⟨rfl, rfl⟩ := ha rfl
    rw [List.length_nil]
    repeat' (first | refine sg_wo ?_ | refine sg_ps (ps_move rfl) rfl ?_ | refine sg_ps (ps_assign rfl) rfl ?_ | refine sg_seq ?_ | refine sg_region ?_ | refine sg_nil ?_ | refine sg_then ?_ | refine sg_ps (ps_bin rfl rfl inferInstance) rfl ?_ | refine sg_cond_t rfl ?_ | refine sg_ret ?_ | refine ex_then_ret ?_)
    exact ex_ret1 rfl rfl (none, 0) rfl trivial (fun w hO => own_nil hO)
  | some ad =>
    repeat' (first | refine sg_wo ?_ | refine sg_ps (ps_move rfl) rfl ?_ | refine sg_ps (ps_assign rfl) rfl ?_ | refine sg_seq ?_ | refine sg_region ?_ | refine sg_nil ?_ | refine sg_then ?_ | refine sg_ps (ps_bin rfl rfl inferInstance) rfl ?_ | refine sg_cond_f rfl ?_ | refine sg_skip ?_)
    refine sg_buildSlice (parts := []) (vs := []) (cells := []) rfl (by omega) rfl rfl (fun b => ?_)
    refine sg_own_mk (m := 0) (c := 0) (sz := 2) (xs := []) (Nat.le_refl _) (Nat.zero_le _) rfl rfl ?_
    repeat' (first | refine sg_wo ?_ | refine sg_ps (ps_move rfl) rfl ?_)
    refine sg_append rfl rfl rfl (hcells_len H) (hcells_one H) (Rd.mono hr) (by simp only [maxLen]; omega) (by omega) fun a' c' => ?_
    rw [List.nil_append, Nat.zero_add]
    repeat' (first | refine sg_wo ?_ | refine sg_ps (ps_assign rfl) rfl ?_ | refine sg_nil ?_ | refine sg_then ?_ | refine sg_ret ?_)
    exact ex_ret1 rfl rfl (a', c') rfl trivial (fun w hO => hO)
theorem within_tri (p : Nat) (X : XS) (s m : Int) (R : List HP) (hs : -9223372036854775808 ≤ s ∧ s ≤ 9223372036854775807) (hm : -9223372036854775808 ≤ m ∧ m ≤ 9223372036854775807) :
    Tri Try.prog W 21 [dp p, i64 s, i64 m] (SpaceRep p X :: R) (X := Unit) (fun _ => .bool (decide (1 ≤ m ∧ m ≤ X.o.length ∧ X.lo ≤ s ∧ s + m ≤ X.lo + X.o.length))) (fun _ => True) (fun _ => SpaceRep p X :: R) := by
  refine tri_enter3 Try.func21 rfl Try.ntmps21 rfl ?_
  refine SpaceRep.open fun a c hX => ?_
  have hhi := hX.hi
  repeat' (first | refine sg_wo ?_ | refine sg_ps (ps_assign rfl) rfl ?_ | refine sg_seq ?_ | refine sg_region ?_ | refine sg_nil ?_ | refine sg_then ?_)
  refine sg_drawK (blk p (xcells X a c) :: sown a X.runs.length c 2 (hcells X.runs) :: R) [0, 1, 2, 3, 4, 5, 6, 8, 9, 10, 7, 11, 12, 13, 14, 15, 16, 17, 18, 19, 20, 21, 22, 23, 24, 25, 26, 27, 29, 28, 30, 31, 32, 33] (by kernel_rfl) (by kernel_rfl) (fun w hO => hO) ?_
  repeat' (first | refine sk_nil ?_ | refine sk_pure rfl rfl (ps_move rfl) rfl ?_ | refine sk_pure rfl rfl (ps_assign rfl) rfl ?_ | refine sk_pure rfl rfl (ps_bin rfl rfl inferInstance) rfl ?_ | refine sk_pure rfl rfl (ps_pick_t rfl rfl) rfl ?_ | refine sk_pure rfl rfl (ps_pick_f rfl rfl) rfl ?_ | refine sk_no rfl rfl rfl rfl rfl ?_ | refine sk_pure_g rfl rfl rfl rfl (ps_move rfl) rfl ?_ | refine sk_pure_g rfl rfl rfl rfl (ps_nilCheck rfl) rfl ?_ | refine sk_pure_g rfl rfl rfl rfl (ps_fieldAddr rfl) rfl ?_ | refine sk_pure_g rfl rfl rfl rfl (ps_sub64 rfl rfl (by omega)) rfl ?_ | refine sk_pure_g rfl rfl rfl rfl (ps_bin rfl rfl inferInstance) rfl ?_ | refine sk_load_g 0 rfl rfl rfl rfl rfl rfl rfl ?_ | (refine sk_dec rfl rfl rfl rfl (fun hg => ?_) (fun hg => ?_) <;> first | (exfalso; omega) | (exact absurd rfl hg) | skip))
  all_goals
    refine sg_then ?_
    repeat' (first | refine sg_ret ?_)
    refine ex_ret1 rfl rfl () ?_ trivial (fun w hO => SpaceRep.shut hX hO)
    congr 1; symm
    first
      | (apply decide_eq_true; omega)
      | (apply decide_eq_false; omega)
      | (apply decide_eq_decide.2; omega)
      | skip
end Go.Proofs.Ytcchgkjcoknkcaa
