/- Package extent: New, Alloc, Take, Holes, Left. -/
import Derived.Test.YtcchgkjcoknkcaaEX4
namespace Go.Proofs.Ytcchgkjcoknkcaa
set_option linter.unusedVariables false
set_option linter.unusedSimpArgs false
set_option linter.unusedSectionVars false
set_option linter.unnecessarySimpa false
open Go Go.Proofs
theorem runs_full (n : Nat) : ∀ p, runs p (List.replicate (n + 1) true) = [(p, n + 1)] := by
  induction n with
  | zero => intro p; rfl
  | succ n ih =>
    intro p
    rw [List.replicate_succ, runs, ih (p + 1)]
    simp
def XS.new (lo n : Nat) : XS := ⟨lo, List.replicate n true⟩
theorem alloc_at {X : XS} {A B : HL} {h : Nat × Nat} {m : Nat} (hr : X.runs = A ++ h :: B) (hm : 1 ≤ m) (h1 : m ≤ h.2) (hA : ∀ a ∈ A, ¬ ((m : Int) ≤ (a.2 : Int))) :
    X.alloc (m : Int) = ((h.1 : Int), 0, X.cut h.1 m) := by
  obtain ⟨s, l⟩ := h
  have hf := first_some (p := X.lo) (o := X.o) hr hm h1 (fun a ha => by have := hA a ha; omega)
  have hlo := runs_lo (o := X.o) (p := X.lo) (h := (s, l)) (by show _ ∈ X.runs; rw [hr]; simp)
  simp only at hlo
  unfold XS.alloc
  rw [if_neg (by omega), Int.toNat_natCast, hf]
  simp only
  rw [show X.lo + (s - X.lo) = s by omega]; rfl
theorem alloc_none {X : XS} {m : Int} (hm : 1 ≤ m) (hA : ∀ a ∈ X.runs, ¬ (m ≤ (a.2 : Int))) : X.alloc m = (0, 3, X) := by
  unfold XS.alloc
  rw [if_neg (by omega), first_none (p := X.lo) (by omega) (fun a ha => by have := hA a ha; omega)]
theorem take_at {X : XS} {A B : HL} {h : Nat × Nat} {s m : Nat} (hr : X.runs = A ++ h :: B) (hw : 1 ≤ (m : Int) ∧ (m : Int) ≤ X.o.length ∧ (X.lo : Int) ≤ s ∧ (s : Int) + m ≤ X.lo + X.o.length) (h1 : h.1 ≤ s) (h2 : s + m ≤ h.1 + h.2) :
    X.turn (s : Int) (m : Int) false = (0, X.cut s m) := by
  unfold XS.turn
  have hy := take_yes (p := X.lo) (o := X.o) (s := h.1) (l := h.2) (st := s) (n := m) (by show _ ∈ X.runs; rw [hr]; simp) h1 h2
  rw [if_neg (fun h => h hw), Bool.not_false, show ((s : Int) - X.lo).toNat = s - X.lo by omega, Int.toNat_natCast, if_pos hy]
  rfl
theorem take_none {X : XS} {s m : Int} (hw : 1 ≤ m ∧ m ≤ X.o.length ∧ (X.lo : Int) ≤ s ∧ s + m ≤ X.lo + X.o.length) (hn : ∀ h ∈ X.runs, ¬ ((h.1 : Int) ≤ s ∧ s + m ≤ ((h.1 + h.2 : Nat) : Int))) :
    X.turn s m false = (6, X) := by
  unfold XS.turn
  have hy := take_no (p := X.lo) (o := X.o) (st := s.toNat) (n := m.toNat) (by omega) (by omega) (fun g hg hh => hn g hg (by omega))
  rw [if_neg (fun h => h hw), Bool.not_false, show (s - X.lo).toNat = s.toNat - X.lo by omega, hy]
  rfl
theorem turn_arg {X : XS} {s m : Int} {to : Bool} (hw : ¬ (1 ≤ m ∧ m ≤ X.o.length ∧ (X.lo : Int) ≤ s ∧ s + m ≤ X.lo + X.o.length)) : X.turn s m to = (1, X) := by
  unfold XS.turn; rw [if_pos hw]
set_option maxRecDepth 20000
set_option maxHeartbeats 4000000
attribute [local irreducible] SG WC WO W1 WD WK PS Rd Tri Exit.then Exit.inBlock bodyPost calmQ Mid sadd
variable {W : World} {n : Nat} {F : Fr} {L : List HP} {G : Act → World → Prop}
theorem newx_bad (a b : Int) (R : List HP) (h : ¬ (0 ≤ a ∧ a ≤ b ∧ b ≤ 4096)) :
    Tri Try.prog W 8 [i64 a, i64 b] R (X := Unit) (fun _ => .tuple #[.pointer none, i64 1]) (fun _ => True) (fun _ => R) := by
  refine tri_enter2 Try.func8 rfl Try.ntmps8 rfl ?_
  repeat' (first | refine sg_wo ?_ | refine sg_ps (ps_move rfl) rfl ?_ | refine sg_ps (ps_assign rfl) rfl ?_ | refine sg_seq ?_ | refine sg_region ?_ | refine sg_nil ?_ | refine sg_then ?_ | refine sg_ps (ps_bin rfl rfl inferInstance) rfl ?_ | refine sg_cond_t rfl ?_ | refine sg_guard_yes rfl rfl ?_ | refine sg_guard_nt rfl rfl rfl ?_ | refine sg_ps (ps_pick_t rfl rfl) rfl ?_ | refine sg_ps (ps_pick_f rfl rfl) rfl ?_ | refine sg_ret ?_ | refine ex_then_ret ?_ | (refine sg_guard_dec rfl rfl (fun hg => ?_) (fun hg => ?_) <;> first | (exfalso; omega) | (exact absurd rfl hg) | skip) | (refine sg_cond_dec rfl (fun hg => ?_) (fun hg => ?_) <;> first | (exfalso; omega) | (exact absurd rfl hg) | skip))
  all_goals first
    | exact ex_ret2 rfl rfl rfl () rfl trivial (fun w hO => hO)
    | (exfalso; omega)
theorem newx_tri (a k : Nat) (R : List HP) (h : a + k ≤ 4096) :
    Tri Try.prog W 8 [i64 a, i64 ((a + k : Nat) : Int)] R (X := Nat) (fun p => .tuple #[dp p, i64 0]) (fun _ => True) (fun p => SpaceRep p (XS.new a k) :: R) := by
  have hX : (XS.new a k).ok := ⟨by simp [XS.new]; exact h⟩
  have hrep : (XS.new a k).o.length = k := by simp [XS.new]
  refine tri_enter2 Try.func8 rfl Try.ntmps8 rfl ?_
  repeat' (first | refine sg_wo ?_ | refine sg_ps (ps_move rfl) rfl ?_ | refine sg_ps (ps_assign rfl) rfl ?_ | refine sg_seq ?_ | refine sg_region ?_ | refine sg_nil ?_ | refine sg_then ?_ | refine sg_ps (ps_sub64 rfl rfl (by omega)) rfl ?_ | refine sg_ps (ps_bin rfl rfl inferInstance) rfl ?_ | refine sg_guard_yes rfl rfl ?_ | refine sg_ps (ps_pick_f rfl rfl) rfl ?_ | refine sg_ps (ps_build rfl rfl) rfl ?_ | refine sg_box rfl rfl (fun bx => ?_) | refine sg_skip ?_ | refine sg_ret ?_ | (refine sg_guard_dec rfl rfl (fun hg => ?_) (fun hg => ?_) <;> first | (exfalso; omega) | (exact absurd rfl hg) | skip) | (refine sg_cond_dec rfl (fun hg => ?_) (fun hg => ?_) <;> first | (exfalso; omega) | (exact absurd rfl hg) | skip))
  · obtain ⟨j, rfl⟩ : ∃ j, k = j + 1 := ⟨k - 1, by omega⟩
    have hr : (XS.new a (j + 1)).runs = [(a, j + 1)] := runs_full j a
    have e1 : [i64 a, Value.int .i64 (((a + (j + 1) : Nat) : Int) - (a : Int))] = hcells (XS.new a (j + 1)).runs := by
      rw [hr]; simp only [hcells, hc, List.flatMap_cons, List.flatMap_nil, List.append_nil]
      rw [show (((a + (j + 1) : Nat) : Int) - (a : Int)) = ((j + 1 : Nat) : Int) by omega]
    refine sg_buildSlice1 (vs := hcells (XS.new a (j + 1)).runs) rfl (of_decide_eq_true rfl) e1 (by rw [hcells_len, hr]; rfl) rfl (fun b2 => ?_)
    repeat' (first | refine sg_wo ?_ | refine sg_ps (ps_move rfl) rfl ?_ | refine sg_ps (ps_assign rfl) rfl ?_ | refine sg_seq ?_ | refine sg_region ?_ | refine sg_nil ?_ | refine sg_then ?_ | refine sg_ps (ps_fieldAddr rfl) rfl ?_ | refine sg_ps (ps_nilCheck rfl) rfl ?_ | refine sg_ret ?_ | refine sg_store [_] rfl rfl rfl (of_decide_eq_true rfl) ?_)
    refine ex_ret2 rfl rfl rfl bx rfl trivial (fun w hO => SpaceRep.shut (a := some ⟨b2, 0, none⟩) (c := 1) hX ?_)
    refine Own.back1 (own_mk (c := 1) (n := (XS.new a (j + 1)).runs.length) (sz := 2) (cur := hcells (XS.new a (j + 1)).runs) (xs := hcells (XS.new a (j + 1)).runs) ?_ (by rw [hr]; simp) (by simp only [maxLen]; omega) (by rw [hcells_len, hr]; rfl) (by rw [hr]; rfl))
    have hl1 : (XS.new a (j + 1)).runs.length = 1 := by rw [hr]; rfl
    unfold xcells
    rw [hl1, hrep]
    exact hO
  · obtain rfl : k = 0 := by omega
    have hr : (XS.new a 0).runs = [] := rfl
    refine ex_ret2 rfl rfl rfl bx rfl trivial (fun w hO => SpaceRep.shut (a := none) (c := 0) hX ?_)
    rw [hr]
    refine Own.back1 (own_nil ?_)
    unfold xcells
    rw [hr, hrep]
    exact hO
theorem holes_tri (p : Nat) (X : XS) (R : List HP) :
    Tri Try.prog W 11 [dp p] (SpaceRep p X :: R) (X := Option Addr × Nat) (fun x => .slice x.1 X.runs.length x.2) (fun _ => True) (fun x => sown x.1 X.runs.length x.2 2 (hcells X.runs) :: SpaceRep p X :: R) := by
  refine tri_enter1 Try.func11 rfl Try.ntmps11 rfl ?_
  refine SpaceRep.open fun a c hX => ?_
  have hlen := runs_len X.o X.lo
  have hhi := hX.hi
  have hl : X.runs.length ≤ 4096 := by unfold XS.runs; omega
  refine sg_open (X := Unit) (L' := fun _ => blk p (xcells X a c) :: sown a X.runs.length c 2 (hcells X.runs) :: R) (φ := fun _ => a = none → c = 0 ∧ X.runs = []) (fun w hO => ⟨(), ?_, hO⟩) ?_
  · intro ha
    obtain ⟨_, ⟨_, h1, h2⟩ | ⟨g, h1, _⟩⟩ := hO.tail.sownCells
    · exact ⟨h2, List.eq_nil_of_length_eq_zero h1⟩
    · rw [ha] at h1; cases h1
  · rintro - hnil
    repeat' (first | refine sg_wo ?_ | refine sg_ps (ps_move rfl) rfl ?_ | refine sg_ps (ps_assign rfl) rfl ?_ | refine sg_seq ?_ | refine sg_region ?_ | refine sg_nil ?_ | refine sg_then ?_ | refine sg_ps (ps_fieldAddr rfl) rfl ?_ | refine sg_ps (ps_nilCheck rfl) rfl ?_ | refine sg_load 0 rfl rfl rfl rfl ?_ | refine sg_ps (ps_bin rfl rfl inferInstance) rfl ?_ | refine sg_cond_f rfl ?_ | refine sg_skip ?_)
    refine sg_call (clone_tri X.runs a c _ (by omega) (rd_sown 1 rfl fun _ _ h => h) hnil) rfl rfl (fun y _ => ?_)
    obtain ⟨a', c'⟩ := y
    repeat' (first | refine sg_wo ?_ | refine sg_ps (ps_assign rfl) rfl ?_ | refine sg_nil ?_ | refine sg_then ?_ | refine sg_ret ?_)
    refine ex_ret1 rfl rfl (a', c') rfl trivial (fun w hO => Own.back1 (SpaceRep.shut hX hO.front1.front2.front1))
theorem left_tri (p : Nat) (X : XS) (R : List HP) :
    Tri Try.prog W 12 [dp p] (SpaceRep p X :: R) (X := Unit) (fun _ => i64 ((X.o.count true : Nat) : Int)) (fun _ => True) (fun _ => SpaceRep p X :: R) := by
  refine tri_enter1 Try.func12 rfl Try.ntmps12 rfl ?_
  refine SpaceRep.open fun a c hX => ?_
  have hlen := runs_len X.o X.lo
  have hhi := hX.hi
  have hl : X.runs.length ≤ 4096 := by unfold XS.runs; omega
  have hsum : (X.runs.map (·.2)).sum = X.o.count true := runs_sum X.o X.lo
  have hcnt : X.o.count true ≤ X.o.length := List.count_le_length
  refine sg_own (L' := SpaceRep p X :: R) (fun w hO => SpaceRep.shut hX hO) ?_
  repeat' (first | refine sg_wo ?_ | refine sg_ps (ps_move rfl) rfl ?_ | refine sg_ps (ps_assign rfl) rfl ?_ | refine sg_seq ?_ | refine sg_region ?_ | refine sg_nil ?_ | refine sg_then ?_)
  refine sg_call (holes_tri p X R) rfl rfl (fun y _ => ?_)
  obtain ⟨a', c'⟩ := y
  dsimp only
  repeat' (first | refine sg_wo ?_ | refine sg_ps (ps_move rfl) rfl ?_ | refine sg_nil ?_ | refine sg_then ?_ | refine sg_ps (ps_len rfl) rfl ?_ | refine sg_block ?_)
  refine sg_loop (γ := Nat) (fun j => j ≤ X.runs.length) (fun j => [(3, i64 (((X.runs.take j).map (·.2)).sum : Nat)), (7, .slice a' X.runs.length c'), (8, i64 X.runs.length), (9, i64 j)])
    (fun _ => sown a' X.runs.length c' 2 (hcells X.runs) :: SpaceRep p X :: R) (fun j => X.runs.length - j) 0 (Nat.zero_le _) (.cons rfl (.cons rfl (.cons rfl (.cons rfl .nil)))) (fun w hO => hO) ?_
  intro j hj
  by_cases hjl : j < X.runs.length
  · refine sg_rd_some (rd_sown (W := W) (L := sown a' X.runs.length c' 2 (hcells X.runs) :: SpaceRep p X :: R) (vs := hcells X.runs) 0 rfl fun _ _ h => h) (hcells_ne (by omega)) fun b o ha => ?_
    have hra := Rd.at2 (rd_sown (W := W) (L := sown a' X.runs.length c' 2 (hcells X.runs) :: SpaceRep p X :: R) (vs := hcells X.runs) 0 rfl fun _ _ h => h) ha j hjl
    subst ha
    have hst : ((X.runs.take (j + 1)).map (·.2)).sum = ((X.runs.take j).map (·.2)).sum + X.runs[j].2 := by
      rw [List.take_add_one, List.getElem?_eq_getElem hjl, Option.toList_some, List.map_append, List.sum_append]; rfl
    have hle : ((X.runs.take (j + 1)).map (·.2)).sum ≤ X.o.count true := by
      rw [← hsum]
      conv => rhs; rw [← List.take_append_drop (j + 1) X.runs]
      rw [List.map_append, List.sum_append]; omega
    rw [hst] at hle
    repeat' (first | refine sg_wo ?_ | refine sg_seq ?_ | refine sg_region ?_ | refine sg_nil ?_ | refine sg_then ?_ | refine sg_ps (ps_bin rfl rfl inferInstance) rfl ?_ | refine sg_ps (ps_indexAddr rfl rfl rfl (by omega)) rfl ?_ | refine sg_block ?_ | refine sg_skip ?_ | (refine sg_cond_dec rfl (fun hg => ?_) (fun hg => ?_) <;> first | (exfalso; omega) | (exact absurd rfl hg) | skip))
    refine sg_load_agg_rd rfl rfl hra rfl ?_
    repeat' (first | refine sg_wo ?_ | refine sg_ps (ps_move rfl) rfl ?_ | refine sg_ps (ps_assign rfl) rfl ?_ | refine sg_region ?_ | refine sg_nil ?_ | refine sg_then ?_ | refine sg_ps (ps_fieldAddr rfl) rfl ?_ | refine sg_load 0 rfl rfl rfl rfl ?_ | refine sg_ps (ps_add64 rfl rfl (by omega)) rfl ?_ | refine sg_store_whole [] rfl rfl rfl rfl rfl ?_ | refine sg_alloc rfl (fun al => ?_) | refine ex_block_normal ?_)
    refine ex_mid (j + 1) ⟨by omega, by omega⟩ (.cons (by rw [hst, Int.natCast_add]; rfl) (.cons rfl (.cons rfl (.cons rfl .nil)))) (fun w hO => hO.tail)
  · obtain rfl : j = X.runs.length := by omega
    rw [List.take_length, hsum]
    repeat' (first | refine sg_wo ?_ | refine sg_ps (ps_move rfl) rfl ?_ | refine sg_ps (ps_assign rfl) rfl ?_ | refine sg_seq ?_ | refine sg_region ?_ | refine sg_nil ?_ | refine sg_then ?_ | refine sg_ps (ps_bin rfl rfl inferInstance) rfl ?_ | refine sg_ret ?_ | refine sg_exit ?_ | refine ex_then_exit ?_ | refine ex_block_hit ?_ | (refine sg_cond_dec rfl (fun hg => ?_) (fun hg => ?_) <;> first | (exfalso; omega) | (exact absurd rfl hg) | skip))
    exact ex_ret1 rfl rfl () rfl trivial (fun w hO => hO.tail)
end Go.Proofs.Ytcchgkjcoknkcaa
