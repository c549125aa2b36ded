/- ExtentApart: nothing overlaps; freed again all is one hole. -/
import Derived.Test.YtcchgkjcoknkcaaLE
import Derived.Test.YtcchgkjcoknkcaaSWN
import Derived.DeepKeys
namespace Go.Proofs.Ytcchgkjcoknkcaa
set_option linter.unusedVariables false
set_option linter.unusedSimpArgs false
set_option linter.unusedSectionVars false
set_option linter.unnecessarySimpa false
open Go Go.Proofs
structure AP (n : Nat) (o : List Bool) (l : HL) : Prop where
  len : o.length = n
  hl : ∀ h ∈ l, 1 ≤ h.2 ∧ h.1 + h.2 ≤ n
  dj : l.Pairwise (fun a b => a.1 + a.2 ≤ b.1 ∨ b.1 + b.2 ≤ a.1)
  mem : ∀ x, x < n → (o[x]? = some false ↔ memH l x)
theorem AP.start (n : Nat) : AP n (List.replicate n true) [] := ⟨by simp, by simp, by simp, fun x hx => by simp [List.getElem?_replicate, hx, memH]⟩
theorem AP.free {n : Nat} {o : List Bool} {h : Nat × Nat} {l : HL} (ha : AP n o (h :: l)) : (XS.mk 0 o).turn (h.1 : Int) (h.2 : Int) true = (0, ⟨0, setr o h.1 h.2 true⟩) ∧ AP n (setr o h.1 h.2 true) l := by
  have hh := ha.hl h (by simp)
  have hdj := List.pairwise_cons.1 ha.dj
  have hall : allB o h.1 h.2 false = true := allB_iff.2 fun i h1 h2 => (ha.mem i (by omega)).2 (memH_cons.2 (.inl ⟨h1, h2⟩))
  constructor
  · unfold XS.turn
    have hw : 1 ≤ (h.2 : Int) ∧ (h.2 : Int) ≤ o.length ∧ ((0 : Nat) : Int) ≤ (h.1 : Int) ∧ (h.1 : Int) + (h.2 : Int) ≤ ((0 : Nat) : Int) + o.length := by have := ha.len; omega
    rw [if_neg (fun g => g hw), show ((h.1 : Int) - ((XS.mk 0 o).lo : Int)).toNat = h.1 by show ((h.1 : Int) - ((0 : Nat) : Int)).toNat = _; omega, Int.toNat_natCast, Bool.not_true]
    have h2 : allB (XS.mk 0 o).o h.1 h.2 false = true := hall
    rw [if_pos h2]
  · refine ⟨by rw [setr_len]; exact ha.len, fun g hg => ha.hl g (by simp [hg]), hdj.2, fun x hx => ?_⟩
    rw [setr_mem]
    constructor
    · rintro (⟨_, _, _, hf⟩ | ⟨h1, h2⟩)
      · simp at hf
      · rcases memH_cons.1 ((ha.mem x hx).1 h2) with h3 | h3
        · exact absurd h3 h1
        · exact h3
    · intro hm
      right
      obtain ⟨g, hg, g1, g2⟩ := hm
      have := hdj.1 g hg
      exact ⟨by omega, (ha.mem x hx).2 (memH_cons.2 (.inr ⟨g, hg, g1, g2⟩))⟩
theorem AP.grow {n : Nat} {o : List Bool} {l : HL} {k m : Nat} (ha : AP n o l) (hall : allB o k m true = true) (hm : 1 ≤ m) : AP n (setr o k m false) (l ++ [(k, m)]) := by
  have hroom := allB_room hall hm
  have hlen := ha.len
  refine ⟨by rw [setr_len]; exact ha.len, fun g hg => ?_, ?_, fun x hx => ?_⟩
  · rcases List.mem_append.1 hg with hg | hg
    · exact ha.hl g hg
    · simp at hg; subst hg; exact ⟨hm, by simp only; omega⟩
  · rw [List.pairwise_append]
    refine ⟨ha.dj, by simp, fun a haa b hb => ?_⟩
    simp at hb; subst hb
    simp only
    have hb := ha.hl a haa
    by_cases h1 : a.1 + a.2 ≤ k
    · exact .inl h1
    · right
      rcases Nat.lt_or_ge a.1 (k + m) with h2 | h2
      · exfalso
        have hx : max a.1 k < n := by omega
        have e1 := (ha.mem (max a.1 k) hx).2 ⟨a, haa, by omega, by omega⟩
        have e2 := allB_iff.1 hall (max a.1 k) (by omega) (by omega)
        rw [e1] at e2; simp at e2
      · exact h2
  · rw [setr_mem, memH_append, memH_cons]
    simp only [memH_nil, or_false]
    constructor
    · rintro (⟨h1, h2, _, _⟩ | ⟨h1, h2⟩)
      · exact .inr ⟨h1, h2⟩
      · exact .inl ((ha.mem x hx).1 h2)
    · rintro (h1 | h1)
      · have h2 := (ha.mem x hx).2 h1
        right
        refine ⟨fun h3 => ?_, h2⟩
        have := allB_iff.1 hall x h3.1 h3.2
        rw [h2] at this; simp at this
      · exact .inl ⟨h1.1, h1.2, by omega, trivial⟩
theorem AP.end {n : Nat} {o : List Bool} (ha : AP n o []) : o = List.replicate n true := by
  rw [List.eq_replicate_iff]
  refine ⟨ha.len, fun b hb => ?_⟩
  obtain ⟨i, hi, rfl⟩ := List.mem_iff_getElem.1 hb
  have := ha.mem i (by have := ha.len; omega)
  rw [List.getElem?_eq_getElem hi] at this
  cases h : o[i] with
  | true => rfl
  | false => rw [h] at this; simp [memH] at this
theorem setr_zero (o : List Bool) (k : Nat) (b : Bool) : setr o k 0 b = o := by
  apply List.ext_getElem?
  intro i
  rw [setr_get, Option.map_congr (g := id) (fun x _ => by rw [if_neg (by omega)]; rfl)]; simp
theorem setr_step {o : List Bool} {k j : Nat} {b : Bool} : (setr o k j b).set (k + j) b = setr o k (j + 1) b := by
  apply List.ext_getElem?
  intro i
  rw [List.getElem?_set, setr_len, setr_get, setr_get]
  by_cases h : k + j = i
  · subst h
    rw [if_pos rfl]
    by_cases h2 : k + j < o.length
    · rw [if_pos h2, List.getElem?_eq_getElem h2, Option.map_some, if_pos (by omega)]
    · rw [if_neg h2, List.getElem?_eq_none (by omega)]; rfl
  · rw [if_neg h]
    congr 1
    funext x
    by_cases h2 : k ≤ i ∧ i < k + j
    · rw [if_pos h2, if_pos (by omega)]
    · rw [if_neg h2, if_neg (by omega)]
theorem alloc_zero {o : List Bool} {m : Nat} (hm : 1 ≤ m) : ((XS.mk 0 o).alloc (m : Int) = (0, 3, ⟨0, o⟩)) ∨ ∃ k : Nat, (XS.mk 0 o).alloc (m : Int) = ((k : Int), 0, ⟨0, setr o k m false⟩) ∧ allB o k m true = true := by
  unfold XS.alloc
  rw [if_neg (by omega), Int.toNat_natCast]
  cases hf : firstK o m with
  | none => exact .inl rfl
  | some k => exact .inr ⟨k, by simp, (firstK_spec hf).2⟩
abbrev nb (b : Bool) : Value := .bool (!b)
set_option maxRecDepth 20000
set_option maxHeartbeats 4000000
theorem hole_under : ∃ fs : Array Field, Try.prog.underlying 31 = some (.struct fs) ∧ (fs.toList.map fun f => (f.type, f.offset)) = [(3, 0), (3, 1)] ∧ fs.all (·.name != "_") = true := ⟨_, Try.underlying31, by kernel_rfl, by kernel_rfl⟩
theorem cells_hole : Try.prog.cellsOf 31 = 2 := by kernel_rfl
theorem cells_int : Try.prog.cellsOf 3 = 1 := by kernel_rfl
theorem lits_i64 (d : Nat) (a : Int) (h : 0 ≤ a ∧ a ≤ 4096) : Try.prog.keyLits (d + 1) 3 [i64 a] = some [.int .i64 a] := by
  have hw : (Lit.int .i64 a).wf = true := by
    have h1 : IntKind.min .i64 = -9223372036854775808 := by decide
    have h2 : IntKind.max .i64 = 9223372036854775807 := by decide
    simp [Lit.wf, h1, h2]; omega
  unfold Program.keyLits
  rw [Try.underlying3]
  simp [hw]
theorem hole_lits (a b : Int) (ha : 0 ≤ a ∧ a ≤ 4096) (hb : 0 ≤ b ∧ b ≤ 4096) : Try.prog.keyLits 2 31 [i64 a, i64 b] = some [.int .i64 a, .int .i64 b] := by
  obtain ⟨fs, h1, h2, h3⟩ := hole_under
  unfold Program.keyLits
  rw [h1]
  have hm : fs.toList.mapM (fun f => Try.prog.keyLits 1 f.type (([i64 a, i64 b].drop f.offset).take (Try.prog.cellsOf f.type))) = (fs.toList.map fun f => (f.type, f.offset)).mapM (fun p => Try.prog.keyLits 1 p.1 (([i64 a, i64 b].drop p.2).take (Try.prog.cellsOf p.1))) := by
    rw [List.mapM_map]; rfl
  simp only [hm, h2]
  rw [if_pos ⟨by rw [cells_hole]; rfl, h3⟩]
  have s0 := lits_i64 0 a ha
  have s1 := lits_i64 0 b hb
  simp only [Nat.zero_add] at s0 s1
  simp [cells_int, s0, s1]
theorem ps_eqH {n : Nat} {F : Fr} {x y : Operand} {yt ty : TypeId} {a b : Int} (ha : 0 ≤ a ∧ a ≤ 4096) (hb : 0 ≤ b ∧ b ≤ 4096) (hx : ev F x = some (.agg #[i64 a, i64 b])) (hy : ev F y = some (.agg #[i64 a, i64 b])) :
    PS Try.prog n F (.binOp .eql 31 x y yt) ty (.bool true) := by
  intro ac hac w dst pos af g
  have hg : Try.prog.eqGuardType Try.prog.depth 31 = false := by kernel_rfl
  have he : (Op.equal 31 (.agg #[i64 a, i64 b]) (.agg #[i64 a, i64 b])).run Try.prog w = .ok true w := by
    have hk : Try.prog.keyTypeAt 2 31 = true := by kernel_rfl
    obtain ⟨d, hd⟩ : ∃ d, Op.maxDepth = d + 2 := ⟨Op.maxDepth - 2, by decide⟩
    have f1 : (Value.agg #[i64 a, i64 b]).formed Try.prog 31 = true := by
      obtain ⟨fs, h1, _⟩ := hole_under
      simp [Value.formed, h1, cells_hole]
    obtain ⟨r, hr, hi⟩ := run_equalIn_deep d 2 31 hk w 2 2 _ _ _ _ f1 f1 (hole_lits a b ha hb) (hole_lits a b ha hb)
    have hr2 : r = true := hi.2 rfl
    unfold Op.equal
    rw [hd, hr, hr2]
  simp only [execOp, hac.ev hx, hac.ev hy]
  simp [eqGuard, binOp, hg, he]
attribute [local irreducible] SG WC WO W1 WD WK PS Rd Tri Exit.then Exit.inBlock bodyPost calmQ Mid sadd
variable {W : World} {n : Nat} {F : Fr} {L : List HP} {G : Act → World → Prop}
theorem extentApart_tri (m : Int) (zs : List Int) (za : Option Addr) (zc : Nat) (hz : RdO W za (zs.map (Value.int .i64))) (hzl : zs.length ≤ 9223372036854775807) :
    Tri Try.prog W 3 [i64 m, .slice za zs.length zc] [old W] (X := Unit) (fun _ => .bool true) (fun _ => True) (fun _ => [old W]) := by
  obtain ⟨k, hk0, hk200⟩ := rem_nat m 200 (by omega)
  have hk : (m.tmod 200 + 200).tmod 200 = (k : Int) := hk0
  have hrl := rem_lt m (m := 200) (by omega)
  refine tri_enter2 Try.func3 rfl Try.ntmps3 rfl ?_
  repeat' (first
    | refine sg_wo ?_
    | refine sg_ps (ps_move rfl) rfl ?_
    | refine sg_ps (ps_assign rfl) rfl ?_
    | refine sg_seq ?_
    | refine sg_region ?_
    | refine sg_nil ?_
    | refine sg_then ?_
    | refine sg_ps (ps_fieldAddr rfl) rfl ?_
    | refine sg_ps (ps_nilCheck rfl) rfl ?_
    | refine sg_load 0 rfl rfl rfl rfl ?_
    | refine sg_load 1 rfl rfl rfl rfl ?_
    | refine sg_load 2 rfl rfl rfl rfl ?_
    | refine sg_load 3 rfl rfl rfl rfl ?_
    | refine sg_load 4 rfl rfl rfl rfl ?_
    | refine sg_load 5 rfl rfl rfl rfl ?_
    | refine sg_load 6 rfl rfl rfl rfl ?_
    | refine sg_load 7 rfl rfl rfl rfl ?_
    | refine sg_ps (ps_add64 rfl rfl (by omega)) rfl ?_
    | refine sg_ps (ps_sub64 rfl rfl (by omega)) rfl ?_
    | refine sg_ps (ps_mul64 rfl rfl (by omega)) rfl ?_
    | refine sg_ps (ps_bin rfl rfl inferInstance) rfl ?_
    | refine sg_ps (ps_rem rfl rfl (by decide)) rfl ?_
    | refine sg_ps (ps_quo64 rfl rfl (by decide) (by omega)) rfl ?_
    | refine sg_ps (ps_not rfl) rfl ?_
    | refine sg_ps (ps_conv rfl) rfl ?_
    | refine sg_ps (ps_shl rfl rfl (by decide) rfl) rfl ?_
    | refine sg_ps (ps_shr rfl rfl (by decide) rfl) rfl ?_
    | refine sg_cond_t rfl ?_
    | refine sg_cond_f rfl ?_
    | refine sg_guard_yes rfl rfl ?_
    | refine sg_guard_nf rfl rfl rfl ?_
    | refine sg_guard_nt rfl rfl rfl ?_
    | refine sg_guard_nu rfl rfl rfl ?_
    | refine sg_ps (ps_pick_t rfl rfl) rfl ?_
    | refine sg_ps (ps_pick_f rfl rfl) rfl ?_
    | refine sg_ps (ps_len rfl) rfl ?_
    | refine sg_ps (ps_len_str rfl) rfl ?_
    | refine sg_ps (ps_extract rfl rfl) rfl ?_
    | refine sg_ps (ps_field rfl rfl) rfl ?_
    | refine sg_ps (ps_min2 rfl rfl) rfl ?_
    | refine sg_ps (ps_max2 rfl rfl) rfl ?_
    | refine sg_ps (ps_build rfl rfl) rfl ?_
    | refine sg_box rfl rfl (fun bx => ?_)
    | refine sg_ps (ps_indexAddr rfl rfl rfl (by omega)) rfl ?_
    | refine sg_ps (ps_indexAddr (j := 0) rfl rfl rfl (by omega)) rfl ?_
    | refine sg_ps (ps_indexAddr (j := 1) rfl rfl rfl (by omega)) rfl ?_
    | refine sg_ps (ps_indexAddr_arr rfl rfl rfl (by omega)) rfl ?_
    | refine sg_load_whole 0 rfl rfl rfl rfl ?_
    | refine sg_load_whole 1 rfl rfl rfl rfl ?_
    | refine sg_load_whole 2 rfl rfl rfl rfl ?_
    | refine sg_load_whole 3 rfl rfl rfl rfl ?_
    | refine sg_load_whole 4 rfl rfl rfl rfl ?_
    | refine sg_load_whole 5 rfl rfl rfl rfl ?_
    | refine sg_load_whole 6 rfl rfl rfl rfl ?_
    | refine sg_load_whole 7 rfl rfl rfl rfl ?_
    | refine sg_store_whole [] rfl rfl rfl rfl rfl ?_
    | refine sg_store_whole [_] rfl rfl rfl rfl rfl ?_
    | refine sg_store_whole [_, _] rfl rfl rfl rfl rfl ?_
    | refine sg_store_whole [_, _, _] rfl rfl rfl rfl rfl ?_
    | refine sg_store_whole [_, _, _, _] rfl rfl rfl rfl rfl ?_
    | refine sg_store_whole [_, _, _, _, _] rfl rfl rfl rfl rfl ?_
    | refine sg_store_whole [_, _, _, _, _, _] rfl rfl rfl rfl rfl ?_
    | refine sg_alloc rfl (fun al => ?_)
    | refine sg_block ?_
    | refine sg_skip ?_
    | refine sg_ret ?_
    | refine sg_exit ?_
    | refine ex_then_ret ?_
    | refine ex_then_exit ?_
    | refine ex_block_ret ?_
    | refine ex_block_normal ?_
    | refine ex_block_hit ?_
    | refine ex_block_miss rfl ?_
    | refine sg_store [] rfl rfl rfl (of_decide_eq_true rfl) ?_
    | refine sg_store [_] rfl rfl rfl (of_decide_eq_true rfl) ?_
    | refine sg_store [_, _] rfl rfl rfl (of_decide_eq_true rfl) ?_
    | refine sg_store [_, _, _] rfl rfl rfl (of_decide_eq_true rfl) ?_
    | refine sg_store [_, _, _, _] rfl rfl rfl (of_decide_eq_true rfl) ?_
    | refine sg_store [_, _, _, _, _] rfl rfl rfl (of_decide_eq_true rfl) ?_
    | refine sg_store [_, _, _, _, _, _] rfl rfl rfl (of_decide_eq_true rfl) ?_
    | refine sg_store [_, _, _, _, _, _, _] rfl rfl rfl (of_decide_eq_true rfl) ?_
    | (refine sg_guard_dec rfl rfl (fun hg => ?_) (fun hg => ?_) <;> first | (exfalso; omega) | (exact absurd rfl hg) | skip)
    | (refine sg_guard_ndec rfl rfl (fun hg => ?_) (fun hg => ?_) <;> first | (exfalso; omega) | (exact absurd rfl hg) | skip)
    | (refine sg_cond_dec rfl (fun hg => ?_) (fun hg => ?_) <;> first | (exfalso; omega) | (exact absurd rfl hg) | skip)
    | (refine sg_cond_ndec rfl (fun hg => ?_) (fun hg => ?_) <;> first | (exfalso; omega) | (exact absurd rfl hg) | skip)
    | refine sg_cond_not rfl (fun hg => ?_) (fun hg => ?_)
    | refine sg_cond rfl (fun hg => ?_) (fun hg => ?_))
  refine sg_call (awake_tri _) rfl rfl (fun _ _ => ?_)
  repeat' (first
    | refine sg_wo ?_
    | refine sg_ps (ps_move rfl) rfl ?_
    | refine sg_ps (ps_assign rfl) rfl ?_
    | refine sg_seq ?_
    | refine sg_region ?_
    | refine sg_nil ?_
    | refine sg_then ?_
    | refine sg_ps (ps_fieldAddr rfl) rfl ?_
    | refine sg_ps (ps_nilCheck rfl) rfl ?_
    | refine sg_load 0 rfl rfl rfl rfl ?_
    | refine sg_load 1 rfl rfl rfl rfl ?_
    | refine sg_load 2 rfl rfl rfl rfl ?_
    | refine sg_load 3 rfl rfl rfl rfl ?_
    | refine sg_load 4 rfl rfl rfl rfl ?_
    | refine sg_load 5 rfl rfl rfl rfl ?_
    | refine sg_load 6 rfl rfl rfl rfl ?_
    | refine sg_load 7 rfl rfl rfl rfl ?_
    | refine sg_ps (ps_add64 rfl rfl (by omega)) rfl ?_
    | refine sg_ps (ps_sub64 rfl rfl (by omega)) rfl ?_
    | refine sg_ps (ps_mul64 rfl rfl (by omega)) rfl ?_
    | refine sg_ps (ps_bin rfl rfl inferInstance) rfl ?_
    | refine sg_ps (ps_rem rfl rfl (by decide)) rfl ?_
    | refine sg_ps (ps_quo64 rfl rfl (by decide) (by omega)) rfl ?_
    | refine sg_ps (ps_not rfl) rfl ?_
    | refine sg_ps (ps_conv rfl) rfl ?_
    | refine sg_ps (ps_shl rfl rfl (by decide) rfl) rfl ?_
    | refine sg_ps (ps_shr rfl rfl (by decide) rfl) rfl ?_
    | refine sg_cond_t rfl ?_
    | refine sg_cond_f rfl ?_
    | refine sg_guard_yes rfl rfl ?_
    | refine sg_guard_nf rfl rfl rfl ?_
    | refine sg_guard_nt rfl rfl rfl ?_
    | refine sg_guard_nu rfl rfl rfl ?_
    | refine sg_ps (ps_pick_t rfl rfl) rfl ?_
    | refine sg_ps (ps_pick_f rfl rfl) rfl ?_
    | refine sg_ps (ps_len rfl) rfl ?_
    | refine sg_ps (ps_len_str rfl) rfl ?_
    | refine sg_ps (ps_extract rfl rfl) rfl ?_
    | refine sg_ps (ps_field rfl rfl) rfl ?_
    | refine sg_ps (ps_min2 rfl rfl) rfl ?_
    | refine sg_ps (ps_max2 rfl rfl) rfl ?_
    | refine sg_ps (ps_build rfl rfl) rfl ?_
    | refine sg_box rfl rfl (fun bx => ?_)
    | refine sg_ps (ps_indexAddr rfl rfl rfl (by omega)) rfl ?_
    | refine sg_ps (ps_indexAddr (j := 0) rfl rfl rfl (by omega)) rfl ?_
    | refine sg_ps (ps_indexAddr (j := 1) rfl rfl rfl (by omega)) rfl ?_
    | refine sg_ps (ps_indexAddr_arr rfl rfl rfl (by omega)) rfl ?_
    | refine sg_load_whole 0 rfl rfl rfl rfl ?_
    | refine sg_load_whole 1 rfl rfl rfl rfl ?_
    | refine sg_load_whole 2 rfl rfl rfl rfl ?_
    | refine sg_load_whole 3 rfl rfl rfl rfl ?_
    | refine sg_load_whole 4 rfl rfl rfl rfl ?_
    | refine sg_load_whole 5 rfl rfl rfl rfl ?_
    | refine sg_load_whole 6 rfl rfl rfl rfl ?_
    | refine sg_load_whole 7 rfl rfl rfl rfl ?_
    | refine sg_store_whole [] rfl rfl rfl rfl rfl ?_
    | refine sg_store_whole [_] rfl rfl rfl rfl rfl ?_
    | refine sg_store_whole [_, _] rfl rfl rfl rfl rfl ?_
    | refine sg_store_whole [_, _, _] rfl rfl rfl rfl rfl ?_
    | refine sg_store_whole [_, _, _, _] rfl rfl rfl rfl rfl ?_
    | refine sg_store_whole [_, _, _, _, _] rfl rfl rfl rfl rfl ?_
    | refine sg_store_whole [_, _, _, _, _, _] rfl rfl rfl rfl rfl ?_
    | refine sg_alloc rfl (fun al => ?_)
    | refine sg_block ?_
    | refine sg_skip ?_
    | refine sg_ret ?_
    | refine sg_exit ?_
    | refine ex_then_ret ?_
    | refine ex_then_exit ?_
    | refine ex_block_ret ?_
    | refine ex_block_normal ?_
    | refine ex_block_hit ?_
    | refine ex_block_miss rfl ?_
    | refine sg_store [] rfl rfl rfl (of_decide_eq_true rfl) ?_
    | refine sg_store [_] rfl rfl rfl (of_decide_eq_true rfl) ?_
    | refine sg_store [_, _] rfl rfl rfl (of_decide_eq_true rfl) ?_
    | refine sg_store [_, _, _] rfl rfl rfl (of_decide_eq_true rfl) ?_
    | refine sg_store [_, _, _, _] rfl rfl rfl (of_decide_eq_true rfl) ?_
    | refine sg_store [_, _, _, _, _] rfl rfl rfl (of_decide_eq_true rfl) ?_
    | refine sg_store [_, _, _, _, _, _] rfl rfl rfl (of_decide_eq_true rfl) ?_
    | refine sg_store [_, _, _, _, _, _, _] rfl rfl rfl (of_decide_eq_true rfl) ?_
    | (refine sg_guard_dec rfl rfl (fun hg => ?_) (fun hg => ?_) <;> first | (exfalso; omega) | (exact absurd rfl hg) | skip)
    | (refine sg_guard_ndec rfl rfl (fun hg => ?_) (fun hg => ?_) <;> first | (exfalso; omega) | (exact absurd rfl hg) | skip)
    | (refine sg_cond_dec rfl (fun hg => ?_) (fun hg => ?_) <;> first | (exfalso; omega) | (exact absurd rfl hg) | skip)
    | (refine sg_cond_ndec rfl (fun hg => ?_) (fun hg => ?_) <;> first | (exfalso; omega) | (exact absurd rfl hg) | skip)
    | refine sg_cond_not rfl (fun hg => ?_) (fun hg => ?_)
    | refine sg_cond rfl (fun hg => ?_) (fun hg => ?_))
  rw [hk, show (k : Int) + 1 = ((0 + (k + 1) : Nat) : Int) by omega]
  refine sg_call (newx_tri 0 (k + 1) _ (by omega)) rfl rfl (fun p _ => ?_)
  rw [Nat.zero_add]
  obtain ⟨N, hN⟩ : ∃ N, N = k + 1 := ⟨_, rfl⟩
  rw [← hN]
  have hN1 : 1 ≤ N ∧ N ≤ 200 := by omega
  repeat' (first
    | refine sg_wo ?_
    | refine sg_ps (ps_move rfl) rfl ?_
    | refine sg_ps (ps_assign rfl) rfl ?_
    | refine sg_seq ?_
    | refine sg_region ?_
    | refine sg_nil ?_
    | refine sg_then ?_
    | refine sg_ps (ps_fieldAddr rfl) rfl ?_
    | refine sg_ps (ps_nilCheck rfl) rfl ?_
    | refine sg_load 0 rfl rfl rfl rfl ?_
    | refine sg_load 1 rfl rfl rfl rfl ?_
    | refine sg_load 2 rfl rfl rfl rfl ?_
    | refine sg_load 3 rfl rfl rfl rfl ?_
    | refine sg_load 4 rfl rfl rfl rfl ?_
    | refine sg_load 5 rfl rfl rfl rfl ?_
    | refine sg_load 6 rfl rfl rfl rfl ?_
    | refine sg_load 7 rfl rfl rfl rfl ?_
    | refine sg_ps (ps_add64 rfl rfl (by omega)) rfl ?_
    | refine sg_ps (ps_sub64 rfl rfl (by omega)) rfl ?_
    | refine sg_ps (ps_mul64 rfl rfl (by omega)) rfl ?_
    | refine sg_ps (ps_bin rfl rfl inferInstance) rfl ?_
    | refine sg_ps (ps_rem rfl rfl (by decide)) rfl ?_
    | refine sg_ps (ps_quo64 rfl rfl (by decide) (by omega)) rfl ?_
    | refine sg_ps (ps_not rfl) rfl ?_
    | refine sg_ps (ps_conv rfl) rfl ?_
    | refine sg_ps (ps_shl rfl rfl (by decide) rfl) rfl ?_
    | refine sg_ps (ps_shr rfl rfl (by decide) rfl) rfl ?_
    | refine sg_cond_t rfl ?_
    | refine sg_cond_f rfl ?_
    | refine sg_guard_yes rfl rfl ?_
    | refine sg_guard_nf rfl rfl rfl ?_
    | refine sg_guard_nt rfl rfl rfl ?_
    | refine sg_guard_nu rfl rfl rfl ?_
    | refine sg_ps (ps_pick_t rfl rfl) rfl ?_
    | refine sg_ps (ps_pick_f rfl rfl) rfl ?_
    | refine sg_ps (ps_len rfl) rfl ?_
    | refine sg_ps (ps_len_str rfl) rfl ?_
    | refine sg_ps (ps_extract rfl rfl) rfl ?_
    | refine sg_ps (ps_field rfl rfl) rfl ?_
    | refine sg_ps (ps_min2 rfl rfl) rfl ?_
    | refine sg_ps (ps_max2 rfl rfl) rfl ?_
    | refine sg_ps (ps_build rfl rfl) rfl ?_
    | refine sg_box rfl rfl (fun bx => ?_)
    | refine sg_ps (ps_indexAddr rfl rfl rfl (by omega)) rfl ?_
    | refine sg_ps (ps_indexAddr (j := 0) rfl rfl rfl (by omega)) rfl ?_
    | refine sg_ps (ps_indexAddr (j := 1) rfl rfl rfl (by omega)) rfl ?_
    | refine sg_ps (ps_indexAddr_arr rfl rfl rfl (by omega)) rfl ?_
    | refine sg_load_whole 0 rfl rfl rfl rfl ?_
    | refine sg_load_whole 1 rfl rfl rfl rfl ?_
    | refine sg_load_whole 2 rfl rfl rfl rfl ?_
    | refine sg_load_whole 3 rfl rfl rfl rfl ?_
    | refine sg_load_whole 4 rfl rfl rfl rfl ?_
    | refine sg_load_whole 5 rfl rfl rfl rfl ?_
    | refine sg_load_whole 6 rfl rfl rfl rfl ?_
    | refine sg_load_whole 7 rfl rfl rfl rfl ?_
    | refine sg_store_whole [] rfl rfl rfl rfl rfl ?_
    | refine sg_store_whole [_] rfl rfl rfl rfl rfl ?_
    | refine sg_store_whole [_, _] rfl rfl rfl rfl rfl ?_
    | refine sg_store_whole [_, _, _] rfl rfl rfl rfl rfl ?_
    | refine sg_store_whole [_, _, _, _] rfl rfl rfl rfl rfl ?_
    | refine sg_store_whole [_, _, _, _, _] rfl rfl rfl rfl rfl ?_
    | refine sg_store_whole [_, _, _, _, _, _] rfl rfl rfl rfl rfl ?_
    | refine sg_alloc rfl (fun al => ?_)
    | refine sg_block ?_
    | refine sg_skip ?_
    | refine sg_ret ?_
    | refine sg_exit ?_
    | refine ex_then_ret ?_
    | refine ex_then_exit ?_
    | refine ex_block_ret ?_
    | refine ex_block_normal ?_
    | refine ex_block_hit ?_
    | refine ex_block_miss rfl ?_
    | refine sg_store [] rfl rfl rfl (of_decide_eq_true rfl) ?_
    | refine sg_store [_] rfl rfl rfl (of_decide_eq_true rfl) ?_
    | refine sg_store [_, _] rfl rfl rfl (of_decide_eq_true rfl) ?_
    | refine sg_store [_, _, _] rfl rfl rfl (of_decide_eq_true rfl) ?_
    | refine sg_store [_, _, _, _] rfl rfl rfl (of_decide_eq_true rfl) ?_
    | refine sg_store [_, _, _, _, _] rfl rfl rfl (of_decide_eq_true rfl) ?_
    | refine sg_store [_, _, _, _, _, _] rfl rfl rfl (of_decide_eq_true rfl) ?_
    | refine sg_store [_, _, _, _, _, _, _] rfl rfl rfl (of_decide_eq_true rfl) ?_
    | (refine sg_guard_dec rfl rfl (fun hg => ?_) (fun hg => ?_) <;> first | (exfalso; omega) | (exact absurd rfl hg) | skip)
    | (refine sg_guard_ndec rfl rfl (fun hg => ?_) (fun hg => ?_) <;> first | (exfalso; omega) | (exact absurd rfl hg) | skip)
    | (refine sg_cond_dec rfl (fun hg => ?_) (fun hg => ?_) <;> first | (exfalso; omega) | (exact absurd rfl hg) | skip)
    | (refine sg_cond_ndec rfl (fun hg => ?_) (fun hg => ?_) <;> first | (exfalso; omega) | (exact absurd rfl hg) | skip)
    | refine sg_cond_not rfl (fun hg => ?_) (fun hg => ?_)
    | refine sg_cond rfl (fun hg => ?_) (fun hg => ?_))
  refine sg_make (ln := N) (cn := N) rfl rfl rfl rfl rfl (Nat.le_refl _) (by omega) (by omega) (fun t => ?_)
  have hz0 : (List.range (N * 1)).map (fun i => (Value.bool false).cells[i % (Value.bool false).cells.size]!) = (List.replicate N true).map nb := by
    rw [Nat.mul_one, List.map_replicate, List.eq_replicate_iff]
    refine ⟨by simp, fun b hb => ?_⟩
    obtain ⟨i, _, rfl⟩ := List.mem_map.1 hb
    show (#[Value.bool false] : Array Value)[i % 1]! = _
    rw [Nat.mod_one]; rfl
  rw [hz0]
  refine sg_own (L' := swin none 0 0 2 (hcells []) :: blk t ((List.replicate N true).map nb) :: SpaceRep p (XS.new 0 N) :: [old W]) (fun w hO => own_nilwin hO) ?_
  refine sg_wo ?_
  repeat' (first
    | refine sg_wo ?_
    | refine sg_ps (ps_move rfl) rfl ?_
    | refine sg_ps (ps_assign rfl) rfl ?_
    | refine sg_region ?_
    | refine sg_nil ?_
    | refine sg_then ?_
    | refine sg_ps (ps_fieldAddr rfl) rfl ?_
    | refine sg_ps (ps_nilCheck rfl) rfl ?_
    | refine sg_load 0 rfl rfl rfl rfl ?_
    | refine sg_load 1 rfl rfl rfl rfl ?_
    | refine sg_load 2 rfl rfl rfl rfl ?_
    | refine sg_load 3 rfl rfl rfl rfl ?_
    | refine sg_load 4 rfl rfl rfl rfl ?_
    | refine sg_load 5 rfl rfl rfl rfl ?_
    | refine sg_load 6 rfl rfl rfl rfl ?_
    | refine sg_load 7 rfl rfl rfl rfl ?_
    | refine sg_ps (ps_add64 rfl rfl (by omega)) rfl ?_
    | refine sg_ps (ps_sub64 rfl rfl (by omega)) rfl ?_
    | refine sg_ps (ps_mul64 rfl rfl (by omega)) rfl ?_
    | refine sg_ps (ps_bin rfl rfl inferInstance) rfl ?_
    | refine sg_ps (ps_rem rfl rfl (by decide)) rfl ?_
    | refine sg_ps (ps_quo64 rfl rfl (by decide) (by omega)) rfl ?_
    | refine sg_ps (ps_not rfl) rfl ?_
    | refine sg_ps (ps_conv rfl) rfl ?_
    | refine sg_ps (ps_shl rfl rfl (by decide) rfl) rfl ?_
    | refine sg_ps (ps_shr rfl rfl (by decide) rfl) rfl ?_
    | refine sg_cond_t rfl ?_
    | refine sg_cond_f rfl ?_
    | refine sg_guard_yes rfl rfl ?_
    | refine sg_guard_nf rfl rfl rfl ?_
    | refine sg_guard_nt rfl rfl rfl ?_
    | refine sg_guard_nu rfl rfl rfl ?_
    | refine sg_ps (ps_pick_t rfl rfl) rfl ?_
    | refine sg_ps (ps_pick_f rfl rfl) rfl ?_
    | refine sg_ps (ps_len rfl) rfl ?_
    | refine sg_ps (ps_len_str rfl) rfl ?_
    | refine sg_ps (ps_extract rfl rfl) rfl ?_
    | refine sg_ps (ps_field rfl rfl) rfl ?_
    | refine sg_ps (ps_min2 rfl rfl) rfl ?_
    | refine sg_ps (ps_max2 rfl rfl) rfl ?_
    | refine sg_ps (ps_build rfl rfl) rfl ?_
    | refine sg_box rfl rfl (fun bx => ?_)
    | refine sg_ps (ps_indexAddr rfl rfl rfl (by omega)) rfl ?_
    | refine sg_ps (ps_indexAddr (j := 0) rfl rfl rfl (by omega)) rfl ?_
    | refine sg_ps (ps_indexAddr (j := 1) rfl rfl rfl (by omega)) rfl ?_
    | refine sg_ps (ps_indexAddr_arr rfl rfl rfl (by omega)) rfl ?_
    | refine sg_load_whole 0 rfl rfl rfl rfl ?_
    | refine sg_load_whole 1 rfl rfl rfl rfl ?_
    | refine sg_load_whole 2 rfl rfl rfl rfl ?_
    | refine sg_load_whole 3 rfl rfl rfl rfl ?_
    | refine sg_load_whole 4 rfl rfl rfl rfl ?_
    | refine sg_load_whole 5 rfl rfl rfl rfl ?_
    | refine sg_load_whole 6 rfl rfl rfl rfl ?_
    | refine sg_load_whole 7 rfl rfl rfl rfl ?_
    | refine sg_store_whole [] rfl rfl rfl rfl rfl ?_
    | refine sg_store_whole [_] rfl rfl rfl rfl rfl ?_
    | refine sg_store_whole [_, _] rfl rfl rfl rfl rfl ?_
    | refine sg_store_whole [_, _, _] rfl rfl rfl rfl rfl ?_
    | refine sg_store_whole [_, _, _, _] rfl rfl rfl rfl rfl ?_
    | refine sg_store_whole [_, _, _, _, _] rfl rfl rfl rfl rfl ?_
    | refine sg_store_whole [_, _, _, _, _, _] rfl rfl rfl rfl rfl ?_
    | refine sg_alloc rfl (fun al => ?_)
    | refine sg_block ?_
    | refine sg_skip ?_
    | refine sg_ret ?_
    | refine sg_exit ?_
    | refine ex_then_ret ?_
    | refine ex_then_exit ?_
    | refine ex_block_ret ?_
    | refine ex_block_normal ?_
    | refine ex_block_hit ?_
    | refine ex_block_miss rfl ?_
    | refine sg_store [] rfl rfl rfl (of_decide_eq_true rfl) ?_
    | refine sg_store [_] rfl rfl rfl (of_decide_eq_true rfl) ?_
    | refine sg_store [_, _] rfl rfl rfl (of_decide_eq_true rfl) ?_
    | refine sg_store [_, _, _] rfl rfl rfl (of_decide_eq_true rfl) ?_
    | refine sg_store [_, _, _, _] rfl rfl rfl (of_decide_eq_true rfl) ?_
    | refine sg_store [_, _, _, _, _] rfl rfl rfl (of_decide_eq_true rfl) ?_
    | refine sg_store [_, _, _, _, _, _] rfl rfl rfl (of_decide_eq_true rfl) ?_
    | refine sg_store [_, _, _, _, _, _, _] rfl rfl rfl (of_decide_eq_true rfl) ?_
    | (refine sg_guard_dec rfl rfl (fun hg => ?_) (fun hg => ?_) <;> first | (exfalso; omega) | (exact absurd rfl hg) | skip)
    | (refine sg_guard_ndec rfl rfl (fun hg => ?_) (fun hg => ?_) <;> first | (exfalso; omega) | (exact absurd rfl hg) | skip)
    | (refine sg_cond_dec rfl (fun hg => ?_) (fun hg => ?_) <;> first | (exfalso; omega) | (exact absurd rfl hg) | skip)
    | (refine sg_cond_ndec rfl (fun hg => ?_) (fun hg => ?_) <;> first | (exfalso; omega) | (exact absurd rfl hg) | skip)
    | refine sg_cond_not rfl (fun hg => ?_) (fun hg => ?_)
    | refine sg_cond rfl (fun hg => ?_) (fun hg => ?_))
  refine sg_seq ?_
  repeat' (first
    | refine sg_wo ?_
    | refine sg_ps (ps_move rfl) rfl ?_
    | refine sg_ps (ps_assign rfl) rfl ?_
    | refine sg_region ?_
    | refine sg_nil ?_
    | refine sg_then ?_
    | refine sg_ps (ps_fieldAddr rfl) rfl ?_
    | refine sg_ps (ps_nilCheck rfl) rfl ?_
    | refine sg_load 0 rfl rfl rfl rfl ?_
    | refine sg_load 1 rfl rfl rfl rfl ?_
    | refine sg_load 2 rfl rfl rfl rfl ?_
    | refine sg_load 3 rfl rfl rfl rfl ?_
    | refine sg_load 4 rfl rfl rfl rfl ?_
    | refine sg_load 5 rfl rfl rfl rfl ?_
    | refine sg_load 6 rfl rfl rfl rfl ?_
    | refine sg_load 7 rfl rfl rfl rfl ?_
    | refine sg_ps (ps_add64 rfl rfl (by omega)) rfl ?_
    | refine sg_ps (ps_sub64 rfl rfl (by omega)) rfl ?_
    | refine sg_ps (ps_mul64 rfl rfl (by omega)) rfl ?_
    | refine sg_ps (ps_bin rfl rfl inferInstance) rfl ?_
    | refine sg_ps (ps_rem rfl rfl (by decide)) rfl ?_
    | refine sg_ps (ps_quo64 rfl rfl (by decide) (by omega)) rfl ?_
    | refine sg_ps (ps_not rfl) rfl ?_
    | refine sg_ps (ps_conv rfl) rfl ?_
    | refine sg_ps (ps_shl rfl rfl (by decide) rfl) rfl ?_
    | refine sg_ps (ps_shr rfl rfl (by decide) rfl) rfl ?_
    | refine sg_cond_t rfl ?_
    | refine sg_cond_f rfl ?_
    | refine sg_guard_yes rfl rfl ?_
    | refine sg_guard_nf rfl rfl rfl ?_
    | refine sg_guard_nt rfl rfl rfl ?_
    | refine sg_guard_nu rfl rfl rfl ?_
    | refine sg_ps (ps_pick_t rfl rfl) rfl ?_
    | refine sg_ps (ps_pick_f rfl rfl) rfl ?_
    | refine sg_ps (ps_len rfl) rfl ?_
    | refine sg_ps (ps_len_str rfl) rfl ?_
    | refine sg_ps (ps_extract rfl rfl) rfl ?_
    | refine sg_ps (ps_field rfl rfl) rfl ?_
    | refine sg_ps (ps_min2 rfl rfl) rfl ?_
    | refine sg_ps (ps_max2 rfl rfl) rfl ?_
    | refine sg_ps (ps_build rfl rfl) rfl ?_
    | refine sg_box rfl rfl (fun bx => ?_)
    | refine sg_ps (ps_indexAddr rfl rfl rfl (by omega)) rfl ?_
    | refine sg_ps (ps_indexAddr (j := 0) rfl rfl rfl (by omega)) rfl ?_
    | refine sg_ps (ps_indexAddr (j := 1) rfl rfl rfl (by omega)) rfl ?_
    | refine sg_ps (ps_indexAddr_arr rfl rfl rfl (by omega)) rfl ?_
    | refine sg_load_whole 0 rfl rfl rfl rfl ?_
    | refine sg_load_whole 1 rfl rfl rfl rfl ?_
    | refine sg_load_whole 2 rfl rfl rfl rfl ?_
    | refine sg_load_whole 3 rfl rfl rfl rfl ?_
    | refine sg_load_whole 4 rfl rfl rfl rfl ?_
    | refine sg_load_whole 5 rfl rfl rfl rfl ?_
    | refine sg_load_whole 6 rfl rfl rfl rfl ?_
    | refine sg_load_whole 7 rfl rfl rfl rfl ?_
    | refine sg_store_whole [] rfl rfl rfl rfl rfl ?_
    | refine sg_store_whole [_] rfl rfl rfl rfl rfl ?_
    | refine sg_store_whole [_, _] rfl rfl rfl rfl rfl ?_
    | refine sg_store_whole [_, _, _] rfl rfl rfl rfl rfl ?_
    | refine sg_store_whole [_, _, _, _] rfl rfl rfl rfl rfl ?_
    | refine sg_store_whole [_, _, _, _, _] rfl rfl rfl rfl rfl ?_
    | refine sg_store_whole [_, _, _, _, _, _] rfl rfl rfl rfl rfl ?_
    | refine sg_alloc rfl (fun al => ?_)
    | refine sg_block ?_
    | refine sg_skip ?_
    | refine sg_ret ?_
    | refine sg_exit ?_
    | refine ex_then_ret ?_
    | refine ex_then_exit ?_
    | refine ex_block_ret ?_
    | refine ex_block_normal ?_
    | refine ex_block_hit ?_
    | refine ex_block_miss rfl ?_
    | refine sg_store [] rfl rfl rfl (of_decide_eq_true rfl) ?_
    | refine sg_store [_] rfl rfl rfl (of_decide_eq_true rfl) ?_
    | refine sg_store [_, _] rfl rfl rfl (of_decide_eq_true rfl) ?_
    | refine sg_store [_, _, _] rfl rfl rfl (of_decide_eq_true rfl) ?_
    | refine sg_store [_, _, _, _] rfl rfl rfl (of_decide_eq_true rfl) ?_
    | refine sg_store [_, _, _, _, _] rfl rfl rfl (of_decide_eq_true rfl) ?_
    | refine sg_store [_, _, _, _, _, _] rfl rfl rfl (of_decide_eq_true rfl) ?_
    | refine sg_store [_, _, _, _, _, _, _] rfl rfl rfl (of_decide_eq_true rfl) ?_
    | (refine sg_guard_dec rfl rfl (fun hg => ?_) (fun hg => ?_) <;> first | (exfalso; omega) | (exact absurd rfl hg) | skip)
    | (refine sg_guard_ndec rfl rfl (fun hg => ?_) (fun hg => ?_) <;> first | (exfalso; omega) | (exact absurd rfl hg) | skip)
    | (refine sg_cond_dec rfl (fun hg => ?_) (fun hg => ?_) <;> first | (exfalso; omega) | (exact absurd rfl hg) | skip)
    | (refine sg_cond_ndec rfl (fun hg => ?_) (fun hg => ?_) <;> first | (exfalso; omega) | (exact absurd rfl hg) | skip)
    | refine sg_cond_not rfl (fun hg => ?_) (fun hg => ?_)
    | refine sg_cond rfl (fun hg => ?_) (fun hg => ?_))
  refine sg_seq_mid (γ := List Bool × HL × Option Addr × Nat) (fun x => AP N x.1 x.2.1 ∧ x.2.1.length ≤ 100) (fun x => [(0, i64 N), (5, dp p), (8, .slice x.2.2.1 x.2.1.length x.2.2.2)])
    (fun x => [swin x.2.2.1 x.2.1.length x.2.2.2 2 (hcells x.2.1), SpaceRep p ⟨0, x.1⟩, old W]) ?_ ?_
  · refine sg_seq ?_
    repeat' (first
      | refine sg_wo ?_
      | refine sg_ps (ps_move rfl) rfl ?_
      | refine sg_ps (ps_assign rfl) rfl ?_
      | refine sg_region ?_
      | refine sg_nil ?_
      | refine sg_then ?_
      | refine sg_ps (ps_fieldAddr rfl) rfl ?_
      | refine sg_ps (ps_nilCheck rfl) rfl ?_
      | refine sg_load 0 rfl rfl rfl rfl ?_
      | refine sg_load 1 rfl rfl rfl rfl ?_
      | refine sg_load 2 rfl rfl rfl rfl ?_
      | refine sg_load 3 rfl rfl rfl rfl ?_
      | refine sg_load 4 rfl rfl rfl rfl ?_
      | refine sg_load 5 rfl rfl rfl rfl ?_
      | refine sg_load 6 rfl rfl rfl rfl ?_
      | refine sg_load 7 rfl rfl rfl rfl ?_
      | refine sg_ps (ps_add64 rfl rfl (by omega)) rfl ?_
      | refine sg_ps (ps_sub64 rfl rfl (by omega)) rfl ?_
      | refine sg_ps (ps_mul64 rfl rfl (by omega)) rfl ?_
      | refine sg_ps (ps_bin rfl rfl inferInstance) rfl ?_
      | refine sg_ps (ps_rem rfl rfl (by decide)) rfl ?_
      | refine sg_ps (ps_quo64 rfl rfl (by decide) (by omega)) rfl ?_
      | refine sg_ps (ps_not rfl) rfl ?_
      | refine sg_ps (ps_conv rfl) rfl ?_
      | refine sg_ps (ps_shl rfl rfl (by decide) rfl) rfl ?_
      | refine sg_ps (ps_shr rfl rfl (by decide) rfl) rfl ?_
      | refine sg_cond_t rfl ?_
      | refine sg_cond_f rfl ?_
      | refine sg_guard_yes rfl rfl ?_
      | refine sg_guard_nf rfl rfl rfl ?_
      | refine sg_guard_nt rfl rfl rfl ?_
      | refine sg_guard_nu rfl rfl rfl ?_
      | refine sg_ps (ps_pick_t rfl rfl) rfl ?_
      | refine sg_ps (ps_pick_f rfl rfl) rfl ?_
      | refine sg_ps (ps_len rfl) rfl ?_
      | refine sg_ps (ps_len_str rfl) rfl ?_
      | refine sg_ps (ps_extract rfl rfl) rfl ?_
      | refine sg_ps (ps_field rfl rfl) rfl ?_
      | refine sg_ps (ps_min2 rfl rfl) rfl ?_
      | refine sg_ps (ps_max2 rfl rfl) rfl ?_
      | refine sg_ps (ps_build rfl rfl) rfl ?_
      | refine sg_box rfl rfl (fun bx => ?_)
      | refine sg_ps (ps_indexAddr rfl rfl rfl (by omega)) rfl ?_
      | refine sg_ps (ps_indexAddr (j := 0) rfl rfl rfl (by omega)) rfl ?_
      | refine sg_ps (ps_indexAddr (j := 1) rfl rfl rfl (by omega)) rfl ?_
      | refine sg_ps (ps_indexAddr_arr rfl rfl rfl (by omega)) rfl ?_
      | refine sg_load_whole 0 rfl rfl rfl rfl ?_
      | refine sg_load_whole 1 rfl rfl rfl rfl ?_
      | refine sg_load_whole 2 rfl rfl rfl rfl ?_
      | refine sg_load_whole 3 rfl rfl rfl rfl ?_
      | refine sg_load_whole 4 rfl rfl rfl rfl ?_
      | refine sg_load_whole 5 rfl rfl rfl rfl ?_
      | refine sg_load_whole 6 rfl rfl rfl rfl ?_
      | refine sg_load_whole 7 rfl rfl rfl rfl ?_
      | refine sg_store_whole [] rfl rfl rfl rfl rfl ?_
      | refine sg_store_whole [_] rfl rfl rfl rfl rfl ?_
      | refine sg_store_whole [_, _] rfl rfl rfl rfl rfl ?_
      | refine sg_store_whole [_, _, _] rfl rfl rfl rfl rfl ?_
      | refine sg_store_whole [_, _, _, _] rfl rfl rfl rfl rfl ?_
      | refine sg_store_whole [_, _, _, _, _] rfl rfl rfl rfl rfl ?_
      | refine sg_store_whole [_, _, _, _, _, _] rfl rfl rfl rfl rfl ?_
      | refine sg_alloc rfl (fun al => ?_)
      | refine sg_block ?_
      | refine sg_skip ?_
      | refine sg_ret ?_
      | refine sg_exit ?_
      | refine ex_then_ret ?_
      | refine ex_then_exit ?_
      | refine ex_block_ret ?_
      | refine ex_block_normal ?_
      | refine ex_block_hit ?_
      | refine ex_block_miss rfl ?_
      | refine sg_store [] rfl rfl rfl (of_decide_eq_true rfl) ?_
      | refine sg_store [_] rfl rfl rfl (of_decide_eq_true rfl) ?_
      | refine sg_store [_, _] rfl rfl rfl (of_decide_eq_true rfl) ?_
      | refine sg_store [_, _, _] rfl rfl rfl (of_decide_eq_true rfl) ?_
      | refine sg_store [_, _, _, _] rfl rfl rfl (of_decide_eq_true rfl) ?_
      | refine sg_store [_, _, _, _, _] rfl rfl rfl (of_decide_eq_true rfl) ?_
      | refine sg_store [_, _, _, _, _, _] rfl rfl rfl (of_decide_eq_true rfl) ?_
      | refine sg_store [_, _, _, _, _, _, _] rfl rfl rfl (of_decide_eq_true rfl) ?_
      | (refine sg_guard_dec rfl rfl (fun hg => ?_) (fun hg => ?_) <;> first | (exfalso; omega) | (exact absurd rfl hg) | skip)
      | (refine sg_guard_ndec rfl rfl (fun hg => ?_) (fun hg => ?_) <;> first | (exfalso; omega) | (exact absurd rfl hg) | skip)
      | (refine sg_cond_dec rfl (fun hg => ?_) (fun hg => ?_) <;> first | (exfalso; omega) | (exact absurd rfl hg) | skip)
      | (refine sg_cond_ndec rfl (fun hg => ?_) (fun hg => ?_) <;> first | (exfalso; omega) | (exact absurd rfl hg) | skip)
      | refine sg_cond_not rfl (fun hg => ?_) (fun hg => ?_)
      | refine sg_cond rfl (fun hg => ?_) (fun hg => ?_))
    refine sg_loop (γ := Nat × List Bool × HL × Option Addr × Nat) (fun x => (x.1 ≤ zs.length ∧ x.1 ≤ 100) ∧ AP N x.2.1 x.2.2.1 ∧ x.2.2.1.length ≤ x.1)
      (fun x => [(0, i64 N), (1, .slice za zs.length zc), (5, dp p), (7, .slice (some ⟨t, 0, none⟩) N N), (8, .slice x.2.2.2.1 x.2.2.1.length x.2.2.2.2), (9, i64 x.1)])
      (fun x => [swin x.2.2.2.1 x.2.2.1.length x.2.2.2.2 2 (hcells x.2.2.1), blk t (x.2.1.map nb), SpaceRep p ⟨0, x.2.1⟩, old W]) (fun x => 100 - x.1) (0, List.replicate N true, [], none, 0)
      ⟨⟨Nat.zero_le _, Nat.zero_le _⟩, AP.start N, Nat.le_refl _⟩ (.cons rfl (.cons rfl (.cons rfl (.cons rfl (.cons rfl (.cons rfl .nil)))))) (fun w hO => hO) ?_
    rintro ⟨i, o, l, la, lc⟩ ⟨⟨hi1, hi2⟩, hA, hll⟩
    dsimp only at hi1 hi2 hA hll ⊢
    by_cases hi : i < zs.length ∧ i < 100
    · obtain ⟨hil, hi100⟩ := hi
      refine sg_rd_some (hz.rd (L := [swin la l.length lc 2 (hcells l), blk t (o.map nb), SpaceRep p ⟨0, o⟩, old W]) 3 rfl) (by intro e; have := congrArg List.length e; rw [List.length_map, List.length_nil] at this; omega) fun zb zo ha => ?_
      subst ha
      have hz1 : RdO W (some ⟨zb, zo + i * 1, none⟩) [i64 zs[i]] := rdo_one hz (by simp [hil])
      have hr : Rd W [swin la l.length lc 2 (hcells l), blk t (o.map nb), SpaceRep p ⟨0, o⟩, old W] (some ⟨zb, zo + i * 1, none⟩) [i64 zs[i]] := hz1.rd 3 rfl
      generalize zs[i] = z at hr
      obtain ⟨k2, hk20, hk2l⟩ := rem_nat z 20 (by omega)
      have hk2 : (z.tmod 20 + 20).tmod 20 = (k2 : Int) := hk20
      have hz20 := rem_lt z (m := 20) (by omega)
      refine sg_seq ?_
      refine sg_seq ?_
      repeat' (first
        | refine sg_wo ?_
        | refine sg_ps (ps_move rfl) rfl ?_
        | refine sg_ps (ps_assign rfl) rfl ?_
        | refine sg_region ?_
        | refine sg_nil ?_
        | refine sg_then ?_
        | refine sg_ps (ps_fieldAddr rfl) rfl ?_
        | refine sg_ps (ps_nilCheck rfl) rfl ?_
        | refine sg_load 0 rfl rfl rfl rfl ?_
        | refine sg_load 1 rfl rfl rfl rfl ?_
        | refine sg_load 2 rfl rfl rfl rfl ?_
        | refine sg_load 3 rfl rfl rfl rfl ?_
        | refine sg_load 4 rfl rfl rfl rfl ?_
        | refine sg_load 5 rfl rfl rfl rfl ?_
        | refine sg_load 6 rfl rfl rfl rfl ?_
        | refine sg_load 7 rfl rfl rfl rfl ?_
        | refine sg_ps (ps_add64 rfl rfl (by omega)) rfl ?_
        | refine sg_ps (ps_sub64 rfl rfl (by omega)) rfl ?_
        | refine sg_ps (ps_mul64 rfl rfl (by omega)) rfl ?_
        | refine sg_ps (ps_bin rfl rfl inferInstance) rfl ?_
        | refine sg_ps (ps_rem rfl rfl (by decide)) rfl ?_
        | refine sg_ps (ps_quo64 rfl rfl (by decide) (by omega)) rfl ?_
        | refine sg_ps (ps_not rfl) rfl ?_
        | refine sg_ps (ps_conv rfl) rfl ?_
        | refine sg_ps (ps_shl rfl rfl (by decide) rfl) rfl ?_
        | refine sg_ps (ps_shr rfl rfl (by decide) rfl) rfl ?_
        | refine sg_cond_t rfl ?_
        | refine sg_cond_f rfl ?_
        | refine sg_guard_yes rfl rfl ?_
        | refine sg_guard_nf rfl rfl rfl ?_
        | refine sg_guard_nt rfl rfl rfl ?_
        | refine sg_guard_nu rfl rfl rfl ?_
        | refine sg_ps (ps_pick_t rfl rfl) rfl ?_
        | refine sg_ps (ps_pick_f rfl rfl) rfl ?_
        | refine sg_ps (ps_len rfl) rfl ?_
        | refine sg_ps (ps_len_str rfl) rfl ?_
        | refine sg_ps (ps_extract rfl rfl) rfl ?_
        | refine sg_ps (ps_field rfl rfl) rfl ?_
        | refine sg_ps (ps_min2 rfl rfl) rfl ?_
        | refine sg_ps (ps_max2 rfl rfl) rfl ?_
        | refine sg_ps (ps_build rfl rfl) rfl ?_
        | refine sg_box rfl rfl (fun bx => ?_)
        | refine sg_ps (ps_indexAddr rfl rfl rfl (by omega)) rfl ?_
        | refine sg_ps (ps_indexAddr (j := 0) rfl rfl rfl (by omega)) rfl ?_
        | refine sg_ps (ps_indexAddr (j := 1) rfl rfl rfl (by omega)) rfl ?_
        | refine sg_ps (ps_indexAddr_arr rfl rfl rfl (by omega)) rfl ?_
        | refine sg_load_whole 0 rfl rfl rfl rfl ?_
        | refine sg_load_whole 1 rfl rfl rfl rfl ?_
        | refine sg_load_whole 2 rfl rfl rfl rfl ?_
        | refine sg_load_whole 3 rfl rfl rfl rfl ?_
        | refine sg_load_whole 4 rfl rfl rfl rfl ?_
        | refine sg_load_whole 5 rfl rfl rfl rfl ?_
        | refine sg_load_whole 6 rfl rfl rfl rfl ?_
        | refine sg_load_whole 7 rfl rfl rfl rfl ?_
        | refine sg_store_whole [] rfl rfl rfl rfl rfl ?_
        | refine sg_store_whole [_] rfl rfl rfl rfl rfl ?_
        | refine sg_store_whole [_, _] rfl rfl rfl rfl rfl ?_
        | refine sg_store_whole [_, _, _] rfl rfl rfl rfl rfl ?_
        | refine sg_store_whole [_, _, _, _] rfl rfl rfl rfl rfl ?_
        | refine sg_store_whole [_, _, _, _, _] rfl rfl rfl rfl rfl ?_
        | refine sg_store_whole [_, _, _, _, _, _] rfl rfl rfl rfl rfl ?_
        | refine sg_alloc rfl (fun al => ?_)
        | refine sg_block ?_
        | refine sg_skip ?_
        | refine sg_ret ?_
        | refine sg_exit ?_
        | refine ex_then_ret ?_
        | refine ex_then_exit ?_
        | refine ex_block_ret ?_
        | refine ex_block_normal ?_
        | refine ex_block_hit ?_
        | refine ex_block_miss rfl ?_
        | refine sg_store [] rfl rfl rfl (of_decide_eq_true rfl) ?_
        | refine sg_store [_] rfl rfl rfl (of_decide_eq_true rfl) ?_
        | refine sg_store [_, _] rfl rfl rfl (of_decide_eq_true rfl) ?_
        | refine sg_store [_, _, _] rfl rfl rfl (of_decide_eq_true rfl) ?_
        | refine sg_store [_, _, _, _] rfl rfl rfl (of_decide_eq_true rfl) ?_
        | refine sg_store [_, _, _, _, _] rfl rfl rfl (of_decide_eq_true rfl) ?_
        | refine sg_store [_, _, _, _, _, _] rfl rfl rfl (of_decide_eq_true rfl) ?_
        | refine sg_store [_, _, _, _, _, _, _] rfl rfl rfl (of_decide_eq_true rfl) ?_
        | (refine sg_guard_dec rfl rfl (fun hg => ?_) (fun hg => ?_) <;> first | (exfalso; omega) | (exact absurd rfl hg) | skip)
        | (refine sg_guard_ndec rfl rfl (fun hg => ?_) (fun hg => ?_) <;> first | (exfalso; omega) | (exact absurd rfl hg) | skip)
        | (refine sg_cond_dec rfl (fun hg => ?_) (fun hg => ?_) <;> first | (exfalso; omega) | (exact absurd rfl hg) | skip)
        | (refine sg_cond_ndec rfl (fun hg => ?_) (fun hg => ?_) <;> first | (exfalso; omega) | (exact absurd rfl hg) | skip)
        | refine sg_cond_not rfl (fun hg => ?_) (fun hg => ?_)
        | refine sg_cond rfl (fun hg => ?_) (fun hg => ?_))
      refine sg_seq_mid (γ := List Bool × HL × Option Addr × Nat) (fun x => AP N x.1 x.2.1 ∧ x.2.1.length ≤ i + 1)
        (fun x => [(0, i64 N), (1, .slice (some ⟨zb, zo, none⟩) zs.length zc), (5, dp p), (7, .slice (some ⟨t, 0, none⟩) N N), (8, .slice x.2.2.1 x.2.1.length x.2.2.2), (9, i64 i)])
        (fun x => [swin x.2.2.1 x.2.1.length x.2.2.2 2 (hcells x.2.1), blk t (x.1.map nb), SpaceRep p ⟨0, x.1⟩, old W]) ?_ ?_
      · refine sg_block ?_
        refine sg_seq ?_
        repeat' (first
          | refine sg_wo ?_
          | refine sg_ps (ps_move rfl) rfl ?_
          | refine sg_ps (ps_assign rfl) rfl ?_
          | refine sg_region ?_
          | refine sg_nil ?_
          | refine sg_then ?_
          | refine sg_ps (ps_fieldAddr rfl) rfl ?_
          | refine sg_ps (ps_nilCheck rfl) rfl ?_
          | refine sg_load 0 rfl rfl rfl rfl ?_
          | refine sg_load 1 rfl rfl rfl rfl ?_
          | refine sg_load 2 rfl rfl rfl rfl ?_
          | refine sg_load 3 rfl rfl rfl rfl ?_
          | refine sg_load 4 rfl rfl rfl rfl ?_
          | refine sg_load 5 rfl rfl rfl rfl ?_
          | refine sg_load 6 rfl rfl rfl rfl ?_
          | refine sg_load 7 rfl rfl rfl rfl ?_
          | refine sg_ps (ps_add64 rfl rfl (by omega)) rfl ?_
          | refine sg_ps (ps_sub64 rfl rfl (by omega)) rfl ?_
          | refine sg_ps (ps_mul64 rfl rfl (by omega)) rfl ?_
          | refine sg_ps (ps_bin rfl rfl inferInstance) rfl ?_
          | refine sg_ps (ps_rem rfl rfl (by decide)) rfl ?_
          | refine sg_ps (ps_quo64 rfl rfl (by decide) (by omega)) rfl ?_
          | refine sg_ps (ps_not rfl) rfl ?_
          | refine sg_ps (ps_conv rfl) rfl ?_
          | refine sg_ps (ps_shl rfl rfl (by decide) rfl) rfl ?_
          | refine sg_ps (ps_shr rfl rfl (by decide) rfl) rfl ?_
          | refine sg_cond_t rfl ?_
          | refine sg_cond_f rfl ?_
          | refine sg_guard_yes rfl rfl ?_
          | refine sg_guard_nf rfl rfl rfl ?_
          | refine sg_guard_nt rfl rfl rfl ?_
          | refine sg_guard_nu rfl rfl rfl ?_
          | refine sg_ps (ps_pick_t rfl rfl) rfl ?_
          | refine sg_ps (ps_pick_f rfl rfl) rfl ?_
          | refine sg_ps (ps_len rfl) rfl ?_
          | refine sg_ps (ps_len_str rfl) rfl ?_
          | refine sg_ps (ps_extract rfl rfl) rfl ?_
          | refine sg_ps (ps_field rfl rfl) rfl ?_
          | refine sg_ps (ps_min2 rfl rfl) rfl ?_
          | refine sg_ps (ps_max2 rfl rfl) rfl ?_
          | refine sg_ps (ps_build rfl rfl) rfl ?_
          | refine sg_box rfl rfl (fun bx => ?_)
          | refine sg_ps (ps_indexAddr rfl rfl rfl (by omega)) rfl ?_
          | refine sg_ps (ps_indexAddr (j := 0) rfl rfl rfl (by omega)) rfl ?_
          | refine sg_ps (ps_indexAddr (j := 1) rfl rfl rfl (by omega)) rfl ?_
          | refine sg_ps (ps_indexAddr_arr rfl rfl rfl (by omega)) rfl ?_
          | refine sg_load_whole 0 rfl rfl rfl rfl ?_
          | refine sg_load_whole 1 rfl rfl rfl rfl ?_
          | refine sg_load_whole 2 rfl rfl rfl rfl ?_
          | refine sg_load_whole 3 rfl rfl rfl rfl ?_
          | refine sg_load_whole 4 rfl rfl rfl rfl ?_
          | refine sg_load_whole 5 rfl rfl rfl rfl ?_
          | refine sg_load_whole 6 rfl rfl rfl rfl ?_
          | refine sg_load_whole 7 rfl rfl rfl rfl ?_
          | refine sg_store_whole [] rfl rfl rfl rfl rfl ?_
          | refine sg_store_whole [_] rfl rfl rfl rfl rfl ?_
          | refine sg_store_whole [_, _] rfl rfl rfl rfl rfl ?_
          | refine sg_store_whole [_, _, _] rfl rfl rfl rfl rfl ?_
          | refine sg_store_whole [_, _, _, _] rfl rfl rfl rfl rfl ?_
          | refine sg_store_whole [_, _, _, _, _] rfl rfl rfl rfl rfl ?_
          | refine sg_store_whole [_, _, _, _, _, _] rfl rfl rfl rfl rfl ?_
          | refine sg_alloc rfl (fun al => ?_)
          | refine sg_block ?_
          | refine sg_skip ?_
          | refine sg_ret ?_
          | refine sg_exit ?_
          | refine ex_then_ret ?_
          | refine ex_then_exit ?_
          | refine ex_block_ret ?_
          | refine ex_block_normal ?_
          | refine ex_block_hit ?_
          | refine ex_block_miss rfl ?_
          | refine sg_store [] rfl rfl rfl (of_decide_eq_true rfl) ?_
          | refine sg_store [_] rfl rfl rfl (of_decide_eq_true rfl) ?_
          | refine sg_store [_, _] rfl rfl rfl (of_decide_eq_true rfl) ?_
          | refine sg_store [_, _, _] rfl rfl rfl (of_decide_eq_true rfl) ?_
          | refine sg_store [_, _, _, _] rfl rfl rfl (of_decide_eq_true rfl) ?_
          | refine sg_store [_, _, _, _, _] rfl rfl rfl (of_decide_eq_true rfl) ?_
          | refine sg_store [_, _, _, _, _, _] rfl rfl rfl (of_decide_eq_true rfl) ?_
          | refine sg_store [_, _, _, _, _, _, _] rfl rfl rfl (of_decide_eq_true rfl) ?_
          | (refine sg_guard_dec rfl rfl (fun hg => ?_) (fun hg => ?_) <;> first | (exfalso; omega) | (exact absurd rfl hg) | skip)
          | (refine sg_guard_ndec rfl rfl (fun hg => ?_) (fun hg => ?_) <;> first | (exfalso; omega) | (exact absurd rfl hg) | skip)
          | (refine sg_cond_dec rfl (fun hg => ?_) (fun hg => ?_) <;> first | (exfalso; omega) | (exact absurd rfl hg) | skip)
          | (refine sg_cond_ndec rfl (fun hg => ?_) (fun hg => ?_) <;> first | (exfalso; omega) | (exact absurd rfl hg) | skip)
          | refine sg_cond_not rfl (fun hg => ?_) (fun hg => ?_)
          | refine sg_cond rfl (fun hg => ?_) (fun hg => ?_))
        refine sg_load_rd rfl hr rfl ?_
        repeat' (first
          | refine sg_wo ?_
          | refine sg_ps (ps_move rfl) rfl ?_
          | refine sg_ps (ps_assign rfl) rfl ?_
          | refine sg_region ?_
          | refine sg_nil ?_
          | refine sg_then ?_
          | refine sg_ps (ps_fieldAddr rfl) rfl ?_
          | refine sg_ps (ps_nilCheck rfl) rfl ?_
          | refine sg_load 0 rfl rfl rfl rfl ?_
          | refine sg_load 1 rfl rfl rfl rfl ?_
          | refine sg_load 2 rfl rfl rfl rfl ?_
          | refine sg_load 3 rfl rfl rfl rfl ?_
          | refine sg_load 4 rfl rfl rfl rfl ?_
          | refine sg_load 5 rfl rfl rfl rfl ?_
          | refine sg_load 6 rfl rfl rfl rfl ?_
          | refine sg_load 7 rfl rfl rfl rfl ?_
          | refine sg_ps (ps_add64 rfl rfl (by omega)) rfl ?_
          | refine sg_ps (ps_sub64 rfl rfl (by omega)) rfl ?_
          | refine sg_ps (ps_mul64 rfl rfl (by omega)) rfl ?_
          | refine sg_ps (ps_bin rfl rfl inferInstance) rfl ?_
          | refine sg_ps (ps_rem rfl rfl (by decide)) rfl ?_
          | refine sg_ps (ps_quo64 rfl rfl (by decide) (by omega)) rfl ?_
          | refine sg_ps (ps_not rfl) rfl ?_
          | refine sg_ps (ps_conv rfl) rfl ?_
          | refine sg_ps (ps_shl rfl rfl (by decide) rfl) rfl ?_
          | refine sg_ps (ps_shr rfl rfl (by decide) rfl) rfl ?_
          | refine sg_cond_t rfl ?_
          | refine sg_cond_f rfl ?_
          | refine sg_guard_yes rfl rfl ?_
          | refine sg_guard_nf rfl rfl rfl ?_
          | refine sg_guard_nt rfl rfl rfl ?_
          | refine sg_guard_nu rfl rfl rfl ?_
          | refine sg_ps (ps_pick_t rfl rfl) rfl ?_
          | refine sg_ps (ps_pick_f rfl rfl) rfl ?_
          | refine sg_ps (ps_len rfl) rfl ?_
          | refine sg_ps (ps_len_str rfl) rfl ?_
          | refine sg_ps (ps_extract rfl rfl) rfl ?_
          | refine sg_ps (ps_field rfl rfl) rfl ?_
          | refine sg_ps (ps_min2 rfl rfl) rfl ?_
          | refine sg_ps (ps_max2 rfl rfl) rfl ?_
          | refine sg_ps (ps_build rfl rfl) rfl ?_
          | refine sg_box rfl rfl (fun bx => ?_)
          | refine sg_ps (ps_indexAddr rfl rfl rfl (by omega)) rfl ?_
          | refine sg_ps (ps_indexAddr (j := 0) rfl rfl rfl (by omega)) rfl ?_
          | refine sg_ps (ps_indexAddr (j := 1) rfl rfl rfl (by omega)) rfl ?_
          | refine sg_ps (ps_indexAddr_arr rfl rfl rfl (by omega)) rfl ?_
          | refine sg_load_whole 0 rfl rfl rfl rfl ?_
          | refine sg_load_whole 1 rfl rfl rfl rfl ?_
          | refine sg_load_whole 2 rfl rfl rfl rfl ?_
          | refine sg_load_whole 3 rfl rfl rfl rfl ?_
          | refine sg_load_whole 4 rfl rfl rfl rfl ?_
          | refine sg_load_whole 5 rfl rfl rfl rfl ?_
          | refine sg_load_whole 6 rfl rfl rfl rfl ?_
          | refine sg_load_whole 7 rfl rfl rfl rfl ?_
          | refine sg_store_whole [] rfl rfl rfl rfl rfl ?_
          | refine sg_store_whole [_] rfl rfl rfl rfl rfl ?_
          | refine sg_store_whole [_, _] rfl rfl rfl rfl rfl ?_
          | refine sg_store_whole [_, _, _] rfl rfl rfl rfl rfl ?_
          | refine sg_store_whole [_, _, _, _] rfl rfl rfl rfl rfl ?_
          | refine sg_store_whole [_, _, _, _, _] rfl rfl rfl rfl rfl ?_
          | refine sg_store_whole [_, _, _, _, _, _] rfl rfl rfl rfl rfl ?_
          | refine sg_alloc rfl (fun al => ?_)
          | refine sg_block ?_
          | refine sg_skip ?_
          | refine sg_ret ?_
          | refine sg_exit ?_
          | refine ex_then_ret ?_
          | refine ex_then_exit ?_
          | refine ex_block_ret ?_
          | refine ex_block_normal ?_
          | refine ex_block_hit ?_
          | refine ex_block_miss rfl ?_
          | refine sg_store [] rfl rfl rfl (of_decide_eq_true rfl) ?_
          | refine sg_store [_] rfl rfl rfl (of_decide_eq_true rfl) ?_
          | refine sg_store [_, _] rfl rfl rfl (of_decide_eq_true rfl) ?_
          | refine sg_store [_, _, _] rfl rfl rfl (of_decide_eq_true rfl) ?_
          | refine sg_store [_, _, _, _] rfl rfl rfl (of_decide_eq_true rfl) ?_
          | refine sg_store [_, _, _, _, _] rfl rfl rfl (of_decide_eq_true rfl) ?_
          | refine sg_store [_, _, _, _, _, _] rfl rfl rfl (of_decide_eq_true rfl) ?_
          | refine sg_store [_, _, _, _, _, _, _] rfl rfl rfl (of_decide_eq_true rfl) ?_
          | (refine sg_guard_dec rfl rfl (fun hg => ?_) (fun hg => ?_) <;> first | (exfalso; omega) | (exact absurd rfl hg) | skip)
          | (refine sg_guard_ndec rfl rfl (fun hg => ?_) (fun hg => ?_) <;> first | (exfalso; omega) | (exact absurd rfl hg) | skip)
          | (refine sg_cond_dec rfl (fun hg => ?_) (fun hg => ?_) <;> first | (exfalso; omega) | (exact absurd rfl hg) | skip)
          | (refine sg_cond_ndec rfl (fun hg => ?_) (fun hg => ?_) <;> first | (exfalso; omega) | (exact absurd rfl hg) | skip)
          | refine sg_cond_not rfl (fun hg => ?_) (fun hg => ?_)
          | refine sg_cond rfl (fun hg => ?_) (fun hg => ?_))
        rw [hk2, show (k2 : Int) + 1 = ((k2 + 1 : Nat) : Int) by omega]
        obtain ⟨M, hM⟩ : ∃ M, M = k2 + 1 := ⟨_, rfl⟩
        rw [← hM]
        have hM1 : 1 ≤ M ∧ M ≤ 20 := by omega
        refine sg_seq_mid (γ := Unit) (fun _ => True)
          (fun _ => [(0, i64 N), (1, .slice (some ⟨zb, zo, none⟩) zs.length zc), (5, dp p), (7, .slice (some ⟨t, 0, none⟩) N N), (8, .slice la l.length lc), (9, i64 i), (10, i64 M)])
          (fun _ => [swin la l.length lc 2 (hcells l), blk t (o.map nb), SpaceRep p ⟨0, o⟩, old W]) ?_ ?_
        · refine sg_seq ?_
          repeat' (first
            | refine sg_wo ?_
            | refine sg_ps (ps_move rfl) rfl ?_
            | refine sg_ps (ps_assign rfl) rfl ?_
            | refine sg_region ?_
            | refine sg_nil ?_
            | refine sg_then ?_
            | refine sg_ps (ps_fieldAddr rfl) rfl ?_
            | refine sg_ps (ps_nilCheck rfl) rfl ?_
            | refine sg_load 0 rfl rfl rfl rfl ?_
            | refine sg_load 1 rfl rfl rfl rfl ?_
            | refine sg_load 2 rfl rfl rfl rfl ?_
            | refine sg_load 3 rfl rfl rfl rfl ?_
            | refine sg_load 4 rfl rfl rfl rfl ?_
            | refine sg_load 5 rfl rfl rfl rfl ?_
            | refine sg_load 6 rfl rfl rfl rfl ?_
            | refine sg_load 7 rfl rfl rfl rfl ?_
            | refine sg_ps (ps_add64 rfl rfl (by omega)) rfl ?_
            | refine sg_ps (ps_sub64 rfl rfl (by omega)) rfl ?_
            | refine sg_ps (ps_mul64 rfl rfl (by omega)) rfl ?_
            | refine sg_ps (ps_bin rfl rfl inferInstance) rfl ?_
            | refine sg_ps (ps_rem rfl rfl (by decide)) rfl ?_
            | refine sg_ps (ps_quo64 rfl rfl (by decide) (by omega)) rfl ?_
            | refine sg_ps (ps_not rfl) rfl ?_
            | refine sg_ps (ps_conv rfl) rfl ?_
            | refine sg_ps (ps_shl rfl rfl (by decide) rfl) rfl ?_
            | refine sg_ps (ps_shr rfl rfl (by decide) rfl) rfl ?_
            | refine sg_cond_t rfl ?_
            | refine sg_cond_f rfl ?_
            | refine sg_guard_yes rfl rfl ?_
            | refine sg_guard_nf rfl rfl rfl ?_
            | refine sg_guard_nt rfl rfl rfl ?_
            | refine sg_guard_nu rfl rfl rfl ?_
            | refine sg_ps (ps_pick_t rfl rfl) rfl ?_
            | refine sg_ps (ps_pick_f rfl rfl) rfl ?_
            | refine sg_ps (ps_len rfl) rfl ?_
            | refine sg_ps (ps_len_str rfl) rfl ?_
            | refine sg_ps (ps_extract rfl rfl) rfl ?_
            | refine sg_ps (ps_field rfl rfl) rfl ?_
            | refine sg_ps (ps_min2 rfl rfl) rfl ?_
            | refine sg_ps (ps_max2 rfl rfl) rfl ?_
            | refine sg_ps (ps_build rfl rfl) rfl ?_
            | refine sg_box rfl rfl (fun bx => ?_)
            | refine sg_ps (ps_indexAddr rfl rfl rfl (by omega)) rfl ?_
            | refine sg_ps (ps_indexAddr (j := 0) rfl rfl rfl (by omega)) rfl ?_
            | refine sg_ps (ps_indexAddr (j := 1) rfl rfl rfl (by omega)) rfl ?_
            | refine sg_ps (ps_indexAddr_arr rfl rfl rfl (by omega)) rfl ?_
            | refine sg_load_whole 0 rfl rfl rfl rfl ?_
            | refine sg_load_whole 1 rfl rfl rfl rfl ?_
            | refine sg_load_whole 2 rfl rfl rfl rfl ?_
            | refine sg_load_whole 3 rfl rfl rfl rfl ?_
            | refine sg_load_whole 4 rfl rfl rfl rfl ?_
            | refine sg_load_whole 5 rfl rfl rfl rfl ?_
            | refine sg_load_whole 6 rfl rfl rfl rfl ?_
            | refine sg_load_whole 7 rfl rfl rfl rfl ?_
            | refine sg_store_whole [] rfl rfl rfl rfl rfl ?_
            | refine sg_store_whole [_] rfl rfl rfl rfl rfl ?_
            | refine sg_store_whole [_, _] rfl rfl rfl rfl rfl ?_
            | refine sg_store_whole [_, _, _] rfl rfl rfl rfl rfl ?_
            | refine sg_store_whole [_, _, _, _] rfl rfl rfl rfl rfl ?_
            | refine sg_store_whole [_, _, _, _, _] rfl rfl rfl rfl rfl ?_
            | refine sg_store_whole [_, _, _, _, _, _] rfl rfl rfl rfl rfl ?_
            | refine sg_alloc rfl (fun al => ?_)
            | refine sg_block ?_
            | refine sg_skip ?_
            | refine sg_ret ?_
            | refine sg_exit ?_
            | refine ex_then_ret ?_
            | refine ex_then_exit ?_
            | refine ex_block_ret ?_
            | refine ex_block_normal ?_
            | refine ex_block_hit ?_
            | refine ex_block_miss rfl ?_
            | refine sg_store [] rfl rfl rfl (of_decide_eq_true rfl) ?_
            | refine sg_store [_] rfl rfl rfl (of_decide_eq_true rfl) ?_
            | refine sg_store [_, _] rfl rfl rfl (of_decide_eq_true rfl) ?_
            | refine sg_store [_, _, _] rfl rfl rfl (of_decide_eq_true rfl) ?_
            | refine sg_store [_, _, _, _] rfl rfl rfl (of_decide_eq_true rfl) ?_
            | refine sg_store [_, _, _, _, _] rfl rfl rfl (of_decide_eq_true rfl) ?_
            | refine sg_store [_, _, _, _, _, _] rfl rfl rfl (of_decide_eq_true rfl) ?_
            | refine sg_store [_, _, _, _, _, _, _] rfl rfl rfl (of_decide_eq_true rfl) ?_
            | (refine sg_guard_dec rfl rfl (fun hg => ?_) (fun hg => ?_) <;> first | (exfalso; omega) | (exact absurd rfl hg) | skip)
            | (refine sg_guard_ndec rfl rfl (fun hg => ?_) (fun hg => ?_) <;> first | (exfalso; omega) | (exact absurd rfl hg) | skip)
            | (refine sg_cond_dec rfl (fun hg => ?_) (fun hg => ?_) <;> first | (exfalso; omega) | (exact absurd rfl hg) | skip)
            | (refine sg_cond_ndec rfl (fun hg => ?_) (fun hg => ?_) <;> first | (exfalso; omega) | (exact absurd rfl hg) | skip)
            | refine sg_cond_not rfl (fun hg => ?_) (fun hg => ?_)
            | refine sg_cond rfl (fun hg => ?_) (fun hg => ?_))
          refine sg_load_rd rfl hr rfl ?_
          repeat' (first
            | refine sg_wo ?_
            | refine sg_ps (ps_move rfl) rfl ?_
            | refine sg_ps (ps_assign rfl) rfl ?_
            | refine sg_region ?_
            | refine sg_nil ?_
            | refine sg_then ?_
            | refine sg_ps (ps_fieldAddr rfl) rfl ?_
            | refine sg_ps (ps_nilCheck rfl) rfl ?_
            | refine sg_load 0 rfl rfl rfl rfl ?_
            | refine sg_load 1 rfl rfl rfl rfl ?_
            | refine sg_load 2 rfl rfl rfl rfl ?_
            | refine sg_load 3 rfl rfl rfl rfl ?_
            | refine sg_load 4 rfl rfl rfl rfl ?_
            | refine sg_load 5 rfl rfl rfl rfl ?_
            | refine sg_load 6 rfl rfl rfl rfl ?_
            | refine sg_load 7 rfl rfl rfl rfl ?_
            | refine sg_ps (ps_add64 rfl rfl (by omega)) rfl ?_
            | refine sg_ps (ps_sub64 rfl rfl (by omega)) rfl ?_
            | refine sg_ps (ps_mul64 rfl rfl (by omega)) rfl ?_
            | refine sg_ps (ps_bin rfl rfl inferInstance) rfl ?_
            | refine sg_ps (ps_rem rfl rfl (by decide)) rfl ?_
            | refine sg_ps (ps_quo64 rfl rfl (by decide) (by omega)) rfl ?_
            | refine sg_ps (ps_not rfl) rfl ?_
            | refine sg_ps (ps_conv rfl) rfl ?_
            | refine sg_ps (ps_shl rfl rfl (by decide) rfl) rfl ?_
            | refine sg_ps (ps_shr rfl rfl (by decide) rfl) rfl ?_
            | refine sg_cond_t rfl ?_
            | refine sg_cond_f rfl ?_
            | refine sg_guard_yes rfl rfl ?_
            | refine sg_guard_nf rfl rfl rfl ?_
            | refine sg_guard_nt rfl rfl rfl ?_
            | refine sg_guard_nu rfl rfl rfl ?_
            | refine sg_ps (ps_pick_t rfl rfl) rfl ?_
            | refine sg_ps (ps_pick_f rfl rfl) rfl ?_
            | refine sg_ps (ps_len rfl) rfl ?_
            | refine sg_ps (ps_len_str rfl) rfl ?_
            | refine sg_ps (ps_extract rfl rfl) rfl ?_
            | refine sg_ps (ps_field rfl rfl) rfl ?_
            | refine sg_ps (ps_min2 rfl rfl) rfl ?_
            | refine sg_ps (ps_max2 rfl rfl) rfl ?_
            | refine sg_ps (ps_build rfl rfl) rfl ?_
            | refine sg_box rfl rfl (fun bx => ?_)
            | refine sg_ps (ps_indexAddr rfl rfl rfl (by omega)) rfl ?_
            | refine sg_ps (ps_indexAddr (j := 0) rfl rfl rfl (by omega)) rfl ?_
            | refine sg_ps (ps_indexAddr (j := 1) rfl rfl rfl (by omega)) rfl ?_
            | refine sg_ps (ps_indexAddr_arr rfl rfl rfl (by omega)) rfl ?_
            | refine sg_load_whole 0 rfl rfl rfl rfl ?_
            | refine sg_load_whole 1 rfl rfl rfl rfl ?_
            | refine sg_load_whole 2 rfl rfl rfl rfl ?_
            | refine sg_load_whole 3 rfl rfl rfl rfl ?_
            | refine sg_load_whole 4 rfl rfl rfl rfl ?_
            | refine sg_load_whole 5 rfl rfl rfl rfl ?_
            | refine sg_load_whole 6 rfl rfl rfl rfl ?_
            | refine sg_load_whole 7 rfl rfl rfl rfl ?_
            | refine sg_store_whole [] rfl rfl rfl rfl rfl ?_
            | refine sg_store_whole [_] rfl rfl rfl rfl rfl ?_
            | refine sg_store_whole [_, _] rfl rfl rfl rfl rfl ?_
            | refine sg_store_whole [_, _, _] rfl rfl rfl rfl rfl ?_
            | refine sg_store_whole [_, _, _, _] rfl rfl rfl rfl rfl ?_
            | refine sg_store_whole [_, _, _, _, _] rfl rfl rfl rfl rfl ?_
            | refine sg_store_whole [_, _, _, _, _, _] rfl rfl rfl rfl rfl ?_
            | refine sg_alloc rfl (fun al => ?_)
            | refine sg_block ?_
            | refine sg_skip ?_
            | refine sg_ret ?_
            | refine sg_exit ?_
            | refine ex_then_ret ?_
            | refine ex_then_exit ?_
            | refine ex_block_ret ?_
            | refine ex_block_normal ?_
            | refine ex_block_hit ?_
            | refine ex_block_miss rfl ?_
            | refine sg_store [] rfl rfl rfl (of_decide_eq_true rfl) ?_
            | refine sg_store [_] rfl rfl rfl (of_decide_eq_true rfl) ?_
            | refine sg_store [_, _] rfl rfl rfl (of_decide_eq_true rfl) ?_
            | refine sg_store [_, _, _] rfl rfl rfl (of_decide_eq_true rfl) ?_
            | refine sg_store [_, _, _, _] rfl rfl rfl (of_decide_eq_true rfl) ?_
            | refine sg_store [_, _, _, _, _] rfl rfl rfl (of_decide_eq_true rfl) ?_
            | refine sg_store [_, _, _, _, _, _] rfl rfl rfl (of_decide_eq_true rfl) ?_
            | refine sg_store [_, _, _, _, _, _, _] rfl rfl rfl (of_decide_eq_true rfl) ?_
            | (refine sg_guard_dec rfl rfl (fun hg => ?_) (fun hg => ?_) <;> first | (exfalso; omega) | (exact absurd rfl hg) | skip)
            | (refine sg_guard_ndec rfl rfl (fun hg => ?_) (fun hg => ?_) <;> first | (exfalso; omega) | (exact absurd rfl hg) | skip)
            | (refine sg_cond_dec rfl (fun hg => ?_) (fun hg => ?_) <;> first | (exfalso; omega) | (exact absurd rfl hg) | skip)
            | (refine sg_cond_ndec rfl (fun hg => ?_) (fun hg => ?_) <;> first | (exfalso; omega) | (exact absurd rfl hg) | skip)
            | refine sg_cond_not rfl (fun hg => ?_) (fun hg => ?_)
            | refine sg_cond rfl (fun hg => ?_) (fun hg => ?_))
          · obtain ⟨hd, l', rfl⟩ : ∃ hd l', l = hd :: l' := by
              cases l with
              | nil => simp at hg
              | cons a b => exact ⟨a, b, rfl⟩
            obtain ⟨hturn, hA'⟩ := hA.free
            have hdl := hA.hl hd (by simp)
            have holen := hA.len
            obtain ⟨hs, hm⟩ := hd
            simp only at hturn hA' hdl
            simp only [List.length_cons] at hll ⊢
            refine sg_swin_some 0 rfl (by omega) fun lb lo hla => ?_
            subst hla
            have hra : Rd W [swin (some ⟨lb, lo, none⟩) (l'.length + 1) lc 2 (hcells ((hs, hm) :: l')), blk t (o.map nb), SpaceRep p ⟨0, o⟩, old W] (some ⟨lb, lo + 0 * 2, none⟩) (hc (hs, hm)) :=
              Rd.at2 (H := (hs, hm) :: l') (rd_swin 0 rfl fun _ _ h => h) rfl 0 (by simp)
            refine sg_seq ?_
            repeat' (first
              | refine sg_wo ?_
              | refine sg_ps (ps_move rfl) rfl ?_
              | refine sg_ps (ps_assign rfl) rfl ?_
              | refine sg_region ?_
              | refine sg_nil ?_
              | refine sg_then ?_
              | refine sg_ps (ps_fieldAddr rfl) rfl ?_
              | refine sg_ps (ps_nilCheck rfl) rfl ?_
              | refine sg_load 0 rfl rfl rfl rfl ?_
              | refine sg_load 1 rfl rfl rfl rfl ?_
              | refine sg_load 2 rfl rfl rfl rfl ?_
              | refine sg_load 3 rfl rfl rfl rfl ?_
              | refine sg_load 4 rfl rfl rfl rfl ?_
              | refine sg_load 5 rfl rfl rfl rfl ?_
              | refine sg_load 6 rfl rfl rfl rfl ?_
              | refine sg_load 7 rfl rfl rfl rfl ?_
              | refine sg_ps (ps_add64 rfl rfl (by omega)) rfl ?_
              | refine sg_ps (ps_sub64 rfl rfl (by omega)) rfl ?_
              | refine sg_ps (ps_mul64 rfl rfl (by omega)) rfl ?_
              | refine sg_ps (ps_bin rfl rfl inferInstance) rfl ?_
              | refine sg_ps (ps_rem rfl rfl (by decide)) rfl ?_
              | refine sg_ps (ps_quo64 rfl rfl (by decide) (by omega)) rfl ?_
              | refine sg_ps (ps_not rfl) rfl ?_
              | refine sg_ps (ps_conv rfl) rfl ?_
              | refine sg_ps (ps_shl rfl rfl (by decide) rfl) rfl ?_
              | refine sg_ps (ps_shr rfl rfl (by decide) rfl) rfl ?_
              | refine sg_cond_t rfl ?_
              | refine sg_cond_f rfl ?_
              | refine sg_guard_yes rfl rfl ?_
              | refine sg_guard_nf rfl rfl rfl ?_
              | refine sg_guard_nt rfl rfl rfl ?_
              | refine sg_guard_nu rfl rfl rfl ?_
              | refine sg_ps (ps_pick_t rfl rfl) rfl ?_
              | refine sg_ps (ps_pick_f rfl rfl) rfl ?_
              | refine sg_ps (ps_len rfl) rfl ?_
              | refine sg_ps (ps_len_str rfl) rfl ?_
              | refine sg_ps (ps_extract rfl rfl) rfl ?_
              | refine sg_ps (ps_field rfl rfl) rfl ?_
              | refine sg_ps (ps_min2 rfl rfl) rfl ?_
              | refine sg_ps (ps_max2 rfl rfl) rfl ?_
              | refine sg_ps (ps_build rfl rfl) rfl ?_
              | refine sg_box rfl rfl (fun bx => ?_)
              | refine sg_ps (ps_indexAddr rfl rfl rfl (by omega)) rfl ?_
              | refine sg_ps (ps_indexAddr (j := 0) rfl rfl rfl (by omega)) rfl ?_
              | refine sg_ps (ps_indexAddr (j := 1) rfl rfl rfl (by omega)) rfl ?_
              | refine sg_ps (ps_indexAddr_arr rfl rfl rfl (by omega)) rfl ?_
              | refine sg_load_whole 0 rfl rfl rfl rfl ?_
              | refine sg_load_whole 1 rfl rfl rfl rfl ?_
              | refine sg_load_whole 2 rfl rfl rfl rfl ?_
              | refine sg_load_whole 3 rfl rfl rfl rfl ?_
              | refine sg_load_whole 4 rfl rfl rfl rfl ?_
              | refine sg_load_whole 5 rfl rfl rfl rfl ?_
              | refine sg_load_whole 6 rfl rfl rfl rfl ?_
              | refine sg_load_whole 7 rfl rfl rfl rfl ?_
              | refine sg_store_whole [] rfl rfl rfl rfl rfl ?_
              | refine sg_store_whole [_] rfl rfl rfl rfl rfl ?_
              | refine sg_store_whole [_, _] rfl rfl rfl rfl rfl ?_
              | refine sg_store_whole [_, _, _] rfl rfl rfl rfl rfl ?_
              | refine sg_store_whole [_, _, _, _] rfl rfl rfl rfl rfl ?_
              | refine sg_store_whole [_, _, _, _, _] rfl rfl rfl rfl rfl ?_
              | refine sg_store_whole [_, _, _, _, _, _] rfl rfl rfl rfl rfl ?_
              | refine sg_alloc rfl (fun al => ?_)
              | refine sg_block ?_
              | refine sg_skip ?_
              | refine sg_ret ?_
              | refine sg_exit ?_
              | refine ex_then_ret ?_
              | refine ex_then_exit ?_
              | refine ex_block_ret ?_
              | refine ex_block_normal ?_
              | refine ex_block_hit ?_
              | refine ex_block_miss rfl ?_
              | refine sg_store [] rfl rfl rfl (of_decide_eq_true rfl) ?_
              | refine sg_store [_] rfl rfl rfl (of_decide_eq_true rfl) ?_
              | refine sg_store [_, _] rfl rfl rfl (of_decide_eq_true rfl) ?_
              | refine sg_store [_, _, _] rfl rfl rfl (of_decide_eq_true rfl) ?_
              | refine sg_store [_, _, _, _] rfl rfl rfl (of_decide_eq_true rfl) ?_
              | refine sg_store [_, _, _, _, _] rfl rfl rfl (of_decide_eq_true rfl) ?_
              | refine sg_store [_, _, _, _, _, _] rfl rfl rfl (of_decide_eq_true rfl) ?_
              | refine sg_store [_, _, _, _, _, _, _] rfl rfl rfl (of_decide_eq_true rfl) ?_
              | (refine sg_guard_dec rfl rfl (fun hg => ?_) (fun hg => ?_) <;> first | (exfalso; omega) | (exact absurd rfl hg) | skip)
              | (refine sg_guard_ndec rfl rfl (fun hg => ?_) (fun hg => ?_) <;> first | (exfalso; omega) | (exact absurd rfl hg) | skip)
              | (refine sg_cond_dec rfl (fun hg => ?_) (fun hg => ?_) <;> first | (exfalso; omega) | (exact absurd rfl hg) | skip)
              | (refine sg_cond_ndec rfl (fun hg => ?_) (fun hg => ?_) <;> first | (exfalso; omega) | (exact absurd rfl hg) | skip)
              | refine sg_cond_not rfl (fun hg => ?_) (fun hg => ?_)
              | refine sg_cond rfl (fun hg => ?_) (fun hg => ?_))
            refine sg_load_agg_rd rfl rfl hra rfl ?_
            repeat' (first
              | refine sg_wo ?_
              | refine sg_ps (ps_move rfl) rfl ?_
              | refine sg_ps (ps_assign rfl) rfl ?_
              | refine sg_region ?_
              | refine sg_nil ?_
              | refine sg_then ?_
              | refine sg_ps (ps_fieldAddr rfl) rfl ?_
              | refine sg_ps (ps_nilCheck rfl) rfl ?_
              | refine sg_load 0 rfl rfl rfl rfl ?_
              | refine sg_load 1 rfl rfl rfl rfl ?_
              | refine sg_load 2 rfl rfl rfl rfl ?_
              | refine sg_load 3 rfl rfl rfl rfl ?_
              | refine sg_load 4 rfl rfl rfl rfl ?_
              | refine sg_load 5 rfl rfl rfl rfl ?_
              | refine sg_load 6 rfl rfl rfl rfl ?_
              | refine sg_load 7 rfl rfl rfl rfl ?_
              | refine sg_ps (ps_add64 rfl rfl (by omega)) rfl ?_
              | refine sg_ps (ps_sub64 rfl rfl (by omega)) rfl ?_
              | refine sg_ps (ps_mul64 rfl rfl (by omega)) rfl ?_
              | refine sg_ps (ps_bin rfl rfl inferInstance) rfl ?_
              | refine sg_ps (ps_rem rfl rfl (by decide)) rfl ?_
              | refine sg_ps (ps_quo64 rfl rfl (by decide) (by omega)) rfl ?_
              | refine sg_ps (ps_not rfl) rfl ?_
              | refine sg_ps (ps_conv rfl) rfl ?_
              | refine sg_ps (ps_shl rfl rfl (by decide) rfl) rfl ?_
              | refine sg_ps (ps_shr rfl rfl (by decide) rfl) rfl ?_
              | refine sg_cond_t rfl ?_
              | refine sg_cond_f rfl ?_
              | refine sg_guard_yes rfl rfl ?_
              | refine sg_guard_nf rfl rfl rfl ?_
              | refine sg_guard_nt rfl rfl rfl ?_
              | refine sg_guard_nu rfl rfl rfl ?_
              | refine sg_ps (ps_pick_t rfl rfl) rfl ?_
              | refine sg_ps (ps_pick_f rfl rfl) rfl ?_
              | refine sg_ps (ps_len rfl) rfl ?_
              | refine sg_ps (ps_len_str rfl) rfl ?_
              | refine sg_ps (ps_extract rfl rfl) rfl ?_
              | refine sg_ps (ps_field rfl rfl) rfl ?_
              | refine sg_ps (ps_min2 rfl rfl) rfl ?_
              | refine sg_ps (ps_max2 rfl rfl) rfl ?_
              | refine sg_ps (ps_build rfl rfl) rfl ?_
              | refine sg_box rfl rfl (fun bx => ?_)
              | refine sg_ps (ps_indexAddr rfl rfl rfl (by omega)) rfl ?_
              | refine sg_ps (ps_indexAddr (j := 0) rfl rfl rfl (by omega)) rfl ?_
              | refine sg_ps (ps_indexAddr (j := 1) rfl rfl rfl (by omega)) rfl ?_
              | refine sg_ps (ps_indexAddr_arr rfl rfl rfl (by omega)) rfl ?_
              | refine sg_load_whole 0 rfl rfl rfl rfl ?_
              | refine sg_load_whole 1 rfl rfl rfl rfl ?_
              | refine sg_load_whole 2 rfl rfl rfl rfl ?_
              | refine sg_load_whole 3 rfl rfl rfl rfl ?_
              | refine sg_load_whole 4 rfl rfl rfl rfl ?_
              | refine sg_load_whole 5 rfl rfl rfl rfl ?_
              | refine sg_load_whole 6 rfl rfl rfl rfl ?_
              | refine sg_load_whole 7 rfl rfl rfl rfl ?_
              | refine sg_store_whole [] rfl rfl rfl rfl rfl ?_
              | refine sg_store_whole [_] rfl rfl rfl rfl rfl ?_
              | refine sg_store_whole [_, _] rfl rfl rfl rfl rfl ?_
              | refine sg_store_whole [_, _, _] rfl rfl rfl rfl rfl ?_
              | refine sg_store_whole [_, _, _, _] rfl rfl rfl rfl rfl ?_
              | refine sg_store_whole [_, _, _, _, _] rfl rfl rfl rfl rfl ?_
              | refine sg_store_whole [_, _, _, _, _, _] rfl rfl rfl rfl rfl ?_
              | refine sg_alloc rfl (fun al => ?_)
              | refine sg_block ?_
              | refine sg_skip ?_
              | refine sg_ret ?_
              | refine sg_exit ?_
              | refine ex_then_ret ?_
              | refine ex_then_exit ?_
              | refine ex_block_ret ?_
              | refine ex_block_normal ?_
              | refine ex_block_hit ?_
              | refine ex_block_miss rfl ?_
              | refine sg_store [] rfl rfl rfl (of_decide_eq_true rfl) ?_
              | refine sg_store [_] rfl rfl rfl (of_decide_eq_true rfl) ?_
              | refine sg_store [_, _] rfl rfl rfl (of_decide_eq_true rfl) ?_
              | refine sg_store [_, _, _] rfl rfl rfl (of_decide_eq_true rfl) ?_
              | refine sg_store [_, _, _, _] rfl rfl rfl (of_decide_eq_true rfl) ?_
              | refine sg_store [_, _, _, _, _] rfl rfl rfl (of_decide_eq_true rfl) ?_
              | refine sg_store [_, _, _, _, _, _] rfl rfl rfl (of_decide_eq_true rfl) ?_
              | refine sg_store [_, _, _, _, _, _, _] rfl rfl rfl (of_decide_eq_true rfl) ?_
              | (refine sg_guard_dec rfl rfl (fun hg => ?_) (fun hg => ?_) <;> first | (exfalso; omega) | (exact absurd rfl hg) | skip)
              | (refine sg_guard_ndec rfl rfl (fun hg => ?_) (fun hg => ?_) <;> first | (exfalso; omega) | (exact absurd rfl hg) | skip)
              | (refine sg_cond_dec rfl (fun hg => ?_) (fun hg => ?_) <;> first | (exfalso; omega) | (exact absurd rfl hg) | skip)
              | (refine sg_cond_ndec rfl (fun hg => ?_) (fun hg => ?_) <;> first | (exfalso; omega) | (exact absurd rfl hg) | skip)
              | refine sg_cond_not rfl (fun hg => ?_) (fun hg => ?_)
              | refine sg_cond rfl (fun hg => ?_) (fun hg => ?_))
            refine sg_seq ?_
            repeat' (first
              | refine sg_wo ?_
              | refine sg_ps (ps_move rfl) rfl ?_
              | refine sg_ps (ps_assign rfl) rfl ?_
              | refine sg_region ?_
              | refine sg_nil ?_
              | refine sg_then ?_
              | refine sg_ps (ps_fieldAddr rfl) rfl ?_
              | refine sg_ps (ps_nilCheck rfl) rfl ?_
              | refine sg_load 0 rfl rfl rfl rfl ?_
              | refine sg_load 1 rfl rfl rfl rfl ?_
              | refine sg_load 2 rfl rfl rfl rfl ?_
              | refine sg_load 3 rfl rfl rfl rfl ?_
              | refine sg_load 4 rfl rfl rfl rfl ?_
              | refine sg_load 5 rfl rfl rfl rfl ?_
              | refine sg_load 6 rfl rfl rfl rfl ?_
              | refine sg_load 7 rfl rfl rfl rfl ?_
              | refine sg_ps (ps_add64 rfl rfl (by omega)) rfl ?_
              | refine sg_ps (ps_sub64 rfl rfl (by omega)) rfl ?_
              | refine sg_ps (ps_mul64 rfl rfl (by omega)) rfl ?_
              | refine sg_ps (ps_bin rfl rfl inferInstance) rfl ?_
              | refine sg_ps (ps_rem rfl rfl (by decide)) rfl ?_
              | refine sg_ps (ps_quo64 rfl rfl (by decide) (by omega)) rfl ?_
              | refine sg_ps (ps_not rfl) rfl ?_
              | refine sg_ps (ps_conv rfl) rfl ?_
              | refine sg_ps (ps_shl rfl rfl (by decide) rfl) rfl ?_
              | refine sg_ps (ps_shr rfl rfl (by decide) rfl) rfl ?_
              | refine sg_cond_t rfl ?_
              | refine sg_cond_f rfl ?_
              | refine sg_guard_yes rfl rfl ?_
              | refine sg_guard_nf rfl rfl rfl ?_
              | refine sg_guard_nt rfl rfl rfl ?_
              | refine sg_guard_nu rfl rfl rfl ?_
              | refine sg_ps (ps_pick_t rfl rfl) rfl ?_
              | refine sg_ps (ps_pick_f rfl rfl) rfl ?_
              | refine sg_ps (ps_len rfl) rfl ?_
              | refine sg_ps (ps_len_str rfl) rfl ?_
              | refine sg_ps (ps_extract rfl rfl) rfl ?_
              | refine sg_ps (ps_field rfl rfl) rfl ?_
              | refine sg_ps (ps_min2 rfl rfl) rfl ?_
              | refine sg_ps (ps_max2 rfl rfl) rfl ?_
              | refine sg_ps (ps_build rfl rfl) rfl ?_
              | refine sg_box rfl rfl (fun bx => ?_)
              | refine sg_ps (ps_indexAddr rfl rfl rfl (by omega)) rfl ?_
              | refine sg_ps (ps_indexAddr (j := 0) rfl rfl rfl (by omega)) rfl ?_
              | refine sg_ps (ps_indexAddr (j := 1) rfl rfl rfl (by omega)) rfl ?_
              | refine sg_ps (ps_indexAddr_arr rfl rfl rfl (by omega)) rfl ?_
              | refine sg_load_whole 0 rfl rfl rfl rfl ?_
              | refine sg_load_whole 1 rfl rfl rfl rfl ?_
              | refine sg_load_whole 2 rfl rfl rfl rfl ?_
              | refine sg_load_whole 3 rfl rfl rfl rfl ?_
              | refine sg_load_whole 4 rfl rfl rfl rfl ?_
              | refine sg_load_whole 5 rfl rfl rfl rfl ?_
              | refine sg_load_whole 6 rfl rfl rfl rfl ?_
              | refine sg_load_whole 7 rfl rfl rfl rfl ?_
              | refine sg_store_whole [] rfl rfl rfl rfl rfl ?_
              | refine sg_store_whole [_] rfl rfl rfl rfl rfl ?_
              | refine sg_store_whole [_, _] rfl rfl rfl rfl rfl ?_
              | refine sg_store_whole [_, _, _] rfl rfl rfl rfl rfl ?_
              | refine sg_store_whole [_, _, _, _] rfl rfl rfl rfl rfl ?_
              | refine sg_store_whole [_, _, _, _, _] rfl rfl rfl rfl rfl ?_
              | refine sg_store_whole [_, _, _, _, _, _] rfl rfl rfl rfl rfl ?_
              | refine sg_alloc rfl (fun al => ?_)
              | refine sg_block ?_
              | refine sg_skip ?_
              | refine sg_ret ?_
              | refine sg_exit ?_
              | refine ex_then_ret ?_
              | refine ex_then_exit ?_
              | refine ex_block_ret ?_
              | refine ex_block_normal ?_
              | refine ex_block_hit ?_
              | refine ex_block_miss rfl ?_
              | refine sg_store [] rfl rfl rfl (of_decide_eq_true rfl) ?_
              | refine sg_store [_] rfl rfl rfl (of_decide_eq_true rfl) ?_
              | refine sg_store [_, _] rfl rfl rfl (of_decide_eq_true rfl) ?_
              | refine sg_store [_, _, _] rfl rfl rfl (of_decide_eq_true rfl) ?_
              | refine sg_store [_, _, _, _] rfl rfl rfl (of_decide_eq_true rfl) ?_
              | refine sg_store [_, _, _, _, _] rfl rfl rfl (of_decide_eq_true rfl) ?_
              | refine sg_store [_, _, _, _, _, _] rfl rfl rfl (of_decide_eq_true rfl) ?_
              | refine sg_store [_, _, _, _, _, _, _] rfl rfl rfl (of_decide_eq_true rfl) ?_
              | (refine sg_guard_dec rfl rfl (fun hg => ?_) (fun hg => ?_) <;> first | (exfalso; omega) | (exact absurd rfl hg) | skip)
              | (refine sg_guard_ndec rfl rfl (fun hg => ?_) (fun hg => ?_) <;> first | (exfalso; omega) | (exact absurd rfl hg) | skip)
              | (refine sg_cond_dec rfl (fun hg => ?_) (fun hg => ?_) <;> first | (exfalso; omega) | (exact absurd rfl hg) | skip)
              | (refine sg_cond_ndec rfl (fun hg => ?_) (fun hg => ?_) <;> first | (exfalso; omega) | (exact absurd rfl hg) | skip)
              | refine sg_cond_not rfl (fun hg => ?_) (fun hg => ?_)
              | refine sg_cond rfl (fun hg => ?_) (fun hg => ?_))
            refine sg_ps (ps_slice_l (l := 1) rfl rfl rfl (by omega)) rfl ?_
            refine sg_own (L' := [blk al (hc (hs, hm)), swin (if lc = 1 then some ⟨lb, lo, none⟩ else (some ⟨lb, lo, none⟩ : Option Addr).map (·.add (1 * 2))) l'.length (lc - 1) 2 (hcells l'), blk t (o.map nb), SpaceRep p ⟨0, o⟩, old W])
              (fun w hO => (Own.winTail hO.front1 (by omega)).front1) ?_
            rw [show l'.length + 1 - 1 = l'.length by omega]
            generalize (if lc = 1 then some ⟨lb, lo, none⟩ else (some ⟨lb, lo, none⟩ : Option Addr).map (·.add (1 * 2))) = la'
            repeat' (first
              | refine sg_wo ?_
              | refine sg_ps (ps_move rfl) rfl ?_
              | refine sg_ps (ps_assign rfl) rfl ?_
              | refine sg_region ?_
              | refine sg_nil ?_
              | refine sg_then ?_
              | refine sg_ps (ps_fieldAddr rfl) rfl ?_
              | refine sg_ps (ps_nilCheck rfl) rfl ?_
              | refine sg_load 0 rfl rfl rfl rfl ?_
              | refine sg_load 1 rfl rfl rfl rfl ?_
              | refine sg_load 2 rfl rfl rfl rfl ?_
              | refine sg_load 3 rfl rfl rfl rfl ?_
              | refine sg_load 4 rfl rfl rfl rfl ?_
              | refine sg_load 5 rfl rfl rfl rfl ?_
              | refine sg_load 6 rfl rfl rfl rfl ?_
              | refine sg_load 7 rfl rfl rfl rfl ?_
              | refine sg_ps (ps_add64 rfl rfl (by omega)) rfl ?_
              | refine sg_ps (ps_sub64 rfl rfl (by omega)) rfl ?_
              | refine sg_ps (ps_mul64 rfl rfl (by omega)) rfl ?_
              | refine sg_ps (ps_bin rfl rfl inferInstance) rfl ?_
              | refine sg_ps (ps_rem rfl rfl (by decide)) rfl ?_
              | refine sg_ps (ps_quo64 rfl rfl (by decide) (by omega)) rfl ?_
              | refine sg_ps (ps_not rfl) rfl ?_
              | refine sg_ps (ps_conv rfl) rfl ?_
              | refine sg_ps (ps_shl rfl rfl (by decide) rfl) rfl ?_
              | refine sg_ps (ps_shr rfl rfl (by decide) rfl) rfl ?_
              | refine sg_cond_t rfl ?_
              | refine sg_cond_f rfl ?_
              | refine sg_guard_yes rfl rfl ?_
              | refine sg_guard_nf rfl rfl rfl ?_
              | refine sg_guard_nt rfl rfl rfl ?_
              | refine sg_guard_nu rfl rfl rfl ?_
              | refine sg_ps (ps_pick_t rfl rfl) rfl ?_
              | refine sg_ps (ps_pick_f rfl rfl) rfl ?_
              | refine sg_ps (ps_len rfl) rfl ?_
              | refine sg_ps (ps_len_str rfl) rfl ?_
              | refine sg_ps (ps_extract rfl rfl) rfl ?_
              | refine sg_ps (ps_field rfl rfl) rfl ?_
              | refine sg_ps (ps_min2 rfl rfl) rfl ?_
              | refine sg_ps (ps_max2 rfl rfl) rfl ?_
              | refine sg_ps (ps_build rfl rfl) rfl ?_
              | refine sg_box rfl rfl (fun bx => ?_)
              | refine sg_ps (ps_indexAddr rfl rfl rfl (by omega)) rfl ?_
              | refine sg_ps (ps_indexAddr (j := 0) rfl rfl rfl (by omega)) rfl ?_
              | refine sg_ps (ps_indexAddr (j := 1) rfl rfl rfl (by omega)) rfl ?_
              | refine sg_ps (ps_indexAddr_arr rfl rfl rfl (by omega)) rfl ?_
              | refine sg_load_whole 0 rfl rfl rfl rfl ?_
              | refine sg_load_whole 1 rfl rfl rfl rfl ?_
              | refine sg_load_whole 2 rfl rfl rfl rfl ?_
              | refine sg_load_whole 3 rfl rfl rfl rfl ?_
              | refine sg_load_whole 4 rfl rfl rfl rfl ?_
              | refine sg_load_whole 5 rfl rfl rfl rfl ?_
              | refine sg_load_whole 6 rfl rfl rfl rfl ?_
              | refine sg_load_whole 7 rfl rfl rfl rfl ?_
              | refine sg_store_whole [] rfl rfl rfl rfl rfl ?_
              | refine sg_store_whole [_] rfl rfl rfl rfl rfl ?_
              | refine sg_store_whole [_, _] rfl rfl rfl rfl rfl ?_
              | refine sg_store_whole [_, _, _] rfl rfl rfl rfl rfl ?_
              | refine sg_store_whole [_, _, _, _] rfl rfl rfl rfl rfl ?_
              | refine sg_store_whole [_, _, _, _, _] rfl rfl rfl rfl rfl ?_
              | refine sg_store_whole [_, _, _, _, _, _] rfl rfl rfl rfl rfl ?_
              | refine sg_alloc rfl (fun al => ?_)
              | refine sg_block ?_
              | refine sg_skip ?_
              | refine sg_ret ?_
              | refine sg_exit ?_
              | refine ex_then_ret ?_
              | refine ex_then_exit ?_
              | refine ex_block_ret ?_
              | refine ex_block_normal ?_
              | refine ex_block_hit ?_
              | refine ex_block_miss rfl ?_
              | refine sg_store [] rfl rfl rfl (of_decide_eq_true rfl) ?_
              | refine sg_store [_] rfl rfl rfl (of_decide_eq_true rfl) ?_
              | refine sg_store [_, _] rfl rfl rfl (of_decide_eq_true rfl) ?_
              | refine sg_store [_, _, _] rfl rfl rfl (of_decide_eq_true rfl) ?_
              | refine sg_store [_, _, _, _] rfl rfl rfl (of_decide_eq_true rfl) ?_
              | refine sg_store [_, _, _, _, _] rfl rfl rfl (of_decide_eq_true rfl) ?_
              | refine sg_store [_, _, _, _, _, _] rfl rfl rfl (of_decide_eq_true rfl) ?_
              | refine sg_store [_, _, _, _, _, _, _] rfl rfl rfl (of_decide_eq_true rfl) ?_
              | (refine sg_guard_dec rfl rfl (fun hg => ?_) (fun hg => ?_) <;> first | (exfalso; omega) | (exact absurd rfl hg) | skip)
              | (refine sg_guard_ndec rfl rfl (fun hg => ?_) (fun hg => ?_) <;> first | (exfalso; omega) | (exact absurd rfl hg) | skip)
              | (refine sg_cond_dec rfl (fun hg => ?_) (fun hg => ?_) <;> first | (exfalso; omega) | (exact absurd rfl hg) | skip)
              | (refine sg_cond_ndec rfl (fun hg => ?_) (fun hg => ?_) <;> first | (exfalso; omega) | (exact absurd rfl hg) | skip)
              | refine sg_cond_not rfl (fun hg => ?_) (fun hg => ?_)
              | refine sg_cond rfl (fun hg => ?_) (fun hg => ?_))
            refine sg_seq ?_
            refine sg_seq ?_
            repeat' (first
              | refine sg_wo ?_
              | refine sg_ps (ps_move rfl) rfl ?_
              | refine sg_ps (ps_assign rfl) rfl ?_
              | refine sg_region ?_
              | refine sg_nil ?_
              | refine sg_then ?_
              | refine sg_ps (ps_fieldAddr rfl) rfl ?_
              | refine sg_ps (ps_nilCheck rfl) rfl ?_
              | refine sg_load 0 rfl rfl rfl rfl ?_
              | refine sg_load 1 rfl rfl rfl rfl ?_
              | refine sg_load 2 rfl rfl rfl rfl ?_
              | refine sg_load 3 rfl rfl rfl rfl ?_
              | refine sg_load 4 rfl rfl rfl rfl ?_
              | refine sg_load 5 rfl rfl rfl rfl ?_
              | refine sg_load 6 rfl rfl rfl rfl ?_
              | refine sg_load 7 rfl rfl rfl rfl ?_
              | refine sg_ps (ps_add64 rfl rfl (by omega)) rfl ?_
              | refine sg_ps (ps_sub64 rfl rfl (by omega)) rfl ?_
              | refine sg_ps (ps_mul64 rfl rfl (by omega)) rfl ?_
              | refine sg_ps (ps_bin rfl rfl inferInstance) rfl ?_
              | refine sg_ps (ps_rem rfl rfl (by decide)) rfl ?_
              | refine sg_ps (ps_quo64 rfl rfl (by decide) (by omega)) rfl ?_
              | refine sg_ps (ps_not rfl) rfl ?_
              | refine sg_ps (ps_conv rfl) rfl ?_
              | refine sg_ps (ps_shl rfl rfl (by decide) rfl) rfl ?_
              | refine sg_ps (ps_shr rfl rfl (by decide) rfl) rfl ?_
              | refine sg_cond_t rfl ?_
              | refine sg_cond_f rfl ?_
              | refine sg_guard_yes rfl rfl ?_
              | refine sg_guard_nf rfl rfl rfl ?_
              | refine sg_guard_nt rfl rfl rfl ?_
              | refine sg_guard_nu rfl rfl rfl ?_
              | refine sg_ps (ps_pick_t rfl rfl) rfl ?_
              | refine sg_ps (ps_pick_f rfl rfl) rfl ?_
              | refine sg_ps (ps_len rfl) rfl ?_
              | refine sg_ps (ps_len_str rfl) rfl ?_
              | refine sg_ps (ps_extract rfl rfl) rfl ?_
              | refine sg_ps (ps_field rfl rfl) rfl ?_
              | refine sg_ps (ps_min2 rfl rfl) rfl ?_
              | refine sg_ps (ps_max2 rfl rfl) rfl ?_
              | refine sg_ps (ps_build rfl rfl) rfl ?_
              | refine sg_box rfl rfl (fun bx => ?_)
              | refine sg_ps (ps_indexAddr rfl rfl rfl (by omega)) rfl ?_
              | refine sg_ps (ps_indexAddr (j := 0) rfl rfl rfl (by omega)) rfl ?_
              | refine sg_ps (ps_indexAddr (j := 1) rfl rfl rfl (by omega)) rfl ?_
              | refine sg_ps (ps_indexAddr_arr rfl rfl rfl (by omega)) rfl ?_
              | refine sg_load_whole 0 rfl rfl rfl rfl ?_
              | refine sg_load_whole 1 rfl rfl rfl rfl ?_
              | refine sg_load_whole 2 rfl rfl rfl rfl ?_
              | refine sg_load_whole 3 rfl rfl rfl rfl ?_
              | refine sg_load_whole 4 rfl rfl rfl rfl ?_
              | refine sg_load_whole 5 rfl rfl rfl rfl ?_
              | refine sg_load_whole 6 rfl rfl rfl rfl ?_
              | refine sg_load_whole 7 rfl rfl rfl rfl ?_
              | refine sg_store_whole [] rfl rfl rfl rfl rfl ?_
              | refine sg_store_whole [_] rfl rfl rfl rfl rfl ?_
              | refine sg_store_whole [_, _] rfl rfl rfl rfl rfl ?_
              | refine sg_store_whole [_, _, _] rfl rfl rfl rfl rfl ?_
              | refine sg_store_whole [_, _, _, _] rfl rfl rfl rfl rfl ?_
              | refine sg_store_whole [_, _, _, _, _] rfl rfl rfl rfl rfl ?_
              | refine sg_store_whole [_, _, _, _, _, _] rfl rfl rfl rfl rfl ?_
              | refine sg_alloc rfl (fun al => ?_)
              | refine sg_block ?_
              | refine sg_skip ?_
              | refine sg_ret ?_
              | refine sg_exit ?_
              | refine ex_then_ret ?_
              | refine ex_then_exit ?_
              | refine ex_block_ret ?_
              | refine ex_block_normal ?_
              | refine ex_block_hit ?_
              | refine ex_block_miss rfl ?_
              | refine sg_store [] rfl rfl rfl (of_decide_eq_true rfl) ?_
              | refine sg_store [_] rfl rfl rfl (of_decide_eq_true rfl) ?_
              | refine sg_store [_, _] rfl rfl rfl (of_decide_eq_true rfl) ?_
              | refine sg_store [_, _, _] rfl rfl rfl (of_decide_eq_true rfl) ?_
              | refine sg_store [_, _, _, _] rfl rfl rfl (of_decide_eq_true rfl) ?_
              | refine sg_store [_, _, _, _, _] rfl rfl rfl (of_decide_eq_true rfl) ?_
              | refine sg_store [_, _, _, _, _, _] rfl rfl rfl (of_decide_eq_true rfl) ?_
              | refine sg_store [_, _, _, _, _, _, _] rfl rfl rfl (of_decide_eq_true rfl) ?_
              | (refine sg_guard_dec rfl rfl (fun hg => ?_) (fun hg => ?_) <;> first | (exfalso; omega) | (exact absurd rfl hg) | skip)
              | (refine sg_guard_ndec rfl rfl (fun hg => ?_) (fun hg => ?_) <;> first | (exfalso; omega) | (exact absurd rfl hg) | skip)
              | (refine sg_cond_dec rfl (fun hg => ?_) (fun hg => ?_) <;> first | (exfalso; omega) | (exact absurd rfl hg) | skip)
              | (refine sg_cond_ndec rfl (fun hg => ?_) (fun hg => ?_) <;> first | (exfalso; omega) | (exact absurd rfl hg) | skip)
              | refine sg_cond_not rfl (fun hg => ?_) (fun hg => ?_)
              | refine sg_cond rfl (fun hg => ?_) (fun hg => ?_))
            refine sg_call ((freex_tri p ⟨0, o⟩ hs hm [blk al (hc (hs, hm)), swin la' l'.length (lc - 1) 2 (hcells l'), blk t (o.map nb), old W] (by omega) (by omega)).pre (fun w hO => hO.front3)) rfl rfl (fun _ _ => ?_)
            rw [hturn]
            dsimp only
            repeat' (first
              | refine sg_wo ?_
              | refine sg_ps (ps_move rfl) rfl ?_
              | refine sg_ps (ps_assign rfl) rfl ?_
              | refine sg_region ?_
              | refine sg_nil ?_
              | refine sg_then ?_
              | refine sg_ps (ps_fieldAddr rfl) rfl ?_
              | refine sg_ps (ps_nilCheck rfl) rfl ?_
              | refine sg_load 0 rfl rfl rfl rfl ?_
              | refine sg_load 1 rfl rfl rfl rfl ?_
              | refine sg_load 2 rfl rfl rfl rfl ?_
              | refine sg_load 3 rfl rfl rfl rfl ?_
              | refine sg_load 4 rfl rfl rfl rfl ?_
              | refine sg_load 5 rfl rfl rfl rfl ?_
              | refine sg_load 6 rfl rfl rfl rfl ?_
              | refine sg_load 7 rfl rfl rfl rfl ?_
              | refine sg_ps (ps_add64 rfl rfl (by omega)) rfl ?_
              | refine sg_ps (ps_sub64 rfl rfl (by omega)) rfl ?_
              | refine sg_ps (ps_mul64 rfl rfl (by omega)) rfl ?_
              | refine sg_ps (ps_bin rfl rfl inferInstance) rfl ?_
              | refine sg_ps (ps_rem rfl rfl (by decide)) rfl ?_
              | refine sg_ps (ps_quo64 rfl rfl (by decide) (by omega)) rfl ?_
              | refine sg_ps (ps_not rfl) rfl ?_
              | refine sg_ps (ps_conv rfl) rfl ?_
              | refine sg_ps (ps_shl rfl rfl (by decide) rfl) rfl ?_
              | refine sg_ps (ps_shr rfl rfl (by decide) rfl) rfl ?_
              | refine sg_cond_t rfl ?_
              | refine sg_cond_f rfl ?_
              | refine sg_guard_yes rfl rfl ?_
              | refine sg_guard_nf rfl rfl rfl ?_
              | refine sg_guard_nt rfl rfl rfl ?_
              | refine sg_guard_nu rfl rfl rfl ?_
              | refine sg_ps (ps_pick_t rfl rfl) rfl ?_
              | refine sg_ps (ps_pick_f rfl rfl) rfl ?_
              | refine sg_ps (ps_len rfl) rfl ?_
              | refine sg_ps (ps_len_str rfl) rfl ?_
              | refine sg_ps (ps_extract rfl rfl) rfl ?_
              | refine sg_ps (ps_field rfl rfl) rfl ?_
              | refine sg_ps (ps_min2 rfl rfl) rfl ?_
              | refine sg_ps (ps_max2 rfl rfl) rfl ?_
              | refine sg_ps (ps_build rfl rfl) rfl ?_
              | refine sg_box rfl rfl (fun bx => ?_)
              | refine sg_ps (ps_indexAddr rfl rfl rfl (by omega)) rfl ?_
              | refine sg_ps (ps_indexAddr (j := 0) rfl rfl rfl (by omega)) rfl ?_
              | refine sg_ps (ps_indexAddr (j := 1) rfl rfl rfl (by omega)) rfl ?_
              | refine sg_ps (ps_indexAddr_arr rfl rfl rfl (by omega)) rfl ?_
              | refine sg_load_whole 0 rfl rfl rfl rfl ?_
              | refine sg_load_whole 1 rfl rfl rfl rfl ?_
              | refine sg_load_whole 2 rfl rfl rfl rfl ?_
              | refine sg_load_whole 3 rfl rfl rfl rfl ?_
              | refine sg_load_whole 4 rfl rfl rfl rfl ?_
              | refine sg_load_whole 5 rfl rfl rfl rfl ?_
              | refine sg_load_whole 6 rfl rfl rfl rfl ?_
              | refine sg_load_whole 7 rfl rfl rfl rfl ?_
              | refine sg_store_whole [] rfl rfl rfl rfl rfl ?_
              | refine sg_store_whole [_] rfl rfl rfl rfl rfl ?_
              | refine sg_store_whole [_, _] rfl rfl rfl rfl rfl ?_
              | refine sg_store_whole [_, _, _] rfl rfl rfl rfl rfl ?_
              | refine sg_store_whole [_, _, _, _] rfl rfl rfl rfl rfl ?_
              | refine sg_store_whole [_, _, _, _, _] rfl rfl rfl rfl rfl ?_
              | refine sg_store_whole [_, _, _, _, _, _] rfl rfl rfl rfl rfl ?_
              | refine sg_alloc rfl (fun al => ?_)
              | refine sg_block ?_
              | refine sg_skip ?_
              | refine sg_ret ?_
              | refine sg_exit ?_
              | refine ex_then_ret ?_
              | refine ex_then_exit ?_
              | refine ex_block_ret ?_
              | refine ex_block_normal ?_
              | refine ex_block_hit ?_
              | refine ex_block_miss rfl ?_
              | refine sg_store [] rfl rfl rfl (of_decide_eq_true rfl) ?_
              | refine sg_store [_] rfl rfl rfl (of_decide_eq_true rfl) ?_
              | refine sg_store [_, _] rfl rfl rfl (of_decide_eq_true rfl) ?_
              | refine sg_store [_, _, _] rfl rfl rfl (of_decide_eq_true rfl) ?_
              | refine sg_store [_, _, _, _] rfl rfl rfl (of_decide_eq_true rfl) ?_
              | refine sg_store [_, _, _, _, _] rfl rfl rfl (of_decide_eq_true rfl) ?_
              | refine sg_store [_, _, _, _, _, _] rfl rfl rfl (of_decide_eq_true rfl) ?_
              | refine sg_store [_, _, _, _, _, _, _] rfl rfl rfl (of_decide_eq_true rfl) ?_
              | (refine sg_guard_dec rfl rfl (fun hg => ?_) (fun hg => ?_) <;> first | (exfalso; omega) | (exact absurd rfl hg) | skip)
              | (refine sg_guard_ndec rfl rfl (fun hg => ?_) (fun hg => ?_) <;> first | (exfalso; omega) | (exact absurd rfl hg) | skip)
              | (refine sg_cond_dec rfl (fun hg => ?_) (fun hg => ?_) <;> first | (exfalso; omega) | (exact absurd rfl hg) | skip)
              | (refine sg_cond_ndec rfl (fun hg => ?_) (fun hg => ?_) <;> first | (exfalso; omega) | (exact absurd rfl hg) | skip)
              | refine sg_cond_not rfl (fun hg => ?_) (fun hg => ?_)
              | refine sg_cond rfl (fun hg => ?_) (fun hg => ?_))
            refine sg_seq ?_
            refine sg_seq ?_
            repeat' (first
              | refine sg_wo ?_
              | refine sg_ps (ps_move rfl) rfl ?_
              | refine sg_ps (ps_assign rfl) rfl ?_
              | refine sg_region ?_
              | refine sg_nil ?_
              | refine sg_then ?_
              | refine sg_ps (ps_fieldAddr rfl) rfl ?_
              | refine sg_ps (ps_nilCheck rfl) rfl ?_
              | refine sg_load 0 rfl rfl rfl rfl ?_
              | refine sg_load 1 rfl rfl rfl rfl ?_
              | refine sg_load 2 rfl rfl rfl rfl ?_
              | refine sg_load 3 rfl rfl rfl rfl ?_
              | refine sg_load 4 rfl rfl rfl rfl ?_
              | refine sg_load 5 rfl rfl rfl rfl ?_
              | refine sg_load 6 rfl rfl rfl rfl ?_
              | refine sg_load 7 rfl rfl rfl rfl ?_
              | refine sg_ps (ps_add64 rfl rfl (by omega)) rfl ?_
              | refine sg_ps (ps_sub64 rfl rfl (by omega)) rfl ?_
              | refine sg_ps (ps_mul64 rfl rfl (by omega)) rfl ?_
              | refine sg_ps (ps_bin rfl rfl inferInstance) rfl ?_
              | refine sg_ps (ps_rem rfl rfl (by decide)) rfl ?_
              | refine sg_ps (ps_quo64 rfl rfl (by decide) (by omega)) rfl ?_
              | refine sg_ps (ps_not rfl) rfl ?_
              | refine sg_ps (ps_conv rfl) rfl ?_
              | refine sg_ps (ps_shl rfl rfl (by decide) rfl) rfl ?_
              | refine sg_ps (ps_shr rfl rfl (by decide) rfl) rfl ?_
              | refine sg_cond_t rfl ?_
              | refine sg_cond_f rfl ?_
              | refine sg_guard_yes rfl rfl ?_
              | refine sg_guard_nf rfl rfl rfl ?_
              | refine sg_guard_nt rfl rfl rfl ?_
              | refine sg_guard_nu rfl rfl rfl ?_
              | refine sg_ps (ps_pick_t rfl rfl) rfl ?_
              | refine sg_ps (ps_pick_f rfl rfl) rfl ?_
              | refine sg_ps (ps_len rfl) rfl ?_
              | refine sg_ps (ps_len_str rfl) rfl ?_
              | refine sg_ps (ps_extract rfl rfl) rfl ?_
              | refine sg_ps (ps_field rfl rfl) rfl ?_
              | refine sg_ps (ps_min2 rfl rfl) rfl ?_
              | refine sg_ps (ps_max2 rfl rfl) rfl ?_
              | refine sg_ps (ps_build rfl rfl) rfl ?_
              | refine sg_box rfl rfl (fun bx => ?_)
              | refine sg_ps (ps_indexAddr rfl rfl rfl (by omega)) rfl ?_
              | refine sg_ps (ps_indexAddr (j := 0) rfl rfl rfl (by omega)) rfl ?_
              | refine sg_ps (ps_indexAddr (j := 1) rfl rfl rfl (by omega)) rfl ?_
              | refine sg_ps (ps_indexAddr_arr rfl rfl rfl (by omega)) rfl ?_
              | refine sg_load_whole 0 rfl rfl rfl rfl ?_
              | refine sg_load_whole 1 rfl rfl rfl rfl ?_
              | refine sg_load_whole 2 rfl rfl rfl rfl ?_
              | refine sg_load_whole 3 rfl rfl rfl rfl ?_
              | refine sg_load_whole 4 rfl rfl rfl rfl ?_
              | refine sg_load_whole 5 rfl rfl rfl rfl ?_
              | refine sg_load_whole 6 rfl rfl rfl rfl ?_
              | refine sg_load_whole 7 rfl rfl rfl rfl ?_
              | refine sg_store_whole [] rfl rfl rfl rfl rfl ?_
              | refine sg_store_whole [_] rfl rfl rfl rfl rfl ?_
              | refine sg_store_whole [_, _] rfl rfl rfl rfl rfl ?_
              | refine sg_store_whole [_, _, _] rfl rfl rfl rfl rfl ?_
              | refine sg_store_whole [_, _, _, _] rfl rfl rfl rfl rfl ?_
              | refine sg_store_whole [_, _, _, _, _] rfl rfl rfl rfl rfl ?_
              | refine sg_store_whole [_, _, _, _, _, _] rfl rfl rfl rfl rfl ?_
              | refine sg_alloc rfl (fun al => ?_)
              | refine sg_block ?_
              | refine sg_skip ?_
              | refine sg_ret ?_
              | refine sg_exit ?_
              | refine ex_then_ret ?_
              | refine ex_then_exit ?_
              | refine ex_block_ret ?_
              | refine ex_block_normal ?_
              | refine ex_block_hit ?_
              | refine ex_block_miss rfl ?_
              | refine sg_store [] rfl rfl rfl (of_decide_eq_true rfl) ?_
              | refine sg_store [_] rfl rfl rfl (of_decide_eq_true rfl) ?_
              | refine sg_store [_, _] rfl rfl rfl (of_decide_eq_true rfl) ?_
              | refine sg_store [_, _, _] rfl rfl rfl (of_decide_eq_true rfl) ?_
              | refine sg_store [_, _, _, _] rfl rfl rfl (of_decide_eq_true rfl) ?_
              | refine sg_store [_, _, _, _, _] rfl rfl rfl (of_decide_eq_true rfl) ?_
              | refine sg_store [_, _, _, _, _, _] rfl rfl rfl (of_decide_eq_true rfl) ?_
              | refine sg_store [_, _, _, _, _, _, _] rfl rfl rfl (of_decide_eq_true rfl) ?_
              | (refine sg_guard_dec rfl rfl (fun hg => ?_) (fun hg => ?_) <;> first | (exfalso; omega) | (exact absurd rfl hg) | skip)
              | (refine sg_guard_ndec rfl rfl (fun hg => ?_) (fun hg => ?_) <;> first | (exfalso; omega) | (exact absurd rfl hg) | skip)
              | (refine sg_cond_dec rfl (fun hg => ?_) (fun hg => ?_) <;> first | (exfalso; omega) | (exact absurd rfl hg) | skip)
              | (refine sg_cond_ndec rfl (fun hg => ?_) (fun hg => ?_) <;> first | (exfalso; omega) | (exact absurd rfl hg) | skip)
              | refine sg_cond_not rfl (fun hg => ?_) (fun hg => ?_)
              | refine sg_cond rfl (fun hg => ?_) (fun hg => ?_))
            refine sg_loop (γ := Nat) (fun j => j ≤ hm) (fun j => [(0, i64 N), (1, .slice (some ⟨zb, zo, none⟩) zs.length zc), (5, dp p), (7, .slice (some ⟨t, 0, none⟩) N N), (8, .slice la' l'.length (lc - 1)), (9, i64 i), (11, dp al), (12, i64 ((hs + j : Nat) : Int))])
              (fun j => [SpaceRep p ⟨0, setr o hs hm true⟩, blk al (hc (hs, hm)), swin la' l'.length (lc - 1) 2 (hcells l'), blk t ((setr o hs j true).map nb), old W]) (fun j => hm - j) 0 (Nat.zero_le _)
              (.cons rfl (.cons rfl (.cons rfl (.cons rfl (.cons rfl (.cons rfl (.cons rfl (.cons rfl .nil)))))))) (fun w hO => by rw [setr_zero]; exact hO) ?_
            intro j hj
            repeat' (first
              | refine sg_wo ?_
              | refine sg_ps (ps_move rfl) rfl ?_
              | refine sg_ps (ps_assign rfl) rfl ?_
              | refine sg_seq ?_
              | refine sg_region ?_
              | refine sg_nil ?_
              | refine sg_then ?_
              | refine sg_ps (ps_fieldAddr rfl) rfl ?_
              | refine sg_ps (ps_nilCheck rfl) rfl ?_
              | refine sg_load 0 rfl rfl rfl rfl ?_
              | refine sg_load 1 rfl rfl rfl rfl ?_
              | refine sg_load 2 rfl rfl rfl rfl ?_
              | refine sg_load 3 rfl rfl rfl rfl ?_
              | refine sg_load 4 rfl rfl rfl rfl ?_
              | refine sg_load 5 rfl rfl rfl rfl ?_
              | refine sg_load 6 rfl rfl rfl rfl ?_
              | refine sg_load 7 rfl rfl rfl rfl ?_
              | refine sg_ps (ps_add64 rfl rfl (by omega)) rfl ?_
              | refine sg_ps (ps_sub64 rfl rfl (by omega)) rfl ?_
              | refine sg_ps (ps_mul64 rfl rfl (by omega)) rfl ?_
              | refine sg_ps (ps_bin rfl rfl inferInstance) rfl ?_
              | refine sg_ps (ps_rem rfl rfl (by decide)) rfl ?_
              | refine sg_ps (ps_quo64 rfl rfl (by decide) (by omega)) rfl ?_
              | refine sg_ps (ps_not rfl) rfl ?_
              | refine sg_ps (ps_conv rfl) rfl ?_
              | refine sg_ps (ps_shl rfl rfl (by decide) rfl) rfl ?_
              | refine sg_ps (ps_shr rfl rfl (by decide) rfl) rfl ?_
              | refine sg_cond_t rfl ?_
              | refine sg_cond_f rfl ?_
              | refine sg_guard_yes rfl rfl ?_
              | refine sg_guard_nf rfl rfl rfl ?_
              | refine sg_guard_nt rfl rfl rfl ?_
              | refine sg_guard_nu rfl rfl rfl ?_
              | refine sg_ps (ps_pick_t rfl rfl) rfl ?_
              | refine sg_ps (ps_pick_f rfl rfl) rfl ?_
              | refine sg_ps (ps_len rfl) rfl ?_
              | refine sg_ps (ps_len_str rfl) rfl ?_
              | refine sg_ps (ps_extract rfl rfl) rfl ?_
              | refine sg_ps (ps_field rfl rfl) rfl ?_
              | refine sg_ps (ps_min2 rfl rfl) rfl ?_
              | refine sg_ps (ps_max2 rfl rfl) rfl ?_
              | refine sg_ps (ps_build rfl rfl) rfl ?_
              | refine sg_box rfl rfl (fun bx => ?_)
              | refine sg_ps (ps_indexAddr rfl rfl rfl (by omega)) rfl ?_
              | refine sg_ps (ps_indexAddr (j := 0) rfl rfl rfl (by omega)) rfl ?_
              | refine sg_ps (ps_indexAddr (j := 1) rfl rfl rfl (by omega)) rfl ?_
              | refine sg_ps (ps_indexAddr_arr rfl rfl rfl (by omega)) rfl ?_
              | refine sg_load_whole 0 rfl rfl rfl rfl ?_
              | refine sg_load_whole 1 rfl rfl rfl rfl ?_
              | refine sg_load_whole 2 rfl rfl rfl rfl ?_
              | refine sg_load_whole 3 rfl rfl rfl rfl ?_
              | refine sg_load_whole 4 rfl rfl rfl rfl ?_
              | refine sg_load_whole 5 rfl rfl rfl rfl ?_
              | refine sg_load_whole 6 rfl rfl rfl rfl ?_
              | refine sg_load_whole 7 rfl rfl rfl rfl ?_
              | refine sg_store_whole [] rfl rfl rfl rfl rfl ?_
              | refine sg_store_whole [_] rfl rfl rfl rfl rfl ?_
              | refine sg_store_whole [_, _] rfl rfl rfl rfl rfl ?_
              | refine sg_store_whole [_, _, _] rfl rfl rfl rfl rfl ?_
              | refine sg_store_whole [_, _, _, _] rfl rfl rfl rfl rfl ?_
              | refine sg_store_whole [_, _, _, _, _] rfl rfl rfl rfl rfl ?_
              | refine sg_store_whole [_, _, _, _, _, _] rfl rfl rfl rfl rfl ?_
              | refine sg_alloc rfl (fun al => ?_)
              | refine sg_block ?_
              | refine sg_skip ?_
              | refine sg_ret ?_
              | refine sg_exit ?_
              | refine ex_then_ret ?_
              | refine ex_then_exit ?_
              | refine ex_block_ret ?_
              | refine ex_block_normal ?_
              | refine ex_block_hit ?_
              | refine ex_block_miss rfl ?_
              | refine sg_store [] rfl rfl rfl (of_decide_eq_true rfl) ?_
              | refine sg_store [_] rfl rfl rfl (of_decide_eq_true rfl) ?_
              | refine sg_store [_, _] rfl rfl rfl (of_decide_eq_true rfl) ?_
              | refine sg_store [_, _, _] rfl rfl rfl (of_decide_eq_true rfl) ?_
              | refine sg_store [_, _, _, _] rfl rfl rfl (of_decide_eq_true rfl) ?_
              | refine sg_store [_, _, _, _, _] rfl rfl rfl (of_decide_eq_true rfl) ?_
              | refine sg_store [_, _, _, _, _, _] rfl rfl rfl (of_decide_eq_true rfl) ?_
              | refine sg_store [_, _, _, _, _, _, _] rfl rfl rfl (of_decide_eq_true rfl) ?_
              | (refine sg_guard_dec rfl rfl (fun hg => ?_) (fun hg => ?_) <;> first | (exfalso; omega) | (exact absurd rfl hg) | skip)
              | (refine sg_guard_ndec rfl rfl (fun hg => ?_) (fun hg => ?_) <;> first | (exfalso; omega) | (exact absurd rfl hg) | skip)
              | (refine sg_cond_dec rfl (fun hg => ?_) (fun hg => ?_) <;> first | (exfalso; omega) | (exact absurd rfl hg) | skip)
              | (refine sg_cond_ndec rfl (fun hg => ?_) (fun hg => ?_) <;> first | (exfalso; omega) | (exact absurd rfl hg) | skip)
              | refine sg_cond_not rfl (fun hg => ?_) (fun hg => ?_)
              | refine sg_cond rfl (fun hg => ?_) (fun hg => ?_))
            · refine sg_store [_, _, _] rfl rfl rfl (by rw [List.length_map, setr_len]; omega) ?_
              repeat' (first
                | refine sg_wo ?_
                | refine sg_ps (ps_move rfl) rfl ?_
                | refine sg_ps (ps_assign rfl) rfl ?_
                | refine sg_seq ?_
                | refine sg_region ?_
                | refine sg_nil ?_
                | refine sg_then ?_
                | refine sg_ps (ps_fieldAddr rfl) rfl ?_
                | refine sg_ps (ps_nilCheck rfl) rfl ?_
                | refine sg_load 0 rfl rfl rfl rfl ?_
                | refine sg_load 1 rfl rfl rfl rfl ?_
                | refine sg_load 2 rfl rfl rfl rfl ?_
                | refine sg_load 3 rfl rfl rfl rfl ?_
                | refine sg_load 4 rfl rfl rfl rfl ?_
                | refine sg_load 5 rfl rfl rfl rfl ?_
                | refine sg_load 6 rfl rfl rfl rfl ?_
                | refine sg_load 7 rfl rfl rfl rfl ?_
                | refine sg_ps (ps_add64 rfl rfl (by omega)) rfl ?_
                | refine sg_ps (ps_sub64 rfl rfl (by omega)) rfl ?_
                | refine sg_ps (ps_mul64 rfl rfl (by omega)) rfl ?_
                | refine sg_ps (ps_bin rfl rfl inferInstance) rfl ?_
                | refine sg_ps (ps_rem rfl rfl (by decide)) rfl ?_
                | refine sg_ps (ps_quo64 rfl rfl (by decide) (by omega)) rfl ?_
                | refine sg_ps (ps_not rfl) rfl ?_
                | refine sg_ps (ps_conv rfl) rfl ?_
                | refine sg_ps (ps_shl rfl rfl (by decide) rfl) rfl ?_
                | refine sg_ps (ps_shr rfl rfl (by decide) rfl) rfl ?_
                | refine sg_cond_t rfl ?_
                | refine sg_cond_f rfl ?_
                | refine sg_guard_yes rfl rfl ?_
                | refine sg_guard_nf rfl rfl rfl ?_
                | refine sg_guard_nt rfl rfl rfl ?_
                | refine sg_guard_nu rfl rfl rfl ?_
                | refine sg_ps (ps_pick_t rfl rfl) rfl ?_
                | refine sg_ps (ps_pick_f rfl rfl) rfl ?_
                | refine sg_ps (ps_len rfl) rfl ?_
                | refine sg_ps (ps_len_str rfl) rfl ?_
                | refine sg_ps (ps_extract rfl rfl) rfl ?_
                | refine sg_ps (ps_field rfl rfl) rfl ?_
                | refine sg_ps (ps_min2 rfl rfl) rfl ?_
                | refine sg_ps (ps_max2 rfl rfl) rfl ?_
                | refine sg_ps (ps_build rfl rfl) rfl ?_
                | refine sg_box rfl rfl (fun bx => ?_)
                | refine sg_ps (ps_indexAddr rfl rfl rfl (by omega)) rfl ?_
                | refine sg_ps (ps_indexAddr (j := 0) rfl rfl rfl (by omega)) rfl ?_
                | refine sg_ps (ps_indexAddr (j := 1) rfl rfl rfl (by omega)) rfl ?_
                | refine sg_ps (ps_indexAddr_arr rfl rfl rfl (by omega)) rfl ?_
                | refine sg_load_whole 0 rfl rfl rfl rfl ?_
                | refine sg_load_whole 1 rfl rfl rfl rfl ?_
                | refine sg_load_whole 2 rfl rfl rfl rfl ?_
                | refine sg_load_whole 3 rfl rfl rfl rfl ?_
                | refine sg_load_whole 4 rfl rfl rfl rfl ?_
                | refine sg_load_whole 5 rfl rfl rfl rfl ?_
                | refine sg_load_whole 6 rfl rfl rfl rfl ?_
                | refine sg_load_whole 7 rfl rfl rfl rfl ?_
                | refine sg_store_whole [] rfl rfl rfl rfl rfl ?_
                | refine sg_store_whole [_] rfl rfl rfl rfl rfl ?_
                | refine sg_store_whole [_, _] rfl rfl rfl rfl rfl ?_
                | refine sg_store_whole [_, _, _] rfl rfl rfl rfl rfl ?_
                | refine sg_store_whole [_, _, _, _] rfl rfl rfl rfl rfl ?_
                | refine sg_store_whole [_, _, _, _, _] rfl rfl rfl rfl rfl ?_
                | refine sg_store_whole [_, _, _, _, _, _] rfl rfl rfl rfl rfl ?_
                | refine sg_alloc rfl (fun al => ?_)
                | refine sg_block ?_
                | refine sg_skip ?_
                | refine sg_ret ?_
                | refine sg_exit ?_
                | refine ex_then_ret ?_
                | refine ex_then_exit ?_
                | refine ex_block_ret ?_
                | refine ex_block_normal ?_
                | refine ex_block_hit ?_
                | refine ex_block_miss rfl ?_
                | refine sg_store [] rfl rfl rfl (of_decide_eq_true rfl) ?_
                | refine sg_store [_] rfl rfl rfl (of_decide_eq_true rfl) ?_
                | refine sg_store [_, _] rfl rfl rfl (of_decide_eq_true rfl) ?_
                | refine sg_store [_, _, _] rfl rfl rfl (of_decide_eq_true rfl) ?_
                | refine sg_store [_, _, _, _] rfl rfl rfl (of_decide_eq_true rfl) ?_
                | refine sg_store [_, _, _, _, _] rfl rfl rfl (of_decide_eq_true rfl) ?_
                | refine sg_store [_, _, _, _, _, _] rfl rfl rfl (of_decide_eq_true rfl) ?_
                | refine sg_store [_, _, _, _, _, _, _] rfl rfl rfl (of_decide_eq_true rfl) ?_
                | (refine sg_guard_dec rfl rfl (fun hg => ?_) (fun hg => ?_) <;> first | (exfalso; omega) | (exact absurd rfl hg) | skip)
                | (refine sg_guard_ndec rfl rfl (fun hg => ?_) (fun hg => ?_) <;> first | (exfalso; omega) | (exact absurd rfl hg) | skip)
                | (refine sg_cond_dec rfl (fun hg => ?_) (fun hg => ?_) <;> first | (exfalso; omega) | (exact absurd rfl hg) | skip)
                | (refine sg_cond_ndec rfl (fun hg => ?_) (fun hg => ?_) <;> first | (exfalso; omega) | (exact absurd rfl hg) | skip)
                | refine sg_cond_not rfl (fun hg => ?_) (fun hg => ?_)
                | refine sg_cond rfl (fun hg => ?_) (fun hg => ?_))
              refine ex_mid (j + 1) ⟨by omega, by omega⟩ (.cons rfl (.cons rfl (.cons rfl (.cons rfl (.cons rfl (.cons rfl (.cons rfl (.cons rfl .nil)))))))) (fun w hO => ?_)
              rw [← setr_step, List.map_set, show hs + j = 0 + (hs + j) * 1 by omega]; exact hO
            · obtain rfl : j = hm := by omega
              exact ex_mid (setr o hs j true, l', la', lc - 1) ⟨hA', by show l'.length ≤ i + 1; omega⟩ (.cons rfl (.cons rfl (.cons rfl (.cons rfl (.cons rfl (.cons rfl .nil)))))) (fun w hO => hO.pick [2, 3, 0, 4] (by decide))
          all_goals exact ex_mid () trivial (.cons rfl (.cons rfl (.cons rfl (.cons rfl (.cons rfl (.cons rfl (.cons rfl .nil))))))) (fun w hO => hO)
        · rintro - -
          have holen := hA.len
          refine sg_seq ?_
          repeat' (first
            | refine sg_wo ?_
            | refine sg_ps (ps_move rfl) rfl ?_
            | refine sg_ps (ps_assign rfl) rfl ?_
            | refine sg_region ?_
            | refine sg_nil ?_
            | refine sg_then ?_
            | refine sg_ps (ps_fieldAddr rfl) rfl ?_
            | refine sg_ps (ps_nilCheck rfl) rfl ?_
            | refine sg_load 0 rfl rfl rfl rfl ?_
            | refine sg_load 1 rfl rfl rfl rfl ?_
            | refine sg_load 2 rfl rfl rfl rfl ?_
            | refine sg_load 3 rfl rfl rfl rfl ?_
            | refine sg_load 4 rfl rfl rfl rfl ?_
            | refine sg_load 5 rfl rfl rfl rfl ?_
            | refine sg_load 6 rfl rfl rfl rfl ?_
            | refine sg_load 7 rfl rfl rfl rfl ?_
            | refine sg_ps (ps_add64 rfl rfl (by omega)) rfl ?_
            | refine sg_ps (ps_sub64 rfl rfl (by omega)) rfl ?_
            | refine sg_ps (ps_mul64 rfl rfl (by omega)) rfl ?_
            | refine sg_ps (ps_bin rfl rfl inferInstance) rfl ?_
            | refine sg_ps (ps_rem rfl rfl (by decide)) rfl ?_
            | refine sg_ps (ps_quo64 rfl rfl (by decide) (by omega)) rfl ?_
            | refine sg_ps (ps_not rfl) rfl ?_
            | refine sg_ps (ps_conv rfl) rfl ?_
            | refine sg_ps (ps_shl rfl rfl (by decide) rfl) rfl ?_
            | refine sg_ps (ps_shr rfl rfl (by decide) rfl) rfl ?_
            | refine sg_cond_t rfl ?_
            | refine sg_cond_f rfl ?_
            | refine sg_guard_yes rfl rfl ?_
            | refine sg_guard_nf rfl rfl rfl ?_
            | refine sg_guard_nt rfl rfl rfl ?_
            | refine sg_guard_nu rfl rfl rfl ?_
            | refine sg_ps (ps_pick_t rfl rfl) rfl ?_
            | refine sg_ps (ps_pick_f rfl rfl) rfl ?_
            | refine sg_ps (ps_len rfl) rfl ?_
            | refine sg_ps (ps_len_str rfl) rfl ?_
            | refine sg_ps (ps_extract rfl rfl) rfl ?_
            | refine sg_ps (ps_field rfl rfl) rfl ?_
            | refine sg_ps (ps_min2 rfl rfl) rfl ?_
            | refine sg_ps (ps_max2 rfl rfl) rfl ?_
            | refine sg_ps (ps_build rfl rfl) rfl ?_
            | refine sg_box rfl rfl (fun bx => ?_)
            | refine sg_ps (ps_indexAddr rfl rfl rfl (by omega)) rfl ?_
            | refine sg_ps (ps_indexAddr (j := 0) rfl rfl rfl (by omega)) rfl ?_
            | refine sg_ps (ps_indexAddr (j := 1) rfl rfl rfl (by omega)) rfl ?_
            | refine sg_ps (ps_indexAddr_arr rfl rfl rfl (by omega)) rfl ?_
            | refine sg_load_whole 0 rfl rfl rfl rfl ?_
            | refine sg_load_whole 1 rfl rfl rfl rfl ?_
            | refine sg_load_whole 2 rfl rfl rfl rfl ?_
            | refine sg_load_whole 3 rfl rfl rfl rfl ?_
            | refine sg_load_whole 4 rfl rfl rfl rfl ?_
            | refine sg_load_whole 5 rfl rfl rfl rfl ?_
            | refine sg_load_whole 6 rfl rfl rfl rfl ?_
            | refine sg_load_whole 7 rfl rfl rfl rfl ?_
            | refine sg_store_whole [] rfl rfl rfl rfl rfl ?_
            | refine sg_store_whole [_] rfl rfl rfl rfl rfl ?_
            | refine sg_store_whole [_, _] rfl rfl rfl rfl rfl ?_
            | refine sg_store_whole [_, _, _] rfl rfl rfl rfl rfl ?_
            | refine sg_store_whole [_, _, _, _] rfl rfl rfl rfl rfl ?_
            | refine sg_store_whole [_, _, _, _, _] rfl rfl rfl rfl rfl ?_
            | refine sg_store_whole [_, _, _, _, _, _] rfl rfl rfl rfl rfl ?_
            | refine sg_alloc rfl (fun al => ?_)
            | refine sg_block ?_
            | refine sg_skip ?_
            | refine sg_ret ?_
            | refine sg_exit ?_
            | refine ex_then_ret ?_
            | refine ex_then_exit ?_
            | refine ex_block_ret ?_
            | refine ex_block_normal ?_
            | refine ex_block_hit ?_
            | refine ex_block_miss rfl ?_
            | refine sg_store [] rfl rfl rfl (of_decide_eq_true rfl) ?_
            | refine sg_store [_] rfl rfl rfl (of_decide_eq_true rfl) ?_
            | refine sg_store [_, _] rfl rfl rfl (of_decide_eq_true rfl) ?_
            | refine sg_store [_, _, _] rfl rfl rfl (of_decide_eq_true rfl) ?_
            | refine sg_store [_, _, _, _] rfl rfl rfl (of_decide_eq_true rfl) ?_
            | refine sg_store [_, _, _, _, _] rfl rfl rfl (of_decide_eq_true rfl) ?_
            | refine sg_store [_, _, _, _, _, _] rfl rfl rfl (of_decide_eq_true rfl) ?_
            | refine sg_store [_, _, _, _, _, _, _] rfl rfl rfl (of_decide_eq_true rfl) ?_
            | (refine sg_guard_dec rfl rfl (fun hg => ?_) (fun hg => ?_) <;> first | (exfalso; omega) | (exact absurd rfl hg) | skip)
            | (refine sg_guard_ndec rfl rfl (fun hg => ?_) (fun hg => ?_) <;> first | (exfalso; omega) | (exact absurd rfl hg) | skip)
            | (refine sg_cond_dec rfl (fun hg => ?_) (fun hg => ?_) <;> first | (exfalso; omega) | (exact absurd rfl hg) | skip)
            | (refine sg_cond_ndec rfl (fun hg => ?_) (fun hg => ?_) <;> first | (exfalso; omega) | (exact absurd rfl hg) | skip)
            | refine sg_cond_not rfl (fun hg => ?_) (fun hg => ?_)
            | refine sg_cond rfl (fun hg => ?_) (fun hg => ?_))
          refine sg_call ((alloc_tri p ⟨0, o⟩ M [swin la l.length lc 2 (hcells l), blk t (o.map nb), old W]).pre (fun w hO => hO.front2)) rfl rfl (fun _ _ => ?_)
          rcases alloc_zero (o := o) hM1.1 with he | ⟨q, he, hq⟩
          · rw [he]
            dsimp only
            repeat' (first
              | refine sg_wo ?_
              | refine sg_ps (ps_move rfl) rfl ?_
              | refine sg_ps (ps_assign rfl) rfl ?_
              | refine sg_seq ?_
              | refine sg_region ?_
              | refine sg_nil ?_
              | refine sg_then ?_
              | refine sg_ps (ps_fieldAddr rfl) rfl ?_
              | refine sg_ps (ps_nilCheck rfl) rfl ?_
              | refine sg_load 0 rfl rfl rfl rfl ?_
              | refine sg_load 1 rfl rfl rfl rfl ?_
              | refine sg_load 2 rfl rfl rfl rfl ?_
              | refine sg_load 3 rfl rfl rfl rfl ?_
              | refine sg_load 4 rfl rfl rfl rfl ?_
              | refine sg_load 5 rfl rfl rfl rfl ?_
              | refine sg_load 6 rfl rfl rfl rfl ?_
              | refine sg_load 7 rfl rfl rfl rfl ?_
              | refine sg_ps (ps_add64 rfl rfl (by omega)) rfl ?_
              | refine sg_ps (ps_sub64 rfl rfl (by omega)) rfl ?_
              | refine sg_ps (ps_mul64 rfl rfl (by omega)) rfl ?_
              | refine sg_ps (ps_bin rfl rfl inferInstance) rfl ?_
              | refine sg_ps (ps_rem rfl rfl (by decide)) rfl ?_
              | refine sg_ps (ps_quo64 rfl rfl (by decide) (by omega)) rfl ?_
              | refine sg_ps (ps_not rfl) rfl ?_
              | refine sg_ps (ps_conv rfl) rfl ?_
              | refine sg_ps (ps_shl rfl rfl (by decide) rfl) rfl ?_
              | refine sg_ps (ps_shr rfl rfl (by decide) rfl) rfl ?_
              | refine sg_cond_t rfl ?_
              | refine sg_cond_f rfl ?_
              | refine sg_guard_yes rfl rfl ?_
              | refine sg_guard_nf rfl rfl rfl ?_
              | refine sg_guard_nt rfl rfl rfl ?_
              | refine sg_guard_nu rfl rfl rfl ?_
              | refine sg_ps (ps_pick_t rfl rfl) rfl ?_
              | refine sg_ps (ps_pick_f rfl rfl) rfl ?_
              | refine sg_ps (ps_len rfl) rfl ?_
              | refine sg_ps (ps_len_str rfl) rfl ?_
              | refine sg_ps (ps_extract rfl rfl) rfl ?_
              | refine sg_ps (ps_field rfl rfl) rfl ?_
              | refine sg_ps (ps_min2 rfl rfl) rfl ?_
              | refine sg_ps (ps_max2 rfl rfl) rfl ?_
              | refine sg_ps (ps_build rfl rfl) rfl ?_
              | refine sg_box rfl rfl (fun bx => ?_)
              | refine sg_ps (ps_indexAddr rfl rfl rfl (by omega)) rfl ?_
              | refine sg_ps (ps_indexAddr (j := 0) rfl rfl rfl (by omega)) rfl ?_
              | refine sg_ps (ps_indexAddr (j := 1) rfl rfl rfl (by omega)) rfl ?_
              | refine sg_ps (ps_indexAddr_arr rfl rfl rfl (by omega)) rfl ?_
              | refine sg_load_whole 0 rfl rfl rfl rfl ?_
              | refine sg_load_whole 1 rfl rfl rfl rfl ?_
              | refine sg_load_whole 2 rfl rfl rfl rfl ?_
              | refine sg_load_whole 3 rfl rfl rfl rfl ?_
              | refine sg_load_whole 4 rfl rfl rfl rfl ?_
              | refine sg_load_whole 5 rfl rfl rfl rfl ?_
              | refine sg_load_whole 6 rfl rfl rfl rfl ?_
              | refine sg_load_whole 7 rfl rfl rfl rfl ?_
              | refine sg_store_whole [] rfl rfl rfl rfl rfl ?_
              | refine sg_store_whole [_] rfl rfl rfl rfl rfl ?_
              | refine sg_store_whole [_, _] rfl rfl rfl rfl rfl ?_
              | refine sg_store_whole [_, _, _] rfl rfl rfl rfl rfl ?_
              | refine sg_store_whole [_, _, _, _] rfl rfl rfl rfl rfl ?_
              | refine sg_store_whole [_, _, _, _, _] rfl rfl rfl rfl rfl ?_
              | refine sg_store_whole [_, _, _, _, _, _] rfl rfl rfl rfl rfl ?_
              | refine sg_alloc rfl (fun al => ?_)
              | refine sg_block ?_
              | refine sg_skip ?_
              | refine sg_ret ?_
              | refine sg_exit ?_
              | refine ex_then_ret ?_
              | refine ex_then_exit ?_
              | refine ex_block_ret ?_
              | refine ex_block_normal ?_
              | refine ex_block_hit ?_
              | refine ex_block_miss rfl ?_
              | refine sg_store [] rfl rfl rfl (of_decide_eq_true rfl) ?_
              | refine sg_store [_] rfl rfl rfl (of_decide_eq_true rfl) ?_
              | refine sg_store [_, _] rfl rfl rfl (of_decide_eq_true rfl) ?_
              | refine sg_store [_, _, _] rfl rfl rfl (of_decide_eq_true rfl) ?_
              | refine sg_store [_, _, _, _] rfl rfl rfl (of_decide_eq_true rfl) ?_
              | refine sg_store [_, _, _, _, _] rfl rfl rfl (of_decide_eq_true rfl) ?_
              | refine sg_store [_, _, _, _, _, _] rfl rfl rfl (of_decide_eq_true rfl) ?_
              | refine sg_store [_, _, _, _, _, _, _] rfl rfl rfl (of_decide_eq_true rfl) ?_
              | (refine sg_guard_dec rfl rfl (fun hg => ?_) (fun hg => ?_) <;> first | (exfalso; omega) | (exact absurd rfl hg) | skip)
              | (refine sg_guard_ndec rfl rfl (fun hg => ?_) (fun hg => ?_) <;> first | (exfalso; omega) | (exact absurd rfl hg) | skip)
              | (refine sg_cond_dec rfl (fun hg => ?_) (fun hg => ?_) <;> first | (exfalso; omega) | (exact absurd rfl hg) | skip)
              | (refine sg_cond_ndec rfl (fun hg => ?_) (fun hg => ?_) <;> first | (exfalso; omega) | (exact absurd rfl hg) | skip)
              | refine sg_cond_not rfl (fun hg => ?_) (fun hg => ?_)
              | refine sg_cond rfl (fun hg => ?_) (fun hg => ?_))
            exact ex_mid (o, l, la, lc) ⟨hA, by show l.length ≤ i + 1; omega⟩ (.cons rfl (.cons rfl (.cons rfl (.cons rfl (.cons rfl (.cons rfl .nil)))))) (fun w hO => hO.pick [1, 2, 0, 3] (by decide))
          · rw [he]
            dsimp only
            have hroom := allB_room hq hM1.1
            have hA' := hA.grow hq hM1.1
            repeat' (first
              | refine sg_wo ?_
              | refine sg_ps (ps_move rfl) rfl ?_
              | refine sg_ps (ps_assign rfl) rfl ?_
              | refine sg_region ?_
              | refine sg_nil ?_
              | refine sg_then ?_
              | refine sg_ps (ps_fieldAddr rfl) rfl ?_
              | refine sg_ps (ps_nilCheck rfl) rfl ?_
              | refine sg_load 0 rfl rfl rfl rfl ?_
              | refine sg_load 1 rfl rfl rfl rfl ?_
              | refine sg_load 2 rfl rfl rfl rfl ?_
              | refine sg_load 3 rfl rfl rfl rfl ?_
              | refine sg_load 4 rfl rfl rfl rfl ?_
              | refine sg_load 5 rfl rfl rfl rfl ?_
              | refine sg_load 6 rfl rfl rfl rfl ?_
              | refine sg_load 7 rfl rfl rfl rfl ?_
              | refine sg_ps (ps_add64 rfl rfl (by omega)) rfl ?_
              | refine sg_ps (ps_sub64 rfl rfl (by omega)) rfl ?_
              | refine sg_ps (ps_mul64 rfl rfl (by omega)) rfl ?_
              | refine sg_ps (ps_bin rfl rfl inferInstance) rfl ?_
              | refine sg_ps (ps_rem rfl rfl (by decide)) rfl ?_
              | refine sg_ps (ps_quo64 rfl rfl (by decide) (by omega)) rfl ?_
              | refine sg_ps (ps_not rfl) rfl ?_
              | refine sg_ps (ps_conv rfl) rfl ?_
              | refine sg_ps (ps_shl rfl rfl (by decide) rfl) rfl ?_
              | refine sg_ps (ps_shr rfl rfl (by decide) rfl) rfl ?_
              | refine sg_cond_t rfl ?_
              | refine sg_cond_f rfl ?_
              | refine sg_guard_yes rfl rfl ?_
              | refine sg_guard_nf rfl rfl rfl ?_
              | refine sg_guard_nt rfl rfl rfl ?_
              | refine sg_guard_nu rfl rfl rfl ?_
              | refine sg_ps (ps_pick_t rfl rfl) rfl ?_
              | refine sg_ps (ps_pick_f rfl rfl) rfl ?_
              | refine sg_ps (ps_len rfl) rfl ?_
              | refine sg_ps (ps_len_str rfl) rfl ?_
              | refine sg_ps (ps_extract rfl rfl) rfl ?_
              | refine sg_ps (ps_field rfl rfl) rfl ?_
              | refine sg_ps (ps_min2 rfl rfl) rfl ?_
              | refine sg_ps (ps_max2 rfl rfl) rfl ?_
              | refine sg_ps (ps_build rfl rfl) rfl ?_
              | refine sg_box rfl rfl (fun bx => ?_)
              | refine sg_ps (ps_indexAddr rfl rfl rfl (by omega)) rfl ?_
              | refine sg_ps (ps_indexAddr (j := 0) rfl rfl rfl (by omega)) rfl ?_
              | refine sg_ps (ps_indexAddr (j := 1) rfl rfl rfl (by omega)) rfl ?_
              | refine sg_ps (ps_indexAddr_arr rfl rfl rfl (by omega)) rfl ?_
              | refine sg_load_whole 0 rfl rfl rfl rfl ?_
              | refine sg_load_whole 1 rfl rfl rfl rfl ?_
              | refine sg_load_whole 2 rfl rfl rfl rfl ?_
              | refine sg_load_whole 3 rfl rfl rfl rfl ?_
              | refine sg_load_whole 4 rfl rfl rfl rfl ?_
              | refine sg_load_whole 5 rfl rfl rfl rfl ?_
              | refine sg_load_whole 6 rfl rfl rfl rfl ?_
              | refine sg_load_whole 7 rfl rfl rfl rfl ?_
              | refine sg_store_whole [] rfl rfl rfl rfl rfl ?_
              | refine sg_store_whole [_] rfl rfl rfl rfl rfl ?_
              | refine sg_store_whole [_, _] rfl rfl rfl rfl rfl ?_
              | refine sg_store_whole [_, _, _] rfl rfl rfl rfl rfl ?_
              | refine sg_store_whole [_, _, _, _] rfl rfl rfl rfl rfl ?_
              | refine sg_store_whole [_, _, _, _, _] rfl rfl rfl rfl rfl ?_
              | refine sg_store_whole [_, _, _, _, _, _] rfl rfl rfl rfl rfl ?_
              | refine sg_alloc rfl (fun al => ?_)
              | refine sg_block ?_
              | refine sg_skip ?_
              | refine sg_ret ?_
              | refine sg_exit ?_
              | refine ex_then_ret ?_
              | refine ex_then_exit ?_
              | refine ex_block_ret ?_
              | refine ex_block_normal ?_
              | refine ex_block_hit ?_
              | refine ex_block_miss rfl ?_
              | refine sg_store [] rfl rfl rfl (of_decide_eq_true rfl) ?_
              | refine sg_store [_] rfl rfl rfl (of_decide_eq_true rfl) ?_
              | refine sg_store [_, _] rfl rfl rfl (of_decide_eq_true rfl) ?_
              | refine sg_store [_, _, _] rfl rfl rfl (of_decide_eq_true rfl) ?_
              | refine sg_store [_, _, _, _] rfl rfl rfl (of_decide_eq_true rfl) ?_
              | refine sg_store [_, _, _, _, _] rfl rfl rfl (of_decide_eq_true rfl) ?_
              | refine sg_store [_, _, _, _, _, _] rfl rfl rfl (of_decide_eq_true rfl) ?_
              | refine sg_store [_, _, _, _, _, _, _] rfl rfl rfl (of_decide_eq_true rfl) ?_
              | (refine sg_guard_dec rfl rfl (fun hg => ?_) (fun hg => ?_) <;> first | (exfalso; omega) | (exact absurd rfl hg) | skip)
              | (refine sg_guard_ndec rfl rfl (fun hg => ?_) (fun hg => ?_) <;> first | (exfalso; omega) | (exact absurd rfl hg) | skip)
              | (refine sg_cond_dec rfl (fun hg => ?_) (fun hg => ?_) <;> first | (exfalso; omega) | (exact absurd rfl hg) | skip)
              | (refine sg_cond_ndec rfl (fun hg => ?_) (fun hg => ?_) <;> first | (exfalso; omega) | (exact absurd rfl hg) | skip)
              | refine sg_cond_not rfl (fun hg => ?_) (fun hg => ?_)
              | refine sg_cond rfl (fun hg => ?_) (fun hg => ?_))
            refine sg_seq ?_
            refine sg_seq ?_
            repeat' (first
              | refine sg_wo ?_
              | refine sg_ps (ps_move rfl) rfl ?_
              | refine sg_ps (ps_assign rfl) rfl ?_
              | refine sg_region ?_
              | refine sg_nil ?_
              | refine sg_then ?_
              | refine sg_ps (ps_fieldAddr rfl) rfl ?_
              | refine sg_ps (ps_nilCheck rfl) rfl ?_
              | refine sg_load 0 rfl rfl rfl rfl ?_
              | refine sg_load 1 rfl rfl rfl rfl ?_
              | refine sg_load 2 rfl rfl rfl rfl ?_
              | refine sg_load 3 rfl rfl rfl rfl ?_
              | refine sg_load 4 rfl rfl rfl rfl ?_
              | refine sg_load 5 rfl rfl rfl rfl ?_
              | refine sg_load 6 rfl rfl rfl rfl ?_
              | refine sg_load 7 rfl rfl rfl rfl ?_
              | refine sg_ps (ps_add64 rfl rfl (by omega)) rfl ?_
              | refine sg_ps (ps_sub64 rfl rfl (by omega)) rfl ?_
              | refine sg_ps (ps_mul64 rfl rfl (by omega)) rfl ?_
              | refine sg_ps (ps_bin rfl rfl inferInstance) rfl ?_
              | refine sg_ps (ps_rem rfl rfl (by decide)) rfl ?_
              | refine sg_ps (ps_quo64 rfl rfl (by decide) (by omega)) rfl ?_
              | refine sg_ps (ps_not rfl) rfl ?_
              | refine sg_ps (ps_conv rfl) rfl ?_
              | refine sg_ps (ps_shl rfl rfl (by decide) rfl) rfl ?_
              | refine sg_ps (ps_shr rfl rfl (by decide) rfl) rfl ?_
              | refine sg_cond_t rfl ?_
              | refine sg_cond_f rfl ?_
              | refine sg_guard_yes rfl rfl ?_
              | refine sg_guard_nf rfl rfl rfl ?_
              | refine sg_guard_nt rfl rfl rfl ?_
              | refine sg_guard_nu rfl rfl rfl ?_
              | refine sg_ps (ps_pick_t rfl rfl) rfl ?_
              | refine sg_ps (ps_pick_f rfl rfl) rfl ?_
              | refine sg_ps (ps_len rfl) rfl ?_
              | refine sg_ps (ps_len_str rfl) rfl ?_
              | refine sg_ps (ps_extract rfl rfl) rfl ?_
              | refine sg_ps (ps_field rfl rfl) rfl ?_
              | refine sg_ps (ps_min2 rfl rfl) rfl ?_
              | refine sg_ps (ps_max2 rfl rfl) rfl ?_
              | refine sg_ps (ps_build rfl rfl) rfl ?_
              | refine sg_box rfl rfl (fun bx => ?_)
              | refine sg_ps (ps_indexAddr rfl rfl rfl (by omega)) rfl ?_
              | refine sg_ps (ps_indexAddr (j := 0) rfl rfl rfl (by omega)) rfl ?_
              | refine sg_ps (ps_indexAddr (j := 1) rfl rfl rfl (by omega)) rfl ?_
              | refine sg_ps (ps_indexAddr_arr rfl rfl rfl (by omega)) rfl ?_
              | refine sg_load_whole 0 rfl rfl rfl rfl ?_
              | refine sg_load_whole 1 rfl rfl rfl rfl ?_
              | refine sg_load_whole 2 rfl rfl rfl rfl ?_
              | refine sg_load_whole 3 rfl rfl rfl rfl ?_
              | refine sg_load_whole 4 rfl rfl rfl rfl ?_
              | refine sg_load_whole 5 rfl rfl rfl rfl ?_
              | refine sg_load_whole 6 rfl rfl rfl rfl ?_
              | refine sg_load_whole 7 rfl rfl rfl rfl ?_
              | refine sg_store_whole [] rfl rfl rfl rfl rfl ?_
              | refine sg_store_whole [_] rfl rfl rfl rfl rfl ?_
              | refine sg_store_whole [_, _] rfl rfl rfl rfl rfl ?_
              | refine sg_store_whole [_, _, _] rfl rfl rfl rfl rfl ?_
              | refine sg_store_whole [_, _, _, _] rfl rfl rfl rfl rfl ?_
              | refine sg_store_whole [_, _, _, _, _] rfl rfl rfl rfl rfl ?_
              | refine sg_store_whole [_, _, _, _, _, _] rfl rfl rfl rfl rfl ?_
              | refine sg_alloc rfl (fun al => ?_)
              | refine sg_block ?_
              | refine sg_skip ?_
              | refine sg_ret ?_
              | refine sg_exit ?_
              | refine ex_then_ret ?_
              | refine ex_then_exit ?_
              | refine ex_block_ret ?_
              | refine ex_block_normal ?_
              | refine ex_block_hit ?_
              | refine ex_block_miss rfl ?_
              | refine sg_store [] rfl rfl rfl (of_decide_eq_true rfl) ?_
              | refine sg_store [_] rfl rfl rfl (of_decide_eq_true rfl) ?_
              | refine sg_store [_, _] rfl rfl rfl (of_decide_eq_true rfl) ?_
              | refine sg_store [_, _, _] rfl rfl rfl (of_decide_eq_true rfl) ?_
              | refine sg_store [_, _, _, _] rfl rfl rfl (of_decide_eq_true rfl) ?_
              | refine sg_store [_, _, _, _, _] rfl rfl rfl (of_decide_eq_true rfl) ?_
              | refine sg_store [_, _, _, _, _, _] rfl rfl rfl (of_decide_eq_true rfl) ?_
              | refine sg_store [_, _, _, _, _, _, _] rfl rfl rfl (of_decide_eq_true rfl) ?_
              | (refine sg_guard_dec rfl rfl (fun hg => ?_) (fun hg => ?_) <;> first | (exfalso; omega) | (exact absurd rfl hg) | skip)
              | (refine sg_guard_ndec rfl rfl (fun hg => ?_) (fun hg => ?_) <;> first | (exfalso; omega) | (exact absurd rfl hg) | skip)
              | (refine sg_cond_dec rfl (fun hg => ?_) (fun hg => ?_) <;> first | (exfalso; omega) | (exact absurd rfl hg) | skip)
              | (refine sg_cond_ndec rfl (fun hg => ?_) (fun hg => ?_) <;> first | (exfalso; omega) | (exact absurd rfl hg) | skip)
              | refine sg_cond_not rfl (fun hg => ?_) (fun hg => ?_)
              | refine sg_cond rfl (fun hg => ?_) (fun hg => ?_))
            refine sg_seq ?_
            refine sg_seq ?_
            repeat' (first
              | refine sg_wo ?_
              | refine sg_ps (ps_move rfl) rfl ?_
              | refine sg_ps (ps_assign rfl) rfl ?_
              | refine sg_region ?_
              | refine sg_nil ?_
              | refine sg_then ?_
              | refine sg_ps (ps_fieldAddr rfl) rfl ?_
              | refine sg_ps (ps_nilCheck rfl) rfl ?_
              | refine sg_load 0 rfl rfl rfl rfl ?_
              | refine sg_load 1 rfl rfl rfl rfl ?_
              | refine sg_load 2 rfl rfl rfl rfl ?_
              | refine sg_load 3 rfl rfl rfl rfl ?_
              | refine sg_load 4 rfl rfl rfl rfl ?_
              | refine sg_load 5 rfl rfl rfl rfl ?_
              | refine sg_load 6 rfl rfl rfl rfl ?_
              | refine sg_load 7 rfl rfl rfl rfl ?_
              | refine sg_ps (ps_add64 rfl rfl (by omega)) rfl ?_
              | refine sg_ps (ps_sub64 rfl rfl (by omega)) rfl ?_
              | refine sg_ps (ps_mul64 rfl rfl (by omega)) rfl ?_
              | refine sg_ps (ps_bin rfl rfl inferInstance) rfl ?_
              | refine sg_ps (ps_rem rfl rfl (by decide)) rfl ?_
              | refine sg_ps (ps_quo64 rfl rfl (by decide) (by omega)) rfl ?_
              | refine sg_ps (ps_not rfl) rfl ?_
              | refine sg_ps (ps_conv rfl) rfl ?_
              | refine sg_ps (ps_shl rfl rfl (by decide) rfl) rfl ?_
              | refine sg_ps (ps_shr rfl rfl (by decide) rfl) rfl ?_
              | refine sg_cond_t rfl ?_
              | refine sg_cond_f rfl ?_
              | refine sg_guard_yes rfl rfl ?_
              | refine sg_guard_nf rfl rfl rfl ?_
              | refine sg_guard_nt rfl rfl rfl ?_
              | refine sg_guard_nu rfl rfl rfl ?_
              | refine sg_ps (ps_pick_t rfl rfl) rfl ?_
              | refine sg_ps (ps_pick_f rfl rfl) rfl ?_
              | refine sg_ps (ps_len rfl) rfl ?_
              | refine sg_ps (ps_len_str rfl) rfl ?_
              | refine sg_ps (ps_extract rfl rfl) rfl ?_
              | refine sg_ps (ps_field rfl rfl) rfl ?_
              | refine sg_ps (ps_min2 rfl rfl) rfl ?_
              | refine sg_ps (ps_max2 rfl rfl) rfl ?_
              | refine sg_ps (ps_build rfl rfl) rfl ?_
              | refine sg_box rfl rfl (fun bx => ?_)
              | refine sg_ps (ps_indexAddr rfl rfl rfl (by omega)) rfl ?_
              | refine sg_ps (ps_indexAddr (j := 0) rfl rfl rfl (by omega)) rfl ?_
              | refine sg_ps (ps_indexAddr (j := 1) rfl rfl rfl (by omega)) rfl ?_
              | refine sg_ps (ps_indexAddr_arr rfl rfl rfl (by omega)) rfl ?_
              | refine sg_load_whole 0 rfl rfl rfl rfl ?_
              | refine sg_load_whole 1 rfl rfl rfl rfl ?_
              | refine sg_load_whole 2 rfl rfl rfl rfl ?_
              | refine sg_load_whole 3 rfl rfl rfl rfl ?_
              | refine sg_load_whole 4 rfl rfl rfl rfl ?_
              | refine sg_load_whole 5 rfl rfl rfl rfl ?_
              | refine sg_load_whole 6 rfl rfl rfl rfl ?_
              | refine sg_load_whole 7 rfl rfl rfl rfl ?_
              | refine sg_store_whole [] rfl rfl rfl rfl rfl ?_
              | refine sg_store_whole [_] rfl rfl rfl rfl rfl ?_
              | refine sg_store_whole [_, _] rfl rfl rfl rfl rfl ?_
              | refine sg_store_whole [_, _, _] rfl rfl rfl rfl rfl ?_
              | refine sg_store_whole [_, _, _, _] rfl rfl rfl rfl rfl ?_
              | refine sg_store_whole [_, _, _, _, _] rfl rfl rfl rfl rfl ?_
              | refine sg_store_whole [_, _, _, _, _, _] rfl rfl rfl rfl rfl ?_
              | refine sg_alloc rfl (fun al => ?_)
              | refine sg_block ?_
              | refine sg_skip ?_
              | refine sg_ret ?_
              | refine sg_exit ?_
              | refine ex_then_ret ?_
              | refine ex_then_exit ?_
              | refine ex_block_ret ?_
              | refine ex_block_normal ?_
              | refine ex_block_hit ?_
              | refine ex_block_miss rfl ?_
              | refine sg_store [] rfl rfl rfl (of_decide_eq_true rfl) ?_
              | refine sg_store [_] rfl rfl rfl (of_decide_eq_true rfl) ?_
              | refine sg_store [_, _] rfl rfl rfl (of_decide_eq_true rfl) ?_
              | refine sg_store [_, _, _] rfl rfl rfl (of_decide_eq_true rfl) ?_
              | refine sg_store [_, _, _, _] rfl rfl rfl (of_decide_eq_true rfl) ?_
              | refine sg_store [_, _, _, _, _] rfl rfl rfl (of_decide_eq_true rfl) ?_
              | refine sg_store [_, _, _, _, _, _] rfl rfl rfl (of_decide_eq_true rfl) ?_
              | refine sg_store [_, _, _, _, _, _, _] rfl rfl rfl (of_decide_eq_true rfl) ?_
              | (refine sg_guard_dec rfl rfl (fun hg => ?_) (fun hg => ?_) <;> first | (exfalso; omega) | (exact absurd rfl hg) | skip)
              | (refine sg_guard_ndec rfl rfl (fun hg => ?_) (fun hg => ?_) <;> first | (exfalso; omega) | (exact absurd rfl hg) | skip)
              | (refine sg_cond_dec rfl (fun hg => ?_) (fun hg => ?_) <;> first | (exfalso; omega) | (exact absurd rfl hg) | skip)
              | (refine sg_cond_ndec rfl (fun hg => ?_) (fun hg => ?_) <;> first | (exfalso; omega) | (exact absurd rfl hg) | skip)
              | refine sg_cond_not rfl (fun hg => ?_) (fun hg => ?_)
              | refine sg_cond rfl (fun hg => ?_) (fun hg => ?_))
            refine sg_seq_mid (γ := Unit) (fun _ => True)
              (fun _ => [(0, i64 N), (1, .slice (some ⟨zb, zo, none⟩) zs.length zc), (5, dp p), (7, .slice (some ⟨t, 0, none⟩) N N), (8, .slice la l.length lc), (9, i64 i), (10, i64 M), (13, i64 q)])
              (fun _ => [swin la l.length lc 2 (hcells l), SpaceRep p ⟨0, setr o q M false⟩, blk t ((setr o q M false).map nb), old W]) ?_ ?_
            · refine sg_seq ?_
              repeat' (first
                | refine sg_wo ?_
                | refine sg_ps (ps_move rfl) rfl ?_
                | refine sg_ps (ps_assign rfl) rfl ?_
                | refine sg_region ?_
                | refine sg_nil ?_
                | refine sg_then ?_
                | refine sg_ps (ps_fieldAddr rfl) rfl ?_
                | refine sg_ps (ps_nilCheck rfl) rfl ?_
                | refine sg_load 0 rfl rfl rfl rfl ?_
                | refine sg_load 1 rfl rfl rfl rfl ?_
                | refine sg_load 2 rfl rfl rfl rfl ?_
                | refine sg_load 3 rfl rfl rfl rfl ?_
                | refine sg_load 4 rfl rfl rfl rfl ?_
                | refine sg_load 5 rfl rfl rfl rfl ?_
                | refine sg_load 6 rfl rfl rfl rfl ?_
                | refine sg_load 7 rfl rfl rfl rfl ?_
                | refine sg_ps (ps_add64 rfl rfl (by omega)) rfl ?_
                | refine sg_ps (ps_sub64 rfl rfl (by omega)) rfl ?_
                | refine sg_ps (ps_mul64 rfl rfl (by omega)) rfl ?_
                | refine sg_ps (ps_bin rfl rfl inferInstance) rfl ?_
                | refine sg_ps (ps_rem rfl rfl (by decide)) rfl ?_
                | refine sg_ps (ps_quo64 rfl rfl (by decide) (by omega)) rfl ?_
                | refine sg_ps (ps_not rfl) rfl ?_
                | refine sg_ps (ps_conv rfl) rfl ?_
                | refine sg_ps (ps_shl rfl rfl (by decide) rfl) rfl ?_
                | refine sg_ps (ps_shr rfl rfl (by decide) rfl) rfl ?_
                | refine sg_cond_t rfl ?_
                | refine sg_cond_f rfl ?_
                | refine sg_guard_yes rfl rfl ?_
                | refine sg_guard_nf rfl rfl rfl ?_
                | refine sg_guard_nt rfl rfl rfl ?_
                | refine sg_guard_nu rfl rfl rfl ?_
                | refine sg_ps (ps_pick_t rfl rfl) rfl ?_
                | refine sg_ps (ps_pick_f rfl rfl) rfl ?_
                | refine sg_ps (ps_len rfl) rfl ?_
                | refine sg_ps (ps_len_str rfl) rfl ?_
                | refine sg_ps (ps_extract rfl rfl) rfl ?_
                | refine sg_ps (ps_field rfl rfl) rfl ?_
                | refine sg_ps (ps_min2 rfl rfl) rfl ?_
                | refine sg_ps (ps_max2 rfl rfl) rfl ?_
                | refine sg_ps (ps_build rfl rfl) rfl ?_
                | refine sg_box rfl rfl (fun bx => ?_)
                | refine sg_ps (ps_indexAddr rfl rfl rfl (by omega)) rfl ?_
                | refine sg_ps (ps_indexAddr (j := 0) rfl rfl rfl (by omega)) rfl ?_
                | refine sg_ps (ps_indexAddr (j := 1) rfl rfl rfl (by omega)) rfl ?_
                | refine sg_ps (ps_indexAddr_arr rfl rfl rfl (by omega)) rfl ?_
                | refine sg_load_whole 0 rfl rfl rfl rfl ?_
                | refine sg_load_whole 1 rfl rfl rfl rfl ?_
                | refine sg_load_whole 2 rfl rfl rfl rfl ?_
                | refine sg_load_whole 3 rfl rfl rfl rfl ?_
                | refine sg_load_whole 4 rfl rfl rfl rfl ?_
                | refine sg_load_whole 5 rfl rfl rfl rfl ?_
                | refine sg_load_whole 6 rfl rfl rfl rfl ?_
                | refine sg_load_whole 7 rfl rfl rfl rfl ?_
                | refine sg_store_whole [] rfl rfl rfl rfl rfl ?_
                | refine sg_store_whole [_] rfl rfl rfl rfl rfl ?_
                | refine sg_store_whole [_, _] rfl rfl rfl rfl rfl ?_
                | refine sg_store_whole [_, _, _] rfl rfl rfl rfl rfl ?_
                | refine sg_store_whole [_, _, _, _] rfl rfl rfl rfl rfl ?_
                | refine sg_store_whole [_, _, _, _, _] rfl rfl rfl rfl rfl ?_
                | refine sg_store_whole [_, _, _, _, _, _] rfl rfl rfl rfl rfl ?_
                | refine sg_alloc rfl (fun al => ?_)
                | refine sg_block ?_
                | refine sg_skip ?_
                | refine sg_ret ?_
                | refine sg_exit ?_
                | refine ex_then_ret ?_
                | refine ex_then_exit ?_
                | refine ex_block_ret ?_
                | refine ex_block_normal ?_
                | refine ex_block_hit ?_
                | refine ex_block_miss rfl ?_
                | refine sg_store [] rfl rfl rfl (of_decide_eq_true rfl) ?_
                | refine sg_store [_] rfl rfl rfl (of_decide_eq_true rfl) ?_
                | refine sg_store [_, _] rfl rfl rfl (of_decide_eq_true rfl) ?_
                | refine sg_store [_, _, _] rfl rfl rfl (of_decide_eq_true rfl) ?_
                | refine sg_store [_, _, _, _] rfl rfl rfl (of_decide_eq_true rfl) ?_
                | refine sg_store [_, _, _, _, _] rfl rfl rfl (of_decide_eq_true rfl) ?_
                | refine sg_store [_, _, _, _, _, _] rfl rfl rfl (of_decide_eq_true rfl) ?_
                | refine sg_store [_, _, _, _, _, _, _] rfl rfl rfl (of_decide_eq_true rfl) ?_
                | (refine sg_guard_dec rfl rfl (fun hg => ?_) (fun hg => ?_) <;> first | (exfalso; omega) | (exact absurd rfl hg) | skip)
                | (refine sg_guard_ndec rfl rfl (fun hg => ?_) (fun hg => ?_) <;> first | (exfalso; omega) | (exact absurd rfl hg) | skip)
                | (refine sg_cond_dec rfl (fun hg => ?_) (fun hg => ?_) <;> first | (exfalso; omega) | (exact absurd rfl hg) | skip)
                | (refine sg_cond_ndec rfl (fun hg => ?_) (fun hg => ?_) <;> first | (exfalso; omega) | (exact absurd rfl hg) | skip)
                | refine sg_cond_not rfl (fun hg => ?_) (fun hg => ?_)
                | refine sg_cond rfl (fun hg => ?_) (fun hg => ?_))
              refine sg_loop (γ := Nat) (fun j => j ≤ M) (fun j => [(0, i64 N), (1, .slice (some ⟨zb, zo, none⟩) zs.length zc), (5, dp p), (7, .slice (some ⟨t, 0, none⟩) N N), (8, .slice la l.length lc), (9, i64 i), (10, i64 M), (13, i64 q), (15, i64 ((q + j : Nat) : Int))])
                (fun j => [SpaceRep p ⟨0, setr o q M false⟩, swin la l.length lc 2 (hcells l), blk t ((setr o q j false).map nb), old W]) (fun j => M - j) 0 (Nat.zero_le _)
                (.cons rfl (.cons rfl (.cons rfl (.cons rfl (.cons rfl (.cons rfl (.cons rfl (.cons rfl (.cons rfl .nil))))))))) (fun w hO => by rw [setr_zero]; exact hO) ?_
              intro j hj
              repeat' (first
                | refine sg_wo ?_
                | refine sg_ps (ps_move rfl) rfl ?_
                | refine sg_ps (ps_assign rfl) rfl ?_
                | refine sg_seq ?_
                | refine sg_region ?_
                | refine sg_nil ?_
                | refine sg_then ?_
                | refine sg_ps (ps_fieldAddr rfl) rfl ?_
                | refine sg_ps (ps_nilCheck rfl) rfl ?_
                | refine sg_load 0 rfl rfl rfl rfl ?_
                | refine sg_load 1 rfl rfl rfl rfl ?_
                | refine sg_load 2 rfl rfl rfl rfl ?_
                | refine sg_load 3 rfl rfl rfl rfl ?_
                | refine sg_load 4 rfl rfl rfl rfl ?_
                | refine sg_load 5 rfl rfl rfl rfl ?_
                | refine sg_load 6 rfl rfl rfl rfl ?_
                | refine sg_load 7 rfl rfl rfl rfl ?_
                | refine sg_ps (ps_add64 rfl rfl (by omega)) rfl ?_
                | refine sg_ps (ps_sub64 rfl rfl (by omega)) rfl ?_
                | refine sg_ps (ps_mul64 rfl rfl (by omega)) rfl ?_
                | refine sg_ps (ps_bin rfl rfl inferInstance) rfl ?_
                | refine sg_ps (ps_rem rfl rfl (by decide)) rfl ?_
                | refine sg_ps (ps_quo64 rfl rfl (by decide) (by omega)) rfl ?_
                | refine sg_ps (ps_not rfl) rfl ?_
                | refine sg_ps (ps_conv rfl) rfl ?_
                | refine sg_ps (ps_shl rfl rfl (by decide) rfl) rfl ?_
                | refine sg_ps (ps_shr rfl rfl (by decide) rfl) rfl ?_
                | refine sg_cond_t rfl ?_
                | refine sg_cond_f rfl ?_
                | refine sg_guard_yes rfl rfl ?_
                | refine sg_guard_nf rfl rfl rfl ?_
                | refine sg_guard_nt rfl rfl rfl ?_
                | refine sg_guard_nu rfl rfl rfl ?_
                | refine sg_ps (ps_pick_t rfl rfl) rfl ?_
                | refine sg_ps (ps_pick_f rfl rfl) rfl ?_
                | refine sg_ps (ps_len rfl) rfl ?_
                | refine sg_ps (ps_len_str rfl) rfl ?_
                | refine sg_ps (ps_extract rfl rfl) rfl ?_
                | refine sg_ps (ps_field rfl rfl) rfl ?_
                | refine sg_ps (ps_min2 rfl rfl) rfl ?_
                | refine sg_ps (ps_max2 rfl rfl) rfl ?_
                | refine sg_ps (ps_build rfl rfl) rfl ?_
                | refine sg_box rfl rfl (fun bx => ?_)
                | refine sg_ps (ps_indexAddr rfl rfl rfl (by omega)) rfl ?_
                | refine sg_ps (ps_indexAddr (j := 0) rfl rfl rfl (by omega)) rfl ?_
                | refine sg_ps (ps_indexAddr (j := 1) rfl rfl rfl (by omega)) rfl ?_
                | refine sg_ps (ps_indexAddr_arr rfl rfl rfl (by omega)) rfl ?_
                | refine sg_load_whole 0 rfl rfl rfl rfl ?_
                | refine sg_load_whole 1 rfl rfl rfl rfl ?_
                | refine sg_load_whole 2 rfl rfl rfl rfl ?_
                | refine sg_load_whole 3 rfl rfl rfl rfl ?_
                | refine sg_load_whole 4 rfl rfl rfl rfl ?_
                | refine sg_load_whole 5 rfl rfl rfl rfl ?_
                | refine sg_load_whole 6 rfl rfl rfl rfl ?_
                | refine sg_load_whole 7 rfl rfl rfl rfl ?_
                | refine sg_store_whole [] rfl rfl rfl rfl rfl ?_
                | refine sg_store_whole [_] rfl rfl rfl rfl rfl ?_
                | refine sg_store_whole [_, _] rfl rfl rfl rfl rfl ?_
                | refine sg_store_whole [_, _, _] rfl rfl rfl rfl rfl ?_
                | refine sg_store_whole [_, _, _, _] rfl rfl rfl rfl rfl ?_
                | refine sg_store_whole [_, _, _, _, _] rfl rfl rfl rfl rfl ?_
                | refine sg_store_whole [_, _, _, _, _, _] rfl rfl rfl rfl rfl ?_
                | refine sg_alloc rfl (fun al => ?_)
                | refine sg_block ?_
                | refine sg_skip ?_
                | refine sg_ret ?_
                | refine sg_exit ?_
                | refine ex_then_ret ?_
                | refine ex_then_exit ?_
                | refine ex_block_ret ?_
                | refine ex_block_normal ?_
                | refine ex_block_hit ?_
                | refine ex_block_miss rfl ?_
                | refine sg_store [] rfl rfl rfl (of_decide_eq_true rfl) ?_
                | refine sg_store [_] rfl rfl rfl (of_decide_eq_true rfl) ?_
                | refine sg_store [_, _] rfl rfl rfl (of_decide_eq_true rfl) ?_
                | refine sg_store [_, _, _] rfl rfl rfl (of_decide_eq_true rfl) ?_
                | refine sg_store [_, _, _, _] rfl rfl rfl (of_decide_eq_true rfl) ?_
                | refine sg_store [_, _, _, _, _] rfl rfl rfl (of_decide_eq_true rfl) ?_
                | refine sg_store [_, _, _, _, _, _] rfl rfl rfl (of_decide_eq_true rfl) ?_
                | refine sg_store [_, _, _, _, _, _, _] rfl rfl rfl (of_decide_eq_true rfl) ?_
                | (refine sg_guard_dec rfl rfl (fun hg => ?_) (fun hg => ?_) <;> first | (exfalso; omega) | (exact absurd rfl hg) | skip)
                | (refine sg_guard_ndec rfl rfl (fun hg => ?_) (fun hg => ?_) <;> first | (exfalso; omega) | (exact absurd rfl hg) | skip)
                | (refine sg_cond_dec rfl (fun hg => ?_) (fun hg => ?_) <;> first | (exfalso; omega) | (exact absurd rfl hg) | skip)
                | (refine sg_cond_ndec rfl (fun hg => ?_) (fun hg => ?_) <;> first | (exfalso; omega) | (exact absurd rfl hg) | skip)
                | refine sg_cond_not rfl (fun hg => ?_) (fun hg => ?_)
                | refine sg_cond rfl (fun hg => ?_) (fun hg => ?_))
              · have hget : (List.map nb (setr o q j false))[0 + (q + j) * 1]? = some (.bool false) := by
                  rw [show 0 + (q + j) * 1 = q + j by omega, List.getElem?_map, (setr_mem o q j false (q + j) true).2 (.inr ⟨by omega, allB_iff.1 hq _ (by omega) (by omega)⟩)]; rfl
                refine sg_load 2 rfl rfl hget rfl ?_
                repeat' (first
                  | refine sg_wo ?_
                  | refine sg_ps (ps_move rfl) rfl ?_
                  | refine sg_ps (ps_assign rfl) rfl ?_
                  | refine sg_seq ?_
                  | refine sg_region ?_
                  | refine sg_nil ?_
                  | refine sg_then ?_
                  | refine sg_ps (ps_fieldAddr rfl) rfl ?_
                  | refine sg_ps (ps_nilCheck rfl) rfl ?_
                  | refine sg_load 0 rfl rfl rfl rfl ?_
                  | refine sg_load 1 rfl rfl rfl rfl ?_
                  | refine sg_load 2 rfl rfl rfl rfl ?_
                  | refine sg_load 3 rfl rfl rfl rfl ?_
                  | refine sg_load 4 rfl rfl rfl rfl ?_
                  | refine sg_load 5 rfl rfl rfl rfl ?_
                  | refine sg_load 6 rfl rfl rfl rfl ?_
                  | refine sg_load 7 rfl rfl rfl rfl ?_
                  | refine sg_ps (ps_add64 rfl rfl (by omega)) rfl ?_
                  | refine sg_ps (ps_sub64 rfl rfl (by omega)) rfl ?_
                  | refine sg_ps (ps_mul64 rfl rfl (by omega)) rfl ?_
                  | refine sg_ps (ps_bin rfl rfl inferInstance) rfl ?_
                  | refine sg_ps (ps_rem rfl rfl (by decide)) rfl ?_
                  | refine sg_ps (ps_quo64 rfl rfl (by decide) (by omega)) rfl ?_
                  | refine sg_ps (ps_not rfl) rfl ?_
                  | refine sg_ps (ps_conv rfl) rfl ?_
                  | refine sg_ps (ps_shl rfl rfl (by decide) rfl) rfl ?_
                  | refine sg_ps (ps_shr rfl rfl (by decide) rfl) rfl ?_
                  | refine sg_cond_t rfl ?_
                  | refine sg_cond_f rfl ?_
                  | refine sg_guard_yes rfl rfl ?_
                  | refine sg_guard_nf rfl rfl rfl ?_
                  | refine sg_guard_nt rfl rfl rfl ?_
                  | refine sg_guard_nu rfl rfl rfl ?_
                  | refine sg_ps (ps_pick_t rfl rfl) rfl ?_
                  | refine sg_ps (ps_pick_f rfl rfl) rfl ?_
                  | refine sg_ps (ps_len rfl) rfl ?_
                  | refine sg_ps (ps_len_str rfl) rfl ?_
                  | refine sg_ps (ps_extract rfl rfl) rfl ?_
                  | refine sg_ps (ps_field rfl rfl) rfl ?_
                  | refine sg_ps (ps_min2 rfl rfl) rfl ?_
                  | refine sg_ps (ps_max2 rfl rfl) rfl ?_
                  | refine sg_ps (ps_build rfl rfl) rfl ?_
                  | refine sg_box rfl rfl (fun bx => ?_)
                  | refine sg_ps (ps_indexAddr rfl rfl rfl (by omega)) rfl ?_
                  | refine sg_ps (ps_indexAddr (j := 0) rfl rfl rfl (by omega)) rfl ?_
                  | refine sg_ps (ps_indexAddr (j := 1) rfl rfl rfl (by omega)) rfl ?_
                  | refine sg_ps (ps_indexAddr_arr rfl rfl rfl (by omega)) rfl ?_
                  | refine sg_load_whole 0 rfl rfl rfl rfl ?_
                  | refine sg_load_whole 1 rfl rfl rfl rfl ?_
                  | refine sg_load_whole 2 rfl rfl rfl rfl ?_
                  | refine sg_load_whole 3 rfl rfl rfl rfl ?_
                  | refine sg_load_whole 4 rfl rfl rfl rfl ?_
                  | refine sg_load_whole 5 rfl rfl rfl rfl ?_
                  | refine sg_load_whole 6 rfl rfl rfl rfl ?_
                  | refine sg_load_whole 7 rfl rfl rfl rfl ?_
                  | refine sg_store_whole [] rfl rfl rfl rfl rfl ?_
                  | refine sg_store_whole [_] rfl rfl rfl rfl rfl ?_
                  | refine sg_store_whole [_, _] rfl rfl rfl rfl rfl ?_
                  | refine sg_store_whole [_, _, _] rfl rfl rfl rfl rfl ?_
                  | refine sg_store_whole [_, _, _, _] rfl rfl rfl rfl rfl ?_
                  | refine sg_store_whole [_, _, _, _, _] rfl rfl rfl rfl rfl ?_
                  | refine sg_store_whole [_, _, _, _, _, _] rfl rfl rfl rfl rfl ?_
                  | refine sg_alloc rfl (fun al => ?_)
                  | refine sg_block ?_
                  | refine sg_skip ?_
                  | refine sg_ret ?_
                  | refine sg_exit ?_
                  | refine ex_then_ret ?_
                  | refine ex_then_exit ?_
                  | refine ex_block_ret ?_
                  | refine ex_block_normal ?_
                  | refine ex_block_hit ?_
                  | refine ex_block_miss rfl ?_
                  | refine sg_store [] rfl rfl rfl (of_decide_eq_true rfl) ?_
                  | refine sg_store [_] rfl rfl rfl (of_decide_eq_true rfl) ?_
                  | refine sg_store [_, _] rfl rfl rfl (of_decide_eq_true rfl) ?_
                  | refine sg_store [_, _, _] rfl rfl rfl (of_decide_eq_true rfl) ?_
                  | refine sg_store [_, _, _, _] rfl rfl rfl (of_decide_eq_true rfl) ?_
                  | refine sg_store [_, _, _, _, _] rfl rfl rfl (of_decide_eq_true rfl) ?_
                  | refine sg_store [_, _, _, _, _, _] rfl rfl rfl (of_decide_eq_true rfl) ?_
                  | refine sg_store [_, _, _, _, _, _, _] rfl rfl rfl (of_decide_eq_true rfl) ?_
                  | (refine sg_guard_dec rfl rfl (fun hg => ?_) (fun hg => ?_) <;> first | (exfalso; omega) | (exact absurd rfl hg) | skip)
                  | (refine sg_guard_ndec rfl rfl (fun hg => ?_) (fun hg => ?_) <;> first | (exfalso; omega) | (exact absurd rfl hg) | skip)
                  | (refine sg_cond_dec rfl (fun hg => ?_) (fun hg => ?_) <;> first | (exfalso; omega) | (exact absurd rfl hg) | skip)
                  | (refine sg_cond_ndec rfl (fun hg => ?_) (fun hg => ?_) <;> first | (exfalso; omega) | (exact absurd rfl hg) | skip)
                  | refine sg_cond_not rfl (fun hg => ?_) (fun hg => ?_)
                  | refine sg_cond rfl (fun hg => ?_) (fun hg => ?_))
                refine sg_store [_, _] rfl rfl rfl (by rw [List.length_map, setr_len]; omega) ?_
                repeat' (first
                  | refine sg_wo ?_
                  | refine sg_ps (ps_move rfl) rfl ?_
                  | refine sg_ps (ps_assign rfl) rfl ?_
                  | refine sg_seq ?_
                  | refine sg_region ?_
                  | refine sg_nil ?_
                  | refine sg_then ?_
                  | refine sg_ps (ps_fieldAddr rfl) rfl ?_
                  | refine sg_ps (ps_nilCheck rfl) rfl ?_
                  | refine sg_load 0 rfl rfl rfl rfl ?_
                  | refine sg_load 1 rfl rfl rfl rfl ?_
                  | refine sg_load 2 rfl rfl rfl rfl ?_
                  | refine sg_load 3 rfl rfl rfl rfl ?_
                  | refine sg_load 4 rfl rfl rfl rfl ?_
                  | refine sg_load 5 rfl rfl rfl rfl ?_
                  | refine sg_load 6 rfl rfl rfl rfl ?_
                  | refine sg_load 7 rfl rfl rfl rfl ?_
                  | refine sg_ps (ps_add64 rfl rfl (by omega)) rfl ?_
                  | refine sg_ps (ps_sub64 rfl rfl (by omega)) rfl ?_
                  | refine sg_ps (ps_mul64 rfl rfl (by omega)) rfl ?_
                  | refine sg_ps (ps_bin rfl rfl inferInstance) rfl ?_
                  | refine sg_ps (ps_rem rfl rfl (by decide)) rfl ?_
                  | refine sg_ps (ps_quo64 rfl rfl (by decide) (by omega)) rfl ?_
                  | refine sg_ps (ps_not rfl) rfl ?_
                  | refine sg_ps (ps_conv rfl) rfl ?_
                  | refine sg_ps (ps_shl rfl rfl (by decide) rfl) rfl ?_
                  | refine sg_ps (ps_shr rfl rfl (by decide) rfl) rfl ?_
                  | refine sg_cond_t rfl ?_
                  | refine sg_cond_f rfl ?_
                  | refine sg_guard_yes rfl rfl ?_
                  | refine sg_guard_nf rfl rfl rfl ?_
                  | refine sg_guard_nt rfl rfl rfl ?_
                  | refine sg_guard_nu rfl rfl rfl ?_
                  | refine sg_ps (ps_pick_t rfl rfl) rfl ?_
                  | refine sg_ps (ps_pick_f rfl rfl) rfl ?_
                  | refine sg_ps (ps_len rfl) rfl ?_
                  | refine sg_ps (ps_len_str rfl) rfl ?_
                  | refine sg_ps (ps_extract rfl rfl) rfl ?_
                  | refine sg_ps (ps_field rfl rfl) rfl ?_
                  | refine sg_ps (ps_min2 rfl rfl) rfl ?_
                  | refine sg_ps (ps_max2 rfl rfl) rfl ?_
                  | refine sg_ps (ps_build rfl rfl) rfl ?_
                  | refine sg_box rfl rfl (fun bx => ?_)
                  | refine sg_ps (ps_indexAddr rfl rfl rfl (by omega)) rfl ?_
                  | refine sg_ps (ps_indexAddr (j := 0) rfl rfl rfl (by omega)) rfl ?_
                  | refine sg_ps (ps_indexAddr (j := 1) rfl rfl rfl (by omega)) rfl ?_
                  | refine sg_ps (ps_indexAddr_arr rfl rfl rfl (by omega)) rfl ?_
                  | refine sg_load_whole 0 rfl rfl rfl rfl ?_
                  | refine sg_load_whole 1 rfl rfl rfl rfl ?_
                  | refine sg_load_whole 2 rfl rfl rfl rfl ?_
                  | refine sg_load_whole 3 rfl rfl rfl rfl ?_
                  | refine sg_load_whole 4 rfl rfl rfl rfl ?_
                  | refine sg_load_whole 5 rfl rfl rfl rfl ?_
                  | refine sg_load_whole 6 rfl rfl rfl rfl ?_
                  | refine sg_load_whole 7 rfl rfl rfl rfl ?_
                  | refine sg_store_whole [] rfl rfl rfl rfl rfl ?_
                  | refine sg_store_whole [_] rfl rfl rfl rfl rfl ?_
                  | refine sg_store_whole [_, _] rfl rfl rfl rfl rfl ?_
                  | refine sg_store_whole [_, _, _] rfl rfl rfl rfl rfl ?_
                  | refine sg_store_whole [_, _, _, _] rfl rfl rfl rfl rfl ?_
                  | refine sg_store_whole [_, _, _, _, _] rfl rfl rfl rfl rfl ?_
                  | refine sg_store_whole [_, _, _, _, _, _] rfl rfl rfl rfl rfl ?_
                  | refine sg_alloc rfl (fun al => ?_)
                  | refine sg_block ?_
                  | refine sg_skip ?_
                  | refine sg_ret ?_
                  | refine sg_exit ?_
                  | refine ex_then_ret ?_
                  | refine ex_then_exit ?_
                  | refine ex_block_ret ?_
                  | refine ex_block_normal ?_
                  | refine ex_block_hit ?_
                  | refine ex_block_miss rfl ?_
                  | refine sg_store [] rfl rfl rfl (of_decide_eq_true rfl) ?_
                  | refine sg_store [_] rfl rfl rfl (of_decide_eq_true rfl) ?_
                  | refine sg_store [_, _] rfl rfl rfl (of_decide_eq_true rfl) ?_
                  | refine sg_store [_, _, _] rfl rfl rfl (of_decide_eq_true rfl) ?_
                  | refine sg_store [_, _, _, _] rfl rfl rfl (of_decide_eq_true rfl) ?_
                  | refine sg_store [_, _, _, _, _] rfl rfl rfl (of_decide_eq_true rfl) ?_
                  | refine sg_store [_, _, _, _, _, _] rfl rfl rfl (of_decide_eq_true rfl) ?_
                  | refine sg_store [_, _, _, _, _, _, _] rfl rfl rfl (of_decide_eq_true rfl) ?_
                  | (refine sg_guard_dec rfl rfl (fun hg => ?_) (fun hg => ?_) <;> first | (exfalso; omega) | (exact absurd rfl hg) | skip)
                  | (refine sg_guard_ndec rfl rfl (fun hg => ?_) (fun hg => ?_) <;> first | (exfalso; omega) | (exact absurd rfl hg) | skip)
                  | (refine sg_cond_dec rfl (fun hg => ?_) (fun hg => ?_) <;> first | (exfalso; omega) | (exact absurd rfl hg) | skip)
                  | (refine sg_cond_ndec rfl (fun hg => ?_) (fun hg => ?_) <;> first | (exfalso; omega) | (exact absurd rfl hg) | skip)
                  | refine sg_cond_not rfl (fun hg => ?_) (fun hg => ?_)
                  | refine sg_cond rfl (fun hg => ?_) (fun hg => ?_))
                refine ex_mid (j + 1) ⟨by omega, by omega⟩ (.cons rfl (.cons rfl (.cons rfl (.cons rfl (.cons rfl (.cons rfl (.cons rfl (.cons rfl (.cons rfl .nil))))))))) (fun w hO => ?_)
                rw [← setr_step, List.map_set, show q + j = 0 + (q + j) * 1 by omega]; exact hO
              · obtain rfl : j = M := by omega
                exact ex_mid () trivial (.cons rfl (.cons rfl (.cons rfl (.cons rfl (.cons rfl (.cons rfl (.cons rfl (.cons rfl .nil)))))))) (fun w hO => hO.pick [1, 0, 2, 3] (by decide))
            · rintro - -
              repeat' (first
                | refine sg_wo ?_
                | refine sg_ps (ps_move rfl) rfl ?_
                | refine sg_ps (ps_assign rfl) rfl ?_
                | refine sg_seq ?_
                | refine sg_region ?_
                | refine sg_nil ?_
                | refine sg_then ?_
                | refine sg_ps (ps_fieldAddr rfl) rfl ?_
                | refine sg_ps (ps_nilCheck rfl) rfl ?_
                | refine sg_load 0 rfl rfl rfl rfl ?_
                | refine sg_load 1 rfl rfl rfl rfl ?_
                | refine sg_load 2 rfl rfl rfl rfl ?_
                | refine sg_load 3 rfl rfl rfl rfl ?_
                | refine sg_load 4 rfl rfl rfl rfl ?_
                | refine sg_load 5 rfl rfl rfl rfl ?_
                | refine sg_load 6 rfl rfl rfl rfl ?_
                | refine sg_load 7 rfl rfl rfl rfl ?_
                | refine sg_ps (ps_add64 rfl rfl (by omega)) rfl ?_
                | refine sg_ps (ps_sub64 rfl rfl (by omega)) rfl ?_
                | refine sg_ps (ps_mul64 rfl rfl (by omega)) rfl ?_
                | refine sg_ps (ps_bin rfl rfl inferInstance) rfl ?_
                | refine sg_ps (ps_rem rfl rfl (by decide)) rfl ?_
                | refine sg_ps (ps_quo64 rfl rfl (by decide) (by omega)) rfl ?_
                | refine sg_ps (ps_not rfl) rfl ?_
                | refine sg_ps (ps_conv rfl) rfl ?_
                | refine sg_ps (ps_shl rfl rfl (by decide) rfl) rfl ?_
                | refine sg_ps (ps_shr rfl rfl (by decide) rfl) rfl ?_
                | refine sg_cond_t rfl ?_
                | refine sg_cond_f rfl ?_
                | refine sg_guard_yes rfl rfl ?_
                | refine sg_guard_nf rfl rfl rfl ?_
                | refine sg_guard_nt rfl rfl rfl ?_
                | refine sg_guard_nu rfl rfl rfl ?_
                | refine sg_ps (ps_pick_t rfl rfl) rfl ?_
                | refine sg_ps (ps_pick_f rfl rfl) rfl ?_
                | refine sg_ps (ps_len rfl) rfl ?_
                | refine sg_ps (ps_len_str rfl) rfl ?_
                | refine sg_ps (ps_extract rfl rfl) rfl ?_
                | refine sg_ps (ps_field rfl rfl) rfl ?_
                | refine sg_ps (ps_min2 rfl rfl) rfl ?_
                | refine sg_ps (ps_max2 rfl rfl) rfl ?_
                | refine sg_ps (ps_build rfl rfl) rfl ?_
                | refine sg_box rfl rfl (fun bx => ?_)
                | refine sg_ps (ps_indexAddr rfl rfl rfl (by omega)) rfl ?_
                | refine sg_ps (ps_indexAddr (j := 0) rfl rfl rfl (by omega)) rfl ?_
                | refine sg_ps (ps_indexAddr (j := 1) rfl rfl rfl (by omega)) rfl ?_
                | refine sg_ps (ps_indexAddr_arr rfl rfl rfl (by omega)) rfl ?_
                | refine sg_load_whole 0 rfl rfl rfl rfl ?_
                | refine sg_load_whole 1 rfl rfl rfl rfl ?_
                | refine sg_load_whole 2 rfl rfl rfl rfl ?_
                | refine sg_load_whole 3 rfl rfl rfl rfl ?_
                | refine sg_load_whole 4 rfl rfl rfl rfl ?_
                | refine sg_load_whole 5 rfl rfl rfl rfl ?_
                | refine sg_load_whole 6 rfl rfl rfl rfl ?_
                | refine sg_load_whole 7 rfl rfl rfl rfl ?_
                | refine sg_store_whole [] rfl rfl rfl rfl rfl ?_
                | refine sg_store_whole [_] rfl rfl rfl rfl rfl ?_
                | refine sg_store_whole [_, _] rfl rfl rfl rfl rfl ?_
                | refine sg_store_whole [_, _, _] rfl rfl rfl rfl rfl ?_
                | refine sg_store_whole [_, _, _, _] rfl rfl rfl rfl rfl ?_
                | refine sg_store_whole [_, _, _, _, _] rfl rfl rfl rfl rfl ?_
                | refine sg_store_whole [_, _, _, _, _, _] rfl rfl rfl rfl rfl ?_
                | refine sg_alloc rfl (fun al => ?_)
                | refine sg_block ?_
                | refine sg_skip ?_
                | refine sg_ret ?_
                | refine sg_exit ?_
                | refine ex_then_ret ?_
                | refine ex_then_exit ?_
                | refine ex_block_ret ?_
                | refine ex_block_normal ?_
                | refine ex_block_hit ?_
                | refine ex_block_miss rfl ?_
                | refine sg_store [] rfl rfl rfl (of_decide_eq_true rfl) ?_
                | refine sg_store [_] rfl rfl rfl (of_decide_eq_true rfl) ?_
                | refine sg_store [_, _] rfl rfl rfl (of_decide_eq_true rfl) ?_
                | refine sg_store [_, _, _] rfl rfl rfl (of_decide_eq_true rfl) ?_
                | refine sg_store [_, _, _, _] rfl rfl rfl (of_decide_eq_true rfl) ?_
                | refine sg_store [_, _, _, _, _] rfl rfl rfl (of_decide_eq_true rfl) ?_
                | refine sg_store [_, _, _, _, _, _] rfl rfl rfl (of_decide_eq_true rfl) ?_
                | refine sg_store [_, _, _, _, _, _, _] rfl rfl rfl (of_decide_eq_true rfl) ?_
                | (refine sg_guard_dec rfl rfl (fun hg => ?_) (fun hg => ?_) <;> first | (exfalso; omega) | (exact absurd rfl hg) | skip)
                | (refine sg_guard_ndec rfl rfl (fun hg => ?_) (fun hg => ?_) <;> first | (exfalso; omega) | (exact absurd rfl hg) | skip)
                | (refine sg_cond_dec rfl (fun hg => ?_) (fun hg => ?_) <;> first | (exfalso; omega) | (exact absurd rfl hg) | skip)
                | (refine sg_cond_ndec rfl (fun hg => ?_) (fun hg => ?_) <;> first | (exfalso; omega) | (exact absurd rfl hg) | skip)
                | refine sg_cond_not rfl (fun hg => ?_) (fun hg => ?_)
                | refine sg_cond rfl (fun hg => ?_) (fun hg => ?_))
              have e1 : [i64 q, i64 M] = hcells [(q, M)] := rfl
              refine sg_buildSlice1 (vs := hcells [(q, M)]) rfl (of_decide_eq_true rfl) e1 rfl rfl (fun b2 => ?_)
              refine sg_front1 ?_
              refine sg_wo ?_
              refine sg_append_win (news := hcells [(q, M)]) rfl rfl rfl rfl (hcells_one _) (rd_blk 1 rfl fun j u hj => by rw [Nat.zero_add]; exact hj) (by simp only [maxLen]; omega) (by omega) fun a' c' => ?_
              repeat' (first
                | refine sg_wo ?_
                | refine sg_ps (ps_move rfl) rfl ?_
                | refine sg_ps (ps_assign rfl) rfl ?_
                | refine sg_seq ?_
                | refine sg_region ?_
                | refine sg_nil ?_
                | refine sg_then ?_
                | refine sg_ps (ps_fieldAddr rfl) rfl ?_
                | refine sg_ps (ps_nilCheck rfl) rfl ?_
                | refine sg_load 0 rfl rfl rfl rfl ?_
                | refine sg_load 1 rfl rfl rfl rfl ?_
                | refine sg_load 2 rfl rfl rfl rfl ?_
                | refine sg_load 3 rfl rfl rfl rfl ?_
                | refine sg_load 4 rfl rfl rfl rfl ?_
                | refine sg_load 5 rfl rfl rfl rfl ?_
                | refine sg_load 6 rfl rfl rfl rfl ?_
                | refine sg_load 7 rfl rfl rfl rfl ?_
                | refine sg_ps (ps_add64 rfl rfl (by omega)) rfl ?_
                | refine sg_ps (ps_sub64 rfl rfl (by omega)) rfl ?_
                | refine sg_ps (ps_mul64 rfl rfl (by omega)) rfl ?_
                | refine sg_ps (ps_bin rfl rfl inferInstance) rfl ?_
                | refine sg_ps (ps_rem rfl rfl (by decide)) rfl ?_
                | refine sg_ps (ps_quo64 rfl rfl (by decide) (by omega)) rfl ?_
                | refine sg_ps (ps_not rfl) rfl ?_
                | refine sg_ps (ps_conv rfl) rfl ?_
                | refine sg_ps (ps_shl rfl rfl (by decide) rfl) rfl ?_
                | refine sg_ps (ps_shr rfl rfl (by decide) rfl) rfl ?_
                | refine sg_cond_t rfl ?_
                | refine sg_cond_f rfl ?_
                | refine sg_guard_yes rfl rfl ?_
                | refine sg_guard_nf rfl rfl rfl ?_
                | refine sg_guard_nt rfl rfl rfl ?_
                | refine sg_guard_nu rfl rfl rfl ?_
                | refine sg_ps (ps_pick_t rfl rfl) rfl ?_
                | refine sg_ps (ps_pick_f rfl rfl) rfl ?_
                | refine sg_ps (ps_len rfl) rfl ?_
                | refine sg_ps (ps_len_str rfl) rfl ?_
                | refine sg_ps (ps_extract rfl rfl) rfl ?_
                | refine sg_ps (ps_field rfl rfl) rfl ?_
                | refine sg_ps (ps_min2 rfl rfl) rfl ?_
                | refine sg_ps (ps_max2 rfl rfl) rfl ?_
                | refine sg_ps (ps_build rfl rfl) rfl ?_
                | refine sg_box rfl rfl (fun bx => ?_)
                | refine sg_ps (ps_indexAddr rfl rfl rfl (by omega)) rfl ?_
                | refine sg_ps (ps_indexAddr (j := 0) rfl rfl rfl (by omega)) rfl ?_
                | refine sg_ps (ps_indexAddr (j := 1) rfl rfl rfl (by omega)) rfl ?_
                | refine sg_ps (ps_indexAddr_arr rfl rfl rfl (by omega)) rfl ?_
                | refine sg_load_whole 0 rfl rfl rfl rfl ?_
                | refine sg_load_whole 1 rfl rfl rfl rfl ?_
                | refine sg_load_whole 2 rfl rfl rfl rfl ?_
                | refine sg_load_whole 3 rfl rfl rfl rfl ?_
                | refine sg_load_whole 4 rfl rfl rfl rfl ?_
                | refine sg_load_whole 5 rfl rfl rfl rfl ?_
                | refine sg_load_whole 6 rfl rfl rfl rfl ?_
                | refine sg_load_whole 7 rfl rfl rfl rfl ?_
                | refine sg_store_whole [] rfl rfl rfl rfl rfl ?_
                | refine sg_store_whole [_] rfl rfl rfl rfl rfl ?_
                | refine sg_store_whole [_, _] rfl rfl rfl rfl rfl ?_
                | refine sg_store_whole [_, _, _] rfl rfl rfl rfl rfl ?_
                | refine sg_store_whole [_, _, _, _] rfl rfl rfl rfl rfl ?_
                | refine sg_store_whole [_, _, _, _, _] rfl rfl rfl rfl rfl ?_
                | refine sg_store_whole [_, _, _, _, _, _] rfl rfl rfl rfl rfl ?_
                | refine sg_alloc rfl (fun al => ?_)
                | refine sg_block ?_
                | refine sg_skip ?_
                | refine sg_ret ?_
                | refine sg_exit ?_
                | refine ex_then_ret ?_
                | refine ex_then_exit ?_
                | refine ex_block_ret ?_
                | refine ex_block_normal ?_
                | refine ex_block_hit ?_
                | refine ex_block_miss rfl ?_
                | refine sg_store [] rfl rfl rfl (of_decide_eq_true rfl) ?_
                | refine sg_store [_] rfl rfl rfl (of_decide_eq_true rfl) ?_
                | refine sg_store [_, _] rfl rfl rfl (of_decide_eq_true rfl) ?_
                | refine sg_store [_, _, _] rfl rfl rfl (of_decide_eq_true rfl) ?_
                | refine sg_store [_, _, _, _] rfl rfl rfl (of_decide_eq_true rfl) ?_
                | refine sg_store [_, _, _, _, _] rfl rfl rfl (of_decide_eq_true rfl) ?_
                | refine sg_store [_, _, _, _, _, _] rfl rfl rfl (of_decide_eq_true rfl) ?_
                | refine sg_store [_, _, _, _, _, _, _] rfl rfl rfl (of_decide_eq_true rfl) ?_
                | (refine sg_guard_dec rfl rfl (fun hg => ?_) (fun hg => ?_) <;> first | (exfalso; omega) | (exact absurd rfl hg) | skip)
                | (refine sg_guard_ndec rfl rfl (fun hg => ?_) (fun hg => ?_) <;> first | (exfalso; omega) | (exact absurd rfl hg) | skip)
                | (refine sg_cond_dec rfl (fun hg => ?_) (fun hg => ?_) <;> first | (exfalso; omega) | (exact absurd rfl hg) | skip)
                | (refine sg_cond_ndec rfl (fun hg => ?_) (fun hg => ?_) <;> first | (exfalso; omega) | (exact absurd rfl hg) | skip)
                | refine sg_cond_not rfl (fun hg => ?_) (fun hg => ?_)
                | refine sg_cond rfl (fun hg => ?_) (fun hg => ?_))
              have hlen2 : (l ++ [(q, M)]).length = l.length + 1 := by simp
              refine ex_mid (setr o q M false, l ++ [(q, M)], a', c') ⟨hA', by show (l ++ [(q, M)]).length ≤ i + 1; omega⟩ (.cons rfl (.cons rfl (.cons rfl (.cons rfl (.cons (by rw [hlen2]; rfl) (.cons rfl .nil)))))) (fun w hO => ?_)
              dsimp only
              rw [hcells_app, hlen2]
              exact hO.pick [0, 3, 2, 4] (by decide)
      · rintro ⟨o', l', la', lc'⟩ ⟨hA', hll'⟩
        dsimp only at hA' hll' ⊢
        repeat' (first
          | refine sg_wo ?_
          | refine sg_ps (ps_move rfl) rfl ?_
          | refine sg_ps (ps_assign rfl) rfl ?_
          | refine sg_seq ?_
          | refine sg_region ?_
          | refine sg_nil ?_
          | refine sg_then ?_
          | refine sg_ps (ps_fieldAddr rfl) rfl ?_
          | refine sg_ps (ps_nilCheck rfl) rfl ?_
          | refine sg_load 0 rfl rfl rfl rfl ?_
          | refine sg_load 1 rfl rfl rfl rfl ?_
          | refine sg_load 2 rfl rfl rfl rfl ?_
          | refine sg_load 3 rfl rfl rfl rfl ?_
          | refine sg_load 4 rfl rfl rfl rfl ?_
          | refine sg_load 5 rfl rfl rfl rfl ?_
          | refine sg_load 6 rfl rfl rfl rfl ?_
          | refine sg_load 7 rfl rfl rfl rfl ?_
          | refine sg_ps (ps_add64 rfl rfl (by omega)) rfl ?_
          | refine sg_ps (ps_sub64 rfl rfl (by omega)) rfl ?_
          | refine sg_ps (ps_mul64 rfl rfl (by omega)) rfl ?_
          | refine sg_ps (ps_bin rfl rfl inferInstance) rfl ?_
          | refine sg_ps (ps_rem rfl rfl (by decide)) rfl ?_
          | refine sg_ps (ps_quo64 rfl rfl (by decide) (by omega)) rfl ?_
          | refine sg_ps (ps_not rfl) rfl ?_
          | refine sg_ps (ps_conv rfl) rfl ?_
          | refine sg_ps (ps_shl rfl rfl (by decide) rfl) rfl ?_
          | refine sg_ps (ps_shr rfl rfl (by decide) rfl) rfl ?_
          | refine sg_cond_t rfl ?_
          | refine sg_cond_f rfl ?_
          | refine sg_guard_yes rfl rfl ?_
          | refine sg_guard_nf rfl rfl rfl ?_
          | refine sg_guard_nt rfl rfl rfl ?_
          | refine sg_guard_nu rfl rfl rfl ?_
          | refine sg_ps (ps_pick_t rfl rfl) rfl ?_
          | refine sg_ps (ps_pick_f rfl rfl) rfl ?_
          | refine sg_ps (ps_len rfl) rfl ?_
          | refine sg_ps (ps_len_str rfl) rfl ?_
          | refine sg_ps (ps_extract rfl rfl) rfl ?_
          | refine sg_ps (ps_field rfl rfl) rfl ?_
          | refine sg_ps (ps_min2 rfl rfl) rfl ?_
          | refine sg_ps (ps_max2 rfl rfl) rfl ?_
          | refine sg_ps (ps_build rfl rfl) rfl ?_
          | refine sg_box rfl rfl (fun bx => ?_)
          | refine sg_ps (ps_indexAddr rfl rfl rfl (by omega)) rfl ?_
          | refine sg_ps (ps_indexAddr (j := 0) rfl rfl rfl (by omega)) rfl ?_
          | refine sg_ps (ps_indexAddr (j := 1) rfl rfl rfl (by omega)) rfl ?_
          | refine sg_ps (ps_indexAddr_arr rfl rfl rfl (by omega)) rfl ?_
          | refine sg_block ?_
          | refine sg_skip ?_
          | refine sg_ret ?_
          | refine sg_exit ?_
          | refine ex_then_ret ?_
          | refine ex_then_exit ?_
          | refine ex_block_ret ?_
          | refine ex_block_normal ?_
          | refine ex_block_hit ?_
          | refine ex_block_miss rfl ?_
          | refine sg_store [] rfl rfl rfl (of_decide_eq_true rfl) ?_
          | refine sg_store [_] rfl rfl rfl (of_decide_eq_true rfl) ?_
          | refine sg_store [_, _] rfl rfl rfl (of_decide_eq_true rfl) ?_
          | refine sg_store [_, _, _] rfl rfl rfl (of_decide_eq_true rfl) ?_
          | refine sg_store [_, _, _, _] rfl rfl rfl (of_decide_eq_true rfl) ?_
          | refine sg_store [_, _, _, _, _] rfl rfl rfl (of_decide_eq_true rfl) ?_
          | refine sg_store [_, _, _, _, _, _] rfl rfl rfl (of_decide_eq_true rfl) ?_
          | refine sg_store [_, _, _, _, _, _, _] rfl rfl rfl (of_decide_eq_true rfl) ?_
          | (refine sg_guard_dec rfl rfl (fun hg => ?_) (fun hg => ?_) <;> first | (exfalso; omega) | (exact absurd rfl hg) | skip)
          | (refine sg_guard_ndec rfl rfl (fun hg => ?_) (fun hg => ?_) <;> first | (exfalso; omega) | (exact absurd rfl hg) | skip)
          | (refine sg_cond_dec rfl (fun hg => ?_) (fun hg => ?_) <;> first | (exfalso; omega) | (exact absurd rfl hg) | skip)
          | (refine sg_cond_ndec rfl (fun hg => ?_) (fun hg => ?_) <;> first | (exfalso; omega) | (exact absurd rfl hg) | skip)
          | refine sg_cond_not rfl (fun hg => ?_) (fun hg => ?_)
          | refine sg_cond rfl (fun hg => ?_) (fun hg => ?_))
        exact ex_mid (i + 1, o', l', la', lc') ⟨by omega, ⟨by omega, by omega⟩, hA', hll'⟩ (.cons rfl (.cons rfl (.cons rfl (.cons rfl (.cons rfl (.cons rfl .nil)))))) (fun w hO => hO)
    · skip
      repeat' (first
        | refine sg_wo ?_
        | refine sg_ps (ps_move rfl) rfl ?_
        | refine sg_ps (ps_assign rfl) rfl ?_
        | refine sg_seq ?_
        | refine sg_region ?_
        | refine sg_nil ?_
        | refine sg_then ?_
        | refine sg_ps (ps_fieldAddr rfl) rfl ?_
        | refine sg_ps (ps_nilCheck rfl) rfl ?_
        | refine sg_load 0 rfl rfl rfl rfl ?_
        | refine sg_load 1 rfl rfl rfl rfl ?_
        | refine sg_load 2 rfl rfl rfl rfl ?_
        | refine sg_load 3 rfl rfl rfl rfl ?_
        | refine sg_load 4 rfl rfl rfl rfl ?_
        | refine sg_load 5 rfl rfl rfl rfl ?_
        | refine sg_load 6 rfl rfl rfl rfl ?_
        | refine sg_load 7 rfl rfl rfl rfl ?_
        | refine sg_ps (ps_add64 rfl rfl (by omega)) rfl ?_
        | refine sg_ps (ps_sub64 rfl rfl (by omega)) rfl ?_
        | refine sg_ps (ps_mul64 rfl rfl (by omega)) rfl ?_
        | refine sg_ps (ps_bin rfl rfl inferInstance) rfl ?_
        | refine sg_ps (ps_rem rfl rfl (by decide)) rfl ?_
        | refine sg_ps (ps_quo64 rfl rfl (by decide) (by omega)) rfl ?_
        | refine sg_ps (ps_not rfl) rfl ?_
        | refine sg_ps (ps_conv rfl) rfl ?_
        | refine sg_ps (ps_shl rfl rfl (by decide) rfl) rfl ?_
        | refine sg_ps (ps_shr rfl rfl (by decide) rfl) rfl ?_
        | refine sg_cond_t rfl ?_
        | refine sg_cond_f rfl ?_
        | refine sg_guard_yes rfl rfl ?_
        | refine sg_guard_nf rfl rfl rfl ?_
        | refine sg_guard_nt rfl rfl rfl ?_
        | refine sg_guard_nu rfl rfl rfl ?_
        | refine sg_ps (ps_pick_t rfl rfl) rfl ?_
        | refine sg_ps (ps_pick_f rfl rfl) rfl ?_
        | refine sg_ps (ps_len rfl) rfl ?_
        | refine sg_ps (ps_len_str rfl) rfl ?_
        | refine sg_ps (ps_extract rfl rfl) rfl ?_
        | refine sg_ps (ps_field rfl rfl) rfl ?_
        | refine sg_ps (ps_min2 rfl rfl) rfl ?_
        | refine sg_ps (ps_max2 rfl rfl) rfl ?_
        | refine sg_ps (ps_build rfl rfl) rfl ?_
        | refine sg_box rfl rfl (fun bx => ?_)
        | refine sg_ps (ps_indexAddr rfl rfl rfl (by omega)) rfl ?_
        | refine sg_ps (ps_indexAddr (j := 0) rfl rfl rfl (by omega)) rfl ?_
        | refine sg_ps (ps_indexAddr (j := 1) rfl rfl rfl (by omega)) rfl ?_
        | refine sg_ps (ps_indexAddr_arr rfl rfl rfl (by omega)) rfl ?_
        | refine sg_block ?_
        | refine sg_skip ?_
        | refine sg_ret ?_
        | refine sg_exit ?_
        | refine ex_then_ret ?_
        | refine ex_then_exit ?_
        | refine ex_block_ret ?_
        | refine ex_block_normal ?_
        | refine ex_block_hit ?_
        | refine ex_block_miss rfl ?_
        | refine sg_store [] rfl rfl rfl (of_decide_eq_true rfl) ?_
        | refine sg_store [_] rfl rfl rfl (of_decide_eq_true rfl) ?_
        | refine sg_store [_, _] rfl rfl rfl (of_decide_eq_true rfl) ?_
        | refine sg_store [_, _, _] rfl rfl rfl (of_decide_eq_true rfl) ?_
        | refine sg_store [_, _, _, _] rfl rfl rfl (of_decide_eq_true rfl) ?_
        | refine sg_store [_, _, _, _, _] rfl rfl rfl (of_decide_eq_true rfl) ?_
        | refine sg_store [_, _, _, _, _, _] rfl rfl rfl (of_decide_eq_true rfl) ?_
        | refine sg_store [_, _, _, _, _, _, _] rfl rfl rfl (of_decide_eq_true rfl) ?_
        | (refine sg_guard_dec rfl rfl (fun hg => ?_) (fun hg => ?_) <;> first | (exfalso; omega) | (exact absurd rfl hg) | skip)
        | (refine sg_guard_ndec rfl rfl (fun hg => ?_) (fun hg => ?_) <;> first | (exfalso; omega) | (exact absurd rfl hg) | skip)
        | (refine sg_cond_dec rfl (fun hg => ?_) (fun hg => ?_) <;> first | (exfalso; omega) | (exact absurd rfl hg) | skip)
        | (refine sg_cond_ndec rfl (fun hg => ?_) (fun hg => ?_) <;> first | (exfalso; omega) | (exact absurd rfl hg) | skip)
        | refine sg_cond_not rfl (fun hg => ?_) (fun hg => ?_)
        | refine sg_cond rfl (fun hg => ?_) (fun hg => ?_))
      all_goals exact ex_mid (o, l, la, lc) ⟨hA, Nat.le_trans hll hi2⟩ (.cons rfl (.cons rfl (.cons rfl .nil))) (fun w hO => hO.front1.tail)
  · rintro ⟨o, l, la, lc⟩ ⟨hA, hll⟩
    dsimp only at hA hll ⊢
    repeat' (first
      | refine sg_wo ?_
      | refine sg_ps (ps_move rfl) rfl ?_
      | refine sg_ps (ps_assign rfl) rfl ?_
      | refine sg_region ?_
      | refine sg_nil ?_
      | refine sg_then ?_
      | refine sg_ps (ps_fieldAddr rfl) rfl ?_
      | refine sg_ps (ps_nilCheck rfl) rfl ?_
      | refine sg_load 0 rfl rfl rfl rfl ?_
      | refine sg_load 1 rfl rfl rfl rfl ?_
      | refine sg_load 2 rfl rfl rfl rfl ?_
      | refine sg_load 3 rfl rfl rfl rfl ?_
      | refine sg_load 4 rfl rfl rfl rfl ?_
      | refine sg_load 5 rfl rfl rfl rfl ?_
      | refine sg_load 6 rfl rfl rfl rfl ?_
      | refine sg_load 7 rfl rfl rfl rfl ?_
      | refine sg_ps (ps_add64 rfl rfl (by omega)) rfl ?_
      | refine sg_ps (ps_sub64 rfl rfl (by omega)) rfl ?_
      | refine sg_ps (ps_mul64 rfl rfl (by omega)) rfl ?_
      | refine sg_ps (ps_bin rfl rfl inferInstance) rfl ?_
      | refine sg_ps (ps_rem rfl rfl (by decide)) rfl ?_
      | refine sg_ps (ps_quo64 rfl rfl (by decide) (by omega)) rfl ?_
      | refine sg_ps (ps_not rfl) rfl ?_
      | refine sg_ps (ps_conv rfl) rfl ?_
      | refine sg_ps (ps_shl rfl rfl (by decide) rfl) rfl ?_
      | refine sg_ps (ps_shr rfl rfl (by decide) rfl) rfl ?_
      | refine sg_cond_t rfl ?_
      | refine sg_cond_f rfl ?_
      | refine sg_guard_yes rfl rfl ?_
      | refine sg_guard_nf rfl rfl rfl ?_
      | refine sg_guard_nt rfl rfl rfl ?_
      | refine sg_guard_nu rfl rfl rfl ?_
      | refine sg_ps (ps_pick_t rfl rfl) rfl ?_
      | refine sg_ps (ps_pick_f rfl rfl) rfl ?_
      | refine sg_ps (ps_len rfl) rfl ?_
      | refine sg_ps (ps_len_str rfl) rfl ?_
      | refine sg_ps (ps_extract rfl rfl) rfl ?_
      | refine sg_ps (ps_field rfl rfl) rfl ?_
      | refine sg_ps (ps_min2 rfl rfl) rfl ?_
      | refine sg_ps (ps_max2 rfl rfl) rfl ?_
      | refine sg_ps (ps_build rfl rfl) rfl ?_
      | refine sg_box rfl rfl (fun bx => ?_)
      | refine sg_ps (ps_indexAddr rfl rfl rfl (by omega)) rfl ?_
      | refine sg_ps (ps_indexAddr (j := 0) rfl rfl rfl (by omega)) rfl ?_
      | refine sg_ps (ps_indexAddr (j := 1) rfl rfl rfl (by omega)) rfl ?_
      | refine sg_ps (ps_indexAddr_arr rfl rfl rfl (by omega)) rfl ?_
      | refine sg_load_whole 0 rfl rfl rfl rfl ?_
      | refine sg_load_whole 1 rfl rfl rfl rfl ?_
      | refine sg_load_whole 2 rfl rfl rfl rfl ?_
      | refine sg_load_whole 3 rfl rfl rfl rfl ?_
      | refine sg_load_whole 4 rfl rfl rfl rfl ?_
      | refine sg_load_whole 5 rfl rfl rfl rfl ?_
      | refine sg_load_whole 6 rfl rfl rfl rfl ?_
      | refine sg_load_whole 7 rfl rfl rfl rfl ?_
      | refine sg_store_whole [] rfl rfl rfl rfl rfl ?_
      | refine sg_store_whole [_] rfl rfl rfl rfl rfl ?_
      | refine sg_store_whole [_, _] rfl rfl rfl rfl rfl ?_
      | refine sg_store_whole [_, _, _] rfl rfl rfl rfl rfl ?_
      | refine sg_store_whole [_, _, _, _] rfl rfl rfl rfl rfl ?_
      | refine sg_store_whole [_, _, _, _, _] rfl rfl rfl rfl rfl ?_
      | refine sg_store_whole [_, _, _, _, _, _] rfl rfl rfl rfl rfl ?_
      | refine sg_alloc rfl (fun al => ?_)
      | refine sg_block ?_
      | refine sg_skip ?_
      | refine sg_ret ?_
      | refine sg_exit ?_
      | refine ex_then_ret ?_
      | refine ex_then_exit ?_
      | refine ex_block_ret ?_
      | refine ex_block_normal ?_
      | refine ex_block_hit ?_
      | refine ex_block_miss rfl ?_
      | refine sg_store [] rfl rfl rfl (of_decide_eq_true rfl) ?_
      | refine sg_store [_] rfl rfl rfl (of_decide_eq_true rfl) ?_
      | refine sg_store [_, _] rfl rfl rfl (of_decide_eq_true rfl) ?_
      | refine sg_store [_, _, _] rfl rfl rfl (of_decide_eq_true rfl) ?_
      | refine sg_store [_, _, _, _] rfl rfl rfl (of_decide_eq_true rfl) ?_
      | refine sg_store [_, _, _, _, _] rfl rfl rfl (of_decide_eq_true rfl) ?_
      | refine sg_store [_, _, _, _, _, _] rfl rfl rfl (of_decide_eq_true rfl) ?_
      | refine sg_store [_, _, _, _, _, _, _] rfl rfl rfl (of_decide_eq_true rfl) ?_
      | (refine sg_guard_dec rfl rfl (fun hg => ?_) (fun hg => ?_) <;> first | (exfalso; omega) | (exact absurd rfl hg) | skip)
      | (refine sg_guard_ndec rfl rfl (fun hg => ?_) (fun hg => ?_) <;> first | (exfalso; omega) | (exact absurd rfl hg) | skip)
      | (refine sg_cond_dec rfl (fun hg => ?_) (fun hg => ?_) <;> first | (exfalso; omega) | (exact absurd rfl hg) | skip)
      | (refine sg_cond_ndec rfl (fun hg => ?_) (fun hg => ?_) <;> first | (exfalso; omega) | (exact absurd rfl hg) | skip)
      | refine sg_cond_not rfl (fun hg => ?_) (fun hg => ?_)
      | refine sg_cond rfl (fun hg => ?_) (fun hg => ?_))
    refine sg_seq_mid (γ := Unit) (fun _ => True) (fun _ => [(0, i64 N), (5, dp p)]) (fun _ => [SpaceRep p ⟨0, List.replicate N true⟩, old W]) ?_ ?_
    · refine sg_seq ?_
      repeat' (first
        | refine sg_wo ?_
        | refine sg_ps (ps_move rfl) rfl ?_
        | refine sg_ps (ps_assign rfl) rfl ?_
        | refine sg_region ?_
        | refine sg_nil ?_
        | refine sg_then ?_
        | refine sg_ps (ps_fieldAddr rfl) rfl ?_
        | refine sg_ps (ps_nilCheck rfl) rfl ?_
        | refine sg_load 0 rfl rfl rfl rfl ?_
        | refine sg_load 1 rfl rfl rfl rfl ?_
        | refine sg_load 2 rfl rfl rfl rfl ?_
        | refine sg_load 3 rfl rfl rfl rfl ?_
        | refine sg_load 4 rfl rfl rfl rfl ?_
        | refine sg_load 5 rfl rfl rfl rfl ?_
        | refine sg_load 6 rfl rfl rfl rfl ?_
        | refine sg_load 7 rfl rfl rfl rfl ?_
        | refine sg_ps (ps_add64 rfl rfl (by omega)) rfl ?_
        | refine sg_ps (ps_sub64 rfl rfl (by omega)) rfl ?_
        | refine sg_ps (ps_mul64 rfl rfl (by omega)) rfl ?_
        | refine sg_ps (ps_bin rfl rfl inferInstance) rfl ?_
        | refine sg_ps (ps_rem rfl rfl (by decide)) rfl ?_
        | refine sg_ps (ps_quo64 rfl rfl (by decide) (by omega)) rfl ?_
        | refine sg_ps (ps_not rfl) rfl ?_
        | refine sg_ps (ps_conv rfl) rfl ?_
        | refine sg_ps (ps_shl rfl rfl (by decide) rfl) rfl ?_
        | refine sg_ps (ps_shr rfl rfl (by decide) rfl) rfl ?_
        | refine sg_cond_t rfl ?_
        | refine sg_cond_f rfl ?_
        | refine sg_guard_yes rfl rfl ?_
        | refine sg_guard_nf rfl rfl rfl ?_
        | refine sg_guard_nt rfl rfl rfl ?_
        | refine sg_guard_nu rfl rfl rfl ?_
        | refine sg_ps (ps_pick_t rfl rfl) rfl ?_
        | refine sg_ps (ps_pick_f rfl rfl) rfl ?_
        | refine sg_ps (ps_len rfl) rfl ?_
        | refine sg_ps (ps_len_str rfl) rfl ?_
        | refine sg_ps (ps_extract rfl rfl) rfl ?_
        | refine sg_ps (ps_field rfl rfl) rfl ?_
        | refine sg_ps (ps_min2 rfl rfl) rfl ?_
        | refine sg_ps (ps_max2 rfl rfl) rfl ?_
        | refine sg_ps (ps_build rfl rfl) rfl ?_
        | refine sg_box rfl rfl (fun bx => ?_)
        | refine sg_ps (ps_indexAddr rfl rfl rfl (by omega)) rfl ?_
        | refine sg_ps (ps_indexAddr (j := 0) rfl rfl rfl (by omega)) rfl ?_
        | refine sg_ps (ps_indexAddr (j := 1) rfl rfl rfl (by omega)) rfl ?_
        | refine sg_ps (ps_indexAddr_arr rfl rfl rfl (by omega)) rfl ?_
        | refine sg_load_whole 0 rfl rfl rfl rfl ?_
        | refine sg_load_whole 1 rfl rfl rfl rfl ?_
        | refine sg_load_whole 2 rfl rfl rfl rfl ?_
        | refine sg_load_whole 3 rfl rfl rfl rfl ?_
        | refine sg_load_whole 4 rfl rfl rfl rfl ?_
        | refine sg_load_whole 5 rfl rfl rfl rfl ?_
        | refine sg_load_whole 6 rfl rfl rfl rfl ?_
        | refine sg_load_whole 7 rfl rfl rfl rfl ?_
        | refine sg_store_whole [] rfl rfl rfl rfl rfl ?_
        | refine sg_store_whole [_] rfl rfl rfl rfl rfl ?_
        | refine sg_store_whole [_, _] rfl rfl rfl rfl rfl ?_
        | refine sg_store_whole [_, _, _] rfl rfl rfl rfl rfl ?_
        | refine sg_store_whole [_, _, _, _] rfl rfl rfl rfl rfl ?_
        | refine sg_store_whole [_, _, _, _, _] rfl rfl rfl rfl rfl ?_
        | refine sg_store_whole [_, _, _, _, _, _] rfl rfl rfl rfl rfl ?_
        | refine sg_alloc rfl (fun al => ?_)
        | refine sg_block ?_
        | refine sg_skip ?_
        | refine sg_ret ?_
        | refine sg_exit ?_
        | refine ex_then_ret ?_
        | refine ex_then_exit ?_
        | refine ex_block_ret ?_
        | refine ex_block_normal ?_
        | refine ex_block_hit ?_
        | refine ex_block_miss rfl ?_
        | refine sg_store [] rfl rfl rfl (of_decide_eq_true rfl) ?_
        | refine sg_store [_] rfl rfl rfl (of_decide_eq_true rfl) ?_
        | refine sg_store [_, _] rfl rfl rfl (of_decide_eq_true rfl) ?_
        | refine sg_store [_, _, _] rfl rfl rfl (of_decide_eq_true rfl) ?_
        | refine sg_store [_, _, _, _] rfl rfl rfl (of_decide_eq_true rfl) ?_
        | refine sg_store [_, _, _, _, _] rfl rfl rfl (of_decide_eq_true rfl) ?_
        | refine sg_store [_, _, _, _, _, _] rfl rfl rfl (of_decide_eq_true rfl) ?_
        | refine sg_store [_, _, _, _, _, _, _] rfl rfl rfl (of_decide_eq_true rfl) ?_
        | (refine sg_guard_dec rfl rfl (fun hg => ?_) (fun hg => ?_) <;> first | (exfalso; omega) | (exact absurd rfl hg) | skip)
        | (refine sg_guard_ndec rfl rfl (fun hg => ?_) (fun hg => ?_) <;> first | (exfalso; omega) | (exact absurd rfl hg) | skip)
        | (refine sg_cond_dec rfl (fun hg => ?_) (fun hg => ?_) <;> first | (exfalso; omega) | (exact absurd rfl hg) | skip)
        | (refine sg_cond_ndec rfl (fun hg => ?_) (fun hg => ?_) <;> first | (exfalso; omega) | (exact absurd rfl hg) | skip)
        | refine sg_cond_not rfl (fun hg => ?_) (fun hg => ?_)
        | refine sg_cond rfl (fun hg => ?_) (fun hg => ?_))
      refine sg_loop (γ := Nat × List Bool) (fun x => x.1 ≤ l.length ∧ AP N x.2 (l.drop x.1)) (fun x => [(0, i64 N), (5, dp p), (8, .slice la l.length lc), (16, i64 x.1)])
        (fun x => [swin la l.length lc 2 (hcells l), SpaceRep p ⟨0, x.2⟩, old W]) (fun x => l.length - x.1) (0, o) ⟨Nat.zero_le _, hA⟩ (.cons rfl (.cons rfl (.cons rfl (.cons rfl .nil)))) (fun w hO => hO) ?_
      rintro ⟨j, o⟩ ⟨hj, hA⟩
      dsimp only at hj hA ⊢
      by_cases hjl : j < l.length
      · rw [List.drop_eq_getElem_cons hjl] at hA
        obtain ⟨hturn, hA'⟩ := hA.free
        have hdl := hA.hl l[j] List.mem_cons_self
        refine sg_swin_some 0 rfl (by omega) fun lb lo hla => ?_
        subst hla
        have hra : Rd W [swin (some ⟨lb, lo, none⟩) l.length lc 2 (hcells l), SpaceRep p ⟨0, o⟩, old W] (some ⟨lb, lo + j * 2, none⟩) (hc l[j]) := Rd.at2 (H := l) (rd_swin 0 rfl fun _ _ h => h) rfl j hjl
        have hra1 := hra.at 1 (ws := [i64 l[j].2]) (fun q u hq => by
          match q, hq with
          | 0, hq => exact hq)
        have hra0 := hra.at 0 (ws := [i64 l[j].1]) (fun q u hq => by
          match q, hq with
          | 0, hq => exact hq)
        generalize l[j] = g at hra hra0 hra1 hturn hA' hdl
        obtain ⟨gs, gl⟩ := g
        simp only at hturn hA' hdl hra0 hra1
        repeat' (first
          | refine sg_wo ?_
          | refine sg_ps (ps_move rfl) rfl ?_
          | refine sg_ps (ps_assign rfl) rfl ?_
          | refine sg_seq ?_
          | refine sg_region ?_
          | refine sg_nil ?_
          | refine sg_then ?_
          | refine sg_ps (ps_fieldAddr rfl) rfl ?_
          | refine sg_ps (ps_nilCheck rfl) rfl ?_
          | refine sg_load 0 rfl rfl rfl rfl ?_
          | refine sg_load 1 rfl rfl rfl rfl ?_
          | refine sg_load 2 rfl rfl rfl rfl ?_
          | refine sg_load 3 rfl rfl rfl rfl ?_
          | refine sg_load 4 rfl rfl rfl rfl ?_
          | refine sg_load 5 rfl rfl rfl rfl ?_
          | refine sg_load 6 rfl rfl rfl rfl ?_
          | refine sg_load 7 rfl rfl rfl rfl ?_
          | refine sg_ps (ps_add64 rfl rfl (by omega)) rfl ?_
          | refine sg_ps (ps_sub64 rfl rfl (by omega)) rfl ?_
          | refine sg_ps (ps_mul64 rfl rfl (by omega)) rfl ?_
          | refine sg_ps (ps_bin rfl rfl inferInstance) rfl ?_
          | refine sg_ps (ps_rem rfl rfl (by decide)) rfl ?_
          | refine sg_ps (ps_quo64 rfl rfl (by decide) (by omega)) rfl ?_
          | refine sg_ps (ps_not rfl) rfl ?_
          | refine sg_ps (ps_conv rfl) rfl ?_
          | refine sg_ps (ps_shl rfl rfl (by decide) rfl) rfl ?_
          | refine sg_ps (ps_shr rfl rfl (by decide) rfl) rfl ?_
          | refine sg_cond_t rfl ?_
          | refine sg_cond_f rfl ?_
          | refine sg_guard_yes rfl rfl ?_
          | refine sg_guard_nf rfl rfl rfl ?_
          | refine sg_guard_nt rfl rfl rfl ?_
          | refine sg_guard_nu rfl rfl rfl ?_
          | refine sg_ps (ps_pick_t rfl rfl) rfl ?_
          | refine sg_ps (ps_pick_f rfl rfl) rfl ?_
          | refine sg_ps (ps_len rfl) rfl ?_
          | refine sg_ps (ps_len_str rfl) rfl ?_
          | refine sg_ps (ps_extract rfl rfl) rfl ?_
          | refine sg_ps (ps_field rfl rfl) rfl ?_
          | refine sg_ps (ps_min2 rfl rfl) rfl ?_
          | refine sg_ps (ps_max2 rfl rfl) rfl ?_
          | refine sg_ps (ps_build rfl rfl) rfl ?_
          | refine sg_box rfl rfl (fun bx => ?_)
          | refine sg_ps (ps_indexAddr rfl rfl rfl (by omega)) rfl ?_
          | refine sg_ps (ps_indexAddr (j := 0) rfl rfl rfl (by omega)) rfl ?_
          | refine sg_ps (ps_indexAddr (j := 1) rfl rfl rfl (by omega)) rfl ?_
          | refine sg_ps (ps_indexAddr_arr rfl rfl rfl (by omega)) rfl ?_
          | refine sg_load_whole 0 rfl rfl rfl rfl ?_
          | refine sg_load_whole 1 rfl rfl rfl rfl ?_
          | refine sg_load_whole 2 rfl rfl rfl rfl ?_
          | refine sg_load_whole 3 rfl rfl rfl rfl ?_
          | refine sg_load_whole 4 rfl rfl rfl rfl ?_
          | refine sg_load_whole 5 rfl rfl rfl rfl ?_
          | refine sg_load_whole 6 rfl rfl rfl rfl ?_
          | refine sg_load_whole 7 rfl rfl rfl rfl ?_
          | refine sg_store_whole [] rfl rfl rfl rfl rfl ?_
          | refine sg_store_whole [_] rfl rfl rfl rfl rfl ?_
          | refine sg_store_whole [_, _] rfl rfl rfl rfl rfl ?_
          | refine sg_store_whole [_, _, _] rfl rfl rfl rfl rfl ?_
          | refine sg_store_whole [_, _, _, _] rfl rfl rfl rfl rfl ?_
          | refine sg_store_whole [_, _, _, _, _] rfl rfl rfl rfl rfl ?_
          | refine sg_store_whole [_, _, _, _, _, _] rfl rfl rfl rfl rfl ?_
          | refine sg_alloc rfl (fun al => ?_)
          | refine sg_block ?_
          | refine sg_skip ?_
          | refine sg_ret ?_
          | refine sg_exit ?_
          | refine ex_then_ret ?_
          | refine ex_then_exit ?_
          | refine ex_block_ret ?_
          | refine ex_block_normal ?_
          | refine ex_block_hit ?_
          | refine ex_block_miss rfl ?_
          | refine sg_store [] rfl rfl rfl (of_decide_eq_true rfl) ?_
          | refine sg_store [_] rfl rfl rfl (of_decide_eq_true rfl) ?_
          | refine sg_store [_, _] rfl rfl rfl (of_decide_eq_true rfl) ?_
          | refine sg_store [_, _, _] rfl rfl rfl (of_decide_eq_true rfl) ?_
          | refine sg_store [_, _, _, _] rfl rfl rfl (of_decide_eq_true rfl) ?_
          | refine sg_store [_, _, _, _, _] rfl rfl rfl (of_decide_eq_true rfl) ?_
          | refine sg_store [_, _, _, _, _, _] rfl rfl rfl (of_decide_eq_true rfl) ?_
          | refine sg_store [_, _, _, _, _, _, _] rfl rfl rfl (of_decide_eq_true rfl) ?_
          | (refine sg_guard_dec rfl rfl (fun hg => ?_) (fun hg => ?_) <;> first | (exfalso; omega) | (exact absurd rfl hg) | skip)
          | (refine sg_guard_ndec rfl rfl (fun hg => ?_) (fun hg => ?_) <;> first | (exfalso; omega) | (exact absurd rfl hg) | skip)
          | (refine sg_cond_dec rfl (fun hg => ?_) (fun hg => ?_) <;> first | (exfalso; omega) | (exact absurd rfl hg) | skip)
          | (refine sg_cond_ndec rfl (fun hg => ?_) (fun hg => ?_) <;> first | (exfalso; omega) | (exact absurd rfl hg) | skip)
          | refine sg_cond_not rfl (fun hg => ?_) (fun hg => ?_)
          | refine sg_cond rfl (fun hg => ?_) (fun hg => ?_))
        refine sg_drawK [swin (some ⟨lb, lo, none⟩) l.length lc 2 (hcells l), SpaceRep p ⟨0, o⟩, old W] [0, 1, 2, 3, 4, 6, 7, 8, 9, 5, 10, 11, 12] (by kernel_rfl) (by kernel_rfl) (fun w hO => hO) ?_
        repeat' (first
          | refine sk_nil ?_
          | refine sk_pure rfl rfl (ps_move rfl) rfl ?_
          | refine sk_pure rfl rfl (ps_assign rfl) rfl ?_
          | refine sk_pure rfl rfl (ps_nilCheck rfl) rfl ?_
          | refine sk_pure rfl rfl (ps_fieldAddr rfl) rfl ?_
          | refine sk_pure rfl rfl (ps_add64 rfl rfl (by omega)) rfl ?_
          | refine sk_pure rfl rfl (ps_sub64 rfl rfl (by omega)) rfl ?_
          | refine sk_pure rfl rfl (ps_mul64 rfl rfl (by omega)) rfl ?_
          | refine sk_pure rfl rfl (ps_bin rfl rfl inferInstance) rfl ?_
          | refine sk_pure rfl rfl (ps_rem rfl rfl (by decide)) rfl ?_
          | refine sk_pure rfl rfl (ps_not rfl) rfl ?_
          | refine sk_pure rfl rfl (ps_conv rfl) rfl ?_
          | refine sk_pure rfl rfl (ps_shl rfl rfl (by decide) rfl) rfl ?_
          | refine sk_pure rfl rfl (ps_shr rfl rfl (by decide) rfl) rfl ?_
          | refine sk_pure rfl rfl (ps_len rfl) rfl ?_
          | refine sk_pure rfl rfl (ps_len_str rfl) rfl ?_
          | refine sk_pure rfl rfl (ps_extract rfl rfl) rfl ?_
          | refine sk_pure rfl rfl (ps_field rfl rfl) rfl ?_
          | refine sk_pure rfl rfl (ps_build rfl rfl) rfl ?_
          | refine sk_pure rfl rfl (ps_indexAddr rfl rfl rfl (by omega)) rfl ?_
          | refine sk_pure rfl rfl (ps_indexAddr (j := 0) rfl rfl rfl (by omega)) rfl ?_
          | refine sk_pure rfl rfl (ps_indexAddr (j := 1) rfl rfl rfl (by omega)) rfl ?_
          | refine sk_pure rfl rfl (ps_pick_t rfl rfl) rfl ?_
          | refine sk_pure rfl rfl (ps_pick_f rfl rfl) rfl ?_
          | refine sk_pure rfl rfl (ps_min2 rfl rfl) rfl ?_
          | refine sk_pure rfl rfl (ps_max2 rfl rfl) rfl ?_
          | refine sk_pure rfl rfl (ps_indexAddr_arr rfl rfl rfl (by omega)) rfl ?_
          | refine sk_no rfl rfl rfl rfl rfl ?_
          | refine sk_pure_g rfl rfl rfl rfl (ps_move rfl) rfl ?_
          | refine sk_pure_g rfl rfl rfl rfl (ps_assign rfl) rfl ?_
          | refine sk_pure_g rfl rfl rfl rfl (ps_nilCheck rfl) rfl ?_
          | refine sk_pure_g rfl rfl rfl rfl (ps_fieldAddr rfl) rfl ?_
          | refine sk_pure_g rfl rfl rfl rfl (ps_add64 rfl rfl (by omega)) rfl ?_
          | refine sk_pure_g rfl rfl rfl rfl (ps_sub64 rfl rfl (by omega)) rfl ?_
          | refine sk_pure_g rfl rfl rfl rfl (ps_mul64 rfl rfl (by omega)) rfl ?_
          | refine sk_pure_g rfl rfl rfl rfl (ps_bin rfl rfl inferInstance) rfl ?_
          | refine sk_pure_g rfl rfl rfl rfl (ps_rem rfl rfl (by decide)) rfl ?_
          | refine sk_pure_g rfl rfl rfl rfl (ps_not rfl) rfl ?_
          | refine sk_pure_g rfl rfl rfl rfl (ps_conv rfl) rfl ?_
          | refine sk_pure_g rfl rfl rfl rfl (ps_shl rfl rfl (by decide) rfl) rfl ?_
          | refine sk_pure_g rfl rfl rfl rfl (ps_shr rfl rfl (by decide) rfl) rfl ?_
          | refine sk_pure_g rfl rfl rfl rfl (ps_len rfl) rfl ?_
          | refine sk_pure_g rfl rfl rfl rfl (ps_len_str rfl) rfl ?_
          | refine sk_pure_g rfl rfl rfl rfl (ps_extract rfl rfl) rfl ?_
          | refine sk_pure_g rfl rfl rfl rfl (ps_field rfl rfl) rfl ?_
          | refine sk_pure_g rfl rfl rfl rfl (ps_build rfl rfl) rfl ?_
          | refine sk_pure_g rfl rfl rfl rfl (ps_indexAddr rfl rfl rfl (by omega)) rfl ?_
          | refine sk_pure_g rfl rfl rfl rfl (ps_indexAddr (j := 0) rfl rfl rfl (by omega)) rfl ?_
          | refine sk_pure_g rfl rfl rfl rfl (ps_indexAddr (j := 1) rfl rfl rfl (by omega)) rfl ?_
          | refine sk_pure_g rfl rfl rfl rfl (ps_pick_t rfl rfl) rfl ?_
          | refine sk_pure_g rfl rfl rfl rfl (ps_pick_f rfl rfl) rfl ?_
          | refine sk_pure_g rfl rfl rfl rfl (ps_min2 rfl rfl) rfl ?_
          | refine sk_pure_g rfl rfl rfl rfl (ps_max2 rfl rfl) rfl ?_
          | refine sk_pure_g rfl rfl rfl rfl (ps_indexAddr_arr rfl rfl rfl (by omega)) rfl ?_
          | refine sk_load 0 rfl rfl rfl rfl rfl ?_
          | refine sk_load 1 rfl rfl rfl rfl rfl ?_
          | refine sk_load 2 rfl rfl rfl rfl rfl ?_
          | refine sk_load 3 rfl rfl rfl rfl rfl ?_
          | refine sk_load 4 rfl rfl rfl rfl rfl ?_
          | refine sk_load 5 rfl rfl rfl rfl rfl ?_
          | refine sk_load_g 0 rfl rfl rfl rfl rfl rfl rfl ?_
          | refine sk_load_g 1 rfl rfl rfl rfl rfl rfl rfl ?_
          | refine sk_load_g 2 rfl rfl rfl rfl rfl rfl rfl ?_
          | refine sk_load_g 3 rfl rfl rfl rfl rfl rfl rfl ?_
          | refine sk_load_g 4 rfl rfl rfl rfl rfl rfl rfl ?_
          | refine sk_load_g 5 rfl rfl rfl rfl rfl rfl rfl ?_
          | refine sk_eff rfl rfl ?_
          | refine sg_guard_yes rfl rfl ?_
          | refine sg_guard_nf rfl rfl rfl ?_
          | refine sg_guard_nt rfl rfl rfl ?_
          | refine sg_guard_nu rfl rfl rfl ?_
          | refine sk_back (fun w hO => hO) ?_
          | refine sg_store [] rfl rfl rfl (of_decide_eq_true rfl) ?_
          | refine sg_store [_] rfl rfl rfl (of_decide_eq_true rfl) ?_
          | refine sg_store [_, _] rfl rfl rfl (of_decide_eq_true rfl) ?_
          | refine sg_store [_, _, _] rfl rfl rfl (of_decide_eq_true rfl) ?_
          | refine sg_store [_, _, _, _] rfl rfl rfl (of_decide_eq_true rfl) ?_
          | refine sg_store [_, _, _, _, _] rfl rfl rfl (of_decide_eq_true rfl) ?_
          | refine sg_store [_, _, _, _, _, _] rfl rfl rfl (of_decide_eq_true rfl) ?_
          | refine sg_store [_, _, _, _, _, _, _] rfl rfl rfl (of_decide_eq_true rfl) ?_)
        first
          | refine sk_load_rd rfl rfl hra0 rfl ?_
          | refine sk_load_rd rfl rfl hra1 rfl ?_
        repeat' (first
          | refine sk_nil ?_
          | refine sk_pure rfl rfl (ps_move rfl) rfl ?_
          | refine sk_pure rfl rfl (ps_assign rfl) rfl ?_
          | refine sk_pure rfl rfl (ps_nilCheck rfl) rfl ?_
          | refine sk_pure rfl rfl (ps_fieldAddr rfl) rfl ?_
          | refine sk_pure rfl rfl (ps_add64 rfl rfl (by omega)) rfl ?_
          | refine sk_pure rfl rfl (ps_sub64 rfl rfl (by omega)) rfl ?_
          | refine sk_pure rfl rfl (ps_mul64 rfl rfl (by omega)) rfl ?_
          | refine sk_pure rfl rfl (ps_bin rfl rfl inferInstance) rfl ?_
          | refine sk_pure rfl rfl (ps_rem rfl rfl (by decide)) rfl ?_
          | refine sk_pure rfl rfl (ps_not rfl) rfl ?_
          | refine sk_pure rfl rfl (ps_conv rfl) rfl ?_
          | refine sk_pure rfl rfl (ps_shl rfl rfl (by decide) rfl) rfl ?_
          | refine sk_pure rfl rfl (ps_shr rfl rfl (by decide) rfl) rfl ?_
          | refine sk_pure rfl rfl (ps_len rfl) rfl ?_
          | refine sk_pure rfl rfl (ps_len_str rfl) rfl ?_
          | refine sk_pure rfl rfl (ps_extract rfl rfl) rfl ?_
          | refine sk_pure rfl rfl (ps_field rfl rfl) rfl ?_
          | refine sk_pure rfl rfl (ps_build rfl rfl) rfl ?_
          | refine sk_pure rfl rfl (ps_indexAddr rfl rfl rfl (by omega)) rfl ?_
          | refine sk_pure rfl rfl (ps_indexAddr (j := 0) rfl rfl rfl (by omega)) rfl ?_
          | refine sk_pure rfl rfl (ps_indexAddr (j := 1) rfl rfl rfl (by omega)) rfl ?_
          | refine sk_pure rfl rfl (ps_pick_t rfl rfl) rfl ?_
          | refine sk_pure rfl rfl (ps_pick_f rfl rfl) rfl ?_
          | refine sk_pure rfl rfl (ps_min2 rfl rfl) rfl ?_
          | refine sk_pure rfl rfl (ps_max2 rfl rfl) rfl ?_
          | refine sk_pure rfl rfl (ps_indexAddr_arr rfl rfl rfl (by omega)) rfl ?_
          | refine sk_no rfl rfl rfl rfl rfl ?_
          | refine sk_pure_g rfl rfl rfl rfl (ps_move rfl) rfl ?_
          | refine sk_pure_g rfl rfl rfl rfl (ps_assign rfl) rfl ?_
          | refine sk_pure_g rfl rfl rfl rfl (ps_nilCheck rfl) rfl ?_
          | refine sk_pure_g rfl rfl rfl rfl (ps_fieldAddr rfl) rfl ?_
          | refine sk_pure_g rfl rfl rfl rfl (ps_add64 rfl rfl (by omega)) rfl ?_
          | refine sk_pure_g rfl rfl rfl rfl (ps_sub64 rfl rfl (by omega)) rfl ?_
          | refine sk_pure_g rfl rfl rfl rfl (ps_mul64 rfl rfl (by omega)) rfl ?_
          | refine sk_pure_g rfl rfl rfl rfl (ps_bin rfl rfl inferInstance) rfl ?_
          | refine sk_pure_g rfl rfl rfl rfl (ps_rem rfl rfl (by decide)) rfl ?_
          | refine sk_pure_g rfl rfl rfl rfl (ps_not rfl) rfl ?_
          | refine sk_pure_g rfl rfl rfl rfl (ps_conv rfl) rfl ?_
          | refine sk_pure_g rfl rfl rfl rfl (ps_shl rfl rfl (by decide) rfl) rfl ?_
          | refine sk_pure_g rfl rfl rfl rfl (ps_shr rfl rfl (by decide) rfl) rfl ?_
          | refine sk_pure_g rfl rfl rfl rfl (ps_len rfl) rfl ?_
          | refine sk_pure_g rfl rfl rfl rfl (ps_len_str rfl) rfl ?_
          | refine sk_pure_g rfl rfl rfl rfl (ps_extract rfl rfl) rfl ?_
          | refine sk_pure_g rfl rfl rfl rfl (ps_field rfl rfl) rfl ?_
          | refine sk_pure_g rfl rfl rfl rfl (ps_build rfl rfl) rfl ?_
          | refine sk_pure_g rfl rfl rfl rfl (ps_indexAddr rfl rfl rfl (by omega)) rfl ?_
          | refine sk_pure_g rfl rfl rfl rfl (ps_indexAddr (j := 0) rfl rfl rfl (by omega)) rfl ?_
          | refine sk_pure_g rfl rfl rfl rfl (ps_indexAddr (j := 1) rfl rfl rfl (by omega)) rfl ?_
          | refine sk_pure_g rfl rfl rfl rfl (ps_pick_t rfl rfl) rfl ?_
          | refine sk_pure_g rfl rfl rfl rfl (ps_pick_f rfl rfl) rfl ?_
          | refine sk_pure_g rfl rfl rfl rfl (ps_min2 rfl rfl) rfl ?_
          | refine sk_pure_g rfl rfl rfl rfl (ps_max2 rfl rfl) rfl ?_
          | refine sk_pure_g rfl rfl rfl rfl (ps_indexAddr_arr rfl rfl rfl (by omega)) rfl ?_
          | refine sk_load 0 rfl rfl rfl rfl rfl ?_
          | refine sk_load 1 rfl rfl rfl rfl rfl ?_
          | refine sk_load 2 rfl rfl rfl rfl rfl ?_
          | refine sk_load 3 rfl rfl rfl rfl rfl ?_
          | refine sk_load 4 rfl rfl rfl rfl rfl ?_
          | refine sk_load 5 rfl rfl rfl rfl rfl ?_
          | refine sk_load_g 0 rfl rfl rfl rfl rfl rfl rfl ?_
          | refine sk_load_g 1 rfl rfl rfl rfl rfl rfl rfl ?_
          | refine sk_load_g 2 rfl rfl rfl rfl rfl rfl rfl ?_
          | refine sk_load_g 3 rfl rfl rfl rfl rfl rfl rfl ?_
          | refine sk_load_g 4 rfl rfl rfl rfl rfl rfl rfl ?_
          | refine sk_load_g 5 rfl rfl rfl rfl rfl rfl rfl ?_
          | refine sk_eff rfl rfl ?_
          | refine sg_guard_yes rfl rfl ?_
          | refine sg_guard_nf rfl rfl rfl ?_
          | refine sg_guard_nt rfl rfl rfl ?_
          | refine sg_guard_nu rfl rfl rfl ?_
          | refine sk_back (fun w hO => hO) ?_
          | refine sg_store [] rfl rfl rfl (of_decide_eq_true rfl) ?_
          | refine sg_store [_] rfl rfl rfl (of_decide_eq_true rfl) ?_
          | refine sg_store [_, _] rfl rfl rfl (of_decide_eq_true rfl) ?_
          | refine sg_store [_, _, _] rfl rfl rfl (of_decide_eq_true rfl) ?_
          | refine sg_store [_, _, _, _] rfl rfl rfl (of_decide_eq_true rfl) ?_
          | refine sg_store [_, _, _, _, _] rfl rfl rfl (of_decide_eq_true rfl) ?_
          | refine sg_store [_, _, _, _, _, _] rfl rfl rfl (of_decide_eq_true rfl) ?_
          | refine sg_store [_, _, _, _, _, _, _] rfl rfl rfl (of_decide_eq_true rfl) ?_)
        first
          | refine sk_load_rd rfl rfl hra1 rfl ?_
          | refine sk_load_rd rfl rfl hra0 rfl ?_
        repeat' (first
          | refine sk_nil ?_
          | refine sk_pure rfl rfl (ps_move rfl) rfl ?_
          | refine sk_pure rfl rfl (ps_assign rfl) rfl ?_
          | refine sk_pure rfl rfl (ps_nilCheck rfl) rfl ?_
          | refine sk_pure rfl rfl (ps_fieldAddr rfl) rfl ?_
          | refine sk_pure rfl rfl (ps_add64 rfl rfl (by omega)) rfl ?_
          | refine sk_pure rfl rfl (ps_sub64 rfl rfl (by omega)) rfl ?_
          | refine sk_pure rfl rfl (ps_mul64 rfl rfl (by omega)) rfl ?_
          | refine sk_pure rfl rfl (ps_bin rfl rfl inferInstance) rfl ?_
          | refine sk_pure rfl rfl (ps_rem rfl rfl (by decide)) rfl ?_
          | refine sk_pure rfl rfl (ps_not rfl) rfl ?_
          | refine sk_pure rfl rfl (ps_conv rfl) rfl ?_
          | refine sk_pure rfl rfl (ps_shl rfl rfl (by decide) rfl) rfl ?_
          | refine sk_pure rfl rfl (ps_shr rfl rfl (by decide) rfl) rfl ?_
          | refine sk_pure rfl rfl (ps_len rfl) rfl ?_
          | refine sk_pure rfl rfl (ps_len_str rfl) rfl ?_
          | refine sk_pure rfl rfl (ps_extract rfl rfl) rfl ?_
          | refine sk_pure rfl rfl (ps_field rfl rfl) rfl ?_
          | refine sk_pure rfl rfl (ps_build rfl rfl) rfl ?_
          | refine sk_pure rfl rfl (ps_indexAddr rfl rfl rfl (by omega)) rfl ?_
          | refine sk_pure rfl rfl (ps_indexAddr (j := 0) rfl rfl rfl (by omega)) rfl ?_
          | refine sk_pure rfl rfl (ps_indexAddr (j := 1) rfl rfl rfl (by omega)) rfl ?_
          | refine sk_pure rfl rfl (ps_pick_t rfl rfl) rfl ?_
          | refine sk_pure rfl rfl (ps_pick_f rfl rfl) rfl ?_
          | refine sk_pure rfl rfl (ps_min2 rfl rfl) rfl ?_
          | refine sk_pure rfl rfl (ps_max2 rfl rfl) rfl ?_
          | refine sk_pure rfl rfl (ps_indexAddr_arr rfl rfl rfl (by omega)) rfl ?_
          | refine sk_no rfl rfl rfl rfl rfl ?_
          | refine sk_pure_g rfl rfl rfl rfl (ps_move rfl) rfl ?_
          | refine sk_pure_g rfl rfl rfl rfl (ps_assign rfl) rfl ?_
          | refine sk_pure_g rfl rfl rfl rfl (ps_nilCheck rfl) rfl ?_
          | refine sk_pure_g rfl rfl rfl rfl (ps_fieldAddr rfl) rfl ?_
          | refine sk_pure_g rfl rfl rfl rfl (ps_add64 rfl rfl (by omega)) rfl ?_
          | refine sk_pure_g rfl rfl rfl rfl (ps_sub64 rfl rfl (by omega)) rfl ?_
          | refine sk_pure_g rfl rfl rfl rfl (ps_mul64 rfl rfl (by omega)) rfl ?_
          | refine sk_pure_g rfl rfl rfl rfl (ps_bin rfl rfl inferInstance) rfl ?_
          | refine sk_pure_g rfl rfl rfl rfl (ps_rem rfl rfl (by decide)) rfl ?_
          | refine sk_pure_g rfl rfl rfl rfl (ps_not rfl) rfl ?_
          | refine sk_pure_g rfl rfl rfl rfl (ps_conv rfl) rfl ?_
          | refine sk_pure_g rfl rfl rfl rfl (ps_shl rfl rfl (by decide) rfl) rfl ?_
          | refine sk_pure_g rfl rfl rfl rfl (ps_shr rfl rfl (by decide) rfl) rfl ?_
          | refine sk_pure_g rfl rfl rfl rfl (ps_len rfl) rfl ?_
          | refine sk_pure_g rfl rfl rfl rfl (ps_len_str rfl) rfl ?_
          | refine sk_pure_g rfl rfl rfl rfl (ps_extract rfl rfl) rfl ?_
          | refine sk_pure_g rfl rfl rfl rfl (ps_field rfl rfl) rfl ?_
          | refine sk_pure_g rfl rfl rfl rfl (ps_build rfl rfl) rfl ?_
          | refine sk_pure_g rfl rfl rfl rfl (ps_indexAddr rfl rfl rfl (by omega)) rfl ?_
          | refine sk_pure_g rfl rfl rfl rfl (ps_indexAddr (j := 0) rfl rfl rfl (by omega)) rfl ?_
          | refine sk_pure_g rfl rfl rfl rfl (ps_indexAddr (j := 1) rfl rfl rfl (by omega)) rfl ?_
          | refine sk_pure_g rfl rfl rfl rfl (ps_pick_t rfl rfl) rfl ?_
          | refine sk_pure_g rfl rfl rfl rfl (ps_pick_f rfl rfl) rfl ?_
          | refine sk_pure_g rfl rfl rfl rfl (ps_min2 rfl rfl) rfl ?_
          | refine sk_pure_g rfl rfl rfl rfl (ps_max2 rfl rfl) rfl ?_
          | refine sk_pure_g rfl rfl rfl rfl (ps_indexAddr_arr rfl rfl rfl (by omega)) rfl ?_
          | refine sk_load 0 rfl rfl rfl rfl rfl ?_
          | refine sk_load 1 rfl rfl rfl rfl rfl ?_
          | refine sk_load 2 rfl rfl rfl rfl rfl ?_
          | refine sk_load 3 rfl rfl rfl rfl rfl ?_
          | refine sk_load 4 rfl rfl rfl rfl rfl ?_
          | refine sk_load 5 rfl rfl rfl rfl rfl ?_
          | refine sk_load_g 0 rfl rfl rfl rfl rfl rfl rfl ?_
          | refine sk_load_g 1 rfl rfl rfl rfl rfl rfl rfl ?_
          | refine sk_load_g 2 rfl rfl rfl rfl rfl rfl rfl ?_
          | refine sk_load_g 3 rfl rfl rfl rfl rfl rfl rfl ?_
          | refine sk_load_g 4 rfl rfl rfl rfl rfl rfl rfl ?_
          | refine sk_load_g 5 rfl rfl rfl rfl rfl rfl rfl ?_
          | refine sk_eff rfl rfl ?_
          | refine sg_guard_yes rfl rfl ?_
          | refine sg_guard_nf rfl rfl rfl ?_
          | refine sg_guard_nt rfl rfl rfl ?_
          | refine sg_guard_nu rfl rfl rfl ?_
          | refine sk_back (fun w hO => hO) ?_
          | refine sg_store [] rfl rfl rfl (of_decide_eq_true rfl) ?_
          | refine sg_store [_] rfl rfl rfl (of_decide_eq_true rfl) ?_
          | refine sg_store [_, _] rfl rfl rfl (of_decide_eq_true rfl) ?_
          | refine sg_store [_, _, _] rfl rfl rfl (of_decide_eq_true rfl) ?_
          | refine sg_store [_, _, _, _] rfl rfl rfl (of_decide_eq_true rfl) ?_
          | refine sg_store [_, _, _, _, _] rfl rfl rfl (of_decide_eq_true rfl) ?_
          | refine sg_store [_, _, _, _, _, _] rfl rfl rfl (of_decide_eq_true rfl) ?_
          | refine sg_store [_, _, _, _, _, _, _] rfl rfl rfl (of_decide_eq_true rfl) ?_)
        refine sg_call ((freex_tri p ⟨0, o⟩ gs gl [swin (some ⟨lb, lo, none⟩) l.length lc 2 (hcells l), old W] (by omega) (by omega)).pre (fun w hO => hO.front1)) rfl rfl (fun _ _ => ?_)
        rw [hturn]
        dsimp only
        refine sk_end (by kernel_rfl) ?_
        repeat' (first
          | refine sk_nil ?_
          | refine sk_pure rfl rfl (ps_move rfl) rfl ?_
          | refine sk_pure rfl rfl (ps_assign rfl) rfl ?_
          | refine sk_pure rfl rfl (ps_nilCheck rfl) rfl ?_
          | refine sk_pure rfl rfl (ps_fieldAddr rfl) rfl ?_
          | refine sk_pure rfl rfl (ps_add64 rfl rfl (by omega)) rfl ?_
          | refine sk_pure rfl rfl (ps_sub64 rfl rfl (by omega)) rfl ?_
          | refine sk_pure rfl rfl (ps_mul64 rfl rfl (by omega)) rfl ?_
          | refine sk_pure rfl rfl (ps_bin rfl rfl inferInstance) rfl ?_
          | refine sk_pure rfl rfl (ps_rem rfl rfl (by decide)) rfl ?_
          | refine sk_pure rfl rfl (ps_not rfl) rfl ?_
          | refine sk_pure rfl rfl (ps_conv rfl) rfl ?_
          | refine sk_pure rfl rfl (ps_shl rfl rfl (by decide) rfl) rfl ?_
          | refine sk_pure rfl rfl (ps_shr rfl rfl (by decide) rfl) rfl ?_
          | refine sk_pure rfl rfl (ps_len rfl) rfl ?_
          | refine sk_pure rfl rfl (ps_len_str rfl) rfl ?_
          | refine sk_pure rfl rfl (ps_extract rfl rfl) rfl ?_
          | refine sk_pure rfl rfl (ps_field rfl rfl) rfl ?_
          | refine sk_pure rfl rfl (ps_build rfl rfl) rfl ?_
          | refine sk_pure rfl rfl (ps_indexAddr rfl rfl rfl (by omega)) rfl ?_
          | refine sk_pure rfl rfl (ps_indexAddr (j := 0) rfl rfl rfl (by omega)) rfl ?_
          | refine sk_pure rfl rfl (ps_indexAddr (j := 1) rfl rfl rfl (by omega)) rfl ?_
          | refine sk_pure rfl rfl (ps_pick_t rfl rfl) rfl ?_
          | refine sk_pure rfl rfl (ps_pick_f rfl rfl) rfl ?_
          | refine sk_pure rfl rfl (ps_min2 rfl rfl) rfl ?_
          | refine sk_pure rfl rfl (ps_max2 rfl rfl) rfl ?_
          | refine sk_pure rfl rfl (ps_indexAddr_arr rfl rfl rfl (by omega)) rfl ?_
          | refine sk_no rfl rfl rfl rfl rfl ?_
          | refine sk_pure_g rfl rfl rfl rfl (ps_move rfl) rfl ?_
          | refine sk_pure_g rfl rfl rfl rfl (ps_assign rfl) rfl ?_
          | refine sk_pure_g rfl rfl rfl rfl (ps_nilCheck rfl) rfl ?_
          | refine sk_pure_g rfl rfl rfl rfl (ps_fieldAddr rfl) rfl ?_
          | refine sk_pure_g rfl rfl rfl rfl (ps_add64 rfl rfl (by omega)) rfl ?_
          | refine sk_pure_g rfl rfl rfl rfl (ps_sub64 rfl rfl (by omega)) rfl ?_
          | refine sk_pure_g rfl rfl rfl rfl (ps_mul64 rfl rfl (by omega)) rfl ?_
          | refine sk_pure_g rfl rfl rfl rfl (ps_bin rfl rfl inferInstance) rfl ?_
          | refine sk_pure_g rfl rfl rfl rfl (ps_rem rfl rfl (by decide)) rfl ?_
          | refine sk_pure_g rfl rfl rfl rfl (ps_not rfl) rfl ?_
          | refine sk_pure_g rfl rfl rfl rfl (ps_conv rfl) rfl ?_
          | refine sk_pure_g rfl rfl rfl rfl (ps_shl rfl rfl (by decide) rfl) rfl ?_
          | refine sk_pure_g rfl rfl rfl rfl (ps_shr rfl rfl (by decide) rfl) rfl ?_
          | refine sk_pure_g rfl rfl rfl rfl (ps_len rfl) rfl ?_
          | refine sk_pure_g rfl rfl rfl rfl (ps_len_str rfl) rfl ?_
          | refine sk_pure_g rfl rfl rfl rfl (ps_extract rfl rfl) rfl ?_
          | refine sk_pure_g rfl rfl rfl rfl (ps_field rfl rfl) rfl ?_
          | refine sk_pure_g rfl rfl rfl rfl (ps_build rfl rfl) rfl ?_
          | refine sk_pure_g rfl rfl rfl rfl (ps_indexAddr rfl rfl rfl (by omega)) rfl ?_
          | refine sk_pure_g rfl rfl rfl rfl (ps_indexAddr (j := 0) rfl rfl rfl (by omega)) rfl ?_
          | refine sk_pure_g rfl rfl rfl rfl (ps_indexAddr (j := 1) rfl rfl rfl (by omega)) rfl ?_
          | refine sk_pure_g rfl rfl rfl rfl (ps_pick_t rfl rfl) rfl ?_
          | refine sk_pure_g rfl rfl rfl rfl (ps_pick_f rfl rfl) rfl ?_
          | refine sk_pure_g rfl rfl rfl rfl (ps_min2 rfl rfl) rfl ?_
          | refine sk_pure_g rfl rfl rfl rfl (ps_max2 rfl rfl) rfl ?_
          | refine sk_pure_g rfl rfl rfl rfl (ps_indexAddr_arr rfl rfl rfl (by omega)) rfl ?_
          | refine sk_load 0 rfl rfl rfl rfl rfl ?_
          | refine sk_load 1 rfl rfl rfl rfl rfl ?_
          | refine sk_load 2 rfl rfl rfl rfl rfl ?_
          | refine sk_load 3 rfl rfl rfl rfl rfl ?_
          | refine sk_load 4 rfl rfl rfl rfl rfl ?_
          | refine sk_load 5 rfl rfl rfl rfl rfl ?_
          | refine sk_load_g 0 rfl rfl rfl rfl rfl rfl rfl ?_
          | refine sk_load_g 1 rfl rfl rfl rfl rfl rfl rfl ?_
          | refine sk_load_g 2 rfl rfl rfl rfl rfl rfl rfl ?_
          | refine sk_load_g 3 rfl rfl rfl rfl rfl rfl rfl ?_
          | refine sk_load_g 4 rfl rfl rfl rfl rfl rfl rfl ?_
          | refine sk_load_g 5 rfl rfl rfl rfl rfl rfl rfl ?_
          | refine sk_eff rfl rfl ?_
          | refine sg_guard_yes rfl rfl ?_
          | refine sg_guard_nf rfl rfl rfl ?_
          | refine sg_guard_nt rfl rfl rfl ?_
          | refine sg_guard_nu rfl rfl rfl ?_
          | refine sk_back (fun w hO => hO) ?_
          | refine sg_store [] rfl rfl rfl (of_decide_eq_true rfl) ?_
          | refine sg_store [_] rfl rfl rfl (of_decide_eq_true rfl) ?_
          | refine sg_store [_, _] rfl rfl rfl (of_decide_eq_true rfl) ?_
          | refine sg_store [_, _, _] rfl rfl rfl (of_decide_eq_true rfl) ?_
          | refine sg_store [_, _, _, _] rfl rfl rfl (of_decide_eq_true rfl) ?_
          | refine sg_store [_, _, _, _, _] rfl rfl rfl (of_decide_eq_true rfl) ?_
          | refine sg_store [_, _, _, _, _, _] rfl rfl rfl (of_decide_eq_true rfl) ?_
          | refine sg_store [_, _, _, _, _, _, _] rfl rfl rfl (of_decide_eq_true rfl) ?_)
        repeat' (first
          | refine sg_wo ?_
          | refine sg_ps (ps_move rfl) rfl ?_
          | refine sg_ps (ps_assign rfl) rfl ?_
          | refine sg_seq ?_
          | refine sg_region ?_
          | refine sg_nil ?_
          | refine sg_then ?_
          | refine sg_ps (ps_fieldAddr rfl) rfl ?_
          | refine sg_ps (ps_nilCheck rfl) rfl ?_
          | refine sg_load 0 rfl rfl rfl rfl ?_
          | refine sg_load 1 rfl rfl rfl rfl ?_
          | refine sg_load 2 rfl rfl rfl rfl ?_
          | refine sg_load 3 rfl rfl rfl rfl ?_
          | refine sg_load 4 rfl rfl rfl rfl ?_
          | refine sg_load 5 rfl rfl rfl rfl ?_
          | refine sg_load 6 rfl rfl rfl rfl ?_
          | refine sg_load 7 rfl rfl rfl rfl ?_
          | refine sg_ps (ps_add64 rfl rfl (by omega)) rfl ?_
          | refine sg_ps (ps_sub64 rfl rfl (by omega)) rfl ?_
          | refine sg_ps (ps_mul64 rfl rfl (by omega)) rfl ?_
          | refine sg_ps (ps_bin rfl rfl inferInstance) rfl ?_
          | refine sg_ps (ps_rem rfl rfl (by decide)) rfl ?_
          | refine sg_ps (ps_quo64 rfl rfl (by decide) (by omega)) rfl ?_
          | refine sg_ps (ps_not rfl) rfl ?_
          | refine sg_ps (ps_conv rfl) rfl ?_
          | refine sg_ps (ps_shl rfl rfl (by decide) rfl) rfl ?_
          | refine sg_ps (ps_shr rfl rfl (by decide) rfl) rfl ?_
          | refine sg_cond_t rfl ?_
          | refine sg_cond_f rfl ?_
          | refine sg_guard_yes rfl rfl ?_
          | refine sg_guard_nf rfl rfl rfl ?_
          | refine sg_guard_nt rfl rfl rfl ?_
          | refine sg_guard_nu rfl rfl rfl ?_
          | refine sg_ps (ps_pick_t rfl rfl) rfl ?_
          | refine sg_ps (ps_pick_f rfl rfl) rfl ?_
          | refine sg_ps (ps_len rfl) rfl ?_
          | refine sg_ps (ps_len_str rfl) rfl ?_
          | refine sg_ps (ps_extract rfl rfl) rfl ?_
          | refine sg_ps (ps_field rfl rfl) rfl ?_
          | refine sg_ps (ps_min2 rfl rfl) rfl ?_
          | refine sg_ps (ps_max2 rfl rfl) rfl ?_
          | refine sg_ps (ps_build rfl rfl) rfl ?_
          | refine sg_box rfl rfl (fun bx => ?_)
          | refine sg_ps (ps_indexAddr rfl rfl rfl (by omega)) rfl ?_
          | refine sg_ps (ps_indexAddr (j := 0) rfl rfl rfl (by omega)) rfl ?_
          | refine sg_ps (ps_indexAddr (j := 1) rfl rfl rfl (by omega)) rfl ?_
          | refine sg_ps (ps_indexAddr_arr rfl rfl rfl (by omega)) rfl ?_
          | refine sg_load_whole 0 rfl rfl rfl rfl ?_
          | refine sg_load_whole 1 rfl rfl rfl rfl ?_
          | refine sg_load_whole 2 rfl rfl rfl rfl ?_
          | refine sg_load_whole 3 rfl rfl rfl rfl ?_
          | refine sg_load_whole 4 rfl rfl rfl rfl ?_
          | refine sg_load_whole 5 rfl rfl rfl rfl ?_
          | refine sg_load_whole 6 rfl rfl rfl rfl ?_
          | refine sg_load_whole 7 rfl rfl rfl rfl ?_
          | refine sg_store_whole [] rfl rfl rfl rfl rfl ?_
          | refine sg_store_whole [_] rfl rfl rfl rfl rfl ?_
          | refine sg_store_whole [_, _] rfl rfl rfl rfl rfl ?_
          | refine sg_store_whole [_, _, _] rfl rfl rfl rfl rfl ?_
          | refine sg_store_whole [_, _, _, _] rfl rfl rfl rfl rfl ?_
          | refine sg_store_whole [_, _, _, _, _] rfl rfl rfl rfl rfl ?_
          | refine sg_store_whole [_, _, _, _, _, _] rfl rfl rfl rfl rfl ?_
          | refine sg_alloc rfl (fun al => ?_)
          | refine sg_block ?_
          | refine sg_skip ?_
          | refine sg_ret ?_
          | refine sg_exit ?_
          | refine ex_then_ret ?_
          | refine ex_then_exit ?_
          | refine ex_block_ret ?_
          | refine ex_block_normal ?_
          | refine ex_block_hit ?_
          | refine ex_block_miss rfl ?_
          | refine sg_store [] rfl rfl rfl (of_decide_eq_true rfl) ?_
          | refine sg_store [_] rfl rfl rfl (of_decide_eq_true rfl) ?_
          | refine sg_store [_, _] rfl rfl rfl (of_decide_eq_true rfl) ?_
          | refine sg_store [_, _, _] rfl rfl rfl (of_decide_eq_true rfl) ?_
          | refine sg_store [_, _, _, _] rfl rfl rfl (of_decide_eq_true rfl) ?_
          | refine sg_store [_, _, _, _, _] rfl rfl rfl (of_decide_eq_true rfl) ?_
          | refine sg_store [_, _, _, _, _, _] rfl rfl rfl (of_decide_eq_true rfl) ?_
          | refine sg_store [_, _, _, _, _, _, _] rfl rfl rfl (of_decide_eq_true rfl) ?_
          | (refine sg_guard_dec rfl rfl (fun hg => ?_) (fun hg => ?_) <;> first | (exfalso; omega) | (exact absurd rfl hg) | skip)
          | (refine sg_guard_ndec rfl rfl (fun hg => ?_) (fun hg => ?_) <;> first | (exfalso; omega) | (exact absurd rfl hg) | skip)
          | (refine sg_cond_dec rfl (fun hg => ?_) (fun hg => ?_) <;> first | (exfalso; omega) | (exact absurd rfl hg) | skip)
          | (refine sg_cond_ndec rfl (fun hg => ?_) (fun hg => ?_) <;> first | (exfalso; omega) | (exact absurd rfl hg) | skip)
          | refine sg_cond_not rfl (fun hg => ?_) (fun hg => ?_)
          | refine sg_cond rfl (fun hg => ?_) (fun hg => ?_))
        exact ex_mid (j + 1, setr o gs gl true) ⟨by omega, by omega, hA'⟩ (.cons rfl (.cons rfl (.cons rfl (.cons rfl .nil)))) (fun w hO => hO.front1)
      · obtain rfl : j = l.length := by omega
        rw [List.drop_length] at hA
        have ho := hA.end
        subst ho
        repeat' (first
          | refine sg_wo ?_
          | refine sg_ps (ps_move rfl) rfl ?_
          | refine sg_ps (ps_assign rfl) rfl ?_
          | refine sg_seq ?_
          | refine sg_region ?_
          | refine sg_nil ?_
          | refine sg_then ?_
          | refine sg_ps (ps_fieldAddr rfl) rfl ?_
          | refine sg_ps (ps_nilCheck rfl) rfl ?_
          | refine sg_load 0 rfl rfl rfl rfl ?_
          | refine sg_load 1 rfl rfl rfl rfl ?_
          | refine sg_load 2 rfl rfl rfl rfl ?_
          | refine sg_load 3 rfl rfl rfl rfl ?_
          | refine sg_load 4 rfl rfl rfl rfl ?_
          | refine sg_load 5 rfl rfl rfl rfl ?_
          | refine sg_load 6 rfl rfl rfl rfl ?_
          | refine sg_load 7 rfl rfl rfl rfl ?_
          | refine sg_ps (ps_add64 rfl rfl (by omega)) rfl ?_
          | refine sg_ps (ps_sub64 rfl rfl (by omega)) rfl ?_
          | refine sg_ps (ps_mul64 rfl rfl (by omega)) rfl ?_
          | refine sg_ps (ps_bin rfl rfl inferInstance) rfl ?_
          | refine sg_ps (ps_rem rfl rfl (by decide)) rfl ?_
          | refine sg_ps (ps_quo64 rfl rfl (by decide) (by omega)) rfl ?_
          | refine sg_ps (ps_not rfl) rfl ?_
          | refine sg_ps (ps_conv rfl) rfl ?_
          | refine sg_ps (ps_shl rfl rfl (by decide) rfl) rfl ?_
          | refine sg_ps (ps_shr rfl rfl (by decide) rfl) rfl ?_
          | refine sg_cond_t rfl ?_
          | refine sg_cond_f rfl ?_
          | refine sg_guard_yes rfl rfl ?_
          | refine sg_guard_nf rfl rfl rfl ?_
          | refine sg_guard_nt rfl rfl rfl ?_
          | refine sg_guard_nu rfl rfl rfl ?_
          | refine sg_ps (ps_pick_t rfl rfl) rfl ?_
          | refine sg_ps (ps_pick_f rfl rfl) rfl ?_
          | refine sg_ps (ps_len rfl) rfl ?_
          | refine sg_ps (ps_len_str rfl) rfl ?_
          | refine sg_ps (ps_extract rfl rfl) rfl ?_
          | refine sg_ps (ps_field rfl rfl) rfl ?_
          | refine sg_ps (ps_min2 rfl rfl) rfl ?_
          | refine sg_ps (ps_max2 rfl rfl) rfl ?_
          | refine sg_ps (ps_build rfl rfl) rfl ?_
          | refine sg_box rfl rfl (fun bx => ?_)
          | refine sg_ps (ps_indexAddr rfl rfl rfl (by omega)) rfl ?_
          | refine sg_ps (ps_indexAddr (j := 0) rfl rfl rfl (by omega)) rfl ?_
          | refine sg_ps (ps_indexAddr (j := 1) rfl rfl rfl (by omega)) rfl ?_
          | refine sg_ps (ps_indexAddr_arr rfl rfl rfl (by omega)) rfl ?_
          | refine sg_load_whole 0 rfl rfl rfl rfl ?_
          | refine sg_load_whole 1 rfl rfl rfl rfl ?_
          | refine sg_load_whole 2 rfl rfl rfl rfl ?_
          | refine sg_load_whole 3 rfl rfl rfl rfl ?_
          | refine sg_load_whole 4 rfl rfl rfl rfl ?_
          | refine sg_load_whole 5 rfl rfl rfl rfl ?_
          | refine sg_load_whole 6 rfl rfl rfl rfl ?_
          | refine sg_load_whole 7 rfl rfl rfl rfl ?_
          | refine sg_store_whole [] rfl rfl rfl rfl rfl ?_
          | refine sg_store_whole [_] rfl rfl rfl rfl rfl ?_
          | refine sg_store_whole [_, _] rfl rfl rfl rfl rfl ?_
          | refine sg_store_whole [_, _, _] rfl rfl rfl rfl rfl ?_
          | refine sg_store_whole [_, _, _, _] rfl rfl rfl rfl rfl ?_
          | refine sg_store_whole [_, _, _, _, _] rfl rfl rfl rfl rfl ?_
          | refine sg_store_whole [_, _, _, _, _, _] rfl rfl rfl rfl rfl ?_
          | refine sg_alloc rfl (fun al => ?_)
          | refine sg_block ?_
          | refine sg_skip ?_
          | refine sg_ret ?_
          | refine sg_exit ?_
          | refine ex_then_ret ?_
          | refine ex_then_exit ?_
          | refine ex_block_ret ?_
          | refine ex_block_normal ?_
          | refine ex_block_hit ?_
          | refine ex_block_miss rfl ?_
          | refine sg_store [] rfl rfl rfl (of_decide_eq_true rfl) ?_
          | refine sg_store [_] rfl rfl rfl (of_decide_eq_true rfl) ?_
          | refine sg_store [_, _] rfl rfl rfl (of_decide_eq_true rfl) ?_
          | refine sg_store [_, _, _] rfl rfl rfl (of_decide_eq_true rfl) ?_
          | refine sg_store [_, _, _, _] rfl rfl rfl (of_decide_eq_true rfl) ?_
          | refine sg_store [_, _, _, _, _] rfl rfl rfl (of_decide_eq_true rfl) ?_
          | refine sg_store [_, _, _, _, _, _] rfl rfl rfl (of_decide_eq_true rfl) ?_
          | refine sg_store [_, _, _, _, _, _, _] rfl rfl rfl (of_decide_eq_true rfl) ?_
          | (refine sg_guard_dec rfl rfl (fun hg => ?_) (fun hg => ?_) <;> first | (exfalso; omega) | (exact absurd rfl hg) | skip)
          | (refine sg_guard_ndec rfl rfl (fun hg => ?_) (fun hg => ?_) <;> first | (exfalso; omega) | (exact absurd rfl hg) | skip)
          | (refine sg_cond_dec rfl (fun hg => ?_) (fun hg => ?_) <;> first | (exfalso; omega) | (exact absurd rfl hg) | skip)
          | (refine sg_cond_ndec rfl (fun hg => ?_) (fun hg => ?_) <;> first | (exfalso; omega) | (exact absurd rfl hg) | skip)
          | refine sg_cond_not rfl (fun hg => ?_) (fun hg => ?_)
          | refine sg_cond rfl (fun hg => ?_) (fun hg => ?_))
        exact ex_mid () trivial (.cons rfl (.cons rfl .nil)) (fun w hO => hO.tail)
    · rintro - -
      obtain ⟨N', rfl⟩ : ∃ N', N = N' + 1 := ⟨N - 1, by omega⟩
      have hr : (XS.mk 0 (List.replicate (N' + 1) true)).runs = [(0, N' + 1)] := runs_full N' 0
      have hcnt : (List.replicate (N' + 1) true).count true = N' + 1 := by simp
      repeat' (first
        | refine sg_wo ?_
        | refine sg_ps (ps_move rfl) rfl ?_
        | refine sg_ps (ps_assign rfl) rfl ?_
        | refine sg_seq ?_
        | refine sg_region ?_
        | refine sg_nil ?_
        | refine sg_then ?_
        | refine sg_ps (ps_fieldAddr rfl) rfl ?_
        | refine sg_ps (ps_nilCheck rfl) rfl ?_
        | refine sg_load 0 rfl rfl rfl rfl ?_
        | refine sg_load 1 rfl rfl rfl rfl ?_
        | refine sg_load 2 rfl rfl rfl rfl ?_
        | refine sg_load 3 rfl rfl rfl rfl ?_
        | refine sg_load 4 rfl rfl rfl rfl ?_
        | refine sg_load 5 rfl rfl rfl rfl ?_
        | refine sg_load 6 rfl rfl rfl rfl ?_
        | refine sg_load 7 rfl rfl rfl rfl ?_
        | refine sg_ps (ps_add64 rfl rfl (by omega)) rfl ?_
        | refine sg_ps (ps_sub64 rfl rfl (by omega)) rfl ?_
        | refine sg_ps (ps_mul64 rfl rfl (by omega)) rfl ?_
        | refine sg_ps (ps_bin rfl rfl inferInstance) rfl ?_
        | refine sg_ps (ps_rem rfl rfl (by decide)) rfl ?_
        | refine sg_ps (ps_quo64 rfl rfl (by decide) (by omega)) rfl ?_
        | refine sg_ps (ps_not rfl) rfl ?_
        | refine sg_ps (ps_conv rfl) rfl ?_
        | refine sg_ps (ps_shl rfl rfl (by decide) rfl) rfl ?_
        | refine sg_ps (ps_shr rfl rfl (by decide) rfl) rfl ?_
        | refine sg_cond_t rfl ?_
        | refine sg_cond_f rfl ?_
        | refine sg_guard_yes rfl rfl ?_
        | refine sg_guard_nf rfl rfl rfl ?_
        | refine sg_guard_nt rfl rfl rfl ?_
        | refine sg_guard_nu rfl rfl rfl ?_
        | refine sg_ps (ps_pick_t rfl rfl) rfl ?_
        | refine sg_ps (ps_pick_f rfl rfl) rfl ?_
        | refine sg_ps (ps_len rfl) rfl ?_
        | refine sg_ps (ps_len_str rfl) rfl ?_
        | refine sg_ps (ps_extract rfl rfl) rfl ?_
        | refine sg_ps (ps_field rfl rfl) rfl ?_
        | refine sg_ps (ps_min2 rfl rfl) rfl ?_
        | refine sg_ps (ps_max2 rfl rfl) rfl ?_
        | refine sg_ps (ps_build rfl rfl) rfl ?_
        | refine sg_box rfl rfl (fun bx => ?_)
        | refine sg_ps (ps_indexAddr rfl rfl rfl (by omega)) rfl ?_
        | refine sg_ps (ps_indexAddr (j := 0) rfl rfl rfl (by omega)) rfl ?_
        | refine sg_ps (ps_indexAddr (j := 1) rfl rfl rfl (by omega)) rfl ?_
        | refine sg_ps (ps_indexAddr_arr rfl rfl rfl (by omega)) rfl ?_
        | refine sg_load_whole 0 rfl rfl rfl rfl ?_
        | refine sg_load_whole 1 rfl rfl rfl rfl ?_
        | refine sg_load_whole 2 rfl rfl rfl rfl ?_
        | refine sg_load_whole 3 rfl rfl rfl rfl ?_
        | refine sg_load_whole 4 rfl rfl rfl rfl ?_
        | refine sg_load_whole 5 rfl rfl rfl rfl ?_
        | refine sg_load_whole 6 rfl rfl rfl rfl ?_
        | refine sg_load_whole 7 rfl rfl rfl rfl ?_
        | refine sg_store_whole [] rfl rfl rfl rfl rfl ?_
        | refine sg_store_whole [_] rfl rfl rfl rfl rfl ?_
        | refine sg_store_whole [_, _] rfl rfl rfl rfl rfl ?_
        | refine sg_store_whole [_, _, _] rfl rfl rfl rfl rfl ?_
        | refine sg_store_whole [_, _, _, _] rfl rfl rfl rfl rfl ?_
        | refine sg_store_whole [_, _, _, _, _] rfl rfl rfl rfl rfl ?_
        | refine sg_store_whole [_, _, _, _, _, _] rfl rfl rfl rfl rfl ?_
        | refine sg_alloc rfl (fun al => ?_)
        | refine sg_block ?_
        | refine sg_skip ?_
        | refine sg_ret ?_
        | refine sg_exit ?_
        | refine ex_then_ret ?_
        | refine ex_then_exit ?_
        | refine ex_block_ret ?_
        | refine ex_block_normal ?_
        | refine ex_block_hit ?_
        | refine ex_block_miss rfl ?_
        | refine sg_store [] rfl rfl rfl (of_decide_eq_true rfl) ?_
        | refine sg_store [_] rfl rfl rfl (of_decide_eq_true rfl) ?_
        | refine sg_store [_, _] rfl rfl rfl (of_decide_eq_true rfl) ?_
        | refine sg_store [_, _, _] rfl rfl rfl (of_decide_eq_true rfl) ?_
        | refine sg_store [_, _, _, _] rfl rfl rfl (of_decide_eq_true rfl) ?_
        | refine sg_store [_, _, _, _, _] rfl rfl rfl (of_decide_eq_true rfl) ?_
        | refine sg_store [_, _, _, _, _, _] rfl rfl rfl (of_decide_eq_true rfl) ?_
        | refine sg_store [_, _, _, _, _, _, _] rfl rfl rfl (of_decide_eq_true rfl) ?_
        | (refine sg_guard_dec rfl rfl (fun hg => ?_) (fun hg => ?_) <;> first | (exfalso; omega) | (exact absurd rfl hg) | skip)
        | (refine sg_guard_ndec rfl rfl (fun hg => ?_) (fun hg => ?_) <;> first | (exfalso; omega) | (exact absurd rfl hg) | skip)
        | (refine sg_cond_dec rfl (fun hg => ?_) (fun hg => ?_) <;> first | (exfalso; omega) | (exact absurd rfl hg) | skip)
        | (refine sg_cond_ndec rfl (fun hg => ?_) (fun hg => ?_) <;> first | (exfalso; omega) | (exact absurd rfl hg) | skip)
        | refine sg_cond_not rfl (fun hg => ?_) (fun hg => ?_)
        | refine sg_cond rfl (fun hg => ?_) (fun hg => ?_))
      refine sg_call (holes_tri p ⟨0, List.replicate (N' + 1) true⟩ [old W]) rfl rfl (fun y _ => ?_)
      obtain ⟨a', c'⟩ := y
      dsimp only
      rw [hr, show [(0, N' + 1)].length = 1 from rfl]
      have hrd : Rd W [SpaceRep p ⟨0, List.replicate (N' + 1) true⟩, sown a' 1 c' 2 (hcells [(0, N' + 1)]), old W] a' (hcells [(0, N' + 1)]) := rd_sown 1 rfl fun _ _ h => h
      refine sg_own (L' := [SpaceRep p ⟨0, List.replicate (N' + 1) true⟩, sown a' 1 c' 2 (hcells [(0, N' + 1)]), old W]) (fun w hO => hO.front1) ?_
      refine sg_rd_some hrd (hcells_ne (by simp)) fun b ob ha => ?_
      have hra : Rd W [SpaceRep p ⟨0, List.replicate (N' + 1) true⟩, sown a' 1 c' 2 (hcells [(0, N' + 1)]), old W] (some ⟨b, ob + 0 * 2, none⟩) (hc (0, N' + 1)) := Rd.at2 (H := [(0, N' + 1)]) hrd ha 0 (by simp)
      subst ha
      repeat' (first
        | refine sg_wo ?_
        | refine sg_ps (ps_move rfl) rfl ?_
        | refine sg_ps (ps_assign rfl) rfl ?_
        | refine sg_seq ?_
        | refine sg_region ?_
        | refine sg_nil ?_
        | refine sg_then ?_
        | refine sg_ps (ps_fieldAddr rfl) rfl ?_
        | refine sg_ps (ps_nilCheck rfl) rfl ?_
        | refine sg_load 0 rfl rfl rfl rfl ?_
        | refine sg_load 1 rfl rfl rfl rfl ?_
        | refine sg_load 2 rfl rfl rfl rfl ?_
        | refine sg_load 3 rfl rfl rfl rfl ?_
        | refine sg_load 4 rfl rfl rfl rfl ?_
        | refine sg_load 5 rfl rfl rfl rfl ?_
        | refine sg_load 6 rfl rfl rfl rfl ?_
        | refine sg_load 7 rfl rfl rfl rfl ?_
        | refine sg_ps (ps_add64 rfl rfl (by omega)) rfl ?_
        | refine sg_ps (ps_sub64 rfl rfl (by omega)) rfl ?_
        | refine sg_ps (ps_mul64 rfl rfl (by omega)) rfl ?_
        | refine sg_ps (ps_bin rfl rfl inferInstance) rfl ?_
        | refine sg_ps (ps_rem rfl rfl (by decide)) rfl ?_
        | refine sg_ps (ps_quo64 rfl rfl (by decide) (by omega)) rfl ?_
        | refine sg_ps (ps_not rfl) rfl ?_
        | refine sg_ps (ps_conv rfl) rfl ?_
        | refine sg_ps (ps_shl rfl rfl (by decide) rfl) rfl ?_
        | refine sg_ps (ps_shr rfl rfl (by decide) rfl) rfl ?_
        | refine sg_cond_t rfl ?_
        | refine sg_cond_f rfl ?_
        | refine sg_guard_yes rfl rfl ?_
        | refine sg_guard_nf rfl rfl rfl ?_
        | refine sg_guard_nt rfl rfl rfl ?_
        | refine sg_guard_nu rfl rfl rfl ?_
        | refine sg_ps (ps_pick_t rfl rfl) rfl ?_
        | refine sg_ps (ps_pick_f rfl rfl) rfl ?_
        | refine sg_ps (ps_len rfl) rfl ?_
        | refine sg_ps (ps_len_str rfl) rfl ?_
        | refine sg_ps (ps_extract rfl rfl) rfl ?_
        | refine sg_ps (ps_field rfl rfl) rfl ?_
        | refine sg_ps (ps_min2 rfl rfl) rfl ?_
        | refine sg_ps (ps_max2 rfl rfl) rfl ?_
        | refine sg_ps (ps_build rfl rfl) rfl ?_
        | refine sg_box rfl rfl (fun bx => ?_)
        | refine sg_ps (ps_indexAddr rfl rfl rfl (by omega)) rfl ?_
        | refine sg_ps (ps_indexAddr (j := 0) rfl rfl rfl (by omega)) rfl ?_
        | refine sg_ps (ps_indexAddr (j := 1) rfl rfl rfl (by omega)) rfl ?_
        | refine sg_ps (ps_indexAddr_arr rfl rfl rfl (by omega)) rfl ?_
        | refine sg_load_whole 0 rfl rfl rfl rfl ?_
        | refine sg_load_whole 1 rfl rfl rfl rfl ?_
        | refine sg_load_whole 2 rfl rfl rfl rfl ?_
        | refine sg_load_whole 3 rfl rfl rfl rfl ?_
        | refine sg_load_whole 4 rfl rfl rfl rfl ?_
        | refine sg_load_whole 5 rfl rfl rfl rfl ?_
        | refine sg_load_whole 6 rfl rfl rfl rfl ?_
        | refine sg_load_whole 7 rfl rfl rfl rfl ?_
        | refine sg_store_whole [] rfl rfl rfl rfl rfl ?_
        | refine sg_store_whole [_] rfl rfl rfl rfl rfl ?_
        | refine sg_store_whole [_, _] rfl rfl rfl rfl rfl ?_
        | refine sg_store_whole [_, _, _] rfl rfl rfl rfl rfl ?_
        | refine sg_store_whole [_, _, _, _] rfl rfl rfl rfl rfl ?_
        | refine sg_store_whole [_, _, _, _, _] rfl rfl rfl rfl rfl ?_
        | refine sg_store_whole [_, _, _, _, _, _] rfl rfl rfl rfl rfl ?_
        | refine sg_alloc rfl (fun al => ?_)
        | refine sg_block ?_
        | refine sg_skip ?_
        | refine sg_ret ?_
        | refine sg_exit ?_
        | refine ex_then_ret ?_
        | refine ex_then_exit ?_
        | refine ex_block_ret ?_
        | refine ex_block_normal ?_
        | refine ex_block_hit ?_
        | refine ex_block_miss rfl ?_
        | refine sg_store [] rfl rfl rfl (of_decide_eq_true rfl) ?_
        | refine sg_store [_] rfl rfl rfl (of_decide_eq_true rfl) ?_
        | refine sg_store [_, _] rfl rfl rfl (of_decide_eq_true rfl) ?_
        | refine sg_store [_, _, _] rfl rfl rfl (of_decide_eq_true rfl) ?_
        | refine sg_store [_, _, _, _] rfl rfl rfl (of_decide_eq_true rfl) ?_
        | refine sg_store [_, _, _, _, _] rfl rfl rfl (of_decide_eq_true rfl) ?_
        | refine sg_store [_, _, _, _, _, _] rfl rfl rfl (of_decide_eq_true rfl) ?_
        | refine sg_store [_, _, _, _, _, _, _] rfl rfl rfl (of_decide_eq_true rfl) ?_
        | (refine sg_guard_dec rfl rfl (fun hg => ?_) (fun hg => ?_) <;> first | (exfalso; omega) | (exact absurd rfl hg) | skip)
        | (refine sg_guard_ndec rfl rfl (fun hg => ?_) (fun hg => ?_) <;> first | (exfalso; omega) | (exact absurd rfl hg) | skip)
        | (refine sg_cond_dec rfl (fun hg => ?_) (fun hg => ?_) <;> first | (exfalso; omega) | (exact absurd rfl hg) | skip)
        | (refine sg_cond_ndec rfl (fun hg => ?_) (fun hg => ?_) <;> first | (exfalso; omega) | (exact absurd rfl hg) | skip)
        | refine sg_cond_not rfl (fun hg => ?_) (fun hg => ?_)
        | refine sg_cond rfl (fun hg => ?_) (fun hg => ?_))
      refine sg_call (left_tri p ⟨0, List.replicate (N' + 1) true⟩ [sown (some ⟨b, ob, none⟩) 1 c' 2 (hcells [(0, N' + 1)]), old W]) rfl rfl (fun _ _ => ?_)
      dsimp only
      rw [hcnt]
      repeat' (first
        | refine sg_wo ?_
        | refine sg_ps (ps_move rfl) rfl ?_
        | refine sg_ps (ps_assign rfl) rfl ?_
        | refine sg_seq ?_
        | refine sg_region ?_
        | refine sg_nil ?_
        | refine sg_then ?_
        | refine sg_ps (ps_fieldAddr rfl) rfl ?_
        | refine sg_ps (ps_nilCheck rfl) rfl ?_
        | refine sg_load 0 rfl rfl rfl rfl ?_
        | refine sg_load 1 rfl rfl rfl rfl ?_
        | refine sg_load 2 rfl rfl rfl rfl ?_
        | refine sg_load 3 rfl rfl rfl rfl ?_
        | refine sg_load 4 rfl rfl rfl rfl ?_
        | refine sg_load 5 rfl rfl rfl rfl ?_
        | refine sg_load 6 rfl rfl rfl rfl ?_
        | refine sg_load 7 rfl rfl rfl rfl ?_
        | refine sg_ps (ps_add64 rfl rfl (by omega)) rfl ?_
        | refine sg_ps (ps_sub64 rfl rfl (by omega)) rfl ?_
        | refine sg_ps (ps_mul64 rfl rfl (by omega)) rfl ?_
        | refine sg_ps (ps_bin rfl rfl inferInstance) rfl ?_
        | refine sg_ps (ps_rem rfl rfl (by decide)) rfl ?_
        | refine sg_ps (ps_quo64 rfl rfl (by decide) (by omega)) rfl ?_
        | refine sg_ps (ps_not rfl) rfl ?_
        | refine sg_ps (ps_conv rfl) rfl ?_
        | refine sg_ps (ps_shl rfl rfl (by decide) rfl) rfl ?_
        | refine sg_ps (ps_shr rfl rfl (by decide) rfl) rfl ?_
        | refine sg_cond_t rfl ?_
        | refine sg_cond_f rfl ?_
        | refine sg_guard_yes rfl rfl ?_
        | refine sg_guard_nf rfl rfl rfl ?_
        | refine sg_guard_nt rfl rfl rfl ?_
        | refine sg_guard_nu rfl rfl rfl ?_
        | refine sg_ps (ps_pick_t rfl rfl) rfl ?_
        | refine sg_ps (ps_pick_f rfl rfl) rfl ?_
        | refine sg_ps (ps_len rfl) rfl ?_
        | refine sg_ps (ps_len_str rfl) rfl ?_
        | refine sg_ps (ps_extract rfl rfl) rfl ?_
        | refine sg_ps (ps_field rfl rfl) rfl ?_
        | refine sg_ps (ps_min2 rfl rfl) rfl ?_
        | refine sg_ps (ps_max2 rfl rfl) rfl ?_
        | refine sg_ps (ps_build rfl rfl) rfl ?_
        | refine sg_box rfl rfl (fun bx => ?_)
        | refine sg_ps (ps_indexAddr rfl rfl rfl (by omega)) rfl ?_
        | refine sg_ps (ps_indexAddr (j := 0) rfl rfl rfl (by omega)) rfl ?_
        | refine sg_ps (ps_indexAddr (j := 1) rfl rfl rfl (by omega)) rfl ?_
        | refine sg_ps (ps_indexAddr_arr rfl rfl rfl (by omega)) rfl ?_
        | refine sg_load_whole 0 rfl rfl rfl rfl ?_
        | refine sg_load_whole 1 rfl rfl rfl rfl ?_
        | refine sg_load_whole 2 rfl rfl rfl rfl ?_
        | refine sg_load_whole 3 rfl rfl rfl rfl ?_
        | refine sg_load_whole 4 rfl rfl rfl rfl ?_
        | refine sg_load_whole 5 rfl rfl rfl rfl ?_
        | refine sg_load_whole 6 rfl rfl rfl rfl ?_
        | refine sg_load_whole 7 rfl rfl rfl rfl ?_
        | refine sg_store_whole [] rfl rfl rfl rfl rfl ?_
        | refine sg_store_whole [_] rfl rfl rfl rfl rfl ?_
        | refine sg_store_whole [_, _] rfl rfl rfl rfl rfl ?_
        | refine sg_store_whole [_, _, _] rfl rfl rfl rfl rfl ?_
        | refine sg_store_whole [_, _, _, _] rfl rfl rfl rfl rfl ?_
        | refine sg_store_whole [_, _, _, _, _] rfl rfl rfl rfl rfl ?_
        | refine sg_store_whole [_, _, _, _, _, _] rfl rfl rfl rfl rfl ?_
        | refine sg_alloc rfl (fun al => ?_)
        | refine sg_block ?_
        | refine sg_skip ?_
        | refine sg_ret ?_
        | refine sg_exit ?_
        | refine ex_then_ret ?_
        | refine ex_then_exit ?_
        | refine ex_block_ret ?_
        | refine ex_block_normal ?_
        | refine ex_block_hit ?_
        | refine ex_block_miss rfl ?_
        | refine sg_store [] rfl rfl rfl (of_decide_eq_true rfl) ?_
        | refine sg_store [_] rfl rfl rfl (of_decide_eq_true rfl) ?_
        | refine sg_store [_, _] rfl rfl rfl (of_decide_eq_true rfl) ?_
        | refine sg_store [_, _, _] rfl rfl rfl (of_decide_eq_true rfl) ?_
        | refine sg_store [_, _, _, _] rfl rfl rfl (of_decide_eq_true rfl) ?_
        | refine sg_store [_, _, _, _, _] rfl rfl rfl (of_decide_eq_true rfl) ?_
        | refine sg_store [_, _, _, _, _, _] rfl rfl rfl (of_decide_eq_true rfl) ?_
        | refine sg_store [_, _, _, _, _, _, _] rfl rfl rfl (of_decide_eq_true rfl) ?_
        | (refine sg_guard_dec rfl rfl (fun hg => ?_) (fun hg => ?_) <;> first | (exfalso; omega) | (exact absurd rfl hg) | skip)
        | (refine sg_guard_ndec rfl rfl (fun hg => ?_) (fun hg => ?_) <;> first | (exfalso; omega) | (exact absurd rfl hg) | skip)
        | (refine sg_cond_dec rfl (fun hg => ?_) (fun hg => ?_) <;> first | (exfalso; omega) | (exact absurd rfl hg) | skip)
        | (refine sg_cond_ndec rfl (fun hg => ?_) (fun hg => ?_) <;> first | (exfalso; omega) | (exact absurd rfl hg) | skip)
        | refine sg_cond_not rfl (fun hg => ?_) (fun hg => ?_)
        | refine sg_cond rfl (fun hg => ?_) (fun hg => ?_))
      refine sg_load_agg_rd rfl rfl hra rfl ?_
      repeat' (first
        | refine sg_wo ?_
        | refine sg_ps (ps_move rfl) rfl ?_
        | refine sg_ps (ps_assign rfl) rfl ?_
        | refine sg_seq ?_
        | refine sg_region ?_
        | refine sg_nil ?_
        | refine sg_then ?_
        | refine sg_ps (ps_fieldAddr rfl) rfl ?_
        | refine sg_ps (ps_nilCheck rfl) rfl ?_
        | refine sg_load 0 rfl rfl rfl rfl ?_
        | refine sg_load 1 rfl rfl rfl rfl ?_
        | refine sg_load 2 rfl rfl rfl rfl ?_
        | refine sg_load 3 rfl rfl rfl rfl ?_
        | refine sg_load 4 rfl rfl rfl rfl ?_
        | refine sg_load 5 rfl rfl rfl rfl ?_
        | refine sg_load 6 rfl rfl rfl rfl ?_
        | refine sg_load 7 rfl rfl rfl rfl ?_
        | refine sg_ps (ps_add64 rfl rfl (by omega)) rfl ?_
        | refine sg_ps (ps_sub64 rfl rfl (by omega)) rfl ?_
        | refine sg_ps (ps_mul64 rfl rfl (by omega)) rfl ?_
        | refine sg_ps (ps_bin rfl rfl inferInstance) rfl ?_
        | refine sg_ps (ps_rem rfl rfl (by decide)) rfl ?_
        | refine sg_ps (ps_quo64 rfl rfl (by decide) (by omega)) rfl ?_
        | refine sg_ps (ps_not rfl) rfl ?_
        | refine sg_ps (ps_conv rfl) rfl ?_
        | refine sg_ps (ps_shl rfl rfl (by decide) rfl) rfl ?_
        | refine sg_ps (ps_shr rfl rfl (by decide) rfl) rfl ?_
        | refine sg_cond_t rfl ?_
        | refine sg_cond_f rfl ?_
        | refine sg_guard_yes rfl rfl ?_
        | refine sg_guard_nf rfl rfl rfl ?_
        | refine sg_guard_nt rfl rfl rfl ?_
        | refine sg_guard_nu rfl rfl rfl ?_
        | refine sg_ps (ps_pick_t rfl rfl) rfl ?_
        | refine sg_ps (ps_pick_f rfl rfl) rfl ?_
        | refine sg_ps (ps_len rfl) rfl ?_
        | refine sg_ps (ps_len_str rfl) rfl ?_
        | refine sg_ps (ps_extract rfl rfl) rfl ?_
        | refine sg_ps (ps_field rfl rfl) rfl ?_
        | refine sg_ps (ps_min2 rfl rfl) rfl ?_
        | refine sg_ps (ps_max2 rfl rfl) rfl ?_
        | refine sg_ps (ps_build rfl rfl) rfl ?_
        | refine sg_box rfl rfl (fun bx => ?_)
        | refine sg_ps (ps_indexAddr rfl rfl rfl (by omega)) rfl ?_
        | refine sg_ps (ps_indexAddr (j := 0) rfl rfl rfl (by omega)) rfl ?_
        | refine sg_ps (ps_indexAddr (j := 1) rfl rfl rfl (by omega)) rfl ?_
        | refine sg_ps (ps_indexAddr_arr rfl rfl rfl (by omega)) rfl ?_
        | refine sg_load_whole 0 rfl rfl rfl rfl ?_
        | refine sg_load_whole 1 rfl rfl rfl rfl ?_
        | refine sg_load_whole 2 rfl rfl rfl rfl ?_
        | refine sg_load_whole 3 rfl rfl rfl rfl ?_
        | refine sg_load_whole 4 rfl rfl rfl rfl ?_
        | refine sg_load_whole 5 rfl rfl rfl rfl ?_
        | refine sg_load_whole 6 rfl rfl rfl rfl ?_
        | refine sg_load_whole 7 rfl rfl rfl rfl ?_
        | refine sg_store_whole [] rfl rfl rfl rfl rfl ?_
        | refine sg_store_whole [_] rfl rfl rfl rfl rfl ?_
        | refine sg_store_whole [_, _] rfl rfl rfl rfl rfl ?_
        | refine sg_store_whole [_, _, _] rfl rfl rfl rfl rfl ?_
        | refine sg_store_whole [_, _, _, _] rfl rfl rfl rfl rfl ?_
        | refine sg_store_whole [_, _, _, _, _] rfl rfl rfl rfl rfl ?_
        | refine sg_store_whole [_, _, _, _, _, _] rfl rfl rfl rfl rfl ?_
        | refine sg_alloc rfl (fun al => ?_)
        | refine sg_block ?_
        | refine sg_skip ?_
        | refine sg_ret ?_
        | refine sg_exit ?_
        | refine ex_then_ret ?_
        | refine ex_then_exit ?_
        | refine ex_block_ret ?_
        | refine ex_block_normal ?_
        | refine ex_block_hit ?_
        | refine ex_block_miss rfl ?_
        | refine sg_store [] rfl rfl rfl (of_decide_eq_true rfl) ?_
        | refine sg_store [_] rfl rfl rfl (of_decide_eq_true rfl) ?_
        | refine sg_store [_, _] rfl rfl rfl (of_decide_eq_true rfl) ?_
        | refine sg_store [_, _, _] rfl rfl rfl (of_decide_eq_true rfl) ?_
        | refine sg_store [_, _, _, _] rfl rfl rfl (of_decide_eq_true rfl) ?_
        | refine sg_store [_, _, _, _, _] rfl rfl rfl (of_decide_eq_true rfl) ?_
        | refine sg_store [_, _, _, _, _, _] rfl rfl rfl (of_decide_eq_true rfl) ?_
        | refine sg_store [_, _, _, _, _, _, _] rfl rfl rfl (of_decide_eq_true rfl) ?_
        | (refine sg_guard_dec rfl rfl (fun hg => ?_) (fun hg => ?_) <;> first | (exfalso; omega) | (exact absurd rfl hg) | skip)
        | (refine sg_guard_ndec rfl rfl (fun hg => ?_) (fun hg => ?_) <;> first | (exfalso; omega) | (exact absurd rfl hg) | skip)
        | (refine sg_cond_dec rfl (fun hg => ?_) (fun hg => ?_) <;> first | (exfalso; omega) | (exact absurd rfl hg) | skip)
        | (refine sg_cond_ndec rfl (fun hg => ?_) (fun hg => ?_) <;> first | (exfalso; omega) | (exact absurd rfl hg) | skip)
        | refine sg_cond_not rfl (fun hg => ?_) (fun hg => ?_)
        | refine sg_cond rfl (fun hg => ?_) (fun hg => ?_))
      refine sg_ps (ps_eqH (a := 0) (b := ((N' + 1 : Nat) : Int)) (by omega) (by omega) rfl rfl) rfl ?_
      repeat' (first
        | refine sg_wo ?_
        | refine sg_ps (ps_move rfl) rfl ?_
        | refine sg_ps (ps_assign rfl) rfl ?_
        | refine sg_seq ?_
        | refine sg_region ?_
        | refine sg_nil ?_
        | refine sg_then ?_
        | refine sg_ps (ps_fieldAddr rfl) rfl ?_
        | refine sg_ps (ps_nilCheck rfl) rfl ?_
        | refine sg_load 0 rfl rfl rfl rfl ?_
        | refine sg_load 1 rfl rfl rfl rfl ?_
        | refine sg_load 2 rfl rfl rfl rfl ?_
        | refine sg_load 3 rfl rfl rfl rfl ?_
        | refine sg_load 4 rfl rfl rfl rfl ?_
        | refine sg_load 5 rfl rfl rfl rfl ?_
        | refine sg_load 6 rfl rfl rfl rfl ?_
        | refine sg_load 7 rfl rfl rfl rfl ?_
        | refine sg_ps (ps_add64 rfl rfl (by omega)) rfl ?_
        | refine sg_ps (ps_sub64 rfl rfl (by omega)) rfl ?_
        | refine sg_ps (ps_mul64 rfl rfl (by omega)) rfl ?_
        | refine sg_ps (ps_bin rfl rfl inferInstance) rfl ?_
        | refine sg_ps (ps_rem rfl rfl (by decide)) rfl ?_
        | refine sg_ps (ps_quo64 rfl rfl (by decide) (by omega)) rfl ?_
        | refine sg_ps (ps_not rfl) rfl ?_
        | refine sg_ps (ps_conv rfl) rfl ?_
        | refine sg_ps (ps_shl rfl rfl (by decide) rfl) rfl ?_
        | refine sg_ps (ps_shr rfl rfl (by decide) rfl) rfl ?_
        | refine sg_cond_t rfl ?_
        | refine sg_cond_f rfl ?_
        | refine sg_guard_yes rfl rfl ?_
        | refine sg_guard_nf rfl rfl rfl ?_
        | refine sg_guard_nt rfl rfl rfl ?_
        | refine sg_guard_nu rfl rfl rfl ?_
        | refine sg_ps (ps_pick_t rfl rfl) rfl ?_
        | refine sg_ps (ps_pick_f rfl rfl) rfl ?_
        | refine sg_ps (ps_len rfl) rfl ?_
        | refine sg_ps (ps_len_str rfl) rfl ?_
        | refine sg_ps (ps_extract rfl rfl) rfl ?_
        | refine sg_ps (ps_field rfl rfl) rfl ?_
        | refine sg_ps (ps_min2 rfl rfl) rfl ?_
        | refine sg_ps (ps_max2 rfl rfl) rfl ?_
        | refine sg_ps (ps_build rfl rfl) rfl ?_
        | refine sg_box rfl rfl (fun bx => ?_)
        | refine sg_ps (ps_indexAddr rfl rfl rfl (by omega)) rfl ?_
        | refine sg_ps (ps_indexAddr (j := 0) rfl rfl rfl (by omega)) rfl ?_
        | refine sg_ps (ps_indexAddr (j := 1) rfl rfl rfl (by omega)) rfl ?_
        | refine sg_ps (ps_indexAddr_arr rfl rfl rfl (by omega)) rfl ?_
        | refine sg_load_whole 0 rfl rfl rfl rfl ?_
        | refine sg_load_whole 1 rfl rfl rfl rfl ?_
        | refine sg_load_whole 2 rfl rfl rfl rfl ?_
        | refine sg_load_whole 3 rfl rfl rfl rfl ?_
        | refine sg_load_whole 4 rfl rfl rfl rfl ?_
        | refine sg_load_whole 5 rfl rfl rfl rfl ?_
        | refine sg_load_whole 6 rfl rfl rfl rfl ?_
        | refine sg_load_whole 7 rfl rfl rfl rfl ?_
        | refine sg_store_whole [] rfl rfl rfl rfl rfl ?_
        | refine sg_store_whole [_] rfl rfl rfl rfl rfl ?_
        | refine sg_store_whole [_, _] rfl rfl rfl rfl rfl ?_
        | refine sg_store_whole [_, _, _] rfl rfl rfl rfl rfl ?_
        | refine sg_store_whole [_, _, _, _] rfl rfl rfl rfl rfl ?_
        | refine sg_store_whole [_, _, _, _, _] rfl rfl rfl rfl rfl ?_
        | refine sg_store_whole [_, _, _, _, _, _] rfl rfl rfl rfl rfl ?_
        | refine sg_alloc rfl (fun al => ?_)
        | refine sg_block ?_
        | refine sg_skip ?_
        | refine sg_ret ?_
        | refine sg_exit ?_
        | refine ex_then_ret ?_
        | refine ex_then_exit ?_
        | refine ex_block_ret ?_
        | refine ex_block_normal ?_
        | refine ex_block_hit ?_
        | refine ex_block_miss rfl ?_
        | refine sg_store [] rfl rfl rfl (of_decide_eq_true rfl) ?_
        | refine sg_store [_] rfl rfl rfl (of_decide_eq_true rfl) ?_
        | refine sg_store [_, _] rfl rfl rfl (of_decide_eq_true rfl) ?_
        | refine sg_store [_, _, _] rfl rfl rfl (of_decide_eq_true rfl) ?_
        | refine sg_store [_, _, _, _] rfl rfl rfl (of_decide_eq_true rfl) ?_
        | refine sg_store [_, _, _, _, _] rfl rfl rfl (of_decide_eq_true rfl) ?_
        | refine sg_store [_, _, _, _, _, _] rfl rfl rfl (of_decide_eq_true rfl) ?_
        | refine sg_store [_, _, _, _, _, _, _] rfl rfl rfl (of_decide_eq_true rfl) ?_
        | (refine sg_guard_dec rfl rfl (fun hg => ?_) (fun hg => ?_) <;> first | (exfalso; omega) | (exact absurd rfl hg) | skip)
        | (refine sg_guard_ndec rfl rfl (fun hg => ?_) (fun hg => ?_) <;> first | (exfalso; omega) | (exact absurd rfl hg) | skip)
        | (refine sg_cond_dec rfl (fun hg => ?_) (fun hg => ?_) <;> first | (exfalso; omega) | (exact absurd rfl hg) | skip)
        | (refine sg_cond_ndec rfl (fun hg => ?_) (fun hg => ?_) <;> first | (exfalso; omega) | (exact absurd rfl hg) | skip)
        | refine sg_cond_not rfl (fun hg => ?_) (fun hg => ?_)
        | refine sg_cond rfl (fun hg => ?_) (fun hg => ?_))
      exact ex_ret1 rfl rfl () rfl trivial (fun w hO => hO.tail.tail)
theorem extentApart_opened (W : World) (vs : List Value) (h : Opens Try.prog W Try.f3.params.toList vs) :
    Tri Try.prog W 3 vs [old W] (X := Unit) (fun _ => .bool true) (fun _ => True) (fun _ => [old W]) := by
  obtain ⟨a2, c2, vs, rfl, e2, h⟩ := Opens.cons (RT.int .i64 Try.underlying3) h
  obtain ⟨a1, c1, vs, rfl, e1, h⟩ := Opens.cons (RT.slice 1 8 Try.underlying22 (by kernel_rfl) (by kernel_rfl) (RT.int .i64 Try.underlying3)) h
  obtain rfl := Opens.nil h
  obtain ⟨rfl, _⟩ := e2
  obtain ⟨ad1, cap1, rfl, _, _, h1, r1⟩ := SliceE.one (.int .i64) (fun x vs h => h.1) e1
  exact extentApart_tri a2 a1 ad1 cap1 r1 (by omega)
set_option maxRecDepth 100000 in
theorem extentApart_lifted (os : Os) (started : os.Started) (H : Type) (enc : TypeId × Value → H) :
    ReturnsInHanded {} Try.checked os 3 .any (Rows.extentApartSpec.pre6 enc Try.prog Try.f3 Rows.extentApartRow.domain false) (Rows.extentApartSpec.post enc Try.prog Try.f3 false true false false) :=
  lift (tb := 4) started law_own law_laidOut (by kernel_rfl) Try.func3
    (ChangeSpec.witness6 (enc := enc) (C := Try.checked) false ⟨#[], #[.int .i64 0, .slice none 0 0], []⟩ 8 (by kernel_rfl) (by kernel_rfl) (by kernel_rfl) (by kernel_rfl))
    rfl rfl Try.underlying4 (by kernel_rfl) (fun ds h => by
      match ds, h with
      | [d1, d2], _ => rfl) extentApart_opened
theorem extentApart_over : Rows.extentApartRow.holds Try.pinned (OpenSpec.ofChange Rows.extentApartSpec) :=
  OpenClaim.holds_of_wide 3 Try.f3 rfl rfl rfl rfl rfl rfl rfl ⟨rfl, rfl, rfl, rfl, rfl⟩ rfl rfl rfl rfl rfl (by kernel_rfl) Try.func3 (by kernel_rfl)
    (of_decide_eq_true (by kernel_rfl)) (by unfold Func.isWrapper; first | (rw [if_pos (by decide +kernel)]; kernel_rfl) | (rw [if_neg (by decide +kernel)]; exact ⟨rfl, rfl⟩))
    (fun os started H enc _ => extentApart_lifted os started H enc)
theorem extentApart_proved : Rows.ExtentApartSaid := extentApart_over
#print axioms extentApart_proved
end Go.Proofs.Ytcchgkjcoknkcaa
