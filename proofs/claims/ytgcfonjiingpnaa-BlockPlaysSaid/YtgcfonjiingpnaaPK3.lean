/- Package pack: Text, To, and the Out. -/
import Derived.Test.YtgcfonjiingpnaaPK2
namespace Go.Proofs.Ytgcfonjiingpnaa
set_option linter.unusedVariables false
set_option linter.unusedSimpArgs false
set_option linter.unusedSectionVars false
set_option linter.unnecessarySimpa false
open Go Go.Proofs
set_option maxRecDepth 20000
set_option maxHeartbeats 4000000
attribute [local irreducible] SG WC WO W1 WD PS Rd Tri Exit.then Exit.inBlock bodyPost calmQ Mid sadd
variable {W : World} {n : Nat} {F : Fr} {L : List HP} {G : Act → World → Prop}

theorem map_ne {bs : List UInt8} (h : 0 < bs.length) : bs.map bv ≠ [] := by
  intro e; have := congrArg List.length e; simp at this; rw [this] at h; simp at h
theorem i64_shl8 (x : Nat) (h : x < 2 ^ 32) : IntKind.i64.wrap ((x : Int) * 2 ^ min (Int.toNat 8) IntKind.i64.bits) = ((x * 256 : Nat) : Int) := by
  have e : ((x : Int) * 2 ^ min (Int.toNat 8) IntKind.i64.bits) = ((x * 256 : Nat) : Int) := by
    rw [Int.natCast_mul]; rfl
  rw [e, IntWalk.i64_in _ (by omega)]
theorem i64_or8 (x y : Nat) (h : x < 2 ^ 32) (hy : y < 256) : IntKind.i64.wrap ((BitVec.ofInt IntKind.i64.bits ((x * 256 : Nat) : Int) ||| BitVec.ofInt IntKind.i64.bits (y : Int)).toNat : Int) = ((x * 256 + y : Nat) : Int) := by
  have e : (BitVec.ofInt IntKind.i64.bits ((x * 256 : Nat) : Int) ||| BitVec.ofInt IntKind.i64.bits (y : Int)).toNat = x * 256 + y := by
    show (BitVec.ofInt 64 ((x * 256 : Nat) : Int) ||| BitVec.ofInt 64 (y : Int)).toNat = x * 256 + y
    rw [BitVec.ofInt_natCast, BitVec.ofInt_natCast, BitVec.toNat_or, BitVec.toNat_ofNat, BitVec.toNat_ofNat, Nat.mod_eq_of_lt (by omega), Nat.mod_eq_of_lt (by omega)]
    have := Nat.two_pow_add_eq_or_of_lt (i := 8) (b := y) (by omega) x
    rw [show 2 ^ 8 * x = x * 256 by omega] at this
    exact this.symm
  rw [e, IntWalk.i64_in _ (by omega)]
theorem i64_u8 (b : UInt8) : IntKind.i64.wrap (b.toNat : Int) = ((b.toNat : Nat) : Int) := by
  have := b.toNat_lt
  rw [IntWalk.i64_in _ (by omega)]
theorem unbe2 {bs : List UInt8} (h : 2 ≤ bs.length) : unbe (bs.take 2) = bs[0].toNat * 256 + bs[1].toNat := by
  rw [unbe_take_succ (j := 1) (by omega), unbe_take_succ (j := 0) (by omega)]; simp [unbe]
theorem long_tri (i : Nat) (a : Option Addr) (c : Nat) (bad : Bool) (bs : List UInt8) (h2 : 2 ≤ bs.length) (R : List HP) :
    Tri Try.prog W 51 [dp i] (blk i (icells a bs.length c bad) :: rsl a (bs.map bv) :: R) (X := Unit) (fun _ => i64 (unbe (bs.take 2))) (fun _ => True) (fun _ => blk i (icells a bs.length c bad) :: rsl a (bs.map bv) :: R) := by
  refine tri_enter1 Try.func51 rfl Try.ntmps51 rfl ?_
  refine sg_rd_some (rd_rsl_self 1 rfl) (map_ne (by omega)) ?_
  rintro b o rfl
  have hr0 : Rd W (blk i (icells (some ⟨b, o, none⟩) bs.length c bad) :: rsl (some ⟨b, o, none⟩) (bs.map bv) :: R) (some ⟨b, o + 0 * 1, none⟩) [bv bs[0]] := (rd_rsl_self 1 rfl).get 0 (bv_get (by omega))
  have hr1 : Rd W (blk i (icells (some ⟨b, o, none⟩) bs.length c bad) :: rsl (some ⟨b, o, none⟩) (bs.map bv) :: R) (some ⟨b, o + 1 * 1, none⟩) [bv bs[1]] := (rd_rsl_self 1 rfl).get 1 (bv_get (by omega))
  have h0 := bs[0].toNat_lt
  have h1 := bs[1].toNat_lt
  repeat' (first | refine sg_wo ?_ | refine sg_ps (ps_assign rfl) rfl ?_ | refine sg_seq ?_ | refine sg_region ?_ | refine sg_nil ?_ | refine sg_then ?_)
  refine sg_drawK (blk i (icells (some ⟨b, o, none⟩) bs.length c bad) :: rsl (some ⟨b, o, none⟩) (bs.map bv) :: R) [0, 1, 2, 8, 9, 10, 3, 4, 5, 6, 7, 11, 12, 13, 14, 15, 16] (by kernel_rfl) (by kernel_rfl) (fun w hO => hO) ?_
  repeat' (first | refine sk_pure rfl rfl (ps_move rfl) rfl ?_ | refine sk_pure rfl rfl (ps_nilCheck rfl) rfl ?_ | refine sk_pure rfl rfl (ps_fieldAddr rfl) rfl ?_ | refine sk_pure rfl rfl (ps_indexAddr (j := 0) rfl rfl rfl (by omega)) rfl ?_ | refine sk_load 0 rfl rfl rfl rfl rfl ?_)
  refine sk_load_rd rfl rfl hr0 rfl ?_
  repeat' (first | refine sk_pure rfl rfl (ps_conv rfl) rfl ?_ | refine sk_pure rfl rfl (ps_shl rfl rfl (by decide) rfl) rfl ?_ | refine sk_pure rfl rfl (ps_indexAddr (j := 1) rfl rfl rfl (by omega)) rfl ?_ | refine sk_load 0 rfl rfl rfl rfl rfl ?_)
  refine sk_load_rd rfl rfl hr1 rfl ?_
  repeat' (first | refine sk_nil ?_ | refine sk_pure rfl rfl (ps_assign rfl) rfl ?_ | refine sk_pure rfl rfl (ps_bin rfl rfl inferInstance) rfl ?_ | refine sk_pure rfl rfl (ps_conv rfl) rfl ?_)
  repeat' (first | refine sg_then ?_ | refine sg_ret ?_)
  rw [i64_u8, i64_u8, i64_shl8 _ (by omega), i64_or8 _ _ (by omega) h1, ← unbe2 h2]
  exact ex_ret1 rfl rfl () rfl trivial (fun w hO => hO)
theorem inText_nil (R : List HP) : Tri Try.prog W 44 [.pointer none] R (X := Unit) (fun _ => .string (strOf [])) (fun _ => True) (fun _ => R) := by
  refine tri_enter1 Try.func44 rfl Try.ntmps44 rfl ?_
  repeat' (first | refine sg_wo ?_ | refine sg_ps (ps_assign rfl) rfl ?_ | refine sg_seq ?_ | refine sg_region ?_ | refine sg_nil ?_ | refine sg_then ?_)
  refine sg_drawK R [0, 1, 2, 3, 4, 5, 6, 7, 8, 9, 10, 11, 12, 13, 14, 15, 16, 17, 18, 19, 22, 20, 21, 23, 24, 25, 26] (by kernel_rfl) (by kernel_rfl) (fun w hO => hO) ?_
  repeat' (first | refine sk_nil ?_ | refine sk_pure rfl rfl (ps_move rfl) rfl ?_ | refine sk_pure rfl rfl (ps_bin rfl rfl inferInstance) rfl ?_ | refine sk_pure rfl rfl (ps_pick_t rfl rfl) rfl ?_ | refine sk_no rfl rfl rfl rfl rfl ?_ | refine sk_eff rfl rfl ?_ | refine sg_guard_nt rfl rfl rfl ?_ | refine sk_back (fun w hO => hO) ?_)
  repeat' (first | refine sg_wo ?_ | refine sg_ps (ps_move rfl) rfl ?_ | refine sg_ps (ps_assign rfl) rfl ?_ | refine sg_seq ?_ | refine sg_region ?_ | refine sg_nil ?_ | refine sg_then ?_ | refine sg_ps (ps_bin rfl rfl inferInstance) rfl ?_ | refine sg_cond_t rfl ?_ | refine sg_cond_f rfl ?_ | refine sg_skip ?_ | refine sg_ret ?_ | refine ex_then_ret ?_)
  exact ex_ret1 rfl rfl () rfl trivial (fun w hO => hO)
theorem IS.text_bad {S : IS} (h : S.bad = true ∨ S.bs.length < 2 ∨ S.bs.length < 2 + S.long) : S.text = ([], S.spoil) := if_pos h
theorem IS.text_ok {S : IS} (h : ¬ (S.bad = true ∨ S.bs.length < 2 ∨ S.bs.length < 2 + S.long)) : S.text = ((S.bs.drop 2).take S.long, S.fwd (2 + S.long)) := if_neg h
theorem inText_tri (i : Nat) (S : IS) (R : List HP) : Tri Try.prog W 44 [dp i] (InRep i S :: R) (X := Unit) (fun _ => .string (strOf S.text.1)) (fun _ => True) (fun _ => InRep i S.text.2 :: R) := by
  refine tri_enter1 Try.func44 rfl Try.ntmps44 rfl ?_
  refine InRep.open fun a c hc hc2 => ?_
  obtain ⟨bs, bad⟩ := S
  dsimp only at hc ⊢
  cases bad
  · by_cases h0 : bs.length < 2
    · have e : IS.text ⟨bs, false⟩ = ([], ⟨bs, true⟩) := IS.text_bad (.inr (.inl h0))
      rw [e]
      repeat' (first | refine sg_wo ?_ | refine sg_ps (ps_assign rfl) rfl ?_ | refine sg_seq ?_ | refine sg_region ?_ | refine sg_nil ?_ | refine sg_then ?_)
      refine sg_drawK (blk i (icells a bs.length c false) :: rsl a (bs.map bv) :: R) [0, 1, 2, 3, 4, 5, 6, 7, 8, 9, 10, 11, 12, 13, 14, 15, 16, 17, 18, 19, 22, 20, 21, 23, 24, 25, 26] (by kernel_rfl) (by kernel_rfl) (fun w hO => hO) ?_
      repeat' (first | refine sk_pure rfl rfl (ps_move rfl) rfl ?_ | refine sk_pure rfl rfl (ps_bin rfl rfl inferInstance) rfl ?_ | refine sk_pure rfl rfl (ps_pick_f rfl rfl) rfl ?_ | refine sk_pure_g rfl rfl rfl rfl (ps_move rfl) rfl ?_ | refine sk_pure_g rfl rfl rfl rfl (ps_nilCheck rfl) rfl ?_ | refine sk_pure_g rfl rfl rfl rfl (ps_fieldAddr rfl) rfl ?_ | refine sk_pure_g rfl rfl rfl rfl (ps_bin rfl rfl inferInstance) rfl ?_ | refine sk_pure_g rfl rfl rfl rfl (ps_len rfl) rfl ?_ | refine sk_load_g 0 rfl rfl rfl rfl rfl rfl rfl ?_)
      refine sg_know 19 rfl (fun _ => ?_) (fun h => absurd (of_decide_eq_false h) (by omega))
      repeat' (first | refine sk_nil ?_ | refine sk_pure rfl rfl (ps_pick_t rfl rfl) rfl ?_ | refine sk_no rfl rfl rfl rfl rfl ?_ | refine sk_eff rfl rfl ?_ | refine sg_guard_nt rfl rfl rfl ?_ | refine sk_back (fun w hO => hO) ?_)
      repeat' (first | refine sg_wo ?_ | refine sg_ps (ps_move rfl) rfl ?_ | refine sg_ps (ps_assign rfl) rfl ?_ | refine sg_seq ?_ | refine sg_region ?_ | refine sg_nil ?_ | refine sg_then ?_ | refine sg_ps (ps_fieldAddr rfl) rfl ?_ | refine sg_ps (ps_nilCheck rfl) rfl ?_ | refine sg_ps (ps_bin rfl rfl inferInstance) rfl ?_ | refine sg_cond_t rfl ?_ | refine sg_ret ?_ | refine ex_then_ret ?_ | refine sg_store [] rfl rfl rfl (of_decide_eq_true rfl) ?_)
      exact ex_ret1 rfl rfl () rfl trivial (fun w hO => InRep.shut rfl rfl rfl hc hc2 hO)
    · have hx : unbe (bs.take 2) < 65536 := by
        have := unbe_lt (bs.take 2)
        rw [List.length_take, Nat.min_eq_left (by omega)] at this
        omega
      repeat' (first | refine sg_wo ?_ | refine sg_ps (ps_assign rfl) rfl ?_ | refine sg_seq ?_ | refine sg_region ?_ | refine sg_nil ?_ | refine sg_then ?_)
      refine sg_drawK (blk i (icells a bs.length c false) :: rsl a (bs.map bv) :: R) [0, 1, 2, 3, 4, 5, 6, 7, 8, 9, 10, 11, 12, 13, 14, 15, 16, 17, 18, 19, 22, 20, 21, 23, 24, 25, 26] (by kernel_rfl) (by kernel_rfl) (fun w hO => hO) ?_
      repeat' (first | refine sk_pure rfl rfl (ps_move rfl) rfl ?_ | refine sk_pure rfl rfl (ps_bin rfl rfl inferInstance) rfl ?_ | refine sk_pure rfl rfl (ps_pick_f rfl rfl) rfl ?_ | refine sk_pure_g rfl rfl rfl rfl (ps_move rfl) rfl ?_ | refine sk_pure_g rfl rfl rfl rfl (ps_nilCheck rfl) rfl ?_ | refine sk_pure_g rfl rfl rfl rfl (ps_fieldAddr rfl) rfl ?_ | refine sk_pure_g rfl rfl rfl rfl (ps_bin rfl rfl inferInstance) rfl ?_ | refine sk_pure_g rfl rfl rfl rfl (ps_len rfl) rfl ?_ | refine sk_load_g 0 rfl rfl rfl rfl rfl rfl rfl ?_)
      refine sg_know 19 rfl (fun h => absurd (of_decide_eq_true h) (by omega)) (fun _ => ?_)
      repeat' (first | refine sk_pure_g rfl rfl rfl rfl (ps_move rfl) rfl ?_ | refine sk_pure_g rfl rfl rfl rfl (ps_nilCheck rfl) rfl ?_ | refine sk_pure_g rfl rfl rfl rfl (ps_fieldAddr rfl) rfl ?_ | refine sk_pure_g rfl rfl rfl rfl (ps_len rfl) rfl ?_ | refine sk_load_g 0 rfl rfl rfl rfl rfl rfl rfl ?_ | refine sk_eff rfl rfl ?_ | refine sg_guard_yes rfl rfl ?_)
      refine sg_call (long_tri i a c false bs (by omega) R) rfl rfl (fun _ _ => ?_)
      repeat' (first | refine sk_nil ?_ | refine sk_pure rfl rfl (ps_pick_f rfl rfl) rfl ?_ | refine sk_pure_g rfl rfl rfl rfl (ps_add64 rfl rfl (by omega)) rfl ?_ | refine sk_pure_g rfl rfl rfl rfl (ps_bin rfl rfl inferInstance) rfl ?_ | refine sk_back (fun w hO => hO) ?_)
      repeat' (first | refine sg_wo ?_ | refine sg_ps (ps_move rfl) rfl ?_ | refine sg_ps (ps_assign rfl) rfl ?_ | refine sg_seq ?_ | refine sg_region ?_ | refine sg_nil ?_ | refine sg_then ?_ | refine sg_ps (ps_fieldAddr rfl) rfl ?_ | refine sg_ps (ps_nilCheck rfl) rfl ?_ | refine sg_ps (ps_bin rfl rfl inferInstance) rfl ?_ | refine sg_cond_t rfl ?_ | refine sg_skip ?_ | refine sg_ret ?_ | refine ex_then_ret ?_ | refine sg_store [] rfl rfl rfl (of_decide_eq_true rfl) ?_ | (refine sg_cond_dec rfl (fun hg => ?_) (fun hg => ?_) <;> first | (exfalso; omega) | (exact absurd rfl hg) | skip))
      · have e : IS.text ⟨bs, false⟩ = ([], ⟨bs, true⟩) := IS.text_bad (.inr (.inr (show bs.length < 2 + unbe (bs.take 2) by omega)))
        rw [e]
        exact ex_ret1 rfl rfl () rfl trivial (fun w hO => InRep.shut rfl rfl rfl hc hc2 hO)
      · have e : IS.text ⟨bs, false⟩ = ((bs.drop 2).take (unbe (bs.take 2)), ⟨bs.drop (2 + unbe (bs.take 2)), false⟩) := IS.text_ok (show ¬ (false = true ∨ bs.length < 2 ∨ bs.length < 2 + unbe (bs.take 2)) by intro h; rcases h with h | h | h; cases h; omega; omega)
        rw [e]
        refine sg_call (long_tri i a c false bs (by omega) R) rfl rfl (fun _ _ => ?_)
        repeat' (first | refine sg_wo ?_ | refine sg_ps (ps_add64 rfl rfl (by omega)) rfl ?_)
        rw [show (2 : Int) + (unbe (bs.take 2) : Int) = ((2 + unbe (bs.take 2) : Nat) : Int) by omega]
        refine sg_call (take_tri i (2 + unbe (bs.take 2)) a bs.length c (by omega) hc _) rfl rfl (fun _ _ => ?_)
        repeat' (first | refine sg_wo ?_)
        refine sg_ps (ps_slice_l1 (l := 2) rfl rfl rfl (by omega)) rfl ?_
        repeat' (first | refine sg_wo ?_)
        have hrd : Rd W (blk i (icells (sadd a c (2 + unbe (bs.take 2))) (bs.length - (2 + unbe (bs.take 2))) (c - (2 + unbe (bs.take 2))) false) :: rsl a (bs.map bv) :: R) (sadd a c 2) (((bs.drop 2).take (unbe (bs.take 2))).map bv) := by
          have h1 : Rd W (blk i (icells (sadd a c (2 + unbe (bs.take 2))) (bs.length - (2 + unbe (bs.take 2))) (c - (2 + unbe (bs.take 2))) false) :: rsl a (bs.map bv) :: R) a (bs.map bv) := rd_rsl_self 1 rfl
          have h2 := (h1.take (2 + unbe (bs.take 2))).sub (c := c) 2 (by simp; omega)
          rw [List.drop_take, ← List.map_drop, ← List.map_take, show 2 + unbe (bs.take 2) - 2 = unbe (bs.take 2) by omega] at h2
          exact h2
        refine sg_str_of_bytes rfl rfl ?_ hrd ?_
        · simp; omega
        repeat' (first | refine sg_wo ?_ | refine sg_ps (ps_assign rfl) rfl ?_ | refine sg_nil ?_ | refine sg_then ?_ | refine sg_ret ?_)
        refine ex_ret1 rfl rfl () rfl trivial (fun w hO => ?_)
        have h1 := own_rsl_sub (c := c) (2 + unbe (bs.take 2)) (by simpa using hc) hO.front1
        exact InRep.shut (by simp) rfl (by simp) (by simp; omega) (by omega) h1.front1
  · have e : IS.text ⟨bs, true⟩ = ([], ⟨bs, true⟩) := IS.text_bad (.inl rfl)
    rw [e]
    repeat' (first | refine sg_wo ?_ | refine sg_ps (ps_assign rfl) rfl ?_ | refine sg_seq ?_ | refine sg_region ?_ | refine sg_nil ?_ | refine sg_then ?_)
    refine sg_drawK (blk i (icells a bs.length c true) :: rsl a (bs.map bv) :: R) [0, 1, 2, 3, 4, 5, 6, 7, 8, 9, 10, 11, 12, 13, 14, 15, 16, 17, 18, 19, 22, 20, 21, 23, 24, 25, 26] (by kernel_rfl) (by kernel_rfl) (fun w hO => hO) ?_
    repeat' (first | refine sk_nil ?_ | refine sk_pure rfl rfl (ps_move rfl) rfl ?_ | refine sk_pure rfl rfl (ps_bin rfl rfl inferInstance) rfl ?_ | refine sk_pure rfl rfl (ps_pick_t rfl rfl) rfl ?_ | refine sk_pure rfl rfl (ps_pick_f rfl rfl) rfl ?_ | refine sk_no rfl rfl rfl rfl rfl ?_ | refine sk_pure_g rfl rfl rfl rfl (ps_move rfl) rfl ?_ | refine sk_pure_g rfl rfl rfl rfl (ps_nilCheck rfl) rfl ?_ | refine sk_pure_g rfl rfl rfl rfl (ps_fieldAddr rfl) rfl ?_ | refine sk_load_g 0 rfl rfl rfl rfl rfl rfl rfl ?_ | refine sk_eff rfl rfl ?_ | refine sg_guard_nt rfl rfl rfl ?_ | refine sk_back (fun w hO => hO) ?_)
    repeat' (first | refine sg_wo ?_ | refine sg_ps (ps_move rfl) rfl ?_ | refine sg_ps (ps_assign rfl) rfl ?_ | refine sg_seq ?_ | refine sg_region ?_ | refine sg_nil ?_ | refine sg_then ?_ | refine sg_ps (ps_fieldAddr rfl) rfl ?_ | refine sg_ps (ps_nilCheck rfl) rfl ?_ | refine sg_ps (ps_bin rfl rfl inferInstance) rfl ?_ | refine sg_cond_t rfl ?_ | refine sg_ret ?_ | refine ex_then_ret ?_ | refine sg_store [] rfl rfl rfl (of_decide_eq_true rfl) ?_)
    exact ex_ret1 rfl rfl () rfl trivial (fun w hO => InRep.shut rfl rfl rfl hc hc2 hO)
theorem own_cap {w : World} {a : Option Addr} {m c sz : Nat} {xs : List Value} {L : List HP} (hO : Own W w (sown a m c sz xs :: L)) : m ≤ c ∧ c ≤ 9223372036854775807 := by
  obtain ⟨_, ⟨_, h1, h2⟩ | ⟨g, _, h1, h2, _⟩⟩ := hO.sownCells
  · omega
  · exact ⟨h1, by simpa [maxLen] using h2⟩
theorem to_tri (a : Option Addr) (c : Nat) (bs : List UInt8) (L : List HP) (hl : bs.length ≤ 140737488355328) (hr : Rd W L a (bs.map bv)) :
    Tri Try.prog W 41 [.slice a bs.length c] L (fun i => dp i) (fun _ => True) (fun i => InRep i ⟨bs, false⟩ :: L) := by
  refine tri_enter1 Try.func41 rfl Try.ntmps41 rfl ?_
  repeat' (first | refine sg_wo ?_ | refine sg_ps (ps_move rfl) rfl ?_ | refine sg_ps (ps_assign rfl) rfl ?_ | refine sg_seq ?_ | refine sg_region ?_ | refine sg_nil ?_ | refine sg_then ?_)
  refine sg_nil_own 1 ?_
  refine sg_append (news := bs.map bv) rfl rfl rfl (by simp) bv_one hr.mono (by simp only [maxLen]; omega) (by omega) (fun a' c' => ?_)
  repeat' (first | refine sg_wo ?_ | refine sg_ps (ps_assign rfl) rfl ?_ | refine sg_nil ?_ | refine sg_then ?_ | refine sg_ps (ps_build rfl rfl) rfl ?_ | refine sg_box rfl rfl (fun bx => ?_) | refine sg_ret ?_)
  refine ex_ret1 rfl rfl bx rfl trivial (fun w hO => ?_)
  have h := own_cap hO.front1
  exact InRep.shut (by simp) rfl (by simp) (by simp; omega) h.2 (own_rsl_sown hO.front1).front1
end Go.Proofs.Ytgcfonjiingpnaa
