/- Package block: the parts of a sector. -/
import Derived.Test.YtgcfonjiingpnaaBK
import Derived.Test.YtgcfonjiingpnaaPK3
import Derived.Test.YtgcfonjiingpnaaRAW
namespace Go.Proofs.Ytgcfonjiingpnaa
set_option linter.unusedVariables false
set_option linter.unusedSimpArgs false
set_option linter.unusedSectionVars false
set_option linter.unnecessarySimpa false
open Go Go.Proofs
set_option maxRecDepth 20000
set_option maxHeartbeats 4000000
attribute [local irreducible] SG WC WO W1 WD WK PS Rd Tri Exit.then Exit.inBlock bodyPost calmQ Mid sadd
variable {W : World} {n : Nat} {F : Fr} {L : List HP} {G : Act → World → Prop}
/-- What an In has behind the four parts of a sector. -/
structure Parts where
  own : Nat
  place : Nat
  count : Nat
  data : List UInt8
  rest : IS
def parts (s : List UInt8) : Parts :=
  { own := (IS.num ⟨s, false⟩ 8).1
    place := ((IS.num ⟨s, false⟩ 8).2.num 2).1
    count := (((IS.num ⟨s, false⟩ 8).2.num 2).2.num 2).1
    data := (((IS.num ⟨s, false⟩ 8).2.num 2).2.num 2).2.text.1
    rest := (((IS.num ⟨s, false⟩ 8).2.num 2).2.num 2).2.text.2 }
/-- Is it number i of n of the block? -/
def Parts.good (p : Parts) (id i n : Nat) : Prop :=
  p.rest.bad = false ∧ p.own = id ∧ p.place = i ∧ (n = 0 ∨ p.count = n) ∧ 1 ≤ p.count ∧ p.count ≤ 656 ∧ p.data.length ≤ 50 ∧ (∀ b ∈ p.rest.bs, b = 0) ∧ ¬ ((i : Int) < (p.count : Int) - 1 ∧ p.data.length < 50) ∧ ¬ (0 < i ∧ p.data.length = 0)
instance (p : Parts) (id i n : Nat) : Decidable (p.good id i n) := by unfold Parts.good; infer_instance
/-- What 'piece' answers. -/
structure PieceA where
  data : List UInt8
  count : Nat
  ok : Bool
def pieceA (s : List UInt8) (id i n : Nat) : PieceA := if (parts s).good id i n then ⟨(parts s).data, (parts s).count, true⟩ else ⟨[], 0, false⟩
theorem cnt_max : cnt 32768 = 656 := by decide
theorem conv_u16_i64 (x : Nat) (h : x < 65536) : IntKind.i64.wrap (x : Int) = (x : Int) := by rw [IntWalk.i64_in _ (by omega)]
theorem text_len (S : IS) : S.text.1.length ≤ 65535 := by
  unfold IS.text
  split
  · simp
  · have := unbe_lt (S.bs.take 2)
    have h2 : (S.bs.take 2).length ≤ 2 := by rw [List.length_take]; omega
    have h3 : 256 ^ (S.bs.take 2).length ≤ 256 ^ 2 := Nat.pow_le_pow_right (by omega) h2
    show ((S.bs.drop 2).take S.long).length ≤ 65535
    have h4 : S.long = unbe (S.bs.take 2) := rfl
    simp
    omega
theorem num1 {S : IS} (hb : S.bad = false) (hl : 0 < S.bs.length) : S.num 1 = (S.bs[0].toNat, S.fwd 1) := by
  have e3 : unbe (S.bs.take 1) = S.bs[0].toNat := by
    have := unbe_take_succ (l := S.bs) (j := 0) (by omega)
    simpa [unbe] using this
  unfold IS.num
  rw [if_neg (by rintro (h | h); rw [hb] at h; cases h; omega), e3]
theorem piece_tri (s : List UInt8) (sa : Option Addr) (sc : Nat) (id i n : Nat) (hi : i ≤ 1000000) (hn : n ≤ 1000000) (hs : s.length ≤ 1000000) (R : List HP) (hr : Rd W R sa (s.map bv)) :
    Tri Try.prog W 34 [.slice sa s.length sc, .int .u64 (id : Int), i64 i, i64 n] R (X := Option Addr × Nat) (fun x => .tuple #[.slice x.1 (pieceA s id i n).data.length x.2, i64 (pieceA s id i n).count, .bool (pieceA s id i n).ok]) (fun _ => True)
      (fun x => sown x.1 (pieceA s id i n).data.length x.2 1 ((pieceA s id i n).data.map bv) :: R) := by
  refine tri_enter (n := _) (F := [(0, .slice sa s.length sc), (1, .int .u64 (id : Int)), (2, i64 i), (3, i64 n)]) Try.func34 rfl Try.ntmps34 rfl (fun i u hi => by simp only [look] at hi; (repeat' split at hi) <;> simp_all [Nat.beq_eq]) ?_
  have h2 := num_lt (IS.num ⟨s, false⟩ 8).2 2
  have h3 := num_lt ((IS.num ⟨s, false⟩ 8).2.num 2).2 2
  have hbad : ¬ (parts s).good id i n → pieceA s id i n = ⟨[], 0, false⟩ := fun h => if_neg h
  have hgood : (parts s).good id i n → pieceA s id i n = ⟨(parts s).data, (parts s).count, true⟩ := fun h => if_pos h
  have hp : parts s = { own := (IS.num ⟨s, false⟩ 8).1, place := ((IS.num ⟨s, false⟩ 8).2.num 2).1, count := (((IS.num ⟨s, false⟩ 8).2.num 2).2.num 2).1, data := (((IS.num ⟨s, false⟩ 8).2.num 2).2.num 2).2.text.1, rest := (((IS.num ⟨s, false⟩ 8).2.num 2).2.num 2).2.text.2 } := rfl
  repeat' (first | refine sg_wo ?_ | refine sg_ps (ps_move rfl) rfl ?_ | refine sg_ps (ps_assign rfl) rfl ?_ | refine sg_seq ?_ | refine sg_region ?_ | refine sg_nil ?_ | refine sg_then ?_)
  refine sg_call (to_tri sa sc s R (by omega) hr) rfl rfl (fun j _ => ?_)
  repeat' (first | refine sg_wo ?_ | refine sg_ps (ps_move rfl) rfl ?_ | refine sg_ps (ps_assign rfl) rfl ?_ | refine sg_seq ?_ | refine sg_region ?_ | refine sg_nil ?_ | refine sg_then ?_)
  refine sg_call (inU64_tri j ⟨s, false⟩ R) rfl rfl (fun _ _ => ?_)
  repeat' (first | refine sg_wo ?_ | refine sg_ps (ps_move rfl) rfl ?_)
  refine sg_call (inU16_tri j _ R) rfl rfl (fun _ _ => ?_)
  repeat' (first | refine sg_wo ?_ | refine sg_ps (ps_move rfl) rfl ?_ | refine sg_ps (ps_conv rfl) rfl ?_)
  refine sg_call (inU16_tri j _ R) rfl rfl (fun _ _ => ?_)
  repeat' (first | refine sg_wo ?_ | refine sg_ps (ps_move rfl) rfl ?_ | refine sg_ps (ps_assign rfl) rfl ?_ | refine sg_seq ?_ | refine sg_region ?_ | refine sg_nil ?_ | refine sg_then ?_ | refine sg_ps (ps_conv rfl) rfl ?_)
  refine sg_call (inText_tri j _ R) rfl rfl (fun _ _ => ?_)
  rw [conv_u16_i64 _ h2, conv_u16_i64 _ h3]
  have hdl := text_len (((IS.num ⟨s, false⟩ 8).2.num 2).2.num 2).2
  generalize (((IS.num ⟨s, false⟩ 8).2.num 2).2.num 2).2.text.2 = rest at *
  generalize (((IS.num ⟨s, false⟩ 8).2.num 2).2.num 2).2.text.1 = data at *
  generalize (((IS.num ⟨s, false⟩ 8).2.num 2).2.num 2).1 = count at *
  generalize ((IS.num ⟨s, false⟩ 8).2.num 2).1 = place at *
  generalize (IS.num ⟨s, false⟩ 8).1 = own at *
  rw [hp] at hbad hgood
  have hsz := strOf_size data
  have nogood : ¬ (Parts.mk own place count data rest).good id i n → ∀ w, Own W w (InRep j rest :: R) ∨ (∃ S, Own W w (InRep j S :: R)) → Own W w (sown none (pieceA s id i n).data.length 0 1 ((pieceA s id i n).data.map bv) :: R) := by
    intro h w hO
    rw [hbad h]
    rcases hO with hO | ⟨S, hO⟩
    · exact own_nil hO.tail
    · exact own_nil hO.tail
  repeat' (first | refine sg_wo ?_ | refine sg_ps (ps_move rfl) rfl ?_ | refine sg_ps (ps_assign rfl) rfl ?_ | refine sg_seq ?_ | refine sg_region ?_ | refine sg_nil ?_ | refine sg_then ?_)
  refine sg_call (inBad_tri j rest R) rfl rfl (fun _ _ => ?_)
  by_cases hearly : rest.bad = false ∧ own = id ∧ place = i ∧ (n = 0 ∨ count = n) ∧ 1 ≤ count ∧ count ≤ 656 ∧ data.length ≤ 50
  · obtain ⟨q1, q2, q3, q4, q5, q6, q7⟩ := hearly
    rw [q1]
    repeat' (first | refine sg_wo ?_ | refine sg_ps (ps_move rfl) rfl ?_ | refine sg_ps (ps_bin rfl rfl inferInstance) rfl ?_ | refine sg_guard_yes rfl rfl ?_ | refine sg_guard_nf rfl rfl rfl ?_ | refine sg_ps (ps_pick_t rfl rfl) rfl ?_ | refine sg_ps (ps_pick_f rfl rfl) rfl ?_ | (refine sg_guard_dec rfl rfl (fun hg => ?_) (fun hg => ?_) <;> first | (exfalso; omega) | (exact absurd rfl hg) | skip) | (refine sg_guard_ndec rfl rfl (fun hg => ?_) (fun hg => ?_) <;> first | (exfalso; omega) | (exact absurd rfl hg) | skip))
    all_goals
      refine sg_call (count_tri 32768 (by omega) _) rfl rfl (fun _ _ => ?_)
      rw [cnt_max]
      repeat' (first | refine sg_wo ?_ | refine sg_ps (ps_move rfl) rfl ?_ | refine sg_seq ?_ | refine sg_nil ?_ | refine sg_then ?_ | refine sg_ps (ps_bin rfl rfl inferInstance) rfl ?_ | refine sg_guard_yes rfl rfl ?_ | refine sg_ps (ps_pick_f rfl rfl) rfl ?_ | refine sg_ps (ps_len_str rfl) rfl ?_ | refine sg_block ?_ | refine sg_skip ?_ | (refine sg_guard_dec rfl rfl (fun hg => ?_) (fun hg => ?_) <;> first | (exfalso; omega) | (exact absurd rfl hg) | skip) | (refine sg_cond_dec rfl (fun hg => ?_) (fun hg => ?_) <;> first | (exfalso; omega) | (exact absurd rfl hg) | skip))
      refine sg_loop (γ := IS) (fun S => S.bad = false ∧ ((∀ b ∈ rest.bs, b = 0) ↔ (∀ b ∈ S.bs, b = 0))) (fun _ => [(2, i64 i), (11, dp j), (14, i64 count), (15, .string (strOf data))]) (fun S => InRep j S :: R) (fun S => S.bs.length) rest ⟨q1, Iff.rfl⟩
        (.cons rfl (.cons rfl (.cons rfl (.cons rfl .nil)))) (fun w hO => hO) ?_
      rintro S ⟨hSb, hSz⟩
      repeat' (first | refine sg_wo ?_ | refine sg_ps (ps_move rfl) rfl ?_ | refine sg_seq ?_ | refine sg_region ?_)
      refine sg_call (inLeft_tri j S R) rfl rfl (fun _ _ => ?_)
      by_cases hl0 : 0 < S.bs.length
      · skip
        repeat' (first | refine sg_wo ?_ | refine sg_ps (ps_move rfl) rfl ?_ | refine sg_seq ?_ | refine sg_region ?_ | refine sg_nil ?_ | refine sg_then ?_ | refine sg_ps (ps_bin rfl rfl inferInstance) rfl ?_ | refine sg_block ?_ | refine sg_skip ?_ | (refine sg_cond_dec rfl (fun hg => ?_) (fun hg => ?_) <;> first | (exfalso; omega) | (exact absurd rfl hg) | skip))
        refine sg_call (inU8_tri j S R) rfl rfl (fun _ _ => ?_)
        rw [num1 hSb hl0]
        repeat' (first | refine sg_wo ?_ | refine sg_ps (ps_assign rfl) rfl ?_ | refine sg_seq ?_ | refine sg_region ?_ | refine sg_nil ?_ | refine sg_then ?_ | refine sg_ps (ps_bin rfl rfl inferInstance) rfl ?_ | refine sg_skip ?_ | refine sg_ret ?_ | refine ex_then_ret ?_ | refine ex_block_ret ?_ | refine ex_block_normal ?_ | (refine sg_cond_ndec rfl (fun hg => ?_) (fun hg => ?_) <;> first | (exfalso; omega) | (exact absurd rfl hg) | skip))
        · have hng : ¬ (Parts.mk own place count data rest).good id i n := fun h => by
            have h0 := hSz.1 h.2.2.2.2.2.2.2.1 S.bs[0] (List.getElem_mem hl0)
            have hgz : ¬ ((S.bs[0].toNat : Int) = 0) := by assumption
            rw [h0] at hgz; exact hgz rfl
          exact ex_ret3 rfl rfl rfl rfl (none, 0) (by rw [hbad hng]; rfl) trivial (fun w hO => nogood hng w (.inr ⟨_, hO⟩))
        · have hgz : (S.bs[0].toNat : Int) = 0 := by assumption
          have hz0 : S.bs[0] = 0 := by apply UInt8.toNat_inj.1; show S.bs[0].toNat = 0; omega
          refine ex_mid (S.fwd 1) ⟨by show (S.bs.drop 1).length < S.bs.length; simp; omega, rfl, hSz.trans ?_⟩ (.cons rfl (.cons rfl (.cons rfl (.cons rfl .nil)))) (fun w hO => hO)
          have hcons : S.bs = S.bs[0] :: S.bs.drop 1 := by rw [List.getElem_cons_drop]; rfl
          show (∀ b ∈ S.bs, b = 0) ↔ (∀ b ∈ S.bs.drop 1, b = 0)
          constructor
          · exact fun h b hb => h b (List.mem_of_mem_drop hb)
          · intro h b hb
            rw [hcons] at hb
            rcases List.mem_cons.1 hb with rfl | hb
            · exact hz0
            · exact h b hb
      · have hnil : S.bs = [] := List.eq_nil_of_length_eq_zero (by omega)
        have hz : ∀ b ∈ rest.bs, b = 0 := hSz.2 (by rw [hnil]; intro b hb; cases hb)
        by_cases hlate : ((i : Int) < (count : Int) - 1 ∧ data.length < 50) ∨ (0 < i ∧ data.length = 0)
        · have hng : ¬ (Parts.mk own place count data rest).good id i n := fun h => by
            have ha := h.2.2.2.2.2.2.2.2.1
            have hb := h.2.2.2.2.2.2.2.2.2
            rcases hlate with h1 | h1
            · exact ha h1
            · exact hb h1
          repeat' (first | refine sg_wo ?_ | refine sg_ps (ps_move rfl) rfl ?_ | refine sg_ps (ps_assign rfl) rfl ?_ | refine sg_seq ?_ | refine sg_region ?_ | refine sg_nil ?_ | refine sg_then ?_ | refine sg_ps (ps_sub64 rfl rfl (by omega)) rfl ?_ | refine sg_ps (ps_bin rfl rfl inferInstance) rfl ?_ | refine sg_cond_t rfl ?_ | refine sg_guard_yes rfl rfl ?_ | refine sg_guard_nf rfl rfl rfl ?_ | refine sg_guard_nt rfl rfl rfl ?_ | refine sg_guard_nu rfl rfl rfl ?_ | refine sg_ps (ps_pick_t rfl rfl) rfl ?_ | refine sg_ps (ps_pick_f rfl rfl) rfl ?_ | refine sg_ps (ps_len_str rfl) rfl ?_ | refine sg_ret ?_ | refine sg_exit ?_ | refine ex_then_ret ?_ | refine ex_then_exit ?_ | refine ex_block_hit ?_ | (refine sg_guard_dec rfl rfl (fun hg => ?_) (fun hg => ?_) <;> first | (exfalso; omega) | (exact absurd rfl hg) | skip) | (refine sg_cond_dec rfl (fun hg => ?_) (fun hg => ?_) <;> first | (exfalso; omega) | (exact absurd rfl hg) | skip))
          all_goals exact ex_ret3 rfl rfl rfl rfl (none, 0) (by rw [hbad hng]; rfl) trivial (fun w hO => nogood hng w (.inr ⟨_, hO⟩))
        · have hg1 : (Parts.mk own place count data rest).good id i n := ⟨q1, q2, q3, q4, q5, q6, q7, hz, fun h => hlate (.inl h), fun h => hlate (.inr h)⟩
          repeat' (first | refine sg_wo ?_ | refine sg_ps (ps_move rfl) rfl ?_ | refine sg_seq ?_ | refine sg_region ?_ | refine sg_nil ?_ | refine sg_then ?_ | refine sg_ps (ps_sub64 rfl rfl (by omega)) rfl ?_ | refine sg_ps (ps_bin rfl rfl inferInstance) rfl ?_ | refine sg_cond_f rfl ?_ | refine sg_guard_yes rfl rfl ?_ | refine sg_guard_nf rfl rfl rfl ?_ | refine sg_ps (ps_pick_t rfl rfl) rfl ?_ | refine sg_ps (ps_pick_f rfl rfl) rfl ?_ | refine sg_ps (ps_len_str rfl) rfl ?_ | refine sg_skip ?_ | refine sg_exit ?_ | refine ex_then_exit ?_ | refine ex_block_hit ?_ | (refine sg_guard_dec rfl rfl (fun hg => ?_) (fun hg => ?_) <;> first | (exfalso; omega) | (exact absurd rfl hg) | skip) | (refine sg_cond_dec rfl (fun hg => ?_) (fun hg => ?_) <;> first | (exfalso; omega) | (exact absurd rfl hg) | skip))
          all_goals
            refine sg_bytes_of_str (u := .bool) rfl rfl (by rw [hsz]; simp only [maxLen]; omega) (fun g c => ?_)
            repeat' (first | refine sg_wo ?_ | refine sg_ps (ps_move rfl) rfl ?_ | refine sg_ps (ps_assign rfl) rfl ?_ | refine sg_nil ?_ | refine sg_then ?_ | refine sg_ret ?_)
            rw [hsz]
            exact ex_ret3 rfl rfl rfl rfl (some ⟨g, 0, none⟩, c) (by rw [hgood hg1]) trivial (fun w hO => by rw [hgood hg1]; exact hO.front1.tail)
  · have hng : ¬ (Parts.mk own place count data rest).good id i n := fun h => hearly ⟨h.1, h.2.1, h.2.2.1, h.2.2.2.1, h.2.2.2.2.1, h.2.2.2.2.2.1, h.2.2.2.2.2.2.1⟩
    have hpa := hbad hng
    cases hb : rest.bad
    · have hno : ¬ (own = id ∧ place = i ∧ (n = 0 ∨ count = n) ∧ 1 ≤ count ∧ count ≤ 656 ∧ data.length ≤ 50) := fun h => hearly ⟨hb, h⟩
      repeat' (first | refine sg_wo ?_ | refine sg_ps (ps_move rfl) rfl ?_ | refine sg_ps (ps_assign rfl) rfl ?_ | refine sg_seq ?_ | refine sg_region ?_ | refine sg_nil ?_ | refine sg_then ?_ | refine sg_ps (ps_bin rfl rfl inferInstance) rfl ?_ | refine sg_cond_t rfl ?_ | refine sg_guard_yes rfl rfl ?_ | refine sg_guard_nf rfl rfl rfl ?_ | refine sg_guard_nt rfl rfl rfl ?_ | refine sg_guard_nu rfl rfl rfl ?_ | refine sg_ps (ps_pick_t rfl rfl) rfl ?_ | refine sg_ps (ps_pick_f rfl rfl) rfl ?_ | refine sg_ret ?_ | refine ex_then_ret ?_ | (refine sg_guard_dec rfl rfl (fun hg => ?_) (fun hg => ?_) <;> first | (exfalso; omega) | (exact absurd rfl hg) | skip) | (refine sg_guard_ndec rfl rfl (fun hg => ?_) (fun hg => ?_) <;> first | (exfalso; omega) | (exact absurd rfl hg) | skip))
      all_goals first
        | exact ex_ret3 rfl rfl rfl rfl (none, 0) (by rw [hpa]; rfl) trivial (fun w hO => nogood hng w (.inl hO))
        | skip
      all_goals
        refine sg_call (count_tri 32768 (by omega) _) rfl rfl (fun _ _ => ?_)
        rw [cnt_max]
        repeat' (first | refine sg_wo ?_ | refine sg_ps (ps_move rfl) rfl ?_ | refine sg_ps (ps_assign rfl) rfl ?_ | refine sg_seq ?_ | refine sg_region ?_ | refine sg_nil ?_ | refine sg_then ?_ | refine sg_ps (ps_bin rfl rfl inferInstance) rfl ?_ | refine sg_cond_t rfl ?_ | refine sg_guard_yes rfl rfl ?_ | refine sg_guard_nt rfl rfl rfl ?_ | refine sg_ps (ps_pick_t rfl rfl) rfl ?_ | refine sg_ps (ps_pick_f rfl rfl) rfl ?_ | refine sg_ps (ps_len_str rfl) rfl ?_ | refine sg_ret ?_ | refine ex_then_ret ?_ | (refine sg_guard_dec rfl rfl (fun hg => ?_) (fun hg => ?_) <;> first | (exfalso; omega) | (exact absurd rfl hg) | skip) | (refine sg_cond_dec rfl (fun hg => ?_) (fun hg => ?_) <;> first | (exfalso; omega) | (exact absurd rfl hg) | skip))
        all_goals exact ex_ret3 rfl rfl rfl rfl (none, 0) (by rw [hpa]; rfl) trivial (fun w hO => nogood hng w (.inl hO))
    · skip
      repeat' (first | refine sg_wo ?_ | refine sg_ps (ps_move rfl) rfl ?_ | refine sg_ps (ps_assign rfl) rfl ?_ | refine sg_seq ?_ | refine sg_region ?_ | refine sg_nil ?_ | refine sg_then ?_ | refine sg_cond_t rfl ?_ | refine sg_guard_nt rfl rfl rfl ?_ | refine sg_guard_nu rfl rfl rfl ?_ | refine sg_ps (ps_pick_t rfl rfl) rfl ?_ | refine sg_ret ?_ | refine ex_then_ret ?_)
      exact ex_ret3 rfl rfl rfl rfl (none, 0) (by rw [hpa]; rfl) trivial (fun w hO => nogood hng w (.inl hO))
end Go.Proofs.Ytgcfonjiingpnaa
