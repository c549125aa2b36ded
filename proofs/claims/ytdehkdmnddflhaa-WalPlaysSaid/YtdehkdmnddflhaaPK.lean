/- Package pack: an In's representation and the contracts of its functions. -/
import Derived.Test.YtdehkdmnddflhaaRS
namespace Go.Proofs.Ytdehkdmnddflhaa
set_option linter.unusedVariables false
set_option linter.unusedSimpArgs false
set_option linter.unusedSectionVars false
set_option linter.unnecessarySimpa false
open Go Go.Proofs
set_option maxRecDepth 20000
set_option maxHeartbeats 4000000
attribute [local irreducible] SG WC WO W1 WD PS Rd Tri Exit.then Exit.inBlock bodyPost calmQ Mid sadd

structure IS where
  bs : List UInt8
  bad : Bool
def IS.spoil (S : IS) : IS := { S with bad := true }
def IS.fwd (S : IS) (k : Nat) : IS := { bs := S.bs.drop k, bad := false }
def IS.num (S : IS) (k : Nat) : Nat × IS := if S.bad = true ∨ S.bs.length < k then (0, S.spoil) else (unbe (S.bs.take k), S.fwd k)
def IS.flag (S : IS) : Bool × IS := if S.bad = true ∨ S.bs.length < 1 ∨ 1 < (S.bs.getD 0 0).toNat then (false, S.spoil) else (decide ((S.bs.getD 0 0).toNat = 1), S.fwd 1)
def IS.long (S : IS) : Nat := unbe (S.bs.take 2)
def IS.text (S : IS) : List UInt8 × IS := if S.bad = true ∨ S.bs.length < 2 ∨ S.bs.length < 2 + S.long then ([], S.spoil) else ((S.bs.drop 2).take S.long, S.fwd (2 + S.long))

def icells (a : Option Addr) (n c : Nat) (bad : Bool) : List Value := [.slice a n c, .bool bad]
def InRep (i : Nat) (S : IS) : HP := fun h => ∃ x : Option Addr × Nat, (S.bs.length ≤ x.2 ∧ x.2 ≤ maxLen) ∧ sepL [blk i (icells x.1 S.bs.length x.2 S.bad), rsl x.1 (S.bs.map bv)] h
variable {W : World} {n : Nat} {F : Fr} {L : List HP} {G : Act → World → Prop}
theorem InRep.open {i : Nat} {S : IS} (h : ∀ a c, S.bs.length ≤ c → c ≤ 9223372036854775807 → SG W n F (blk i (icells a S.bs.length c S.bad) :: rsl a (S.bs.map bv) :: L) G) : SG W n F (InRep i S :: L) G := by
  refine sg_ex (p := fun (x : Option Addr × Nat) h => (S.bs.length ≤ x.2 ∧ x.2 ≤ maxLen) ∧ sepL [blk i (icells x.1 S.bs.length x.2 S.bad), rsl x.1 (S.bs.map bv)] h) ?_
  rintro ⟨a, c⟩
  refine sg_and ?_
  rintro ⟨h1, h2⟩
  exact sg_split (h a c h1 (by simpa [maxLen] using h2))
theorem InRep.shut {w : World} {i : Nat} {S : IS} {a : Option Addr} {m c : Nat} {bad : Bool} {xs : List Value} (hm : m = S.bs.length) (hb : bad = S.bad) (hx : xs = S.bs.map bv) (hc : S.bs.length ≤ c) (hc2 : c ≤ 9223372036854775807)
    (hO : Own W w (blk i (icells a m c bad) :: rsl a xs :: L)) : Own W w (InRep i S :: L) := by
  subst hm hb hx
  have h := Own.join (L1 := [blk i (icells a S.bs.length c S.bad), rsl a (S.bs.map bv)]) hO
  exact h.imp fun k hk => ⟨(a, c), ⟨hc, by simpa [maxLen] using hc2⟩, hk⟩

theorem take_nil (k : Int) (R : List HP) : Tri Try.prog W 62 [.pointer none, i64 k] R (X := Unit) (fun _ => .slice none 0 0) (fun _ => True) (fun _ => R) := by
  refine tri_enter2 Try.func62 rfl Try.ntmps62 rfl ?_
  repeat' (first | refine sg_wo ?_ | refine sg_ps (ps_move rfl) rfl ?_ | refine sg_ps (ps_assign rfl) rfl ?_ | refine sg_seq ?_ | refine sg_region ?_ | refine sg_nil ?_ | refine sg_then ?_ | refine sg_ps (ps_bin rfl rfl inferInstance) rfl ?_ | refine sg_cond_t rfl ?_ | refine sg_cond_f rfl ?_ | refine sg_guard_nt rfl rfl rfl ?_ | refine sg_ps (ps_pick_t rfl rfl) rfl ?_ | refine sg_skip ?_ | refine sg_ret ?_ | refine ex_then_ret ?_)
  refine ex_ret1 rfl rfl () rfl trivial (fun w hO => hO)
theorem take_bad (i : Nat) (k : Nat) (a : Option Addr) (m c : Nat) (bad : Bool) (h : bad = true ∨ m < k) (R : List HP) :
    Tri Try.prog W 62 [dp i, i64 k] (blk i (icells a m c bad) :: R) (X := Unit) (fun _ => .slice none 0 0) (fun _ => True) (fun _ => blk i (icells a m c true) :: R) := by
  refine tri_enter2 Try.func62 rfl Try.ntmps62 rfl ?_
  cases bad
  · have h := h.resolve_left (by simp)
    repeat' (first | refine sg_wo ?_ | refine sg_ps (ps_move rfl) rfl ?_ | refine sg_ps (ps_assign rfl) rfl ?_ | refine sg_seq ?_ | refine sg_region ?_ | refine sg_nil ?_ | refine sg_then ?_ | refine sg_ps (ps_fieldAddr rfl) rfl ?_ | refine sg_ps (ps_nilCheck rfl) rfl ?_ | refine sg_load 0 rfl rfl rfl rfl ?_ | refine sg_ps (ps_bin rfl rfl inferInstance) rfl ?_ | refine sg_cond_t rfl ?_ | refine sg_guard_yes rfl rfl ?_ | refine sg_ps (ps_pick_f rfl rfl) rfl ?_ | refine sg_ps (ps_len rfl) rfl ?_ | refine sg_ret ?_ | refine ex_then_ret ?_ | refine sg_store [] rfl rfl rfl (of_decide_eq_true rfl) ?_ | (refine sg_cond_dec rfl (fun hg => ?_) (fun hg => ?_) <;> first | (exfalso; omega) | (exact absurd rfl hg) | skip))
    refine ex_ret1 rfl rfl () rfl trivial (fun w hO => hO)
  · skip
    repeat' (first | refine sg_wo ?_ | refine sg_ps (ps_move rfl) rfl ?_ | refine sg_ps (ps_assign rfl) rfl ?_ | refine sg_seq ?_ | refine sg_region ?_ | refine sg_nil ?_ | refine sg_then ?_ | refine sg_ps (ps_fieldAddr rfl) rfl ?_ | refine sg_ps (ps_nilCheck rfl) rfl ?_ | refine sg_load 0 rfl rfl rfl rfl ?_ | refine sg_ps (ps_bin rfl rfl inferInstance) rfl ?_ | refine sg_cond_t rfl ?_ | refine sg_guard_yes rfl rfl ?_ | refine sg_guard_nt rfl rfl rfl ?_ | refine sg_ps (ps_pick_t rfl rfl) rfl ?_ | refine sg_ps (ps_pick_f rfl rfl) rfl ?_ | refine sg_ret ?_ | refine ex_then_ret ?_ | refine sg_store [] rfl rfl rfl (of_decide_eq_true rfl) ?_)
    refine ex_ret1 rfl rfl () rfl trivial (fun w hO => hO)
theorem take_tri (i : Nat) (k : Nat) (a : Option Addr) (m c : Nat) (h : k ≤ m) (hc : m ≤ c) (R : List HP) :
    Tri Try.prog W 62 [dp i, i64 k] (blk i (icells a m c false) :: R) (X := Unit) (fun _ => .slice a k c) (fun _ => True) (fun _ => blk i (icells (sadd a c k) (m - k) (c - k) false) :: R) := by
  refine tri_enter2 Try.func62 rfl Try.ntmps62 rfl ?_
  repeat' (first | refine sg_wo ?_ | refine sg_ps (ps_move rfl) rfl ?_ | refine sg_ps (ps_assign rfl) rfl ?_ | refine sg_seq ?_ | refine sg_region ?_ | refine sg_nil ?_ | refine sg_then ?_ | refine sg_ps (ps_fieldAddr rfl) rfl ?_ | refine sg_ps (ps_nilCheck rfl) rfl ?_ | refine sg_load 0 rfl rfl rfl rfl ?_ | refine sg_ps (ps_bin rfl rfl inferInstance) rfl ?_ | refine sg_guard_yes rfl rfl ?_ | refine sg_ps (ps_pick_f rfl rfl) rfl ?_ | refine sg_ps (ps_len rfl) rfl ?_ | refine sg_skip ?_ | (refine sg_cond_dec rfl (fun hg => ?_) (fun hg => ?_) <;> first | (exfalso; omega) | (exact absurd rfl hg) | skip))
  refine sg_ps (ps_slice_h rfl rfl rfl (by omega)) rfl ?_
  repeat' (first | refine sg_wo ?_ | refine sg_ps (ps_move rfl) rfl ?_ | refine sg_ps (ps_assign rfl) rfl ?_ | refine sg_seq ?_ | refine sg_region ?_ | refine sg_nil ?_ | refine sg_then ?_ | refine sg_ps (ps_fieldAddr rfl) rfl ?_ | refine sg_ps (ps_nilCheck rfl) rfl ?_ | refine sg_load 0 rfl rfl rfl rfl ?_)
  refine sg_ps (ps_slice_l1 rfl rfl rfl h) rfl ?_
  repeat' (first | refine sg_wo ?_ | refine sg_ps (ps_move rfl) rfl ?_ | refine sg_ps (ps_assign rfl) rfl ?_ | refine sg_seq ?_ | refine sg_region ?_ | refine sg_nil ?_ | refine sg_then ?_ | refine sg_ps (ps_fieldAddr rfl) rfl ?_ | refine sg_ps (ps_nilCheck rfl) rfl ?_ | refine sg_ret ?_ | refine sg_store [] rfl rfl rfl (of_decide_eq_true rfl) ?_)
  refine ex_ret1 rfl rfl () rfl trivial (fun w hO => hO)
theorem u64_shl8 (x : Nat) (h : x < 2 ^ 56) : IntKind.u64.wrap ((x : Int) * 2 ^ min (Int.toNat 8) IntKind.u64.bits) = ((x * 256 : Nat) : Int) := by
  have e : ((x : Int) * 2 ^ min (Int.toNat 8) IntKind.u64.bits) = ((x * 256 : Nat) : Int) := by
    rw [Int.natCast_mul]; rfl
  rw [e, wrap_u _ rfl, Nat.mod_eq_of_lt]
  show x * 256 < 2 ^ 64
  omega
theorem u64_or8 (x y : Nat) (h : x < 2 ^ 56) (hy : y < 256) : IntKind.u64.wrap ((BitVec.ofInt IntKind.u64.bits ((x * 256 : Nat) : Int) ||| BitVec.ofInt IntKind.u64.bits (y : Int)).toNat : Int) = ((x * 256 + y : Nat) : Int) := by
  have e : (BitVec.ofInt IntKind.u64.bits ((x * 256 : Nat) : Int) ||| BitVec.ofInt IntKind.u64.bits (y : Int)).toNat = x * 256 + y := by
    show (BitVec.ofInt 64 ((x * 256 : Nat) : Int) ||| BitVec.ofInt 64 (y : Int)).toNat = x * 256 + y
    rw [BitVec.ofInt_natCast, BitVec.ofInt_natCast, BitVec.toNat_or, BitVec.toNat_ofNat, BitVec.toNat_ofNat, Nat.mod_eq_of_lt (by omega), Nat.mod_eq_of_lt (by omega)]
    have := Nat.two_pow_add_eq_or_of_lt (i := 8) (b := y) (by omega) x
    rw [show 2 ^ 8 * x = x * 256 by omega] at this
    exact this.symm
  rw [e, wrap_u _ rfl, Nat.mod_eq_of_lt]
  show x * 256 + y < 2 ^ 64
  omega
theorem u64_u8 (b : UInt8) : IntKind.u64.wrap (b.toNat : Int) = ((b.toNat : Nat) : Int) := by
  have := b.toNat_lt
  rw [wrap_u _ rfl, Nat.mod_eq_of_lt]
  show b.toNat < 2 ^ 64
  omega
theorem number_tri (i : Nat) (S : IS) (k : Nat) (hk : k ≤ 8) (R : List HP) :
    Tri Try.prog W 61 [dp i, i64 k] (InRep i S :: R) (X := Unit) (fun _ => .int .u64 ((S.num k).1 : Int)) (fun _ => True) (fun _ => InRep i (S.num k).2 :: R) := by
  refine tri_enter2 Try.func61 rfl Try.ntmps61 rfl ?_
  refine InRep.open fun a c hc hc2 => ?_
  repeat' (first | refine sg_wo ?_ | refine sg_ps (ps_move rfl) rfl ?_ | refine sg_ps (ps_assign rfl) rfl ?_ | refine sg_seq ?_ | refine sg_region ?_ | refine sg_nil ?_ | refine sg_then ?_)
  by_cases h : S.bad = true ∨ S.bs.length < k
  · have e : S.num k = (0, S.spoil) := by simp only [IS.num]; rw [if_pos h]
    rw [e]
    refine sg_call (take_bad i k a S.bs.length c S.bad h _) rfl rfl (fun _ _ => ?_)
    repeat' (first | refine sg_wo ?_ | refine sg_ps (ps_move rfl) rfl ?_ | refine sg_nil ?_ | refine sg_then ?_ | refine sg_ps (ps_len rfl) rfl ?_ | refine sg_block ?_)
    refine sg_loop (γ := Unit) (fun _ => True) (fun _ => [(5, .int .u64 0), (10, .slice none 0 0), (11, i64 0), (12, i64 0)]) (fun _ => [blk i (icells a S.bs.length c true), rsl a (S.bs.map bv)] ++ R) (fun _ => 0) () trivial
      (.cons rfl (.cons rfl (.cons rfl (.cons rfl .nil)))) (fun w hO => hO) ?_
    intro _ _
    repeat' (first | refine sg_wo ?_ | refine sg_ps (ps_move rfl) rfl ?_ | refine sg_ps (ps_assign rfl) rfl ?_ | refine sg_seq ?_ | refine sg_region ?_ | refine sg_nil ?_ | refine sg_then ?_ | refine sg_ps (ps_bin rfl rfl inferInstance) rfl ?_ | refine sg_cond_f rfl ?_ | refine sg_ret ?_ | refine sg_exit ?_ | refine ex_then_exit ?_ | refine ex_block_hit ?_)
    exact ex_ret1 rfl rfl () rfl trivial (fun w hO => InRep.shut rfl rfl rfl hc hc2 hO)
  · have hb : S.bad = false := by cases hb : S.bad; rfl; exact absurd (.inl hb) h
    have hl : k ≤ S.bs.length := by omega
    have e : S.num k = (unbe (S.bs.take k), S.fwd k) := by simp only [IS.num]; rw [if_neg h]
    rw [e, hb]
    refine sg_call (take_tri i k a S.bs.length c hl hc _) rfl rfl (fun _ _ => ?_)
    repeat' (first | refine sg_wo ?_ | refine sg_ps (ps_move rfl) rfl ?_ | refine sg_nil ?_ | refine sg_then ?_ | refine sg_ps (ps_len rfl) rfl ?_ | refine sg_block ?_)
    refine sg_loop (γ := Nat) (fun j => j ≤ k) (fun j => [(5, .int .u64 (unbe (S.bs.take j) : Int)), (10, .slice a k c), (11, i64 k), (12, i64 j)]) (fun _ => [blk i (icells (sadd a c k) (S.bs.length - k) (c - k) false), rsl a (S.bs.map bv)] ++ R) (fun j => k - j) 0 (by omega)
      (.cons rfl (.cons rfl (.cons rfl (.cons rfl .nil)))) (fun w hO => hO) ?_
    intro j hj
    repeat' (first | refine sg_wo ?_ | refine sg_ps (ps_move rfl) rfl ?_ | refine sg_ps (ps_assign rfl) rfl ?_ | refine sg_seq ?_ | refine sg_region ?_ | refine sg_nil ?_ | refine sg_then ?_ | refine sg_ps (ps_bin rfl rfl inferInstance) rfl ?_ | refine sg_block ?_ | refine sg_skip ?_ | refine sg_ret ?_ | refine sg_exit ?_ | refine ex_then_exit ?_ | refine ex_block_hit ?_ | (refine sg_cond_dec rfl (fun hg => ?_) (fun hg => ?_) <;> first | (exfalso; omega) | (exact absurd rfl hg) | skip))
    · refine sg_rd_some (rd_rsl_self 1 rfl) (by intro e; have := congrArg List.length e; simp at this; rw [this] at hl; simp at hl; omega) ?_
      rintro b o rfl
      have hr : Rd W ([blk i (icells (sadd (some ⟨b, o, none⟩) c k) (S.bs.length - k) (c - k) false), rsl (some ⟨b, o, none⟩) (S.bs.map bv)] ++ R) (some ⟨b, o + j * 1, none⟩) [bv S.bs[j]] := (rd_rsl_self 1 rfl).get j (bv_get (by omega))
      have hlt : unbe (S.bs.take j) < 2 ^ 56 := by
        have := unbe_lt (S.bs.take j)
        rw [List.length_take, Nat.min_eq_left (by omega)] at this
        have h7 : 256 ^ j ≤ 256 ^ 7 := Nat.pow_le_pow_right (by omega) (by omega)
        omega
      have hy := S.bs[j].toNat_lt
      repeat' (first | refine sg_wo ?_ | refine sg_ps (ps_indexAddr rfl rfl rfl (by omega)) rfl ?_)
      refine sg_load_rd rfl hr rfl ?_
      repeat' (first | refine sg_wo ?_ | refine sg_ps (ps_move rfl) rfl ?_ | refine sg_ps (ps_assign rfl) rfl ?_ | refine sg_region ?_ | refine sg_nil ?_ | refine sg_then ?_ | refine sg_ps (ps_add64 rfl rfl (by omega)) rfl ?_ | refine sg_ps (ps_bin rfl rfl inferInstance) rfl ?_ | refine sg_ps (ps_conv rfl) rfl ?_ | refine sg_ps (ps_shl rfl rfl (by decide) rfl) rfl ?_ | refine ex_block_normal ?_)
      rw [u64_u8, u64_shl8 _ hlt, u64_or8 _ _ hlt hy, ← unbe_take_succ (by omega)]
      exact ex_mid (j + 1) ⟨by omega, by omega⟩ (.cons rfl (.cons rfl (.cons rfl (.cons rfl .nil)))) (fun w hO => hO)
    · have hjk : j = k := by omega
      subst hjk
      refine ex_ret1 rfl rfl () rfl trivial (fun w hO => ?_)
      have h1 : Own W w (rsl (sadd a c j) ((S.bs.map bv).drop j) :: blk i (icells (sadd a c j) (S.bs.length - j) (c - j) false) :: R) := own_rsl_sub j (by simpa using hc) hO.front1
      exact InRep.shut (by simp [IS.fwd]) rfl (by simp [IS.fwd]) (by simp [IS.fwd]; omega) (by omega) h1.front1
end Go.Proofs.Ytdehkdmnddflhaa
