/- Package pack: Text, To, and the Out. -/
import Derived.Test.YtdehkdmnddflhaaPK2
namespace Go.Proofs.Ytdehkdmnddflhaa
set_option linter.unusedVariables false
set_option linter.unusedSimpArgs false
set_option linter.unusedSectionVars false
set_option linter.unnecessarySimpa false
open Go Go.Proofs
set_option maxRecDepth 20000
set_option maxHeartbeats 4000000
attribute [local irreducible] SG WC WO W1 WD PS Rd Tri Exit.then Exit.inBlock bodyPost calmQ Mid sadd
variable {W : World} {n : Nat} {F : Fr} {L : List HP} {G : Act → World → Prop}

theorem map_ne {bs : List UInt8} (h : 0 < bs.length) : bs.map bv ≠ [] := by
  intro e; have := congrArg List.length e; simp at this; rw [this] at h; simp at h
theorem i64_shl8 (x : Nat) (h : x < 2 ^ 32) : IntKind.i64.wrap ((x : Int) * 2 ^ min (Int.toNat 8) IntKind.i64.bits) = ((x * 256 : Nat) : Int) := by
  have e : ((x : Int) * 2 ^ min (Int.toNat 8) IntKind.i64.bits) = ((x * 256 : Nat) : Int) := by
    rw [Int.natCast_mul]; rfl
  rw [e, IntWalk.i64_in _ (by omega)]
theorem i64_or8 (x y : Nat) (h : x < 2 ^ 32) (hy : y < 256) : IntKind.i64.wrap ((BitVec.ofInt IntKind.i64.bits ((x * 256 : Nat) : Int) ||| BitVec.ofInt IntKind.i64.bits (y : Int)).toNat : Int) = ((x * 256 + y : Nat) : Int) := by
  have e : (BitVec.ofInt IntKind.i64.bits ((x * 256 : Nat) : Int) ||| BitVec.ofInt IntKind.i64.bits (y : Int)).toNat = x * 256 + y := by
    show (BitVec.ofInt 64 ((x * 256 : Nat) : Int) ||| BitVec.ofInt 64 (y : Int)).toNat = x * 256 + y
    rw [BitVec.ofInt_natCast, BitVec.ofInt_natCast, BitVec.toNat_or, BitVec.toNat_ofNat, BitVec.toNat_ofNat, Nat.mod_eq_of_lt (by omega), Nat.mod_eq_of_lt (by omega)]
    have := Nat.two_pow_add_eq_or_of_lt (i := 8) (b := y) (by omega) x
    rw [show 2 ^ 8 * x = x * 256 by omega] at this
    exact this.symm
  rw [e, IntWalk.i64_in _ (by omega)]
theorem i64_u8 (b : UInt8) : IntKind.i64.wrap (b.toNat : Int) = ((b.toNat : Nat) : Int) := by
  have := b.toNat_lt
  rw [IntWalk.i64_in _ (by omega)]
theorem unbe2 {bs : List UInt8} (h : 2 ≤ bs.length) : unbe (bs.take 2) = bs[0].toNat * 256 + bs[1].toNat := by
  rw [unbe_take_succ (j := 1) (by omega), unbe_take_succ (j := 0) (by omega)]; simp [unbe]
theorem IS.text_bad {S : IS} (h : S.bad = true ∨ S.bs.length < 2 ∨ S.bs.length < 2 + S.long) : S.text = ([], S.spoil) := if_pos h
theorem IS.text_ok {S : IS} (h : ¬ (S.bad = true ∨ S.bs.length < 2 ∨ S.bs.length < 2 + S.long)) : S.text = ((S.bs.drop 2).take S.long, S.fwd (2 + S.long)) := if_neg h
theorem own_cap {w : World} {a : Option Addr} {m c sz : Nat} {xs : List Value} {L : List HP} (hO : Own W w (sown a m c sz xs :: L)) : m ≤ c ∧ c ≤ 9223372036854775807 := by
  obtain ⟨_, ⟨_, h1, h2⟩ | ⟨g, _, h1, h2, _⟩⟩ := hO.sownCells
  · omega
  · exact ⟨h1, by simpa [maxLen] using h2⟩
theorem to_tri (a : Option Addr) (c : Nat) (bs : List UInt8) (L : List HP) (hl : bs.length ≤ 140737488355328) (hr : Rd W L a (bs.map bv)) :
    Tri Try.prog W 56 [.slice a bs.length c] L (fun i => dp i) (fun _ => True) (fun i => InRep i ⟨bs, false⟩ :: L) := by
  refine tri_enter1 Try.func56 rfl Try.ntmps56 rfl ?_
  repeat' (first | refine sg_wo ?_ | refine sg_ps (ps_move rfl) rfl ?_ | refine sg_ps (ps_assign rfl) rfl ?_ | refine sg_seq ?_ | refine sg_region ?_ | refine sg_nil ?_ | refine sg_then ?_)
  refine sg_nil_own 1 ?_
  refine sg_append (news := bs.map bv) rfl rfl rfl (by simp) bv_one hr.mono (by simp only [maxLen]; omega) (by omega) (fun a' c' => ?_)
  repeat' (first | refine sg_wo ?_ | refine sg_ps (ps_assign rfl) rfl ?_ | refine sg_nil ?_ | refine sg_then ?_ | refine sg_ps (ps_build rfl rfl) rfl ?_ | refine sg_box rfl rfl (fun bx => ?_) | refine sg_ret ?_)
  refine ex_ret1 rfl rfl bx rfl trivial (fun w hO => ?_)
  have h := own_cap hO.front1
  exact InRep.shut (by simp) rfl (by simp) (by simp; omega) h.2 (own_rsl_sown hO.front1).front1
end Go.Proofs.Ytdehkdmnddflhaa
