/- Package block: Count and Write. -/
import Derived.Test.YtgcfonjiingpnaaDK3
import Derived.Test.YtgcfonjiingpnaaPK4
namespace Go.Proofs.Ytgcfonjiingpnaa
set_option linter.unusedVariables false
set_option linter.unusedSimpArgs false
set_option linter.unusedSectionVars false
set_option linter.unnecessarySimpa false
open Go Go.Proofs
set_option maxRecDepth 20000
set_option maxHeartbeats 4000000
attribute [local irreducible] SG WC WO W1 WD WK PS Rd Tri Exit.then Exit.inBlock bodyPost calmQ Mid sadd
variable {W : World} {n : Nat} {F : Fr} {L : List HP} {G : Act → World → Prop}
def cnt (n : Nat) : Nat := if 32768 < n then 0 else max 1 ((n + 49) / 50)
theorem count_bad (i : Int) (h : i < 0) (R : List HP) : Tri Try.prog W 10 [i64 i] R (X := Unit) (fun _ => i64 0) (fun _ => True) (fun _ => R) := by
  refine tri_enter1 Try.func10 rfl Try.ntmps10 rfl ?_
  repeat' (first | refine sg_wo ?_ | refine sg_ps (ps_move rfl) rfl ?_ | refine sg_ps (ps_assign rfl) rfl ?_ | refine sg_seq ?_ | refine sg_region ?_ | refine sg_nil ?_ | refine sg_then ?_ | refine sg_ps (ps_bin rfl rfl inferInstance) rfl ?_ | refine sg_cond_t rfl ?_ | refine sg_guard_nt rfl rfl rfl ?_ | refine sg_ps (ps_pick_t rfl rfl) rfl ?_ | refine sg_ret ?_ | refine ex_then_ret ?_ | (refine sg_guard_dec rfl rfl (fun hg => ?_) (fun hg => ?_) <;> first | (exfalso; omega) | (exact absurd rfl hg) | skip))
  exact ex_ret1 rfl rfl () rfl trivial (fun w hO => hO)
theorem count_tri (m : Nat) (hm : m ≤ 9223372036854775807) (R : List HP) : Tri Try.prog W 10 [i64 m] R (X := Unit) (fun _ => i64 (cnt m)) (fun _ => True) (fun _ => R) := by
  refine tri_enter1 Try.func10 rfl Try.ntmps10 rfl ?_
  repeat' (first | refine sg_wo ?_ | refine sg_ps (ps_move rfl) rfl ?_ | refine sg_ps (ps_assign rfl) rfl ?_ | refine sg_seq ?_ | refine sg_region ?_ | refine sg_nil ?_ | refine sg_then ?_ | refine sg_ps (ps_add64 rfl rfl (by omega)) rfl ?_ | refine sg_ps (ps_sub64 rfl rfl (by omega)) rfl ?_ | refine sg_ps (ps_bin rfl rfl inferInstance) rfl ?_ | refine sg_ps (ps_quo64 rfl rfl (by decide) (by omega)) rfl ?_ | refine sg_guard_yes rfl rfl ?_ | refine sg_ps (ps_pick_f rfl rfl) rfl ?_ | refine sg_ps (ps_max2 rfl rfl) rfl ?_ | refine sg_skip ?_ | refine sg_ret ?_ | refine ex_then_ret ?_ | (refine sg_cond_dec rfl (fun hg => ?_) (fun hg => ?_) <;> first | (exfalso; omega) | (exact absurd rfl hg) | skip))
  · have e : cnt m = 0 := if_pos (by omega)
    rw [e]
    exact ex_ret1 rfl rfl () rfl trivial (fun w hO => hO)
  · have e : cnt m = max 1 ((m + 49) / 50) := if_neg (by omega)
    rw [e]
    exact ex_ret1 rfl rfl () (by congr 1; omega) trivial (fun w hO => hO)
/-- A block's sector. -/
def sect (id i n : Nat) (part : List UInt8) : List UInt8 := be 8 id ++ (be 2 i ++ (be 2 n ++ (be 2 part.length ++ part)))
def partAt (data : List UInt8) (i : Nat) : List UInt8 := (data.drop (50 * i)).take 50
/-- The sectors from number i on, k of them. -/
def wrs (st id n : Nat) (data : List UInt8) : DS → Nat → Nat → Int × DS
  | S, _, 0 => (0, S)
  | S, i, k + 1 => if (S.write ((st + i : Nat) : Int) (sect id i n (partAt data i))).1 = 0 then wrs st id n data (S.write ((st + i : Nat) : Int) (sect id i n (partAt data i))).2 (i + 1) k
    else S.write ((st + i : Nat) : Int) (sect id i n (partAt data i))
def bwrite (S : DS) (start : Int) (id : Nat) (data : List UInt8) : Int × DS :=
  if id = 0 ∨ cnt data.length = 0 ∨ start < 0 ∨ start > (S.seen.length : Int) - cnt data.length then (1, S) else wrs start.toNat id (cnt data.length) data S 0 (cnt data.length)
theorem write_sizes (S : DS) (i : Int) (bs : List UInt8) : (S.write i bs).2.seen.length = S.seen.length ∧ (S.write i bs).2.writes ≤ S.writes + 1 ∧ (S.write i bs).2.wait.length ≤ S.wait.length + 1 := by
  unfold DS.write
  split
  · exact ⟨rfl, by show S.writes ≤ _; omega, by show S.wait.length ≤ _; omega⟩
  split
  · exact ⟨rfl, by show S.writes ≤ _; omega, by show S.wait.length ≤ _; omega⟩
  split
  · exact ⟨rfl, by show S.writes ≤ _; omega, by show S.wait.length ≤ _; omega⟩
  · exact ⟨by simp, by show S.writes + 1 ≤ _; omega, by simp⟩
theorem bwrite_nil (start : Int) (id : Nat) (a : Option Addr) (m c : Nat) (hm : m ≤ 9223372036854775807) (R : List HP) :
    Tri Try.prog W 11 [.pointer none, i64 start, .int .u64 (id : Int), .slice a m c] R (X := Unit) (fun _ => i64 11) (fun _ => True) (fun _ => R) := by
  refine tri_enter (n := _) (F := [(0, .pointer none), (1, i64 start), (2, .int .u64 (id : Int)), (3, .slice a m c)]) Try.func11 rfl Try.ntmps11 rfl (fun i u hi => by simp only [look] at hi; (repeat' split at hi) <;> simp_all [Nat.beq_eq]) ?_
  repeat' (first | refine sg_wo ?_ | refine sg_ps (ps_move rfl) rfl ?_ | refine sg_ps (ps_assign rfl) rfl ?_ | refine sg_seq ?_ | refine sg_region ?_ | refine sg_nil ?_ | refine sg_then ?_ | refine sg_ps (ps_len rfl) rfl ?_)
  refine sg_call (count_tri m hm _) rfl rfl (fun _ _ => ?_)
  repeat' (first | refine sg_wo ?_ | refine sg_ps (ps_move rfl) rfl ?_ | refine sg_ps (ps_assign rfl) rfl ?_ | refine sg_seq ?_ | refine sg_region ?_ | refine sg_nil ?_ | refine sg_then ?_ | refine sg_ps (ps_bin rfl rfl inferInstance) rfl ?_ | refine sg_cond_t rfl ?_ | refine sg_block ?_ | refine sg_ret ?_ | refine ex_then_ret ?_ | refine ex_block_ret ?_)
  exact ex_ret1 rfl rfl () rfl trivial (fun w hO => hO)
theorem bwrite_tri (d : Nat) (S : DS) (start : Int) (id : Nat) (data : List UInt8) (a : Option Addr) (c : Nat) (R : List HP) (hs : start ≤ 9223372036854775807) (hn8 : S.seen.length ≤ 4096) (hc : data.length ≤ c) (hdl : data.length ≤ 9223372036854775807)
    (hr : Rd W R a (data.map bv)) (hw : S.writes + 700 ≤ 1000000) (hwt : S.wait.length + 700 ≤ 1000000) :
    Tri Try.prog W 11 [dp d, i64 start, .int .u64 (id : Int), .slice a data.length c] (DiskRep d S :: R) (X := Unit) (fun _ => i64 (bwrite S start id data).1) (fun _ => True) (fun _ => DiskRep d (bwrite S start id data).2 :: R) := by
  refine tri_enter (n := _) (F := [(0, dp d), (1, i64 start), (2, .int .u64 (id : Int)), (3, .slice a data.length c)]) Try.func11 rfl Try.ntmps11 rfl (fun i u hi => by simp only [look] at hi; (repeat' split at hi) <;> simp_all [Nat.beq_eq]) ?_
  have hcn : cnt data.length ≤ 656 ∧ (cnt data.length ≠ 0 → data.length ≤ 32768 ∧ data.length ≤ 50 * cnt data.length ∧ 50 * (cnt data.length - 1) ≤ data.length) := by
    unfold cnt; split <;> omega
  have hd : bwrite S start id data = if id = 0 ∨ cnt data.length = 0 ∨ start < 0 ∨ start > (S.seen.length : Int) - cnt data.length then (1, S) else wrs start.toNat id (cnt data.length) data S 0 (cnt data.length) := rfl
  repeat' (first | refine sg_wo ?_ | refine sg_ps (ps_move rfl) rfl ?_ | refine sg_ps (ps_assign rfl) rfl ?_ | refine sg_seq ?_ | refine sg_region ?_ | refine sg_nil ?_ | refine sg_then ?_ | refine sg_ps (ps_len rfl) rfl ?_)
  refine sg_call (count_tri data.length hdl _) rfl rfl (fun _ _ => ?_)
  generalize cnt data.length = k at hcn hd
  by_cases h1 : id = 0 ∨ k = 0 ∨ start < 0
  · rw [if_pos (by omega)] at hd
    rw [hd]
    repeat' (first | refine sg_wo ?_ | refine sg_ps (ps_move rfl) rfl ?_ | refine sg_ps (ps_assign rfl) rfl ?_ | refine sg_seq ?_ | refine sg_region ?_ | refine sg_nil ?_ | refine sg_then ?_ | refine sg_ps (ps_bin rfl rfl inferInstance) rfl ?_ | refine sg_cond_t rfl ?_ | refine sg_cond_f rfl ?_ | refine sg_guard_yes rfl rfl ?_ | refine sg_guard_nt rfl rfl rfl ?_ | refine sg_ps (ps_pick_t rfl rfl) rfl ?_ | refine sg_ps (ps_pick_f rfl rfl) rfl ?_ | refine sg_block ?_ | refine sg_ret ?_ | refine ex_then_ret ?_ | refine ex_block_ret ?_ | (refine sg_guard_dec rfl rfl (fun hg => ?_) (fun hg => ?_) <;> first | (exfalso; omega) | (exact absurd rfl hg) | skip))
    all_goals exact ex_ret1 rfl rfl () rfl trivial (fun w hO => hO)
  · skip
    repeat' (first | refine sg_wo ?_ | refine sg_ps (ps_move rfl) rfl ?_ | refine sg_ps (ps_assign rfl) rfl ?_ | refine sg_seq ?_ | refine sg_region ?_ | refine sg_nil ?_ | refine sg_then ?_ | refine sg_ps (ps_bin rfl rfl inferInstance) rfl ?_ | refine sg_cond_f rfl ?_ | refine sg_guard_yes rfl rfl ?_ | refine sg_ps (ps_pick_f rfl rfl) rfl ?_ | refine sg_block ?_ | (refine sg_guard_dec rfl rfl (fun hg => ?_) (fun hg => ?_) <;> first | (exfalso; omega) | (exact absurd rfl hg) | skip))
    refine sg_call (size_tri d S _) rfl rfl (fun _ _ => ?_)
    repeat' (first | refine sg_wo ?_ | refine sg_ps (ps_move rfl) rfl ?_ | refine sg_ps (ps_assign rfl) rfl ?_ | refine sg_seq ?_ | refine sg_region ?_ | refine sg_nil ?_ | refine sg_then ?_ | refine sg_ps (ps_sub64 rfl rfl (by omega)) rfl ?_ | refine sg_ps (ps_bin rfl rfl inferInstance) rfl ?_ | refine sg_guard_yes rfl rfl ?_ | refine sg_ps (ps_pick_f rfl rfl) rfl ?_ | refine sg_block ?_ | refine sg_skip ?_ | refine sg_ret ?_ | refine ex_then_ret ?_ | refine ex_block_ret ?_ | refine ex_block_normal ?_ | (refine sg_cond_dec rfl (fun hg => ?_) (fun hg => ?_) <;> first | (exfalso; omega) | (exact absurd rfl hg) | skip))
    · rw [if_pos (by omega)] at hd
      rw [hd]
      exact ex_ret1 rfl rfl () rfl trivial (fun w hO => hO)
    · rw [if_neg (by omega)] at hd
      obtain ⟨st, rfl⟩ : ∃ st : Nat, start = (st : Int) := ⟨start.toNat, by omega⟩
      rw [Int.toNat_natCast] at hd
      rw [hd]
      have hsec : ∀ i, (sect id i k (partAt data i)).length ≤ 64 := by
        intro i; unfold sect partAt; simp; omega
      refine sg_loop (γ := Nat × DS) (fun x => x.1 ≤ k ∧ wrs st id k data S 0 k = wrs st id k data x.2 x.1 (k - x.1) ∧ x.2.seen.length = S.seen.length ∧ x.2.writes ≤ S.writes + x.1 ∧ x.2.wait.length ≤ S.wait.length + x.1)
        (fun x => [(0, dp d), (1, i64 st), (2, .int .u64 (id : Int)), (3, .slice a data.length c), (9, i64 k), (39, i64 k), (40, i64 x.1)]) (fun x => DiskRep d x.2 :: R) (fun x => k - x.1) (0, S)
        ⟨Nat.zero_le _, rfl, rfl, Nat.le_refl _, Nat.le_refl _⟩ (.cons rfl (.cons rfl (.cons rfl (.cons rfl (.cons rfl (.cons rfl (.cons rfl .nil))))))) (fun w hO => hO) ?_
      rintro ⟨i, T⟩ ⟨hi, hrun, hTl, hTw, hTt⟩
      dsimp only at hi hrun hTl hTw hTt ⊢
      repeat' (first | refine sg_wo ?_ | refine sg_ps (ps_move rfl) rfl ?_ | refine sg_ps (ps_assign rfl) rfl ?_ | refine sg_seq ?_ | refine sg_region ?_ | refine sg_nil ?_ | refine sg_then ?_ | refine sg_ps (ps_add64 rfl rfl (by omega)) rfl ?_ | refine sg_ps (ps_mul64 rfl rfl (by omega)) rfl ?_ | refine sg_ps (ps_bin rfl rfl inferInstance) rfl ?_ | refine sg_ps (ps_len rfl) rfl ?_ | refine sg_ps (ps_min2 rfl rfl) rfl ?_ | refine sg_block ?_ | refine sg_skip ?_ | refine sg_ret ?_ | refine sg_exit ?_ | refine ex_then_exit ?_ | refine ex_block_hit ?_ | (refine sg_cond_dec rfl (fun hg => ?_) (fun hg => ?_) <;> first | (exfalso; omega) | (exact absurd rfl hg) | skip))
      · have hpl : (partAt data i).length = min (50 * (i + 1)) data.length - 50 * i := by unfold partAt; simp; omega
        have hp50 : (partAt data i).length ≤ 50 := by unfold partAt; simp; omega
        refine sg_ps (ps_slice_lh1 (l := 50 * i) (h' := min (50 * (i + 1)) data.length) rfl rfl rfl (by omega) (by omega) (by omega) (by omega)) rfl ?_
        rw [← hpl]
        repeat' (first | refine sg_wo ?_ | refine sg_ps (ps_assign rfl) rfl ?_ | refine sg_seq ?_ | refine sg_region ?_ | refine sg_nil ?_ | refine sg_then ?_)
        refine sg_alloc rfl (fun o => ?_)
        refine sg_own (fun w hO => OutRep.shut (bs := []) rfl rfl (own_nil (sz := 1) hO).front1) ?_
        repeat' (first | refine sg_wo ?_ | refine sg_ps (ps_move rfl) rfl ?_ | refine sg_seq ?_ | refine sg_region ?_ | refine sg_nil ?_ | refine sg_then ?_)
        refine sg_call (outU64_tri o [] id _ (by decide)) rfl rfl (fun _ _ => ?_)
        repeat' (first | refine sg_wo ?_ | refine sg_ps (ps_move rfl) rfl ?_ | refine sg_seq ?_ | refine sg_region ?_ | refine sg_nil ?_ | refine sg_then ?_ | refine sg_ps (ps_conv rfl) rfl ?_)
        rw [conv_u32_16, Nat.mod_eq_of_lt (by omega)]
        refine sg_call (outU16_tri o _ i _ (by simp)) rfl rfl (fun _ _ => ?_)
        repeat' (first | refine sg_wo ?_ | refine sg_ps (ps_move rfl) rfl ?_ | refine sg_seq ?_ | refine sg_region ?_ | refine sg_nil ?_ | refine sg_then ?_ | refine sg_ps (ps_conv rfl) rfl ?_)
        rw [conv_u32_16, Nat.mod_eq_of_lt (by omega)]
        refine sg_call (outU16_tri o _ k _ (by simp)) rfl rfl (fun _ _ => ?_)
        repeat' (first | refine sg_wo ?_ | refine sg_ps (ps_move rfl) rfl ?_ | refine sg_seq ?_ | refine sg_region ?_ | refine sg_nil ?_ | refine sg_then ?_)
        have hrd : Rd W (OutRep o ([] ++ be 8 id ++ be 2 i ++ be 2 k) :: DiskRep d T :: R) (sadd a c (50 * i)) ((partAt data i).map bv) := by
          have h9 := ((hr.sub (c := c) (50 * i) (by simpa using hc)).take 50).mono (p := DiskRep d T) |>.mono (p := OutRep o ([] ++ be 8 id ++ be 2 i ++ be 2 k))
          rw [← List.map_drop, ← List.map_take] at h9
          exact h9
        refine sg_str_of_bytes (bs := partAt data i) rfl rfl rfl hrd ?_
        repeat' (first | refine sg_wo ?_)
        refine sg_call (outText_tri o _ (partAt data i) _ (by simp)) rfl rfl (fun _ _ => ?_)
        rw [show putText ([] ++ be 8 id ++ be 2 i ++ be 2 k) (partAt data i) = (true, sect id i k (partAt data i)) by
          unfold putText; rw [if_neg (by omega)]; simp [sect]]
        repeat' (first | refine sg_wo ?_ | refine sg_ps (ps_move rfl) rfl ?_ | refine sg_seq ?_ | refine sg_region ?_ | refine sg_nil ?_ | refine sg_then ?_ | refine sg_ps (ps_add64 rfl rfl (by omega)) rfl ?_)
        refine sg_call (outBytes_tri o (sect id i k (partAt data i)) _ (by have := hsec i; omega)) rfl rfl (fun y _ => ?_)
        repeat' (first | refine sg_wo ?_)
        rw [show (st : Int) + (i : Int) = ((st + i : Nat) : Int) by omega]
        have hws := write_sizes T ((st + i : Nat) : Int) (sect id i k (partAt data i))
        refine sg_call ((write_tri d T ((st + i : Nat) : Int) (sect id i k (partAt data i)) y.1 y.2 (sown y.1 (sect id i k (partAt data i)).length y.2 1 ((sect id i k (partAt data i)).map bv) :: OutRep o (sect id i k (partAt data i)) :: R) (by omega) (by omega) (rd_sown 0 rfl (fun _ _ h => h)) (by have := hsec i; omega)).pre (fun w hO => hO.front2)) rfl rfl (fun _ _ => ?_)
        have hstep : wrs st id k data T i (k - i) = if (T.write ((st + i : Nat) : Int) (sect id i k (partAt data i))).1 = 0 then wrs st id k data (T.write ((st + i : Nat) : Int) (sect id i k (partAt data i))).2 (i + 1) (k - (i + 1))
            else T.write ((st + i : Nat) : Int) (sect id i k (partAt data i)) := by
          rw [show k - i = (k - (i + 1)) + 1 by omega]; rfl
        generalize T.write ((st + i : Nat) : Int) (sect id i k (partAt data i)) = r at *
        repeat' (first | refine sg_wo ?_ | refine sg_ps (ps_move rfl) rfl ?_ | refine sg_ps (ps_assign rfl) rfl ?_ | refine sg_seq ?_ | refine sg_region ?_ | refine sg_nil ?_ | refine sg_then ?_ | refine sg_ps (ps_add64 rfl rfl (by omega)) rfl ?_ | refine sg_ps (ps_bin rfl rfl inferInstance) rfl ?_ | refine sg_skip ?_ | refine sg_ret ?_ | refine ex_then_ret ?_ | refine ex_block_ret ?_ | refine ex_block_normal ?_ | (refine sg_cond_ndec rfl (fun hg => ?_) (fun hg => ?_) <;> first | (exfalso; omega) | (exact absurd rfl hg) | skip))
        · rw [if_neg (by assumption)] at hstep
          rw [hrun, hstep]
          exact ex_ret1 rfl rfl () rfl trivial (fun w hO => hO.front1.tail.front1.tail)
        · rw [if_pos (by assumption)] at hstep
          exact ex_mid (i + 1, r.2) ⟨by show k - (i + 1) < k - i; omega, by show i + 1 ≤ k; omega, hrun.trans hstep, by show r.2.seen.length = _; omega, by show r.2.writes ≤ _; omega, by show r.2.wait.length ≤ _; omega⟩
            (.cons rfl (.cons rfl (.cons rfl (.cons rfl (.cons rfl (.cons rfl (.cons rfl .nil))))))) (fun w hO => hO.front1.tail.front1.tail)
      · have hik : i = k := by omega
        subst hik
        rw [hrun, Nat.sub_self]
        exact ex_ret1 rfl rfl () rfl trivial (fun w hO => hO)
end Go.Proofs.Ytgcfonjiingpnaa
