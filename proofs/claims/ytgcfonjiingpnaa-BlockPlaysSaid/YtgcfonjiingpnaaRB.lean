/- The reference of package block (granaryref03): Count, Sectors, Write, Read. -/
import Derived.Test.YtgcfonjiingpnaaRBP
import Derived.Test.YtgcfonjiingpnaaBSR
import Derived.Test.YtgcfonjiingpnaaRNR
import Derived.Test.YtgcfonjiingpnaaDKN
import Derived.Test.YtgcfonjiingpnaaPK7
namespace Go.Proofs.Ytgcfonjiingpnaa
set_option linter.unusedVariables false
set_option linter.unusedSimpArgs false
set_option linter.unusedSectionVars false
set_option linter.unnecessarySimpa false
open Go Go.Proofs
set_option maxRecDepth 20000
set_option maxHeartbeats 4000000
attribute [local irreducible] SG WC WO W1 WD WK PS Rd Tri Exit.then Exit.inBlock bodyPost calmQ Mid sadd
variable {W : World} {n : Nat} {F : Fr} {L : List HP} {G : Act → World → Prop}
theorem r3count_neg (i : Int) (h : i < 0) (R : List HP) : Tri Try.prog W 16 [i64 i] R (X := Unit) (fun _ => i64 0) (fun _ => True) (fun _ => R) := by
  refine tri_enter1 Try.func16 rfl Try.ntmps16 rfl ?_
  repeat' (first | refine sg_wo ?_ | refine sg_ps (ps_move rfl) rfl ?_ | refine sg_ps (ps_assign rfl) rfl ?_ | refine sg_seq ?_ | refine sg_region ?_ | refine sg_nil ?_ | refine sg_then ?_ | refine sg_ps (ps_bin rfl rfl inferInstance) rfl ?_ | refine sg_cond_t rfl ?_ | refine sg_guard_nt rfl rfl rfl ?_ | refine sg_ps (ps_pick_t rfl rfl) rfl ?_ | refine sg_ret ?_ | refine ex_then_ret ?_ | (refine sg_guard_dec rfl rfl (fun hg => ?_) (fun hg => ?_) <;> first | (exfalso; omega) | (exact absurd rfl hg) | skip))
  exact ex_ret1 rfl rfl () rfl trivial (fun w hO => hO)
theorem r3count_tri (m : Nat) (hm : m ≤ 9223372036854775807) (R : List HP) : Tri Try.prog W 16 [i64 m] R (X := Unit) (fun _ => i64 (cnt m)) (fun _ => True) (fun _ => R) := by
  refine tri_enter1 Try.func16 rfl Try.ntmps16 rfl ?_
  by_cases h : 32768 < m
  · have e : cnt m = 0 := if_pos h
    rw [e]
    repeat' (first | refine sg_wo ?_ | refine sg_ps (ps_move rfl) rfl ?_ | refine sg_ps (ps_assign rfl) rfl ?_ | refine sg_seq ?_ | refine sg_region ?_ | refine sg_nil ?_ | refine sg_then ?_ | refine sg_ps (ps_bin rfl rfl inferInstance) rfl ?_ | refine sg_guard_yes rfl rfl ?_ | refine sg_ps (ps_pick_f rfl rfl) rfl ?_ | refine sg_ret ?_ | refine ex_then_ret ?_ | (refine sg_cond_dec rfl (fun hg => ?_) (fun hg => ?_) <;> first | (exfalso; omega) | (exact absurd rfl hg) | skip))
    exact ex_ret1 rfl rfl () rfl trivial (fun w hO => hO)
  · have e : cnt m = max 1 ((m + 49) / 50) := if_neg h
    rw [e]
    by_cases h0 : m = 0
    · subst h0
      repeat' (first | refine sg_wo ?_ | refine sg_ps (ps_move rfl) rfl ?_ | refine sg_ps (ps_assign rfl) rfl ?_ | refine sg_seq ?_ | refine sg_region ?_ | refine sg_nil ?_ | refine sg_then ?_ | refine sg_ps (ps_bin rfl rfl inferInstance) rfl ?_ | refine sg_cond_t rfl ?_ | refine sg_cond_f rfl ?_ | refine sg_guard_yes rfl rfl ?_ | refine sg_ps (ps_pick_f rfl rfl) rfl ?_ | refine sg_skip ?_ | refine sg_ret ?_ | refine ex_then_ret ?_)
      exact ex_ret1 rfl rfl () rfl trivial (fun w hO => hO)
    · skip
      repeat' (first | refine sg_wo ?_ | refine sg_ps (ps_move rfl) rfl ?_ | refine sg_ps (ps_assign rfl) rfl ?_ | refine sg_seq ?_ | refine sg_region ?_ | refine sg_nil ?_ | refine sg_then ?_ | refine sg_ps (ps_add64 rfl rfl (by omega)) rfl ?_ | refine sg_ps (ps_bin rfl rfl inferInstance) rfl ?_ | refine sg_ps (ps_quo64 rfl rfl (by decide) (by omega)) rfl ?_ | refine sg_guard_yes rfl rfl ?_ | refine sg_ps (ps_pick_f rfl rfl) rfl ?_ | refine sg_skip ?_ | refine sg_ret ?_ | (refine sg_cond_dec rfl (fun hg => ?_) (fun hg => ?_) <;> first | (exfalso; omega) | (exact absurd rfl hg) | skip))
      exact ex_ret1 rfl rfl () (by congr 1; omega) trivial (fun w hO => hO)
def rsecs (id : Nat) (data : List UInt8) : List (List UInt8) := (List.range (cnt data.length)).map fun i => pad (sect id i (cnt data.length) (partAt data i))
theorem rsecs_len (id : Nat) (data : List UInt8) : (rsecs id data).length = cnt data.length := by simp [rsecs]
theorem rsecs_get {id i : Nat} {data : List UInt8} (h : i < cnt data.length) : (rsecs id data)[i]? = some (pad (sect id i (cnt data.length) (partAt data i))) := by
  simp [rsecs, h]
theorem cnt_le (k : Nat) : cnt k ≤ 656 ∧ (cnt k ≠ 0 → k ≤ 32768 ∧ k ≤ 50 * cnt k ∧ 50 * (cnt k - 1) ≤ k) := by
  unfold cnt; split <;> omega
theorem rsectors_tri (id : Nat) (data : List UInt8) (ba : Option Addr) (bc : Nat) (hc : data.length ≤ bc) (hdl : data.length ≤ 9223372036854775807) (hid : id < 18446744073709551616) (R : List HP) (hr : ∀ L, Rd W (L ++ R) ba (data.map bv)) :
    Tri Try.prog W 35 [.int .u64 (id : Int), .slice ba data.length bc] R (X := Option Addr × Nat × List CB) (fun x => .slice x.1 x.2.2.length x.2.1) (fun x => x.2.2.map CB.data = rsecs id data) (fun x => BsRep x.1 x.2.1 x.2.2 :: R) := by
  refine tri_enter2 Try.func35 rfl Try.ntmps35 rfl ?_
  have hcn := cnt_le data.length
  repeat' (first | refine sg_wo ?_ | refine sg_ps (ps_move rfl) rfl ?_ | refine sg_ps (ps_assign rfl) rfl ?_ | refine sg_seq ?_ | refine sg_region ?_ | refine sg_nil ?_ | refine sg_then ?_ | refine sg_ps (ps_len rfl) rfl ?_)
  refine sg_call (r3count_tri data.length hdl _) rfl rfl (fun _ _ => ?_)
  obtain ⟨k, hk⟩ : ∃ k, k = cnt data.length := ⟨_, rfl⟩
  rw [← hk] at hcn ⊢
  repeat' (first | refine sg_wo ?_ | refine sg_ps (ps_assign rfl) rfl ?_ | refine sg_seq ?_ | refine sg_region ?_ | refine sg_nil ?_ | refine sg_then ?_ | refine sg_block ?_)
  refine sg_own (fun w hO => bs_nil hO) ?_
  refine sg_loop (γ := Nat × Option Addr × Nat × List CB) (fun g => g.1 ≤ k ∧ g.2.2.2.length = g.1 ∧ g.2.2.2.map CB.data = (rsecs id data).take g.1) (fun g => [(0, .int .u64 (id : Int)), (1, .slice ba data.length bc), (5, i64 k), (6, .slice g.2.1 g.2.2.2.length g.2.2.1), (7, i64 g.1)])
    (fun g => BsRep g.2.1 g.2.2.1 g.2.2.2 :: R) (fun g => k - g.1) (0, none, 0, []) ⟨Nat.zero_le _, rfl, by rw [List.take_zero]; rfl⟩ (.cons rfl (.cons rfl (.cons rfl (.cons rfl (.cons rfl .nil))))) (fun w hO => hO) ?_
  rintro ⟨i, oa, oc, cs⟩ ⟨hi, hcl, hcd⟩
  dsimp only at hi hcl hcd ⊢
  by_cases hik : i < k
  · obtain ⟨hd1, hd2, hd3⟩ := hcn.2 (by omega)
    have hpl : (partAt data i).length = min 50 (data.length - 50 * i) := partAt_length data i
    have hrp : ∀ L, Rd W (L ++ R) (sadd ba bc (50 * i)) ((partAt data i).map bv) := by
      intro L
      have h9 := ((hr L).sub (c := bc) (50 * i) (by simpa using hc)).take 50
      rw [← List.map_drop, ← List.map_take] at h9
      exact h9
    skip
    refine sg_seq ?_
    refine sg_seq ?_
    repeat' (first | refine sg_wo ?_ | refine sg_ps (ps_move rfl) rfl ?_ | refine sg_region ?_ | refine sg_nil ?_ | refine sg_then ?_ | refine sg_ps (ps_bin rfl rfl inferInstance) rfl ?_ | refine sg_skip ?_ | (refine sg_cond_dec rfl (fun hg => ?_) (fun hg => ?_) <;> first | (exfalso; omega) | (exact absurd rfl hg) | skip))
    refine sg_seq ?_
    repeat' (first | refine sg_block ?_)
    refine sg_seq ?_
    repeat' (first | refine sg_wo ?_ | refine sg_ps (ps_move rfl) rfl ?_ | refine sg_region ?_ | refine sg_ps (ps_mul64 rfl rfl (by omega)) rfl ?_)
    refine sg_ps (ps_slice_l1 (l := 50 * i) rfl rfl (by omega) (by omega)) rfl ?_
    repeat' (first | refine sg_wo ?_ | refine sg_ps (ps_assign rfl) rfl ?_ | refine sg_nil ?_ | refine sg_then ?_)
    refine sg_seq_mid (γ := Nat) (fun _ => True) (fun pc => [(0, .int .u64 (id : Int)), (1, .slice ba data.length bc), (5, i64 k), (6, .slice oa cs.length oc), (7, i64 i), (8, .slice (sadd ba bc (50 * i)) (partAt data i).length pc)]) (fun _ => BsRep oa oc cs :: R) ?_ ?_
    · by_cases h50 : 50 < data.length - 50 * i
      · have e : (partAt data i).length = 50 := by omega
        rw [e]
        repeat' (first | refine sg_wo ?_ | refine sg_ps (ps_move rfl) rfl ?_ | refine sg_seq ?_ | refine sg_region ?_ | refine sg_nil ?_ | refine sg_then ?_ | refine sg_ps (ps_bin rfl rfl inferInstance) rfl ?_ | refine sg_ps (ps_len rfl) rfl ?_ | (refine sg_cond_dec rfl (fun hg => ?_) (fun hg => ?_) <;> first | (exfalso; omega) | (exact absurd rfl hg) | skip))
        refine sg_ps (ps_slice_h (h' := 50) rfl rfl rfl (by omega)) rfl ?_
        repeat' (first | refine sg_wo ?_ | refine sg_ps (ps_assign rfl) rfl ?_ | refine sg_nil ?_)
        exact ex_mid (bc - 50 * i) trivial (.cons rfl (.cons rfl (.cons rfl (.cons rfl (.cons rfl (.cons rfl .nil)))))) (fun w hO => hO)
      · have e : (partAt data i).length = data.length - 50 * i := by omega
        rw [e]
        repeat' (first | refine sg_wo ?_ | refine sg_ps (ps_move rfl) rfl ?_ | refine sg_seq ?_ | refine sg_region ?_ | refine sg_nil ?_ | refine sg_then ?_ | refine sg_ps (ps_bin rfl rfl inferInstance) rfl ?_ | refine sg_ps (ps_len rfl) rfl ?_ | refine sg_skip ?_ | (refine sg_cond_dec rfl (fun hg => ?_) (fun hg => ?_) <;> first | (exfalso; omega) | (exact absurd rfl hg) | skip))
        exact ex_mid (bc - 50 * i) trivial (.cons rfl (.cons rfl (.cons rfl (.cons rfl (.cons rfl (.cons rfl .nil)))))) (fun w hO => hO)
    · rintro pc _
      obtain ⟨pl, hple⟩ : ∃ pl, pl = (partAt data i).length := ⟨_, rfl⟩
      have hpl50 : pl ≤ 50 := by omega
      rw [← hple]
      repeat' (first | refine sg_wo ?_ | refine sg_ps (ps_move rfl) rfl ?_ | refine sg_ps (ps_assign rfl) rfl ?_ | refine sg_seq ?_ | refine sg_region ?_ | refine sg_nil ?_ | refine sg_then ?_ | refine sg_ps (ps_build rfl rfl) rfl ?_ | refine sg_box rfl rfl (fun bx => ?_))
      refine sg_own (fun w hO => OutRep.shut (bs := []) rfl rfl (own_nil (sz := 1) hO).front1) ?_
      skip
      refine sg_call (rPutNum_tri bx [] id 8 (by decide) _ (by decide)) rfl rfl (fun _ _ => ?_)
      repeat' (first | refine sg_wo ?_ | refine sg_ps (ps_move rfl) rfl ?_ | refine sg_seq ?_ | refine sg_region ?_ | refine sg_nil ?_ | refine sg_then ?_ | refine sg_ps (ps_conv rfl) rfl ?_)
      rw [conv_i64_64 i (by omega)]
      refine sg_call (rPutNum_tri bx _ i 2 (by decide) _ (by simp)) rfl rfl (fun _ _ => ?_)
      repeat' (first | refine sg_wo ?_ | refine sg_ps (ps_move rfl) rfl ?_ | refine sg_seq ?_ | refine sg_region ?_ | refine sg_nil ?_ | refine sg_then ?_ | refine sg_ps (ps_conv rfl) rfl ?_)
      rw [conv_i64_64 k (by omega)]
      refine sg_call (rPutNum_tri bx _ k 2 (by decide) _ (by simp)) rfl rfl (fun _ _ => ?_)
      repeat' (first | refine sg_wo ?_ | refine sg_ps (ps_move rfl) rfl ?_ | refine sg_seq ?_ | refine sg_region ?_ | refine sg_nil ?_ | refine sg_then ?_ | refine sg_ps (ps_conv rfl) rfl ?_ | refine sg_ps (ps_len rfl) rfl ?_)
      rw [conv_i64_64 pl (by omega)]
      refine sg_call (rPutNum_tri bx _ pl 2 (by decide) _ (by simp)) rfl rfl (fun _ _ => ?_)
      obtain ⟨hd, hhd⟩ : ∃ hd, hd = [] ++ be 8 id ++ be 2 i ++ be 2 k ++ be 2 pl := ⟨_, rfl⟩
      have hhl : hd.length = 14 := by rw [hhd]; simp
      rw [← hhd]
      refine OutRep.open fun a c => ?_
      rw [hhl]
      repeat' (first | refine sg_wo ?_ | refine sg_ps (ps_move rfl) rfl ?_ | refine sg_seq ?_ | refine sg_region ?_ | refine sg_nil ?_ | refine sg_then ?_ | refine sg_ps (ps_fieldAddr rfl) rfl ?_ | refine sg_ps (ps_nilCheck rfl) rfl ?_ | refine sg_load 0 rfl rfl rfl rfl ?_)
      refine sg_front1 ?_
      refine sg_append (sz := 1) (m := pl) (news := (partAt data i).map bv) rfl rfl rfl (by rw [List.length_map, Nat.mul_one]; exact hple.symm) bv_one (hrp [_, _, _]) (by simp only [maxLen]; omega) (by omega) (fun a2 c2 => ?_)
      rw [← List.map_append]
      repeat' (first | refine sg_wo ?_ | refine sg_ps (ps_assign rfl) rfl ?_ | refine sg_seq ?_ | refine sg_nil ?_ | refine sg_then ?_ | refine sg_block ?_)
      refine sg_loop (γ := Nat × Option Addr × Nat) (fun g => g.1 ≤ 50 - pl) (fun g => [(0, .int .u64 (id : Int)), (1, .slice ba data.length bc), (5, i64 k), (6, .slice oa cs.length oc), (7, i64 i), (10, .slice g.2.1 (14 + pl + g.1) g.2.2)])
        (fun g => sown g.2.1 (14 + pl + g.1) g.2.2 1 ((hd ++ partAt data i ++ List.replicate g.1 0).map bv) :: BsRep oa oc cs :: R) (fun g => 50 - pl - g.1) (0, a2, c2) (Nat.zero_le _) (.cons rfl (.cons rfl (.cons rfl (.cons rfl (.cons rfl (.cons rfl .nil)))))) (fun w hO => ?_) ?_
      · have h9 := hO.front1.tail
        dsimp only
        rw [Nat.add_zero, List.replicate_zero, List.append_nil]
        exact h9
      rintro ⟨z, a3, c3⟩ hz
      dsimp only at hz ⊢
      by_cases hzl : z < 50 - pl
      · skip
        repeat' (first | refine sg_wo ?_ | refine sg_ps (ps_move rfl) rfl ?_ | refine sg_seq ?_ | refine sg_region ?_ | refine sg_nil ?_ | refine sg_then ?_ | refine sg_ps (ps_bin rfl rfl inferInstance) rfl ?_ | refine sg_ps (ps_len rfl) rfl ?_ | refine sg_block ?_ | refine sg_skip ?_ | (refine sg_cond_dec rfl (fun hg => ?_) (fun hg => ?_) <;> first | (exfalso; omega) | (exact absurd rfl hg) | skip))
        refine sg_buildSlice1 (sz := 1) (vs := [bv 0]) rfl (by decide) rfl rfl rfl (fun vb => ?_)
        refine sg_front1 ?_
        repeat' (first | refine sg_wo ?_)
        refine sg_append (sz := 1) (m := 1) (news := [bv 0]) rfl rfl rfl rfl (by intro u hu; simp at hu; subst hu; rfl) (rd_blk 1 rfl (fun j u h => by rw [Nat.zero_add]; exact h)) (by simp only [maxLen]; omega) (by omega) (fun a4 c4 => ?_)
        repeat' (first | refine sg_wo ?_ | refine sg_ps (ps_assign rfl) rfl ?_ | refine sg_nil ?_ | refine ex_block_normal ?_)
        refine ex_mid (z + 1, a4, c4) ⟨by show 50 - pl - (z + 1) < 50 - pl - z; omega, by show z + 1 ≤ 50 - pl; omega⟩ (.cons rfl (.cons rfl (.cons rfl (.cons rfl (.cons rfl (.cons rfl .nil)))))) (fun w hO => ?_)
        have h9 := hO.front1.tail
        dsimp only
        have e9 : (hd ++ partAt data i ++ List.replicate (z + 1) (0 : UInt8)).map bv = (hd ++ partAt data i ++ List.replicate z (0 : UInt8)).map bv ++ [bv 0] := by
          rw [List.replicate_succ', ← List.append_assoc, List.map_append (l₂ := [(0 : UInt8)])]; rfl
        rw [e9]
        exact h9
      · have hz2 : z = 50 - pl := by omega
        have hlen : 14 + pl + z = 64 := by omega
        have hsec : hd ++ partAt data i ++ List.replicate z 0 = pad (sect id i k (partAt data i)) := by
          have e1 : hd ++ partAt data i = sect id i k (partAt data i) := by rw [hhd, hple]; simp [sect]
          unfold pad
          rw [e1, sect_length, ← hple, show 64 - (14 + pl) = z by omega]
        have hpd : (pad (sect id i k (partAt data i))).length = 64 := pad_length (by rw [sect_length]; omega)
        rw [hsec, hlen]
        repeat' (first | refine sg_wo ?_ | refine sg_ps (ps_move rfl) rfl ?_ | refine sg_seq ?_ | refine sg_region ?_ | refine sg_nil ?_ | refine sg_then ?_ | refine sg_ps (ps_bin rfl rfl inferInstance) rfl ?_ | refine sg_cond_f rfl ?_ | refine sg_ps (ps_len rfl) rfl ?_ | refine sg_exit ?_ | refine ex_then_exit ?_ | refine ex_block_hit ?_)
        refine sg_buildSlice1 (sz := 1) (vs := [CB.hdr ⟨pad (sect id i k (partAt data i)), a3, c3⟩]) (v := .slice a3 64 c3) rfl (by decide) (by show [Value.slice a3 64 c3] = [Value.slice a3 _ c3]; rw [hpd]) rfl rfl (fun vb => ?_)
        refine sg_own (L' := sown oa cs.length oc 1 (cs.map CB.hdr) :: blk vb [CB.hdr ⟨pad (sect id i k (partAt data i)), a3, c3⟩] :: CB.chunk ⟨pad (sect id i k (partAt data i)), a3, c3⟩ :: (cs.map CB.chunk ++ R)) (fun w hO => by
          have h9 := bs_open (hO.pickT [_, _, _] [2, 0, 1] (by decide))
          unfold CB.chunk at h9 ⊢
          dsimp only at h9 ⊢
          rw [hpd]; exact h9) ?_
        repeat' (first | refine sg_wo ?_)
        refine sg_append (sz := 1) (m := 1) (news := [CB.hdr ⟨pad (sect id i k (partAt data i)), a3, c3⟩]) rfl rfl rfl rfl (by intro u hu; simp at hu; subst hu; rfl) (rd_blk 1 rfl (fun j u h => by rw [Nat.zero_add]; exact h)) (by simp only [maxLen]; omega) (by omega) (fun a5 c5 => ?_)
        refine sg_own (L' := BsRep a5 c5 (cs ++ [⟨pad (sect id i k (partAt data i)), a3, c3⟩]) :: R) (fun w hO => bs_snoc (r := ⟨pad (sect id i k (partAt data i)), a3, c3⟩) hO.front1.tail) ?_
        rw [show cs.length + 1 = (cs ++ [(⟨pad (sect id i k (partAt data i)), a3, c3⟩ : CB)]).length by simp]
        repeat' (first | refine sg_wo ?_ | refine sg_ps (ps_move rfl) rfl ?_ | refine sg_ps (ps_assign rfl) rfl ?_ | refine sg_region ?_ | refine sg_nil ?_ | refine sg_then ?_ | refine sg_ps (ps_add64 rfl rfl (by omega)) rfl ?_ | refine ex_block_normal ?_)
        exact ex_mid (i + 1, a5, c5, cs ++ [⟨pad (sect id i k (partAt data i)), a3, c3⟩]) ⟨by show k - (i + 1) < k - i; omega, by show i + 1 ≤ k; omega, by show (cs ++ [_]).length = i + 1; rw [List.length_append, hcl]; rfl, by
          show (cs ++ [_]).map CB.data = (rsecs id data).take (i + 1)
          rw [List.map_append, hcd, List.take_add_one, rsecs_get (by omega), ← hk]; rfl⟩
          (.cons rfl (.cons rfl (.cons rfl (.cons rfl (.cons rfl .nil))))) (fun w hO => hO)
  · have hik2 : i = k := by omega
    repeat' (first | refine sg_wo ?_ | refine sg_ps (ps_move rfl) rfl ?_ | refine sg_ps (ps_assign rfl) rfl ?_ | refine sg_seq ?_ | refine sg_region ?_ | refine sg_nil ?_ | refine sg_then ?_ | refine sg_ps (ps_bin rfl rfl inferInstance) rfl ?_ | refine sg_ret ?_ | refine sg_exit ?_ | refine ex_then_exit ?_ | refine ex_block_hit ?_ | (refine sg_cond_dec rfl (fun hg => ?_) (fun hg => ?_) <;> first | (exfalso; omega) | (exact absurd rfl hg) | skip))
    refine ex_ret1 rfl rfl (oa, oc, cs) rfl ?_ (fun w hO => hO)
    show cs.map CB.data = rsecs id data
    rw [hcd, List.take_of_length_le (by rw [rsecs_len]; omega)]
theorem rbwrite_tri (r : Nat) (D : DS) (start : Int) (id : Nat) (data : List UInt8) (ba : Option Addr) (bc : Nat) (R : List HP) (hs : start ≤ 9223372036854775807) (hn8 : D.seen.length ≤ 4096) (hc : data.length ≤ bc) (hdl : data.length ≤ 9223372036854775807) (hid : id < 18446744073709551616)
    (hr : ∀ L, Rd W (L ++ R) ba (data.map bv)) (hw : D.writes + 700 ≤ 1000000) (hwt : D.wait.length + 700 ≤ 1000000) :
    Tri Try.prog W 19 [dp r, i64 start, .int .u64 (id : Int), .slice ba data.length bc] (RefRep r D :: R) (X := Unit) (fun _ => i64 (bwrite D start id data).1) (fun _ => True) (fun _ => RefRep r (bwrite D start id data).2 :: R) := by
  refine tri_enter (n := _) (F := [(0, dp r), (1, i64 start), (2, .int .u64 (id : Int)), (3, .slice ba data.length bc)]) Try.func19 rfl Try.ntmps19 rfl (fun i u hi => by simp only [look] at hi; (repeat' split at hi) <;> simp_all [Nat.beq_eq]) ?_
  have hcn := cnt_le data.length
  have hd : bwrite D start id data = if id = 0 ∨ cnt data.length = 0 ∨ start < 0 ∨ start > (D.seen.length : Int) - cnt data.length then (1, D) else wrs start.toNat id (cnt data.length) data D 0 (cnt data.length) := rfl
  have hc0 : cnt data.length = 0 ↔ 32768 < data.length := by unfold cnt; split <;> omega
  obtain ⟨k, hk⟩ : ∃ k, k = cnt data.length := ⟨_, rfl⟩
  rw [← hk] at hcn hd hc0
  refine RefRep.open fun x hx => ?_
  obtain ⟨l1, l2, l3⟩ := hx.lens
  obtain ⟨KK, hKK⟩ : ∃ KK, KK = sown (some ⟨x.kb, 0, none⟩) x.ks.length x.kc 1 (x.ks.map shdr) := ⟨_, rfl⟩
  obtain ⟨SS, hSS⟩ : ∃ SS, SS = sown (some ⟨x.sb, 0, none⟩) x.ss.length x.sc 1 (x.ss.map shdr) := ⟨_, rfl⟩
  obtain ⟨TT, hTT⟩ : ∃ TT, TT = sown x.wa x.ws.length x.wc 2 (x.ws.flatMap putc) := ⟨_, rfl⟩
  obtain ⟨BB, hBB⟩ : ∃ BB, BB = blks x.ls := ⟨_, rfl⟩
  have hshut : ∀ w, Own W w (blk r (rdcells D x) :: KK :: SS :: TT :: BB :: R) → Own W w (RefRep r D :: R) := fun w hO => by
    rw [hKK, hSS, hTT, hBB] at hO; exact RefRep.shut x hx hO
  rw [← hKK, ← hSS, ← hTT, ← hBB]
  by_cases hA : id = 0 ∨ 32768 < data.length ∨ start < 0 ∨ start > (D.seen.length : Int)
  · rw [if_pos (by omega)] at hd
    rw [hd]
    repeat' (first | refine sg_wo ?_ | refine sg_ps (ps_assign rfl) rfl ?_ | refine sg_seq ?_ | refine sg_region ?_ | refine sg_nil ?_ | refine sg_then ?_)
    refine sg_drawK (blk r (rdcells D x) :: KK :: SS :: TT :: BB :: R) [0, 1, 2, 3, 4, 5, 6, 7, 8, 9, 10, 11, 12, 13, 14, 15, 16, 17, 18, 19, 20, 21, 22, 23, 26, 27, 28, 29, 30, 24, 25, 31, 32] (by kernel_rfl) (by kernel_rfl) (fun w hO => hO) ?_
    repeat' (first | refine sk_nil ?_ | refine sk_pure rfl rfl (ps_move rfl) rfl ?_ | refine sk_pure rfl rfl (ps_bin rfl rfl inferInstance) rfl ?_ | refine sk_pure rfl rfl (ps_pick_t rfl rfl) rfl ?_ | refine sk_pure rfl rfl (ps_pick_f rfl rfl) rfl ?_ | refine sk_no rfl rfl rfl rfl rfl ?_ | refine sk_pure_g rfl rfl rfl rfl (ps_move rfl) rfl ?_ | refine sk_pure_g rfl rfl rfl rfl (ps_nilCheck rfl) rfl ?_ | refine sk_pure_g rfl rfl rfl rfl (ps_fieldAddr rfl) rfl ?_ | refine sk_pure_g rfl rfl rfl rfl (ps_bin rfl rfl inferInstance) rfl ?_ | refine sk_pure_g rfl rfl rfl rfl (ps_len rfl) rfl ?_ | refine sk_load_g 0 rfl rfl rfl rfl rfl rfl rfl ?_ | refine sk_eff rfl rfl ?_ | refine sg_guard_nt rfl rfl rfl ?_ | refine sk_back (fun w hO => hO) ?_ | (refine sk_dec rfl rfl rfl rfl (fun hg => ?_) (fun hg => ?_) <;> first | (exfalso; omega) | (exact absurd rfl hg) | skip))
    all_goals repeat' (first | refine sg_wo ?_ | refine sg_ps (ps_assign rfl) rfl ?_ | refine sg_seq ?_ | refine sg_region ?_ | refine sg_nil ?_ | refine sg_then ?_ | refine sg_cond_t rfl ?_ | refine sg_ret ?_ | refine ex_then_ret ?_)
    all_goals exact ex_ret1 rfl rfl () rfl trivial hshut
  · by_cases hB : start + (k : Int) > (D.seen.length : Int)
    · rw [if_pos (by omega)] at hd
      rw [hd]
      repeat' (first | refine sg_wo ?_ | refine sg_ps (ps_assign rfl) rfl ?_ | refine sg_seq ?_ | refine sg_region ?_ | refine sg_nil ?_ | refine sg_then ?_)
      refine sg_drawK (blk r (rdcells D x) :: KK :: SS :: TT :: BB :: R) [0, 1, 2, 3, 4, 5, 6, 7, 8, 9, 10, 11, 12, 13, 14, 15, 16, 17, 18, 19, 20, 21, 22, 23, 26, 27, 28, 29, 30, 24, 25, 31, 32] (by kernel_rfl) (by kernel_rfl) (fun w hO => hO) ?_
      repeat' (first | refine sk_pure rfl rfl (ps_move rfl) rfl ?_ | refine sk_pure rfl rfl (ps_bin rfl rfl inferInstance) rfl ?_ | refine sk_pure rfl rfl (ps_pick_f rfl rfl) rfl ?_ | refine sk_pure_g rfl rfl rfl rfl (ps_move rfl) rfl ?_ | refine sk_pure_g rfl rfl rfl rfl (ps_nilCheck rfl) rfl ?_ | refine sk_pure_g rfl rfl rfl rfl (ps_fieldAddr rfl) rfl ?_ | refine sk_pure_g rfl rfl rfl rfl (ps_bin rfl rfl inferInstance) rfl ?_ | refine sk_pure_g rfl rfl rfl rfl (ps_len rfl) rfl ?_ | refine sk_load_g 0 rfl rfl rfl rfl rfl rfl rfl ?_ | refine sk_eff rfl rfl ?_ | refine sg_guard_yes rfl rfl ?_ | (refine sk_dec rfl rfl rfl rfl (fun hg => ?_) (fun hg => ?_) <;> first | (exfalso; omega) | (exact absurd rfl hg) | skip))
      refine sg_call (r3count_tri data.length hdl _) rfl rfl (fun _ _ => ?_)
      rw [← hk]
      refine sk_back (fun w hO => hO) ?_
      repeat' (first | refine sk_nil ?_ | refine sk_pure rfl rfl (ps_pick_f rfl rfl) rfl ?_ | refine sk_pure_g rfl rfl rfl rfl (ps_add64 rfl rfl (by omega)) rfl ?_ | refine sk_pure_g rfl rfl rfl rfl (ps_bin rfl rfl inferInstance) rfl ?_)
      repeat' (first | refine sg_wo ?_ | refine sg_ps (ps_assign rfl) rfl ?_ | refine sg_seq ?_ | refine sg_region ?_ | refine sg_nil ?_ | refine sg_then ?_ | refine sg_ret ?_ | refine ex_then_ret ?_ | (refine sg_cond_dec rfl (fun hg => ?_) (fun hg => ?_) <;> first | (exfalso; omega) | (exact absurd rfl hg) | skip))
      exact ex_ret1 rfl rfl () rfl trivial hshut
    · rw [if_neg (by omega)] at hd
      obtain ⟨st, rfl⟩ : ∃ st : Nat, start = (st : Int) := ⟨start.toNat, by omega⟩
      rw [Int.toNat_natCast] at hd
      rw [hd]
      repeat' (first | refine sg_wo ?_ | refine sg_ps (ps_assign rfl) rfl ?_ | refine sg_seq ?_ | refine sg_region ?_ | refine sg_nil ?_ | refine sg_then ?_)
      refine sg_drawK (blk r (rdcells D x) :: KK :: SS :: TT :: BB :: R) [0, 1, 2, 3, 4, 5, 6, 7, 8, 9, 10, 11, 12, 13, 14, 15, 16, 17, 18, 19, 20, 21, 22, 23, 26, 27, 28, 29, 30, 24, 25, 31, 32] (by kernel_rfl) (by kernel_rfl) (fun w hO => hO) ?_
      repeat' (first | refine sk_pure rfl rfl (ps_move rfl) rfl ?_ | refine sk_pure rfl rfl (ps_bin rfl rfl inferInstance) rfl ?_ | refine sk_pure rfl rfl (ps_pick_f rfl rfl) rfl ?_ | refine sk_pure_g rfl rfl rfl rfl (ps_move rfl) rfl ?_ | refine sk_pure_g rfl rfl rfl rfl (ps_nilCheck rfl) rfl ?_ | refine sk_pure_g rfl rfl rfl rfl (ps_fieldAddr rfl) rfl ?_ | refine sk_pure_g rfl rfl rfl rfl (ps_bin rfl rfl inferInstance) rfl ?_ | refine sk_pure_g rfl rfl rfl rfl (ps_len rfl) rfl ?_ | refine sk_load_g 0 rfl rfl rfl rfl rfl rfl rfl ?_ | refine sk_eff rfl rfl ?_ | refine sg_guard_yes rfl rfl ?_ | (refine sk_dec rfl rfl rfl rfl (fun hg => ?_) (fun hg => ?_) <;> first | (exfalso; omega) | (exact absurd rfl hg) | skip))
      refine sg_call (r3count_tri data.length hdl _) rfl rfl (fun _ _ => ?_)
      rw [← hk]
      refine sk_back (fun w hO => hO) ?_
      repeat' (first | refine sk_nil ?_ | refine sk_pure rfl rfl (ps_pick_f rfl rfl) rfl ?_ | refine sk_pure_g rfl rfl rfl rfl (ps_add64 rfl rfl (by omega)) rfl ?_ | refine sk_pure_g rfl rfl rfl rfl (ps_bin rfl rfl inferInstance) rfl ?_)
      repeat' (first | refine sg_wo ?_ | refine sg_ps (ps_move rfl) rfl ?_ | refine sg_seq ?_ | refine sg_region ?_ | refine sg_then ?_ | refine sg_skip ?_ | (refine sg_cond_dec rfl (fun hg => ?_) (fun hg => ?_) <;> first | (exfalso; omega) | (exact absurd rfl hg) | skip))
      refine sg_own hshut ?_
      refine sg_call ((rsectors_tri id data ba bc hc hdl hid (RefRep r D :: R) (fun L => by have := hr (L ++ [RefRep r D]); rwa [List.append_assoc] at this))) rfl rfl (fun y hy => ?_)
      obtain ⟨oa, oc, cs⟩ := y
      dsimp only at hy ⊢
      have hcl : cs.length = k := by have := congrArg List.length hy; rw [List.length_map, rsecs_len] at this; omega
      have hcg : ∀ i (h : i < cs.length), cs[i].data = pad (sect id i k (partAt data i)) := by
        intro i h
        have h9 := congrArg (fun l => l[i]?) hy
        simp only [List.getElem?_map, List.getElem?_eq_getElem h, Option.map_some, rsecs_get (show i < cnt data.length by omega), Option.some.injEq] at h9
        rw [← hk] at h9
        exact h9
      have hpl : ∀ i, (partAt data i).length ≤ 50 := fun i => by rw [partAt_length]; omega
      repeat' (first | refine sg_wo ?_ | refine sg_ps (ps_assign rfl) rfl ?_ | refine sg_seq ?_ | refine sg_region ?_ | refine sg_nil ?_ | refine sg_then ?_ | refine sg_block ?_)
      refine sg_loop (γ := Nat × DS) (fun x => x.1 ≤ k ∧ wrs st id k data D 0 k = wrs st id k data x.2 x.1 (k - x.1) ∧ x.2.seen.length = D.seen.length ∧ x.2.writes ≤ D.writes + x.1 ∧ x.2.wait.length ≤ D.wait.length + x.1)
        (fun x => [(0, dp r), (1, i64 st), (9, .slice oa cs.length oc), (10, i64 x.1)]) (fun x => RefRep r x.2 :: BsRep oa oc cs :: R) (fun x => k - x.1) (0, D)
        ⟨Nat.zero_le _, rfl, rfl, Nat.le_refl _, Nat.le_refl _⟩ (.cons rfl (.cons rfl (.cons rfl (.cons rfl .nil)))) (fun w hO => hO.front1) ?_
      rintro ⟨i, T⟩ ⟨hi, hrun, hTl, hTw, hTt⟩
      dsimp only at hi hrun hTl hTw hTt ⊢
      by_cases hik : i < k
      · have hil : i < cs.length := by omega
        have hci := hcg i hil
        have hlen : cs[i].data.length = 64 := by rw [hci]; exact pad_length (by rw [sect_length]; have := hpl i; omega)
        refine sg_bs_some 1 rfl (by omega) ?_
        rintro ob rfl
        repeat' (first | refine sg_wo ?_ | refine sg_ps (ps_move rfl) rfl ?_ | refine sg_seq ?_ | refine sg_region ?_ | refine sg_nil ?_ | refine sg_then ?_ | refine sg_ps (ps_add64 rfl rfl (by omega)) rfl ?_ | refine sg_ps (ps_bin rfl rfl inferInstance) rfl ?_ | refine sg_ps (ps_len rfl) rfl ?_ | refine sg_ps (ps_indexAddr rfl rfl rfl (by omega)) rfl ?_ | refine sg_block ?_ | refine sg_skip ?_ | (refine sg_cond_dec rfl (fun hg => ?_) (fun hg => ?_) <;> first | (exfalso; omega) | (exact absurd rfl hg) | skip))
        refine sg_load_rd rfl (rd_bhdr (i := i) 1 rfl (List.getElem?_eq_getElem hil)) rfl ?_
        have hwr := rwrite_tri (W := W) r T ((st + i : Nat) : Int) cs[i].data cs[i].a cs[i].c (BsRep (some ⟨ob, 0, none⟩) oc cs :: R) (by omega) (by omega) (fun L => rd_bdata (i := i) L.length (by rw [List.getElem?_append_right (Nat.le_refl _), Nat.sub_self]; rfl) (List.getElem?_eq_getElem hil)) (by omega)
        rw [hci, write_pad T _ _ (by rw [sect_length]; have := hpl i; omega), ← hci] at hwr
        have hws := write_sizes T ((st + i : Nat) : Int) (sect id i k (partAt data i))
        have hstep : wrs st id k data T i (k - i) = if (T.write ((st + i : Nat) : Int) (sect id i k (partAt data i))).1 = 0 then wrs st id k data (T.write ((st + i : Nat) : Int) (sect id i k (partAt data i))).2 (i + 1) (k - (i + 1))
            else T.write ((st + i : Nat) : Int) (sect id i k (partAt data i)) := by
          rw [show k - i = (k - (i + 1)) + 1 by omega]; rfl
        generalize T.write ((st + i : Nat) : Int) (sect id i k (partAt data i)) = q at *
        rw [show CB.hdr cs[i] = .slice cs[i].a cs[i].data.length cs[i].c from rfl]
        repeat' (first | refine sg_wo ?_)
        rw [show (st : Int) + (i : Int) = ((st + i : Nat) : Int) by omega]
        refine sg_call hwr rfl rfl (fun _ _ => ?_)
        by_cases hq : q.1 = 0
        · rw [if_pos hq] at hstep
          repeat' (first | refine sg_wo ?_ | refine sg_ps (ps_move rfl) rfl ?_ | refine sg_ps (ps_assign rfl) rfl ?_ | refine sg_seq ?_ | refine sg_region ?_ | refine sg_nil ?_ | refine sg_then ?_ | refine sg_ps (ps_add64 rfl rfl (by omega)) rfl ?_ | refine sg_ps (ps_bin rfl rfl inferInstance) rfl ?_ | refine sg_skip ?_ | refine ex_block_normal ?_ | (refine sg_cond_ndec rfl (fun hg => ?_) (fun hg => ?_) <;> first | (exfalso; omega) | (exact absurd rfl hg) | skip))
          exact ex_mid (i + 1, q.2) ⟨by show k - (i + 1) < k - i; omega, by show i + 1 ≤ k; omega, hrun.trans hstep, by show q.2.seen.length = _; omega, by show q.2.writes ≤ _; omega, by show q.2.wait.length ≤ _; omega⟩
            (.cons rfl (.cons rfl (.cons rfl (.cons rfl .nil)))) (fun w hO => hO)
        · rw [if_neg hq] at hstep
          repeat' (first | refine sg_wo ?_ | refine sg_ps (ps_move rfl) rfl ?_ | refine sg_ps (ps_assign rfl) rfl ?_ | refine sg_seq ?_ | refine sg_region ?_ | refine sg_nil ?_ | refine sg_then ?_ | refine sg_ps (ps_bin rfl rfl inferInstance) rfl ?_ | refine sg_ret ?_ | refine ex_then_ret ?_ | refine ex_block_ret ?_ | (refine sg_cond_ndec rfl (fun hg => ?_) (fun hg => ?_) <;> first | (exfalso; omega) | (exact absurd rfl hg) | skip))
          rw [hrun, hstep]
          exact ex_ret1 rfl rfl () rfl trivial (fun w hO => hO.front1.tail)
      · have hik2 : i = k := by omega
        subst hik2
        rw [hrun, Nat.sub_self]
        repeat' (first | refine sg_wo ?_ | refine sg_ps (ps_move rfl) rfl ?_ | refine sg_ps (ps_assign rfl) rfl ?_ | refine sg_seq ?_ | refine sg_region ?_ | refine sg_nil ?_ | refine sg_then ?_ | refine sg_ps (ps_bin rfl rfl inferInstance) rfl ?_ | refine sg_ps (ps_len rfl) rfl ?_ | refine sg_ret ?_ | refine sg_exit ?_ | refine ex_then_exit ?_ | refine ex_block_hit ?_ | (refine sg_cond_dec rfl (fun hg => ?_) (fun hg => ?_) <;> first | (exfalso; omega) | (exact absurd rfl hg) | skip))
        exact ex_ret1 rfl rfl () rfl trivial (fun w hO => hO.front1.tail)
end Go.Proofs.Ytgcfonjiingpnaa
