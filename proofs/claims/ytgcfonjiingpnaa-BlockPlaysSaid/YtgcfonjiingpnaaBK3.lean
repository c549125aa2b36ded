/- Package block: Read. -/
import Derived.Test.YtgcfonjiingpnaaBK2
namespace Go.Proofs.Ytgcfonjiingpnaa
set_option linter.unusedVariables false
set_option linter.unusedSimpArgs false
set_option linter.unusedSectionVars false
set_option linter.unnecessarySimpa false
open Go Go.Proofs
set_option maxRecDepth 20000
set_option maxHeartbeats 4000000
attribute [local irreducible] SG WC WO W1 WD WK PS Rd Tri Exit.then Exit.inBlock bodyPost calmQ Mid sadd
variable {W : World} {n : Nat} {F : Fr} {L : List HP} {G : Act → World → Prop}
/-- From sector number i on, n of them known (0: none yet), out so far. -/
def brd (seen : List (List UInt8)) (st id : Nat) : Nat → Nat → Nat → List UInt8 → List UInt8 × Int
  | 0, _, _, _ => ([], 2)
  | k + 1, i, n, out =>
    if i = 0 ∨ i < n then
      (if st + i < seen.length then
        (if (pieceA (seen.getD (st + i) []) id i n).ok = true then brd seen st id k (i + 1) (pieceA (seen.getD (st + i) []) id i n).count (out ++ (pieceA (seen.getD (st + i) []) id i n).data) else ([], 2))
      else ([], 2))
    else if 32768 < out.length then ([], 2) else (out, 0)
theorem brd_succ (seen : List (List UInt8)) (st id k i n : Nat) (out : List UInt8) : brd seen st id (k + 1) i n out = if i = 0 ∨ i < n then
      (if st + i < seen.length then
        (if (pieceA (seen.getD (st + i) []) id i n).ok = true then brd seen st id k (i + 1) (pieceA (seen.getD (st + i) []) id i n).count (out ++ (pieceA (seen.getD (st + i) []) id i n).data) else ([], 2))
      else ([], 2))
    else if 32768 < out.length then ([], 2) else (out, 0) := rfl
def bread (S : DS) (start : Int) (id : Nat) : List UInt8 × Int :=
  if id = 0 ∨ start < 0 ∨ (S.seen.length : Int) ≤ start then ([], 1) else brd S.seen start.toNat id 700 0 0 []
theorem read_bad (d : Nat) (S : DS) (i : Int) (R : List HP) (hk : ¬ (0 ≤ i ∧ i < S.seen.length)) :
    Tri Try.prog W 27 [dp d, i64 i] (DiskRep d S :: R) (X := Unit) (fun _ => .tuple #[.slice none 0 0, i64 1]) (fun _ => True) (fun _ => DiskRep d S :: R) := by
  refine tri_enter2 Try.func27 rfl Try.ntmps27 rfl ?_
  repeat' (first | refine sg_wo ?_ | refine sg_ps (ps_move rfl) rfl ?_ | refine sg_ps (ps_assign rfl) rfl ?_ | refine sg_seq ?_ | refine sg_region ?_ | refine sg_nil ?_ | refine sg_then ?_ | refine sg_ps (ps_bin rfl rfl inferInstance) rfl ?_ | refine sg_cond_f rfl ?_ | refine sg_block ?_)
  refine sg_call (there_tri d S i R) rfl rfl (fun _ _ => ?_)
  rw [show decide (0 ≤ i ∧ i < S.seen.length) = false from decide_eq_false hk]
  repeat' (first | refine sg_wo ?_ | refine sg_ps (ps_assign rfl) rfl ?_ | refine sg_seq ?_ | refine sg_region ?_ | refine sg_nil ?_ | refine sg_then ?_ | refine sg_ps (ps_not rfl) rfl ?_ | refine sg_cond_t rfl ?_ | refine sg_ret ?_ | refine ex_then_ret ?_ | refine ex_block_ret ?_)
  exact ex_ret2 rfl rfl rfl () rfl trivial (fun w hO => hO)
theorem sg_disk_ok {d : Nat} {S : DS} (h : S.ok → SG W n F (DiskRep d S :: L) G) : SG W n F (DiskRep d S :: L) G := by
  refine sg_open (X := Unit) (L' := fun _ => DiskRep d S :: L) (φ := fun _ => S.ok) (fun w hO => ?_) (fun _ hS => h hS)
  obtain ⟨k, K, ⟨x, hS, hk⟩, hs, hK, hS', hd⟩ := hO.uncons
  exact ⟨(), hS, hO⟩
theorem piece64 (s : List UInt8) (hs : s.length = 64) (sa : Option Addr) (sc : Nat) (id i n : Nat) (hi : i ≤ 1000000) (hn : n ≤ 1000000) (R : List HP) (hr : Rd W R sa (s.map bv)) :
    Tri Try.prog W 34 [.slice sa 64 sc, .int .u64 (id : Int), i64 i, i64 n] R (X := Option Addr × Nat) (fun x => .tuple #[.slice x.1 (pieceA s id i n).data.length x.2, i64 (pieceA s id i n).count, .bool (pieceA s id i n).ok]) (fun _ => True)
      (fun x => sown x.1 (pieceA s id i n).data.length x.2 1 ((pieceA s id i n).data.map bv) :: R) := by
  have h := piece_tri s sa sc id i n hi hn (by omega) R hr
  rw [hs] at h
  exact h
theorem piece_some {s : List UInt8} {id i n : Nat} (h : (pieceA s id i n).ok = true) : 1 ≤ (pieceA s id i n).count ∧ (pieceA s id i n).count ≤ 656 ∧ (n = 0 ∨ (pieceA s id i n).count = n) ∧ (pieceA s id i n).data.length ≤ 50 := by
  unfold pieceA at h ⊢
  split
  · rename_i hg; exact ⟨hg.2.2.2.2.1, hg.2.2.2.2.2.1, hg.2.2.2.1, hg.2.2.2.2.2.2.1⟩
  · rename_i hg; rw [if_neg hg] at h; cases h
theorem bread_nil (start : Int) (id : Nat) (R : List HP) :
    Tri Try.prog W 12 [.pointer none, i64 start, .int .u64 (id : Int)] R (X := Unit) (fun _ => .tuple #[.slice none 0 0, i64 11]) (fun _ => True) (fun _ => R) := by
  refine tri_enter3 Try.func12 rfl Try.ntmps12 rfl ?_
  repeat' (first | refine sg_wo ?_ | refine sg_ps (ps_move rfl) rfl ?_ | refine sg_ps (ps_assign rfl) rfl ?_ | refine sg_seq ?_ | refine sg_region ?_ | refine sg_nil ?_ | refine sg_then ?_ | refine sg_ps (ps_bin rfl rfl inferInstance) rfl ?_ | refine sg_cond_t rfl ?_ | refine sg_block ?_ | refine sg_ret ?_ | refine ex_then_ret ?_ | refine ex_block_ret ?_)
  exact ex_ret2 rfl rfl rfl () rfl trivial (fun w hO => hO)
theorem bread_tri (d : Nat) (S : DS) (start : Int) (id : Nat) (R : List HP) (hs : start ≤ 9223372036854775807) (hn8 : S.seen.length ≤ 4096) :
    Tri Try.prog W 12 [dp d, i64 start, .int .u64 (id : Int)] (DiskRep d S :: R) (X := Option Addr × Nat) (fun x => .tuple #[.slice x.1 (bread S start id).1.length x.2, i64 (bread S start id).2]) (fun _ => True)
      (fun x => sown x.1 (bread S start id).1.length x.2 1 ((bread S start id).1.map bv) :: DiskRep d S :: R) := by
  refine tri_enter3 Try.func12 rfl Try.ntmps12 rfl ?_
  have hd : bread S start id = if id = 0 ∨ start < 0 ∨ (S.seen.length : Int) ≤ start then ([], 1) else brd S.seen start.toNat id 700 0 0 [] := rfl
  by_cases h1 : id = 0 ∨ start < 0
  · rw [if_pos (by omega)] at hd
    rw [hd]
    repeat' (first | refine sg_wo ?_ | refine sg_ps (ps_move rfl) rfl ?_ | refine sg_ps (ps_assign rfl) rfl ?_ | refine sg_seq ?_ | refine sg_region ?_ | refine sg_nil ?_ | refine sg_then ?_ | refine sg_ps (ps_bin rfl rfl inferInstance) rfl ?_ | refine sg_cond_t rfl ?_ | refine sg_cond_f rfl ?_ | refine sg_guard_yes rfl rfl ?_ | refine sg_guard_nt rfl rfl rfl ?_ | refine sg_ps (ps_pick_t rfl rfl) rfl ?_ | refine sg_ps (ps_pick_f rfl rfl) rfl ?_ | refine sg_block ?_ | refine sg_ret ?_ | refine ex_then_ret ?_ | refine ex_block_ret ?_ | (refine sg_guard_dec rfl rfl (fun hg => ?_) (fun hg => ?_) <;> first | (exfalso; omega) | (exact absurd rfl hg) | skip))
    all_goals exact ex_ret2 rfl rfl rfl (none, 0) rfl trivial (fun w hO => own_nil hO)
  · skip
    repeat' (first | refine sg_wo ?_ | refine sg_ps (ps_move rfl) rfl ?_ | refine sg_ps (ps_assign rfl) rfl ?_ | refine sg_seq ?_ | refine sg_region ?_ | refine sg_nil ?_ | refine sg_then ?_ | refine sg_ps (ps_bin rfl rfl inferInstance) rfl ?_ | refine sg_cond_f rfl ?_ | refine sg_guard_yes rfl rfl ?_ | refine sg_ps (ps_pick_f rfl rfl) rfl ?_ | refine sg_block ?_ | (refine sg_guard_dec rfl rfl (fun hg => ?_) (fun hg => ?_) <;> first | (exfalso; omega) | (exact absurd rfl hg) | skip))
    refine sg_call (size_tri d S _) rfl rfl (fun _ _ => ?_)
    repeat' (first | refine sg_wo ?_ | refine sg_ps (ps_assign rfl) rfl ?_ | refine sg_seq ?_ | refine sg_region ?_ | refine sg_nil ?_ | refine sg_then ?_ | refine sg_ps (ps_bin rfl rfl inferInstance) rfl ?_ | refine sg_guard_yes rfl rfl ?_ | refine sg_ps (ps_pick_f rfl rfl) rfl ?_ | refine sg_block ?_ | refine sg_skip ?_ | refine sg_ret ?_ | refine ex_then_ret ?_ | refine ex_block_ret ?_ | refine ex_block_normal ?_ | (refine sg_cond_dec rfl (fun hg => ?_) (fun hg => ?_) <;> first | (exfalso; omega) | (exact absurd rfl hg) | skip))
    · rw [if_pos (by omega)] at hd
      rw [hd]
      exact ex_ret2 rfl rfl rfl (none, 0) rfl trivial (fun w hO => own_nil hO)
    · rw [if_neg (by omega)] at hd
      obtain ⟨st, rfl⟩ : ∃ st : Nat, start = (st : Int) := ⟨start.toNat, by omega⟩
      rw [Int.toNat_natCast] at hd
      rw [hd]
      obtain ⟨B, hB⟩ : ∃ B, brd S.seen st id 700 0 0 [] = B := ⟨_, rfl⟩
      rw [hB]
      refine sg_nil_own 1 ?_
      refine sg_loop (γ := Nat × Nat × List UInt8 × Option Addr × Nat) (fun x => x.1 ≤ 656 ∧ x.2.1 ≤ 656 ∧ (x.1 = 0 ∨ x.1 ≤ x.2.1) ∧ x.2.2.1.length ≤ 50 * x.1 ∧ B = brd S.seen st id (700 - x.1) x.1 x.2.1 x.2.2.1)
        (fun x => [(0, dp d), (1, i64 st), (2, .int .u64 (id : Int)), (8, .slice x.2.2.2.1 x.2.2.1.length x.2.2.2.2), (9, i64 x.1), (10, i64 x.2.1)]) (fun x => sown x.2.2.2.1 x.2.2.1.length x.2.2.2.2 1 (x.2.2.1.map bv) :: DiskRep d S :: R) (fun x => 700 - x.1) (0, 0, [], none, 0)
        ⟨Nat.zero_le _, Nat.zero_le _, .inl rfl, Nat.zero_le _, hB.symm⟩ (.cons rfl (.cons rfl (.cons rfl (.cons rfl (.cons rfl (.cons rfl .nil)))))) (fun w hO => hO) ?_
      rintro ⟨i, m, out, oa, oc⟩ ⟨hi, hm, him, hol, hrun⟩
      dsimp only at hi hm him hol hrun ⊢
      rw [show 700 - i = (699 - i) + 1 by omega, brd_succ] at hrun
      by_cases hgo : i = 0 ∨ i < m
      · rw [if_pos hgo] at hrun
        repeat' (first | refine sg_wo ?_ | refine sg_ps (ps_move rfl) rfl ?_ | refine sg_seq ?_ | refine sg_region ?_ | refine sg_nil ?_ | refine sg_then ?_ | refine sg_ps (ps_add64 rfl rfl (by omega)) rfl ?_ | refine sg_ps (ps_bin rfl rfl inferInstance) rfl ?_ | refine sg_cond_t rfl ?_ | refine sg_guard_yes rfl rfl ?_ | refine sg_guard_nt rfl rfl rfl ?_ | refine sg_ps (ps_pick_t rfl rfl) rfl ?_ | refine sg_ps (ps_pick_f rfl rfl) rfl ?_ | refine sg_block ?_ | refine sg_skip ?_ | (refine sg_guard_dec rfl rfl (fun hg => ?_) (fun hg => ?_) <;> first | (exfalso; omega) | (exact absurd rfl hg) | skip) | (refine sg_cond_dec rfl (fun hg => ?_) (fun hg => ?_) <;> first | (exfalso; omega) | (exact absurd rfl hg) | skip))
        all_goals
          rw [show (st : Int) + (i : Int) = ((st + i : Nat) : Int) by omega]
          by_cases hin : st + i < S.seen.length
          · rw [if_pos hin] at hrun
            refine sg_front1 ?_
            refine sg_disk_ok fun hS => ?_
            refine sg_call (read_tri d S (st + i) (sown oa out.length oc 1 (out.map bv) :: R) hin) rfl rfl (fun b _ => ?_)
            have hg : S.seen.getD (st + i) [] = S.seen[st + i] := by rw [List.getD_eq_getElem?_getD, List.getElem?_eq_getElem hin]; rfl
            rw [hg] at hrun
            have hsl : S.seen[st + i].length = 64 := hS.sec _ (List.getElem_mem hin)
            generalize S.seen[st + i] = s at hsl hrun
            have hps := piece_some (s := s) (id := id) (i := i) (n := m)
            repeat' (first | refine sg_wo ?_ | refine sg_ps (ps_move rfl) rfl ?_ | refine sg_ps (ps_assign rfl) rfl ?_ | refine sg_seq ?_ | refine sg_region ?_ | refine sg_nil ?_ | refine sg_then ?_ | refine sg_ps (ps_bin rfl rfl inferInstance) rfl ?_ | refine sg_cond_f rfl ?_ | refine sg_ps (ps_extract rfl rfl) rfl ?_ | refine sg_skip ?_)
            refine sg_call (piece64 s hsl (some ⟨b, 0, none⟩) 64 id i m (by omega) (by omega) _ (rd_blk 0 rfl (fun j u h => by rw [Nat.zero_add]; exact h))) rfl rfl (fun y _ => ?_)
            obtain ⟨pa, pc⟩ := y
            obtain ⟨dat, ct, ok, hA⟩ : ∃ dat ct ok, pieceA s id i m = ⟨dat, ct, ok⟩ := ⟨_, _, _, rfl⟩
            rw [hA] at hps hrun ⊢
            cases ok
            · rw [if_neg (by simp)] at hrun
              rw [hrun]
              dsimp only
              repeat' (first | refine sg_wo ?_ | refine sg_ps (ps_move rfl) rfl ?_ | refine sg_ps (ps_assign rfl) rfl ?_ | refine sg_seq ?_ | refine sg_region ?_ | refine sg_nil ?_ | refine sg_then ?_ | refine sg_ps (ps_not rfl) rfl ?_ | refine sg_cond_t rfl ?_ | refine sg_ps (ps_extract rfl rfl) rfl ?_ | refine sg_ret ?_ | refine ex_then_ret ?_ | refine ex_block_ret ?_)
              exact ex_ret2 rfl rfl rfl (none, 0) rfl trivial (fun w hO => own_nil hO.tail.tail.front1.tail)
            · obtain ⟨p1, p2, p3, p4⟩ := hps rfl
              rw [if_pos rfl] at hrun
              dsimp only at p1 p2 p3 p4 ⊢
              repeat' (first | refine sg_wo ?_ | refine sg_ps (ps_move rfl) rfl ?_ | refine sg_ps (ps_assign rfl) rfl ?_ | refine sg_seq ?_ | refine sg_region ?_ | refine sg_nil ?_ | refine sg_then ?_ | refine sg_ps (ps_not rfl) rfl ?_ | refine sg_cond_f rfl ?_ | refine sg_ps (ps_extract rfl rfl) rfl ?_ | refine sg_skip ?_)
              refine sg_own (fun w hO => Own.front3 hO) ?_
              refine sg_append (news := dat.map bv) rfl rfl rfl (by simp) bv_one (rd_sown 1 rfl (fun _ _ h => h)) (by simp only [maxLen]; omega) (by omega) (fun a' c' => ?_)
              repeat' (first | refine sg_wo ?_ | refine sg_ps (ps_move rfl) rfl ?_ | refine sg_ps (ps_assign rfl) rfl ?_ | refine sg_region ?_ | refine sg_nil ?_ | refine sg_then ?_ | refine sg_ps (ps_add64 rfl rfl (by omega)) rfl ?_ | refine ex_block_normal ?_)
              rw [show out.length + dat.length = (out ++ dat).length by rw [List.length_append], ← List.map_append]
              have hrun2 : B = brd S.seen st id (700 - (i + 1)) (i + 1) ct (out ++ dat) := by
                rw [show 700 - (i + 1) = 699 - i by omega]; exact hrun
              exact ex_mid (i + 1, ct, out ++ dat, a', c') ⟨by show 700 - (i + 1) < 700 - i; omega, by show i + 1 ≤ 656; omega, by show ct ≤ 656; omega, by show i + 1 = 0 ∨ i + 1 ≤ ct; omega, by show (out ++ dat).length ≤ 50 * (i + 1); rw [List.length_append]; omega, hrun2⟩
                (.cons rfl (.cons rfl (.cons rfl (.cons rfl (.cons rfl (.cons rfl .nil)))))) (fun w hO => hO.front2.tail.front1.tail)
          · refine sg_call ((read_bad d S ((st + i : Nat) : Int) (sown oa out.length oc 1 (out.map bv) :: R) (by omega)).pre (fun w hO => hO.front1)) rfl rfl (fun _ _ => ?_)
            rw [if_neg hin] at hrun
            rw [hrun]
            repeat' (first | refine sg_wo ?_ | refine sg_ps (ps_move rfl) rfl ?_ | refine sg_ps (ps_assign rfl) rfl ?_ | refine sg_seq ?_ | refine sg_region ?_ | refine sg_nil ?_ | refine sg_then ?_ | refine sg_ps (ps_bin rfl rfl inferInstance) rfl ?_ | refine sg_cond_t rfl ?_ | refine sg_ps (ps_extract rfl rfl) rfl ?_ | refine sg_ret ?_ | refine ex_then_ret ?_ | refine ex_block_ret ?_)
            exact ex_ret2 rfl rfl rfl (none, 0) rfl trivial (fun w hO => own_nil hO.front1.tail)
      · rw [if_neg hgo] at hrun
        repeat' (first | refine sg_wo ?_ | refine sg_ps (ps_move rfl) rfl ?_ | refine sg_ps (ps_assign rfl) rfl ?_ | refine sg_seq ?_ | refine sg_region ?_ | refine sg_nil ?_ | refine sg_then ?_ | refine sg_ps (ps_bin rfl rfl inferInstance) rfl ?_ | refine sg_guard_yes rfl rfl ?_ | refine sg_ps (ps_pick_f rfl rfl) rfl ?_ | refine sg_ps (ps_len rfl) rfl ?_ | refine sg_skip ?_ | refine sg_ret ?_ | refine sg_exit ?_ | refine ex_then_ret ?_ | refine ex_then_exit ?_ | refine ex_block_hit ?_ | (refine sg_guard_dec rfl rfl (fun hg => ?_) (fun hg => ?_) <;> first | (exfalso; omega) | (exact absurd rfl hg) | skip) | (refine sg_cond_dec rfl (fun hg => ?_) (fun hg => ?_) <;> first | (exfalso; omega) | (exact absurd rfl hg) | skip))
        · rw [if_pos (by omega)] at hrun
          rw [hrun]
          exact ex_ret2 rfl rfl rfl (none, 0) rfl trivial (fun w hO => own_nil hO.tail)
        · rw [if_neg (by omega)] at hrun
          rw [hrun]
          exact ex_ret2 rfl rfl rfl (oa, oc) rfl trivial (fun w hO => hO)
end Go.Proofs.Ytgcfonjiingpnaa
