/- Write and Crash of package disk. -/
import Derived.Test.YtdehkdmnddflhaaDK
namespace Go.Proofs.Ytdehkdmnddflhaa
set_option linter.unusedVariables false
set_option linter.unusedSimpArgs false
set_option linter.unusedSectionVars false
set_option linter.unnecessarySimpa false
open Go Go.Proofs
set_option maxRecDepth 20000
set_option maxHeartbeats 4000000
attribute [local irreducible] SG WC WO W1 WD PS Rd Tri Exit.then Exit.inBlock bodyPost calmQ Mid
variable {W : World}
theorem pad_length {bs : List UInt8} (h : bs.length ≤ 64) : (pad bs).length = 64 := by simp [pad]; omega
theorem flat_snoc {α : Type} (f : α → List Value) (l : List α) (x : α) : (l ++ [x]).flatMap f = l.flatMap f ++ f x := by simp
theorem put_build (k : Int) (was : List Value) (h : was.length = 64) : bfill [(0, 1), (1, 64), (65, 64)] (([.int .i64 0] : List Value) ++ List.replicate 128 (Value.int .u8 0)) [(0, .int .i64 k), (1, .agg was.toArray)] = some (.int .i64 k :: (was ++ List.replicate 64 (.int .u8 0))) := by
  rw [bfill_step (vs := [.int .i64 k]) rfl rfl rfl (by rw [List.length_append, List.length_replicate]; exact Nat.le_add_right 1 128)]
  have e1 : splice (([.int .i64 0] : List Value) ++ List.replicate 128 (Value.int .u8 0)) 0 [.int .i64 k] = .int .i64 k :: List.replicate 128 (Value.int .u8 0) := by
    simp only [List.cons_append, List.nil_append, splice, splice_nil]
  rw [e1, bfill_step (vs := was) rfl rfl h (by rw [List.length_cons, List.length_replicate]; omega)]
  simp only [bfill, splice]
  rw [splice_eq _ _ _ (by rw [h, List.length_replicate]; omega), h, List.drop_replicate, List.take_zero, List.nil_append]
theorem put_copy (k : Int) (was : List Value) (bs : List UInt8) (h : was.length = 64) (hb : bs.length ≤ 64) : splice (.int .i64 k :: (was ++ List.replicate 64 (.int .u8 0))) (0 + 65) (bs.map bv) = .int .i64 k :: (was ++ (pad bs).map bv) := by
  show .int .i64 k :: splice (was ++ List.replicate 64 (.int .u8 0)) 64 (bs.map bv) = _
  congr 1
  rw [splice_eq _ _ _ (by rw [List.length_append, List.length_replicate, List.length_map, h]; omega)]
  have e1 : (was ++ List.replicate 64 (Value.int .u8 0)).take 64 = was := by rw [← h]; exact List.take_left
  have e2 : (was ++ List.replicate 64 (Value.int .u8 0)).drop (64 + (bs.map bv).length) = List.replicate (64 - bs.length) (.int .u8 0) := by
    rw [List.drop_append, List.drop_of_length_le (by rw [h]; omega), List.nil_append, h, List.drop_replicate, List.length_map, show 64 - (64 + bs.length - 64) = 64 - bs.length by omega]
  rw [e1, e2]
  simp [pad, -List.reduceReplicate]
theorem now_get (k : Int) (was : List Value) (now : List Value) (h : was.length = 64) (j : Nat) : (Value.int .i64 k :: (was ++ now))[0 + 65 + j]? = now[j]? := by
  rw [show 0 + 65 + j = (64 + j) + 1 by omega, List.getElem?_cons_succ, List.getElem?_append_right (by omega), h, Nat.add_sub_cancel_left]
theorem write_tri (d : Nat) (S : DS) (i : Int) (bs : List UInt8) (ba : Option Addr) (bc : Nat) (R : List HP) (hb : S.writes ≤ 1000000) (hw : S.wait.length ≤ 1000000) (hr : Rd W R ba (bs.map bv)) (hbl : bs.length ≤ 9223372036854775807) :
    Tri Try.prog W 35 [dp d, i64 i, .slice ba bs.length bc] (DiskRep d S :: R) (X := Unit) (fun _ => i64 (S.write i bs).1) (fun _ => True) (fun _ => DiskRep d (S.write i bs).2 :: R) := by
  refine tri_enter3 Try.func35 rfl Try.ntmps35 rfl ?_
  refine sg_seq (sg_region (sg_wo (sg_ps (ps_assign rfl) rfl (sg_nil (sg_then ?_)))))
  refine sg_seq_mid (γ := Int) (fun f => S.ok ∧ (0 ≤ i ∧ i < S.seen.length) ∧ bs.length ≤ 64 ∧ S.down = false ∧ S.fuse ≠ 0 ∧ f = if 0 < S.fuse then S.fuse - 1 else S.fuse) (fun f => [(0, dp d), (1, i64 i), (2, .slice ba bs.length bc)])
    (fun f => DiskRep d { S with fuse := f } :: R) ?_ ?_
  · skip
    repeat' (first | refine sg_wo ?_ | refine sg_ps (ps_move rfl) rfl ?_ | refine sg_ps (ps_assign rfl) rfl ?_ | refine sg_seq ?_ | refine sg_region ?_ | refine sg_nil ?_ | refine sg_then ?_ | refine sg_ps (ps_bin rfl rfl inferInstance) rfl ?_ | refine sg_cond_f rfl ?_ | refine sg_block ?_)
    refine sg_call (there_tri d S i R) rfl rfl (fun _ _ => ?_)
    by_cases hi : 0 ≤ i ∧ i < S.seen.length
    case neg =>
      rw [show decide (0 ≤ i ∧ i < (S.seen.length : Int)) = false by simpa using hi]
      repeat' (first | refine sg_wo ?_ | refine sg_ps (ps_move rfl) rfl ?_ | refine sg_ps (ps_assign rfl) rfl ?_ | refine sg_seq ?_ | refine sg_region ?_ | refine sg_nil ?_ | refine sg_then ?_ | refine sg_ps (ps_not rfl) rfl ?_ | refine sg_cond_t rfl ?_ | refine sg_guard_nt rfl rfl rfl ?_ | refine sg_ps (ps_pick_t rfl rfl) rfl ?_ | refine sg_ret ?_ | refine ex_then_ret ?_ | refine ex_block_ret ?_)
      have e : S.write i bs = (1, S) := by unfold DS.write; rw [if_pos (.inl hi)]
      refine ex_ret1 rfl rfl () (by rw [e]) trivial (fun w hO => ?_)
      rw [e]; exact hO
    rw [show decide (0 ≤ i ∧ i < (S.seen.length : Int)) = true by simpa using hi]
    repeat' (first | refine sg_wo ?_ | refine sg_ps (ps_move rfl) rfl ?_ | refine sg_ps (ps_assign rfl) rfl ?_ | refine sg_seq ?_ | refine sg_region ?_ | refine sg_nil ?_ | refine sg_then ?_ | refine sg_ps (ps_fieldAddr rfl) rfl ?_ | refine sg_ps (ps_nilCheck rfl) rfl ?_ | refine sg_ps (ps_bin rfl rfl inferInstance) rfl ?_ | refine sg_ps (ps_not rfl) rfl ?_ | refine sg_guard_yes rfl rfl ?_ | refine sg_ps (ps_pick_f rfl rfl) rfl ?_ | refine sg_ps (ps_len rfl) rfl ?_ | refine sg_ret ?_ | refine ex_then_ret ?_ | refine ex_block_ret ?_ | (refine sg_cond_dec rfl (fun hg => ?_) (fun hg => ?_) <;> first | (exfalso; omega) | (exact absurd rfl hg) | skip))
    · have e : S.write i bs = (1, S) := by unfold DS.write; rw [if_pos (.inr (by omega))]
      refine ex_ret1 rfl rfl () (by rw [e]) trivial (fun w hO => ?_)
      rw [e]; exact hO
    rename_i hlen
    have e0 : ¬ (¬ (0 ≤ i ∧ i < (S.seen.length : Int)) ∨ 64 < bs.length) := by omega
    refine DiskRep.open fun sb wa wc hS => ?_
    have hfz := hS.fz
    repeat' (first | refine sg_wo ?_ | refine sg_ps (ps_move rfl) rfl ?_ | refine sg_ps (ps_assign rfl) rfl ?_ | refine sg_seq ?_ | refine sg_region ?_ | refine sg_nil ?_ | refine sg_then ?_ | refine sg_ps (ps_fieldAddr rfl) rfl ?_ | refine sg_ps (ps_nilCheck rfl) rfl ?_ | refine sg_load 0 rfl rfl rfl rfl ?_ | refine sg_ps (ps_sub64 rfl rfl (by omega)) rfl ?_ | refine sg_ps (ps_bin rfl rfl inferInstance) rfl ?_ | refine sg_skip ?_ | refine sg_ret ?_ | refine ex_then_ret ?_ | refine ex_block_ret ?_ | refine ex_block_normal ?_ | refine sg_store [] rfl rfl rfl (of_decide_eq_true rfl) ?_ | (refine sg_cond_dec rfl (fun hg => ?_) (fun hg => ?_) <;> first | (exfalso; omega) | (exact absurd rfl hg) | skip) | refine sg_cond rfl (fun hg => ?_) (fun hg => ?_))
    · have e : S.write i bs = (4, S) := by unfold DS.write; rw [if_neg e0, if_pos hg]
      refine ex_ret1 rfl rfl () (by rw [e]) trivial (fun w hO => ?_)
      rw [e]; exact DiskRep.shut hS hO
    · have e : S.write i bs = (4, { S with down := true }) := by unfold DS.write; rename_i h2; rw [if_neg e0, if_neg (by simp [h2]), if_pos hg]
      refine ex_ret1 rfl rfl () (by rw [e]) trivial (fun w hO => ?_)
      rw [e]; exact DiskRep.shut ⟨hS.n, hS.sec, hS.wt, hS.fz⟩ hO
    · rename_i h1 h2
      refine ex_mid (S.fuse - 1) ⟨hS, hi, by omega, h1, h2, by rw [if_pos hg]⟩ (.cons rfl (.cons rfl (.cons rfl .nil))) (fun w hO => ?_)
      exact DiskRep.shut (S := { S with fuse := S.fuse - 1 }) ⟨hS.n, hS.sec, hS.wt, by show -1 ≤ S.fuse - 1 ∧ S.fuse - 1 ≤ _; omega⟩ hO
    · rename_i h1 h2
      refine ex_mid S.fuse ⟨hS, hi, by omega, h1, h2, by rw [if_neg hg]⟩ (.cons rfl (.cons rfl (.cons rfl .nil))) (fun w hO => ?_)
      exact DiskRep.shut hS hO
  · rintro f ⟨hS0, hi, hlen, hdown, hf0, hf⟩
    obtain ⟨k, rfl⟩ : ∃ k : Nat, i = k := ⟨i.toNat, by omega⟩
    have hk : k < S.seen.length := by omega
    have hws : (S.write k bs) = (0, { S with seen := S.seen.set k (pad bs), wait := S.wait ++ [(k, S.seen.getD k [], pad bs)], fuse := f, writes := S.writes + 1 }) := by
      unfold DS.write; rw [if_neg (by omega), if_neg (by simp [hdown]), if_neg hf0, hf]; rfl
    have hbw : ({ S with fuse := f } : DS).writes ≤ 1000000 := hb
    refine DiskRep.open fun sb wa wc hS => ?_
    have hl : (S.seen[k].map bv).length = 64 := by simp [hS0.sec _ (List.getElem_mem hk)]
    repeat' (first | refine sg_wo ?_ | refine sg_ps (ps_move rfl) rfl ?_ | refine sg_seq ?_ | refine sg_region ?_ | refine sg_ps (ps_fieldAddr rfl) rfl ?_ | refine sg_ps (ps_nilCheck rfl) rfl ?_ | refine sg_load 0 rfl rfl rfl rfl ?_ | refine sg_ps (ps_indexAddr rfl rfl rfl (by omega)) rfl ?_)
    refine sg_load_agg 1 rfl rfl hl (by rw [Nat.zero_add]; exact seen_get hS0 hk) rfl ?_
    refine sg_wo (sg_ps (ps_build (cells := .int .i64 k :: (S.seen[k].map bv ++ List.replicate 64 (.int .u8 0))) rfl (put_build k _ hl)) rfl ?_)
    refine sg_wo (sg_alloc rfl (fun p => ?_))
    refine sg_wo (sg_store_agg [] rfl rfl (by simp [hl]) (by intro u hu; simp at hu; rcases hu with rfl | ⟨b, _, rfl⟩ | rfl <;> rfl) (by simp [hl, Value.cells]) ?_)
    rw [splice_full _ _ (by simp [hl, Value.cells])]
    repeat' (first | refine sg_wo ?_ | refine sg_seq ?_ | refine sg_region ?_ | refine sg_nil ?_ | refine sg_then ?_ | refine sg_ps (ps_fieldAddr rfl) rfl ?_)
    refine sg_ps (ps_slice_arr rfl) rfl ?_
    repeat' (first | refine sg_wo ?_ | refine sg_ps (ps_move rfl) rfl ?_)
    refine sg_copy [] rfl rfl rfl (news := bs.map bv) (by rw [List.length_map]; exact (Nat.min_eq_left hlen).symm) bv_one hr.mono.mono.mono.mono (by simp [hl]; omega) ?_
    rw [put_copy k _ bs hl hlen]
    repeat' (first | refine sg_seq ?_ | refine sg_nil ?_ | refine sg_then ?_)
    have hpl : (pad bs).length = 64 := pad_length hlen
    have hml : ((pad bs).map bv).length = 64 := by simp [hpl]
    have hchunk : (S.seen[k].map bv ++ (pad bs).map bv).length = 128 := by rw [List.length_append, hl, hml]
    refine sg_draw [0, 1, 2, 4, 5, 3, 6, 7, 8] (by kernel_rfl) (by kernel_rfl) ?_
    repeat' (first | refine sd_pure rfl rfl (ps_move rfl) rfl ?_ | refine sd_pure rfl rfl (ps_nilCheck rfl) rfl ?_ | refine sd_pure rfl rfl (ps_fieldAddr rfl) rfl ?_ | refine sd_load 1 rfl rfl rfl rfl rfl ?_)
    refine sd_load_agg rfl rfl hml (rd_blk 0 rfl (fun j u hj => by rw [now_get k _ _ hl]; exact hj)) rfl ?_
    refine sd_pure rfl rfl (ps_indexAddr rfl rfl rfl hk) rfl ?_
    refine sd_eff rfl rfl ?_
    refine sg_store_agg [_, _] rfl rfl hml bv_one (by rw [hml, flat_length 64 _ _ (fun s hs => by simp [hS0.sec s hs])]; simp only []; omega) ?_
    rw [Nat.zero_add, flat_set 64 (fun s : List UInt8 => s.map bv) S.seen k (pad bs) (fun s hs => by simp [hS0.sec s hs]) hk hml]
    refine sd_nil ?_
    refine sg_then ?_
    refine sg_seq ?_
    refine sg_draw [0, 1, 2, 3, 4, 5, 6, 7, 8, 9, 10] (by kernel_rfl) (by kernel_rfl) ?_
    repeat' (first | refine sd_pure rfl rfl (ps_move rfl) rfl ?_ | refine sd_pure rfl rfl (ps_nilCheck rfl) rfl ?_ | refine sd_pure rfl rfl (ps_fieldAddr rfl) rfl ?_ | refine sd_load 1 rfl rfl rfl rfl rfl ?_)
    refine sd_load_agg rfl rfl (vs := wcells (k, S.seen[k], pad bs)) (by simp [wcells, hpl]; simpa using hl) (rd_blk 0 rfl (fun j u hj => by rw [Nat.zero_add]; exact hj)) rfl ?_
    have h129 : (wcells (k, S.seen[k], pad bs)).length = 129 := by simp [wcells, hpl]; simpa using hl
    have hone : ∀ u ∈ wcells (k, S.seen[k], pad bs), u.oneCell' = true := by
      intro u hu; simp only [wcells, List.mem_cons, List.mem_append] at hu
      rcases hu with rfl | hu | hu
      · rfl
      · exact bv_one u hu
      · exact bv_one u hu
    refine sd_eff rfl rfl ?_
    refine sg_buildSlice1 rfl (by omega) rfl h129 rfl (fun q => ?_)
    refine sd_eff rfl rfl ?_
    refine sg_front4 ?_
    refine sg_append rfl rfl rfl (by rw [h129]) hone (rd_blk 1 rfl (fun j u hj => by rw [Nat.zero_add]; exact hj)) (by simp only [maxLen]; omega) (by simp only []; omega) (fun a' c' => ?_)
    repeat' (first | refine sd_nil ?_ | refine sd_pure rfl rfl (ps_nilCheck rfl) rfl ?_ | refine sd_pure rfl rfl (ps_fieldAddr rfl) rfl ?_ | refine sd_eff rfl rfl ?_ | refine sg_store [_, _, _] rfl rfl rfl (of_decide_eq_true rfl) ?_)
    repeat' (first | refine sg_wo ?_ | refine sg_ps (ps_move rfl) rfl ?_ | refine sg_ps (ps_assign rfl) rfl ?_ | refine sg_seq ?_ | refine sg_region ?_ | refine sg_nil ?_ | refine sg_then ?_ | refine sg_ps (ps_fieldAddr rfl) rfl ?_ | refine sg_ps (ps_nilCheck rfl) rfl ?_ | refine sg_load 3 rfl rfl rfl rfl ?_ | refine sg_ps (ps_add64 rfl rfl (by omega)) rfl ?_ | refine sg_ret ?_ | refine sg_store [_, _, _] rfl rfl rfl (of_decide_eq_true rfl) ?_)
    refine ex_ret1 rfl rfl () (by rw [hws]) trivial (fun w hO => ?_)
    rw [hws]
    have hgd : S.seen.getD k [] = S.seen[k] := by simp [hk]
    have hO2 := hO.front1.tail.front1.tail.back2
    refine DiskRep.shut (S := { S with seen := S.seen.set k (pad bs), wait := S.wait ++ [(k, S.seen.getD k [], pad bs)], fuse := f, writes := S.writes + 1 }) (sb := sb) (wa := a') (wc := c') ?_ ?_
    · refine ⟨by simp only [List.length_set]; exact hS0.n, ?_, ?_, hS.fz⟩
      · intro s hs
        rcases List.mem_or_eq_of_mem_set hs with h | h
        · exact hS0.sec s h
        · rw [h]; exact hpl
      · intro x hx
        simp only [List.mem_append, List.mem_singleton] at hx
        simp only [List.length_set]
        rcases hx with hx | hx
        · exact hS0.wt x hx
        · subst hx; exact ⟨hk, by rw [hgd]; simpa using hl, hpl⟩
    · have e1 : dcells { S with seen := S.seen.set k (pad bs), wait := S.wait ++ [(k, S.seen.getD k [], pad bs)], fuse := f, writes := S.writes + 1 } sb a' c' = [.slice (some ⟨sb, 0, none⟩) S.seen.length S.seen.length, .slice a' (S.wait.length + 1) c', .int .i64 f, .bool S.down, .int .i64 (S.writes + 1), .int .i64 S.syncs] := by
        simp [dcells]
      rw [e1]
      simp only [List.length_append, List.length_singleton, List.flatMap_append, List.flatMap_cons, List.flatMap_nil, List.append_nil, hgd]
      exact hO2

end Go.Proofs.Ytdehkdmnddflhaa
