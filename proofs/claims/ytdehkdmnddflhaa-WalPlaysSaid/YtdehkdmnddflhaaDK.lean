/- The disk's representation and the contracts of package disk's functions. -/
import Derived.Test.YtdehkdmnddflhaaRS
namespace Go.Proofs.Ytdehkdmnddflhaa
set_option linter.unusedVariables false
set_option linter.unusedSimpArgs false
set_option linter.unusedSectionVars false
set_option linter.unnecessarySimpa false
open Go Go.Proofs
set_option maxRecDepth 20000
set_option maxHeartbeats 4000000
attribute [local irreducible] SG WC WO W1 WD PS Rd Tri Exit.then Exit.inBlock bodyPost calmQ Mid

structure DS where
  seen : List (List UInt8)
  wait : List (Nat × List UInt8 × List UInt8)
  fuse : Int
  down : Bool
  writes : Nat
  syncs : Nat
def wcells (p : Nat × List UInt8 × List UInt8) : List Value := .int .i64 (p.1 : Int) :: (p.2.1.map bv ++ p.2.2.map bv)
structure DS.ok (S : DS) : Prop where
  n : 8 ≤ S.seen.length ∧ S.seen.length ≤ 4096
  sec : ∀ s ∈ S.seen, s.length = 64
  wt : ∀ p ∈ S.wait, p.1 < S.seen.length ∧ p.2.1.length = 64 ∧ p.2.2.length = 64
  fz : -1 ≤ S.fuse ∧ S.fuse ≤ 9223372036854775807
def dcells (S : DS) (sb : Nat) (wa : Option Addr) (wc : Nat) : List Value :=
  [.slice (some ⟨sb, 0, none⟩) S.seen.length S.seen.length, .slice wa S.wait.length wc, .int .i64 S.fuse, .bool S.down, .int .i64 S.writes, .int .i64 S.syncs]
def DiskRep (d : Nat) (S : DS) : HP := fun h => ∃ x : Nat × Option Addr × Nat, S.ok ∧ sepL [blk d (dcells S x.1 x.2.1 x.2.2), blk x.1 (S.seen.flatMap (·.map bv)), sown x.2.1 S.wait.length x.2.2 129 (S.wait.flatMap wcells)] h


variable {W : World} {n : Nat} {F : Fr} {L : List HP} {G : Act → World → Prop}
theorem DiskRep.open {d : Nat} {S : DS} (h : ∀ sb wa wc, S.ok → SG W n F (blk d (dcells S sb wa wc) :: blk sb (S.seen.flatMap (·.map bv)) :: sown wa S.wait.length wc 129 (S.wait.flatMap wcells) :: L) G) : SG W n F (DiskRep d S :: L) G := by
  refine sg_ex (p := fun (x : Nat × Option Addr × Nat) h => S.ok ∧ sepL [blk d (dcells S x.1 x.2.1 x.2.2), blk x.1 (S.seen.flatMap (·.map bv)), sown x.2.1 S.wait.length x.2.2 129 (S.wait.flatMap wcells)] h) ?_
  rintro ⟨sb, wa, wc⟩
  refine sg_and ?_
  intro hS
  exact sg_split (h sb wa wc hS)
theorem DiskRep.shut {W w : World} {L : List HP} {d : Nat} {S : DS} {sb : Nat} {wa : Option Addr} {wc : Nat} (hS : S.ok)
    (hO : Own W w (blk d (dcells S sb wa wc) :: blk sb (S.seen.flatMap (·.map bv)) :: sown wa S.wait.length wc 129 (S.wait.flatMap wcells) :: L)) : Own W w (DiskRep d S :: L) := by
  have h := Own.join (L1 := [blk d (dcells S sb wa wc), blk sb (S.seen.flatMap (·.map bv)), sown wa S.wait.length wc 129 (S.wait.flatMap wcells)]) hO
  exact h.imp fun k hk => ⟨(sb, wa, wc), hS, hk⟩


def pad (bs : List UInt8) : List UInt8 := bs ++ List.replicate (64 - bs.length) 0
def DS.write (S : DS) (i : Int) (bs : List UInt8) : Int × DS :=
  if ¬ (0 ≤ i ∧ i < S.seen.length) ∨ 64 < bs.length then (1, S)
  else if S.down = true then (4, S)
  else if S.fuse = 0 then (4, { S with down := true })
  else (0, { S with seen := S.seen.set i.toNat (pad bs), wait := S.wait ++ [(i.toNat, S.seen.getD i.toNat [], pad bs)], fuse := if 0 < S.fuse then S.fuse - 1 else S.fuse, writes := S.writes + 1 })
def DS.sync (S : DS) : Int × DS := if S.down = true then (4, S) else (0, { S with wait := [], syncs := S.syncs + 1 })
def DS.setFuse (S : DS) (n : Int) : DS := if S.down = true then S else { S with fuse := max n (-1) }
def DS.new (n : Nat) : DS := { seen := List.replicate n (List.replicate 64 0), wait := [], fuse := -1, down := false, writes := 0, syncs := 0 }
def back (seen : List (List UInt8)) : List (Nat × List UInt8 × List UInt8) → List (List UInt8)
  | [] => seen
  | p :: l => (back seen l).set p.1 p.2.1
def keepOf (keep : List Int) (k : Nat) : Bool := match keep[k]? with | some x => x.tmod 2 != 0 | none => false
def fore (seen : List (List UInt8)) (keep : List Int) : Nat → List (Nat × List UInt8 × List UInt8) → List (List UInt8)
  | _, [] => seen
  | k, p :: l => fore (if keepOf keep k then seen.set p.1 p.2.2 else seen) keep (k + 1) l
def DS.crash (S : DS) (keep : List Int) : DS := { S with seen := fore (back S.seen S.wait) keep 0 S.wait, wait := [], down := false, fuse := -1 }

theorem there_tri (d : Nat) (S : DS) (i : Int) (R : List HP) :
    Tri Try.prog W 50 [dp d, i64 i] (DiskRep d S :: R) (X := Unit) (fun _ => .bool (decide (0 ≤ i ∧ i < S.seen.length))) (fun _ => True) (fun _ => DiskRep d S :: R) := by
  refine tri_enter2 Try.func50 rfl Try.ntmps50 rfl ?_
  refine DiskRep.open fun sb wa wc hS => ?_
  repeat' (first | refine sg_wo ?_ | refine sg_ps (ps_move rfl) rfl ?_ | refine sg_ps (ps_assign rfl) rfl ?_ | refine sg_seq ?_ | refine sg_region ?_ | refine sg_nil ?_ | refine sg_then ?_ | refine sg_ps (ps_fieldAddr rfl) rfl ?_ | refine sg_ps (ps_nilCheck rfl) rfl ?_ | refine sg_load 0 rfl rfl rfl rfl ?_ | refine sg_ps (ps_bin rfl rfl inferInstance) rfl ?_ | refine sg_guard_yes rfl rfl ?_ | refine sg_guard_nf rfl rfl rfl ?_ | refine sg_ps (ps_pick_t rfl rfl) rfl ?_ | refine sg_ps (ps_pick_f rfl rfl) rfl ?_ | refine sg_ps (ps_len rfl) rfl ?_ | refine sg_ret ?_ | (refine sg_guard_dec rfl rfl (fun hg => ?_) (fun hg => ?_) <;> first | (exfalso; omega) | (exact absurd rfl hg) | skip))
  all_goals (refine ex_ret1 rfl rfl () (by simp; omega) trivial (fun w hO => DiskRep.shut hS hO))
theorem size_tri (d : Nat) (S : DS) (R : List HP) :
    Tri Try.prog W 40 [dp d] (DiskRep d S :: R) (X := Unit) (fun _ => i64 S.seen.length) (fun _ => True) (fun _ => DiskRep d S :: R) := by
  refine tri_enter1 Try.func40 rfl Try.ntmps40 rfl ?_
  refine DiskRep.open fun sb wa wc hS => ?_
  repeat' (first | refine sg_wo ?_ | refine sg_ps (ps_move rfl) rfl ?_ | refine sg_ps (ps_assign rfl) rfl ?_ | refine sg_seq ?_ | refine sg_region ?_ | refine sg_nil ?_ | refine sg_then ?_ | refine sg_ps (ps_fieldAddr rfl) rfl ?_ | refine sg_ps (ps_nilCheck rfl) rfl ?_ | refine sg_load 0 rfl rfl rfl rfl ?_ | refine sg_ps (ps_bin rfl rfl inferInstance) rfl ?_ | refine sg_cond_f rfl ?_ | refine sg_ps (ps_len rfl) rfl ?_ | refine sg_skip ?_ | refine sg_ret ?_)
  refine ex_ret1 rfl rfl () rfl trivial (fun w hO => DiskRep.shut hS hO)
theorem down_tri (d : Nat) (S : DS) (R : List HP) :
    Tri Try.prog W 23 [dp d] (DiskRep d S :: R) (X := Unit) (fun _ => .bool S.down) (fun _ => True) (fun _ => DiskRep d S :: R) := by
  refine tri_enter1 Try.func23 rfl Try.ntmps23 rfl ?_
  refine DiskRep.open fun sb wa wc hS => ?_
  repeat' (first
    | refine sg_wo ?_
    | refine sg_ps (ps_move rfl) rfl ?_
    | refine sg_ps (ps_assign rfl) rfl ?_
    | refine sg_seq ?_
    | refine sg_region ?_
    | refine sg_nil ?_
    | refine sg_then ?_
    | refine sg_ps (ps_fieldAddr rfl) rfl ?_
    | refine sg_ps (ps_nilCheck rfl) rfl ?_
    | refine sg_load 0 rfl rfl rfl rfl ?_
    | refine sg_load 1 rfl rfl rfl rfl ?_
    | refine sg_load 2 rfl rfl rfl rfl ?_
    | refine sg_load 3 rfl rfl rfl rfl ?_
    | refine sg_load 4 rfl rfl rfl rfl ?_
    | refine sg_load 5 rfl rfl rfl rfl ?_
    | refine sg_load 6 rfl rfl rfl rfl ?_
    | refine sg_load 7 rfl rfl rfl rfl ?_
    | refine sg_ps (ps_add64 rfl rfl (by omega)) rfl ?_
    | refine sg_ps (ps_sub64 rfl rfl (by omega)) rfl ?_
    | refine sg_ps (ps_mul64 rfl rfl (by omega)) rfl ?_
    | refine sg_ps (ps_bin rfl rfl inferInstance) rfl ?_
    | refine sg_ps (ps_rem rfl rfl (by decide)) rfl ?_
    | refine sg_ps (ps_quo64 rfl rfl (by decide) (by omega)) rfl ?_
    | refine sg_ps (ps_not rfl) rfl ?_
    | refine sg_ps (ps_conv rfl) rfl ?_
    | refine sg_ps (ps_shl rfl rfl (by decide) rfl) rfl ?_
    | refine sg_ps (ps_shr rfl rfl (by decide) rfl) rfl ?_
    | refine sg_cond_t rfl ?_
    | refine sg_cond_f rfl ?_
    | refine sg_guard_yes rfl rfl ?_
    | refine sg_guard_nf rfl rfl rfl ?_
    | refine sg_guard_nt rfl rfl rfl ?_
    | refine sg_guard_nu rfl rfl rfl ?_
    | refine sg_ps (ps_pick_t rfl rfl) rfl ?_
    | refine sg_ps (ps_pick_f rfl rfl) rfl ?_
    | refine sg_ps (ps_len rfl) rfl ?_
    | refine sg_ps (ps_len_str rfl) rfl ?_
    | refine sg_ps (ps_extract rfl rfl) rfl ?_
    | refine sg_ps (ps_field rfl rfl) rfl ?_
    | refine sg_ps (ps_min2 rfl rfl) rfl ?_
    | refine sg_ps (ps_max2 rfl rfl) rfl ?_
    | refine sg_ps (ps_build rfl rfl) rfl ?_
    | refine sg_box rfl rfl (fun bx => ?_)
    | refine sg_ps (ps_indexAddr rfl rfl rfl (by omega)) rfl ?_
    | refine sg_ps (ps_indexAddr (j := 0) rfl rfl rfl (by omega)) rfl ?_
    | refine sg_ps (ps_indexAddr (j := 1) rfl rfl rfl (by omega)) rfl ?_
    | refine sg_ps (ps_indexAddr_arr rfl rfl rfl (by omega)) rfl ?_
    | refine sg_block ?_
    | refine sg_skip ?_
    | refine sg_ret ?_
    | refine sg_exit ?_
    | refine ex_then_ret ?_
    | refine ex_then_exit ?_
    | refine ex_block_ret ?_
    | refine ex_block_normal ?_
    | refine ex_block_hit ?_
    | refine ex_block_miss rfl ?_
    | refine sg_store [] rfl rfl rfl (of_decide_eq_true rfl) ?_
    | refine sg_store [_] rfl rfl rfl (of_decide_eq_true rfl) ?_
    | refine sg_store [_, _] rfl rfl rfl (of_decide_eq_true rfl) ?_
    | refine sg_store [_, _, _] rfl rfl rfl (of_decide_eq_true rfl) ?_
    | refine sg_store [_, _, _, _] rfl rfl rfl (of_decide_eq_true rfl) ?_
    | refine sg_store [_, _, _, _, _] rfl rfl rfl (of_decide_eq_true rfl) ?_
    | refine sg_store [_, _, _, _, _, _] rfl rfl rfl (of_decide_eq_true rfl) ?_
    | refine sg_store [_, _, _, _, _, _, _] rfl rfl rfl (of_decide_eq_true rfl) ?_
    | (refine sg_guard_dec rfl rfl (fun hg => ?_) (fun hg => ?_) <;> first | (exfalso; omega) | (exact absurd rfl hg) | skip)
    | (refine sg_guard_ndec rfl rfl (fun hg => ?_) (fun hg => ?_) <;> first | (exfalso; omega) | (exact absurd rfl hg) | skip)
    | (refine sg_cond_dec rfl (fun hg => ?_) (fun hg => ?_) <;> first | (exfalso; omega) | (exact absurd rfl hg) | skip)
    | (refine sg_cond_ndec rfl (fun hg => ?_) (fun hg => ?_) <;> first | (exfalso; omega) | (exact absurd rfl hg) | skip)
    | refine sg_cond_not rfl (fun hg => ?_) (fun hg => ?_)
    | refine sg_cond rfl (fun hg => ?_) (fun hg => ?_))
  refine ex_ret1 rfl rfl () rfl trivial (fun w hO => DiskRep.shut hS hO)
theorem made_rep (m : Nat) (v : Value) (N : Nat) (hp : 0 < m) : (List.range N).map (fun i => (Value.agg (List.replicate m v).toArray).cells[i % (Value.agg (List.replicate m v).toArray).cells.size]!) = List.replicate N v := by
  rw [List.eq_replicate_iff]
  refine ⟨by simp, fun b hb => ?_⟩
  obtain ⟨i, _, rfl⟩ := List.mem_map.1 hb
  have hsz : (Value.agg (List.replicate m v).toArray).cells.size = m := by simp [Value.cells]
  have hlt : i % m < m := Nat.mod_lt _ hp
  simp only [hsz]
  simp [Value.cells, hlt]
theorem flat_replicate (k : Nat) : ∀ j, (List.replicate j (List.replicate k (0 : UInt8))).flatMap (·.map bv) = List.replicate (j * k) (Value.int .u8 0)
  | 0 => by simp
  | j + 1 => by
    rw [List.replicate_succ, List.flatMap_cons, flat_replicate k j, List.map_replicate, show (j + 1) * k = k + j * k by rw [Nat.add_mul, Nat.one_mul, Nat.add_comm], ← List.replicate_append_replicate]
    rfl
theorem sync_tri (d : Nat) (S : DS) (R : List HP) (hb : S.syncs ≤ 1000000) :
    Tri Try.prog W 21 [dp d] (DiskRep d S :: R) (X := Unit) (fun _ => i64 S.sync.1) (fun _ => True) (fun _ => DiskRep d S.sync.2 :: R) := by
  refine tri_enter1 Try.func21 rfl Try.ntmps21 rfl ?_
  refine DiskRep.open fun sb wa wc hS => ?_
  repeat' (first | refine sg_wo ?_ | refine sg_ps (ps_move rfl) rfl ?_ | refine sg_ps (ps_assign rfl) rfl ?_ | refine sg_seq ?_ | refine sg_region ?_ | refine sg_nil ?_ | refine sg_then ?_ | refine sg_ps (ps_fieldAddr rfl) rfl ?_ | refine sg_ps (ps_nilCheck rfl) rfl ?_ | refine sg_load 0 rfl rfl rfl rfl ?_ | refine sg_ps (ps_add64 rfl rfl (by omega)) rfl ?_ | refine sg_ps (ps_bin rfl rfl inferInstance) rfl ?_ | refine sg_cond_f rfl ?_ | refine sg_block ?_ | refine sg_skip ?_ | refine sg_ret ?_ | refine ex_then_ret ?_ | refine ex_block_ret ?_ | refine ex_block_normal ?_ | refine sg_store [] rfl rfl rfl (of_decide_eq_true rfl) ?_ | refine sg_cond rfl (fun hg => ?_) (fun hg => ?_))
  · refine ex_ret1 rfl rfl () (by simp [DS.sync, hg]) trivial (fun w hO => ?_)
    rw [show S.sync.2 = S by simp [DS.sync, hg]]
    exact DiskRep.shut hS hO
  · refine ex_ret1 rfl rfl () (by simp [DS.sync, hg]) trivial (fun w hO => ?_)
    rw [show S.sync.2 = { S with wait := [], syncs := S.syncs + 1 } by simp [DS.sync, hg]]
    exact DiskRep.shut (wa := none) (wc := 0) ⟨hS.n, hS.sec, by simp, hS.fz⟩ (own_nil hO.front2.tail).back2
theorem fuse_tri (d : Nat) (S : DS) (i : Int) (R : List HP) (hi : i ≤ 9223372036854775807) :
    Tri Try.prog W 22 [dp d, i64 i] (DiskRep d S :: R) (X := Unit) (fun _ => .tuple #[]) (fun _ => True) (fun _ => DiskRep d (S.setFuse i) :: R) := by
  refine tri_enter2 Try.func22 rfl Try.ntmps22 rfl ?_
  refine DiskRep.open fun sb wa wc hS => ?_
  repeat' (first
    | refine sg_wo ?_
    | refine sg_ps (ps_move rfl) rfl ?_
    | refine sg_ps (ps_assign rfl) rfl ?_
    | refine sg_seq ?_
    | refine sg_region ?_
    | refine sg_nil ?_
    | refine sg_then ?_
    | refine sg_ps (ps_fieldAddr rfl) rfl ?_
    | refine sg_ps (ps_nilCheck rfl) rfl ?_
    | refine sg_load 0 rfl rfl rfl rfl ?_
    | refine sg_load 1 rfl rfl rfl rfl ?_
    | refine sg_load 2 rfl rfl rfl rfl ?_
    | refine sg_load 3 rfl rfl rfl rfl ?_
    | refine sg_load 4 rfl rfl rfl rfl ?_
    | refine sg_load 5 rfl rfl rfl rfl ?_
    | refine sg_load 6 rfl rfl rfl rfl ?_
    | refine sg_load 7 rfl rfl rfl rfl ?_
    | refine sg_ps (ps_add64 rfl rfl (by omega)) rfl ?_
    | refine sg_ps (ps_sub64 rfl rfl (by omega)) rfl ?_
    | refine sg_ps (ps_mul64 rfl rfl (by omega)) rfl ?_
    | refine sg_ps (ps_bin rfl rfl inferInstance) rfl ?_
    | refine sg_ps (ps_rem rfl rfl (by decide)) rfl ?_
    | refine sg_ps (ps_quo64 rfl rfl (by decide) (by omega)) rfl ?_
    | refine sg_ps (ps_not rfl) rfl ?_
    | refine sg_ps (ps_conv rfl) rfl ?_
    | refine sg_ps (ps_shl rfl rfl (by decide) rfl) rfl ?_
    | refine sg_ps (ps_shr rfl rfl (by decide) rfl) rfl ?_
    | refine sg_cond_t rfl ?_
    | refine sg_cond_f rfl ?_
    | refine sg_guard_yes rfl rfl ?_
    | refine sg_guard_nf rfl rfl rfl ?_
    | refine sg_guard_nt rfl rfl rfl ?_
    | refine sg_guard_nu rfl rfl rfl ?_
    | refine sg_ps (ps_pick_t rfl rfl) rfl ?_
    | refine sg_ps (ps_pick_f rfl rfl) rfl ?_
    | refine sg_ps (ps_len rfl) rfl ?_
    | refine sg_ps (ps_len_str rfl) rfl ?_
    | refine sg_ps (ps_extract rfl rfl) rfl ?_
    | refine sg_ps (ps_field rfl rfl) rfl ?_
    | refine sg_ps (ps_min2 rfl rfl) rfl ?_
    | refine sg_ps (ps_max2 rfl rfl) rfl ?_
    | refine sg_ps (ps_build rfl rfl) rfl ?_
    | refine sg_box rfl rfl (fun bx => ?_)
    | refine sg_ps (ps_indexAddr rfl rfl rfl (by omega)) rfl ?_
    | refine sg_ps (ps_indexAddr (j := 0) rfl rfl rfl (by omega)) rfl ?_
    | refine sg_ps (ps_indexAddr (j := 1) rfl rfl rfl (by omega)) rfl ?_
    | refine sg_ps (ps_indexAddr_arr rfl rfl rfl (by omega)) rfl ?_
    | refine sg_block ?_
    | refine sg_skip ?_
    | refine sg_ret ?_
    | refine sg_exit ?_
    | refine ex_then_ret ?_
    | refine ex_then_exit ?_
    | refine ex_block_ret ?_
    | refine ex_block_normal ?_
    | refine ex_block_hit ?_
    | refine ex_block_miss rfl ?_
    | refine sg_store [] rfl rfl rfl (of_decide_eq_true rfl) ?_
    | refine sg_store [_] rfl rfl rfl (of_decide_eq_true rfl) ?_
    | refine sg_store [_, _] rfl rfl rfl (of_decide_eq_true rfl) ?_
    | refine sg_store [_, _, _] rfl rfl rfl (of_decide_eq_true rfl) ?_
    | refine sg_store [_, _, _, _] rfl rfl rfl (of_decide_eq_true rfl) ?_
    | refine sg_store [_, _, _, _, _] rfl rfl rfl (of_decide_eq_true rfl) ?_
    | refine sg_store [_, _, _, _, _, _] rfl rfl rfl (of_decide_eq_true rfl) ?_
    | refine sg_store [_, _, _, _, _, _, _] rfl rfl rfl (of_decide_eq_true rfl) ?_
    | (refine sg_guard_dec rfl rfl (fun hg => ?_) (fun hg => ?_) <;> first | (exfalso; omega) | (exact absurd rfl hg) | skip)
    | (refine sg_guard_ndec rfl rfl (fun hg => ?_) (fun hg => ?_) <;> first | (exfalso; omega) | (exact absurd rfl hg) | skip)
    | (refine sg_cond_dec rfl (fun hg => ?_) (fun hg => ?_) <;> first | (exfalso; omega) | (exact absurd rfl hg) | skip)
    | (refine sg_cond_ndec rfl (fun hg => ?_) (fun hg => ?_) <;> first | (exfalso; omega) | (exact absurd rfl hg) | skip)
    | refine sg_cond_not rfl (fun hg => ?_) (fun hg => ?_)
    | refine sg_cond rfl (fun hg => ?_) (fun hg => ?_))
  · refine ex_end0 rfl () rfl True.intro (fun w hO => ?_)
    rw [show S.setFuse i = { S with fuse := max i (-1) } by simp [DS.setFuse, hg]]
    exact DiskRep.shut ⟨hS.n, hS.sec, hS.wt, by show -1 ≤ max i (-1) ∧ max i (-1) ≤ 9223372036854775807; omega⟩ hO
  · refine ex_end0 rfl () rfl True.intro (fun w hO => ?_)
    rw [show S.setFuse i = S by simp [DS.setFuse, hg]]
    exact DiskRep.shut hS hO
theorem new_bad (i : Int) (R : List HP) (h : i < 8 ∨ 4096 < i) :
    Tri Try.prog W 11 [i64 i] R (X := Unit) (fun _ => .tuple #[.pointer none, i64 1]) (fun _ => True) (fun _ => R) := by
  refine tri_enter1 Try.func11 rfl Try.ntmps11 rfl ?_
  repeat' (first | refine sg_wo ?_ | refine sg_ps (ps_move rfl) rfl ?_ | refine sg_ps (ps_assign rfl) rfl ?_ | refine sg_seq ?_ | refine sg_region ?_ | refine sg_nil ?_ | refine sg_then ?_ | refine sg_ps (ps_bin rfl rfl inferInstance) rfl ?_ | refine sg_cond_t rfl ?_ | refine sg_guard_yes rfl rfl ?_ | refine sg_guard_nt rfl rfl rfl ?_ | refine sg_ps (ps_pick_t rfl rfl) rfl ?_ | refine sg_ps (ps_pick_f rfl rfl) rfl ?_ | refine sg_ret ?_ | refine ex_then_ret ?_ | (refine sg_guard_dec rfl rfl (fun hg => ?_) (fun hg => ?_) <;> first | (exfalso; omega) | (exact absurd rfl hg) | skip) | (refine sg_cond_dec rfl (fun hg => ?_) (fun hg => ?_) <;> first | (exfalso; omega) | (exact absurd rfl hg) | skip))
  all_goals (refine ex_ret2 rfl rfl rfl () rfl trivial (fun w hO => hO))
theorem new_tri (k : Nat) (R : List HP) (h : 8 ≤ k) (h2 : k ≤ 4096) :
    Tri Try.prog W 11 [i64 k] R (fun d => .tuple #[dp d, i64 0]) (fun _ => True) (fun d => DiskRep d (DS.new k) :: R) := by
  refine tri_enter1 Try.func11 rfl Try.ntmps11 rfl ?_
  repeat' (first | refine sg_wo ?_ | refine sg_ps (ps_move rfl) rfl ?_ | refine sg_ps (ps_assign rfl) rfl ?_ | refine sg_seq ?_ | refine sg_region ?_ | refine sg_nil ?_ | refine sg_then ?_ | refine sg_ps (ps_bin rfl rfl inferInstance) rfl ?_ | refine sg_guard_yes rfl rfl ?_ | refine sg_ps (ps_pick_f rfl rfl) rfl ?_ | refine sg_skip ?_ | (refine sg_guard_dec rfl rfl (fun hg => ?_) (fun hg => ?_) <;> first | (exfalso; omega) | (exact absurd rfl hg) | skip) | (refine sg_cond_dec rfl (fun hg => ?_) (fun hg => ?_) <;> first | (exfalso; omega) | (exact absurd rfl hg) | skip))
  refine sg_make rfl rfl rfl rfl rfl (Nat.le_refl _) (by omega) (by omega) (fun sb => ?_)
  rw [made_rep 64 (.int .u8 0) _ (by omega)]
  repeat' (first | refine sg_wo ?_ | refine sg_ps (ps_assign rfl) rfl ?_ | refine sg_nil ?_ | refine sg_then ?_ | refine sg_ps (ps_build rfl rfl) rfl ?_ | refine sg_box rfl rfl (fun bx => ?_) | refine sg_ret ?_)
  refine ex_ret2 rfl rfl rfl bx rfl trivial (fun w hO => ?_)
  have hO2 := own_nil (sz := 129) hO
  refine DiskRep.shut (d := bx) (S := DS.new k) (sb := sb) (wa := none) (wc := 0) ⟨by simp [DS.new]; omega, by simp [DS.new], by simp [DS.new], by simp [DS.new]⟩ ?_
  have e : (DS.new k).seen.flatMap (·.map bv) = List.replicate (k * 64) (Value.int .u8 0) := flat_replicate 64 k
  rw [e, show dcells (DS.new k) sb none 0 = [.slice (some ⟨sb, 0, none⟩) k k, .slice none 0 0, .int .i64 (-1), .bool false, .int .i64 0, .int .i64 0] by simp [dcells, DS.new]]
  exact hO2.back2
theorem seen_get {S : DS} (hS : S.ok) {k : Nat} (hk : k < S.seen.length) : ∀ (j : Nat) (u : Value), ((S.seen[k]).map bv)[j]? = some u → (S.seen.flatMap (·.map bv))[k * 64 + j]? = some u := by
  intro j u hj
  have hl : (S.seen[k].map bv).length = 64 := by simp [hS.sec _ (List.getElem_mem hk)]
  have hlt : j < 64 := by rw [← hl]; exact (List.getElem?_eq_some_iff.1 hj).1
  rw [flat_get 64 (fun s => s.map bv) S.seen k j S.seen[k] (fun s hs => by simp [hS.sec s hs]) (by simp) hlt]
  exact hj
theorem read_tri (d : Nat) (S : DS) (k : Nat) (R : List HP) (hk : k < S.seen.length) :
    Tri Try.prog W 39 [dp d, i64 k] (DiskRep d S :: R) (fun b => .tuple #[.slice (some ⟨b, 0, none⟩) 64 64, i64 0]) (fun _ => True) (fun b => blk b (S.seen[k].map bv) :: DiskRep d S :: R) := by
  refine tri_enter2 Try.func39 rfl Try.ntmps39 rfl ?_
  repeat' (first | refine sg_wo ?_ | refine sg_ps (ps_move rfl) rfl ?_ | refine sg_ps (ps_assign rfl) rfl ?_ | refine sg_seq ?_ | refine sg_region ?_ | refine sg_nil ?_ | refine sg_then ?_ | refine sg_ps (ps_bin rfl rfl inferInstance) rfl ?_ | refine sg_cond_f rfl ?_ | refine sg_block ?_)
  refine sg_call (there_tri d S k R) rfl rfl (fun _ _ => ?_)
  rw [show decide (0 ≤ (k : Int) ∧ (k : Int) < S.seen.length) = true by simp; omega]
  refine DiskRep.open fun sb wa wc hS => ?_
  have hl : (S.seen[k].map bv).length = 64 := by simp [hS.sec _ (List.getElem_mem hk)]
  repeat' (first | refine sg_wo ?_ | refine sg_ps (ps_move rfl) rfl ?_ | refine sg_ps (ps_assign rfl) rfl ?_ | refine sg_seq ?_ | refine sg_region ?_ | refine sg_nil ?_ | refine sg_then ?_ | refine sg_ps (ps_fieldAddr rfl) rfl ?_ | refine sg_ps (ps_nilCheck rfl) rfl ?_ | refine sg_load 0 rfl rfl rfl rfl ?_ | refine sg_ps (ps_not rfl) rfl ?_ | refine sg_cond_f rfl ?_ | refine sg_ps (ps_indexAddr rfl rfl rfl (by omega)) rfl ?_ | refine sg_skip ?_ | refine ex_block_normal ?_)
  refine sg_load_agg 1 rfl rfl hl (by rw [Nat.zero_add]; exact seen_get hS hk) rfl ?_
  refine sg_wo ?_
  refine sg_alloc rfl (fun b => ?_)
  refine sg_wo ?_
  refine sg_store_agg [] rfl rfl hl bv_one (by rw [hl]; exact Nat.le_refl 64) ?_
  rw [splice_full _ _ (by rw [hl]; rfl)]
  repeat' (first | refine sg_wo ?_ | refine sg_seq ?_ | refine sg_region ?_ | refine sg_nil ?_ | refine sg_then ?_)
  refine sg_ps (ps_slice_arr rfl) rfl ?_
  repeat' (first | refine sg_wo ?_ | refine sg_ps (ps_assign rfl) rfl ?_ | refine sg_nil ?_ | refine sg_then ?_ | refine sg_ret ?_)
  refine ex_ret2 rfl rfl rfl b rfl trivial (fun w hO => ?_)
  exact (DiskRep.shut hS hO.front3.front3.front3).back1
end Go.Proofs.Ytdehkdmnddflhaa
