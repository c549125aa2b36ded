/- granaryraw.Lent and granaryraw.Kept. -/
import Derived.Test.YtclehoaeppbmpaaRAW
namespace Go.Proofs.Ytclehoaeppbmpaa
set_option linter.unusedVariables false
set_option linter.unusedSimpArgs false
set_option linter.unusedSectionVars false
set_option linter.unnecessarySimpa false
open Go Go.Proofs
set_option maxRecDepth 20000
set_option maxHeartbeats 4000000
attribute [local irreducible] SG WC WO W1 WD WK PS Rd Tri Exit.then Exit.inBlock bodyPost calmQ Mid sadd
variable {W : World} {n : Nat} {F : Fr} {L : List HP} {G : Act → World → Prop}
/-- What a lent slice's block holds. -/
structure LentX (bs : List UInt8) (c : Nat) (cur : List Value) : Prop where
  len : cur.length = c
  room : bs.length + 2 ≤ c
  c : c ≤ 9223372036854775807
  get : ∀ j u, (bs.map bv)[j]? = some u → cur[0 + j]? = some u
  m1 : cur[0 + bs.length]? = some (bv 71)
  m2 : cur[0 + (bs.length + 1)]? = some (bv 72)
theorem LentX.mk' {bs : List UInt8} {c : Nat} {cur : List Value} (h1 : cur.length = c * 1) (h2 : bs.length + 2 ≤ c) (h3 : c ≤ 9223372036854775807) (h4 : cur.take ((bs.length + 2) * 1) = (bs ++ [71, 72]).map bv) : LentX bs c cur := by
  have key : ∀ (j : Nat) (u : Value), ((bs ++ [71, 72]).map bv)[j]? = some u → cur[0 + j]? = some u := by
    intro j u hj
    rw [← h4, List.getElem?_take] at hj
    split at hj
    · simpa using hj
    · simp at hj
  refine ⟨by omega, h2, h3, fun j u hj => key j u ?_, key _ _ ?_, key _ _ ?_⟩
  · rw [List.map_append, List.getElem?_append_left (List.getElem?_eq_some_iff.1 hj).1]; exact hj
  · simp
  · simp
theorem rawLent_tri (bs : List UInt8) (ba : Option Addr) (bc : Nat) (hl : bs.length + 2 ≤ 140737488355328) (R : List HP) (hr : Rd W R ba (bs.map bv)) :
    Tri Try.prog W 22 [.slice ba bs.length bc] R (X := Nat × Nat × List Value) (fun x => .slice (some ⟨x.1, 0, none⟩) bs.length x.2.1) (fun x => LentX bs x.2.1 x.2.2) (fun x => blk x.1 x.2.2 :: R) := by
  refine tri_enter1 Try.func22 rfl Try.ntmps22 rfl ?_
  repeat' (first | refine sg_wo ?_ | refine sg_ps (ps_assign rfl) rfl ?_ | refine sg_seq ?_ | refine sg_region ?_ | refine sg_nil ?_ | refine sg_then ?_)
  refine sg_buildSlice (cells := []) rfl (by decide) rfl rfl (fun b0 => ?_)
  refine sg_own_mk (m := 0) (c := 0) (sz := 1) (xs := []) (Nat.le_refl _) (by decide) rfl rfl ?_
  repeat' (first | refine sg_wo ?_ | refine sg_ps (ps_move rfl) rfl ?_)
  refine sg_append (news := bs.map bv) rfl rfl rfl (by simp) bv_one hr.mono (by simp only [maxLen]; omega) (by omega) (fun a c => ?_)
  repeat' (first | refine sg_wo ?_ | refine sg_ps (ps_move rfl) rfl ?_ | refine sg_ps (ps_assign rfl) rfl ?_ | refine sg_seq ?_ | refine sg_region ?_ | refine sg_nil ?_ | refine sg_then ?_)
  refine sg_buildSlice (cells := [bv 71, bv 72]) rfl (by decide) rfl rfl (fun b1 => ?_)
  refine sg_front1 ?_
  have h2 : Rd W (sown a (0 + bs.length) c 1 ([] ++ bs.map bv) :: blk b1 [bv 71, bv 72] :: R) (some ⟨b1, 0, none⟩) [bv 71, bv 72] := rd_blk 1 rfl (fun j u h => by rw [Nat.zero_add]; exact h)
  repeat' (first | refine sg_wo ?_)
  refine sg_append (news := [bv 71, bv 72]) rfl rfl rfl rfl (by intro u hu; simp at hu; rcases hu with rfl | rfl <;> rfl) h2 (by simp only [maxLen]; omega) (by omega) (fun a2 c2 => ?_)
  refine sg_open (fun w hO => own_block (by omega) hO) ?_
  rintro ⟨g, cur⟩ ⟨rfl, h3, h4, h5, h6⟩
  repeat' (first | refine sg_wo ?_ | refine sg_ps (ps_move rfl) rfl ?_ | refine sg_ps (ps_assign rfl) rfl ?_ | refine sg_seq ?_ | refine sg_region ?_ | refine sg_nil ?_ | refine sg_then ?_ | refine sg_ps (ps_len rfl) rfl ?_)
  refine sg_ps (ps_slice_h (h' := bs.length) rfl rfl rfl (by omega)) rfl ?_
  repeat' (first | refine sg_wo ?_ | refine sg_ps (ps_assign rfl) rfl ?_ | refine sg_nil ?_ | refine sg_then ?_ | refine sg_ret ?_)
  refine ex_ret1 rfl rfl (g, c2, cur) rfl (LentX.mk' h5 (show bs.length + 2 ≤ c2 by omega) h4 ?_) (fun w hO => hO.front1.tail)
  rw [← show (0 + bs.length + 2) * 1 = (bs.length + 2) * 1 by omega, h6]
  simp
theorem rawKept_tri (bs : List UInt8) (g c : Nat) (cur : List Value) (hx : LentX bs c cur) (ba : Option Addr) (bc : Nat) (R : List HP) (hr : Rd W R ba (bs.map bv)) :
    Tri Try.prog W 24 [.slice (some ⟨g, 0, none⟩) bs.length c, .slice ba bs.length bc] (blk g cur :: R) (X := Unit) (fun _ => .bool true) (fun _ => True) (fun _ => blk g cur :: R) := by
  have h1 := hx.len
  have h2 := hx.room
  have h3 := hx.c
  have hrd : Rd W (blk g cur :: R) (some ⟨g, 0, none⟩) (bs.map bv) := rd_blk 0 rfl hx.get
  have hm1 := hx.m1
  have hm2 := hx.m2
  refine tri_enter2 Try.func24 rfl Try.ntmps24 rfl ?_
  repeat' (first | refine sg_wo ?_ | refine sg_ps (ps_move rfl) rfl ?_ | refine sg_ps (ps_assign rfl) rfl ?_ | refine sg_seq ?_ | refine sg_region ?_ | refine sg_nil ?_ | refine sg_then ?_ | refine sg_ps (ps_bin rfl rfl inferInstance) rfl ?_ | refine sg_guard_yes rfl rfl ?_ | refine sg_ps (ps_len rfl) rfl ?_ | (refine sg_guard_ndec rfl rfl (fun hg => ?_) (fun hg => ?_) <;> first | (exfalso; omega) | (exact absurd rfl hg) | skip))
  refine sg_ps (ps_cap rfl) rfl ?_
  repeat' (first | refine sg_wo ?_ | refine sg_ps (ps_move rfl) rfl ?_ | refine sg_seq ?_ | refine sg_region ?_ | refine sg_nil ?_ | refine sg_then ?_ | refine sg_ps (ps_add64 rfl rfl (by omega)) rfl ?_ | refine sg_ps (ps_bin rfl rfl inferInstance) rfl ?_ | refine sg_guard_yes rfl rfl ?_ | refine sg_ps (ps_pick_f rfl rfl) rfl ?_ | refine sg_ps (ps_len rfl) rfl ?_ | refine sg_skip ?_ | (refine sg_cond_dec rfl (fun hg => ?_) (fun hg => ?_) <;> first | (exfalso; omega) | (exact absurd rfl hg) | skip))
  refine sg_ps (ps_slice_h (h' := bs.length + 2) rfl rfl (by omega) (by omega)) rfl ?_
  repeat' (first | refine sg_wo ?_ | refine sg_ps (ps_move rfl) rfl ?_ | refine sg_ps (ps_assign rfl) rfl ?_ | refine sg_seq ?_ | refine sg_region ?_ | refine sg_nil ?_ | refine sg_then ?_)
  refine sg_str_of_bytes rfl rfl rfl hrd ?_
  repeat' (first | refine sg_wo ?_ | refine sg_ps (ps_move rfl) rfl ?_)
  refine sg_str_of_bytes rfl rfl rfl hr.mono ?_
  repeat' (first | refine sg_wo ?_ | refine sg_ps (ps_move rfl) rfl ?_ | refine sg_ps (ps_bin rfl rfl inferInstance) rfl ?_ | refine sg_guard_yes rfl rfl ?_ | refine sg_ps (ps_len rfl) rfl ?_ | refine sg_ps (ps_indexAddr rfl rfl rfl (by omega)) rfl ?_ | (refine sg_guard_dec rfl rfl (fun hg => ?_) (fun hg => ?_) <;> first | (exfalso; omega) | (exact absurd rfl hg) | skip))
  rw [show decide ((strOf bs).toList = (strOf bs).toList) = true from decide_eq_true rfl]
  skip
  have hr1 : Rd W (blk g cur :: R) (some ⟨g, 0 + bs.length * 1, none⟩) [.int .u8 71] := rd_blk_one 0 rfl (by rw [Nat.mul_one]; exact hm1)
  refine sg_load_rd rfl hr1 rfl ?_
  repeat' (first | refine sg_wo ?_ | refine sg_ps (ps_move rfl) rfl ?_ | refine sg_ps (ps_add64 rfl rfl (by omega)) rfl ?_ | refine sg_ps (ps_bin rfl rfl inferInstance) rfl ?_ | refine sg_guard_yes rfl rfl ?_ | refine sg_ps (ps_pick_t rfl rfl) rfl ?_ | refine sg_ps (ps_len rfl) rfl ?_)
  have hr2 : Rd W (blk g cur :: R) (some ⟨g, 0 + (bs.length + 1) * 1, none⟩) [.int .u8 72] := rd_blk_one 0 rfl (by rw [Nat.mul_one]; exact hm2)
  refine sg_ps (ps_indexAddr (j := bs.length + 1) rfl rfl (by omega) (by omega)) rfl ?_
  repeat' (first | refine sg_wo ?_ | refine sg_guard_yes rfl rfl ?_)
  refine sg_load_rd rfl hr2 rfl ?_
  repeat' (first | refine sg_wo ?_ | refine sg_ps (ps_assign rfl) rfl ?_ | refine sg_nil ?_ | refine sg_then ?_ | refine sg_ps (ps_bin rfl rfl inferInstance) rfl ?_ | refine sg_guard_yes rfl rfl ?_ | refine sg_ps (ps_pick_t rfl rfl) rfl ?_ | refine sg_ret ?_)
  exact ex_ret1 rfl rfl () rfl trivial (fun w hO => hO)
end Go.Proofs.Ytclehoaeppbmpaa
