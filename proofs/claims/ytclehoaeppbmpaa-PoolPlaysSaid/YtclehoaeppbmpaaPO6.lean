/- Package pool: a place comes; a place stands at a number. -/
import Derived.Test.YtclehoaeppbmpaaPO5T
namespace Go.Proofs.Ytclehoaeppbmpaa
set_option linter.unusedVariables false
set_option linter.unusedSimpArgs false
set_option linter.unusedSectionVars false
set_option linter.unnecessarySimpa false
open Go Go.Proofs
def comeS (S : PlS) (id : Int) (bs : List UInt8) : PlS := { S with rows := S.rows ++ [⟨id, bs, false, false, 0⟩] }
set_option maxRecDepth 20000
set_option maxHeartbeats 4000000
attribute [local irreducible] SG WC WO W1 WD WK PS Rd Tri Exit.then Exit.inBlock bodyPost calmQ Mid sadd
variable {W : World} {n : Nat} {F : Fr} {L : List HP} {G : Act → World → Prop}
theorem pcome_tri (p bp : Nat) (S : PlS) (id : Int) (bs : List UInt8) (xa : Option Addr) (xc : Nat) (R : List HP) (hno : ∀ r ∈ S.rows, r.id ≠ id) (hl : S.rows.length ≤ 1000000) :
    Tri Try.prog W 38 [dp p, u64 id, .slice xa bs.length xc] (sown xa bs.length xc 1 (bs.map bv) :: PoolRep p bp S :: R) (X := Nat) (fun x => dp x) (fun _ => True) (fun x => PoolAt p bp (comeS S id bs) S.rows.length x :: R) := by
  refine tri_enter3 Try.func38 rfl Try.ntmps38 rfl ?_
  refine sg_own (fun w hO => hO.front1) ?_
  refine PoolRep.open fun T ra rc m clk hS hI => ?_
  have hTl : T.length = S.rows.length := by rw [← hS, List.length_map]
  unfold pcells
  repeat' (first | refine sg_wo ?_ | refine sg_ps (ps_move rfl) rfl ?_ | refine sg_ps (ps_assign rfl) rfl ?_ | refine sg_seq ?_ | refine sg_region ?_ | refine sg_nil ?_ | refine sg_then ?_ | refine sg_ps (ps_build rfl rfl) rfl ?_ | refine sg_box0 rfl rfl (fun bx => ?_))
  refine sg_own (L' := blk0 bx [u64 id, .slice xa bs.length xc, .bool false, .bool false, i64 0] :: blk p [.iface 24 (dp bp), i64 S.most, .slice ra T.length rc, .map (some m), i64 S.hand] :: sown ra T.length rc 1 (T.map PE.dp) :: mapc .u64 m (T.map PE.me) clk :: sepL (T.map PE.own) :: sown xa bs.length xc 1 (bs.map bv) :: R) (fun w hO => hO) ?_
  refine sg_drawK [blk p [.iface 24 (dp bp), i64 S.most, .slice ra T.length rc, .map (some m), i64 S.hand]] [0, 1, 2, 3, 5, 6, 7, 8, 10, 13, 9, 4, 11, 12, 14, 15, 16, 17, 18, 19] (by kernel_rfl) (by kernel_rfl) (fun w hO => hO.pick [1] (by decide)) ?_
  repeat' (first | refine sk_pure rfl rfl (ps_move rfl) rfl ?_ | refine sk_pure rfl rfl (ps_nilCheck rfl) rfl ?_ | refine sk_pure rfl rfl (ps_fieldAddr rfl) rfl ?_ | refine sk_load 0 rfl rfl rfl rfl rfl ?_ | refine sk_eff rfl rfl ?_)
  refine sg_buildSlice1 (vs := [dp bx]) rfl (of_decide_eq_true rfl) rfl rfl rfl (fun b1 => ?_)
  refine sk_back (fun w hO => hO.pick [2] (by decide)) ?_
  repeat' (first | refine sk_eff rfl rfl ?_)
  refine sg_own (L' := sown ra T.length rc 1 (T.map PE.dp) :: blk b1 [dp bx] :: blk0 bx [u64 id, .slice xa bs.length xc, .bool false, .bool false, i64 0] :: blk p [.iface 24 (dp bp), i64 S.most, .slice ra T.length rc, .map (some m), i64 S.hand] :: mapc .u64 m (T.map PE.me) clk :: sepL (T.map PE.own) :: sown xa bs.length xc 1 (bs.map bv) :: R) (fun w hO => hO.front3) ?_
  refine sg_append (news := [dp bx]) rfl rfl rfl rfl (by intro u hu; simp at hu; subst hu; rfl) (rd_blk 1 rfl fun j u hj => by rw [Nat.zero_add]; exact hj) (by simp only [maxLen]; omega) (by omega) fun a' c' => ?_
  refine sk_back (fun w hO => hO.pick [3] (by decide)) ?_
  repeat' (first | refine sk_pure rfl rfl (ps_nilCheck rfl) rfl ?_ | refine sk_pure rfl rfl (ps_fieldAddr rfl) rfl ?_ | refine sk_eff rfl rfl ?_ | refine sg_store [_, _, _] rfl rfl rfl (of_decide_eq_true rfl) ?_)
  refine sk_end (by kernel_rfl) ?_
  repeat' (first | refine sk_eff rfl rfl ?_)
  have hnm : ∀ e ∈ T.map PE.me, e.1 ≠ id := fun y hy => by
    obtain ⟨e, he, rfl⟩ := List.mem_map.1 hy
    exact hno e.pl (by rw [← hS]; exact List.mem_map_of_mem he)
  have hnb : ∀ e ∈ T.map PE.me, e.2.2 ≠ clk := fun y hy => by
    obtain ⟨e, he, rfl⟩ := List.mem_map.1 hy
    exact Nat.ne_of_lt (hI.old e he)
  refine sg_mapEntry_new (k := .u64) [_, _, _, _] Try.underlying63 Try.underlying32 hnm rfl rfl rfl ?_
  refine sk_back (LR := []) (fun w hO => hO.pick [] (by decide)) ?_
  repeat' (first | refine sk_pure rfl rfl (ps_extract rfl rfl) rfl ?_ | refine sk_eff rfl rfl ?_)
  refine sg_entryStore (k := .u64) [_, _, _, _] hnb rfl rfl rfl ?_
  refine sk_back (LR := []) (fun w hO => hO.pick [] (by decide)) ?_
  repeat' (first | refine sk_nil ?_)
  refine sg_then ?_
  repeat' (first | refine sg_wo ?_ | refine sg_ps (ps_move rfl) rfl ?_ | refine sg_ps (ps_assign rfl) rfl ?_ | refine sg_seq ?_ | refine sg_region ?_ | refine sg_nil ?_ | refine sg_then ?_ | refine sg_ret ?_)
  refine ex_ret1 rfl rfl bx rfl trivial (fun w hO => ?_)
  have k0 : Own W w (_ :: _ :: _ :: _ :: _ :: _ :: _ :: R) := hO
  have k1 := k0.front1.tail.front4.front5.front3.front5.front4.front5
  have hI2 : PInv (T ++ [(⟨⟨id, bs, false, false, 0⟩, bx, xa, xc, clk⟩ : PE)]) (clk + 1) := by
    refine ⟨fun e he => ?_, ?_⟩
    · rcases List.mem_append.1 he with he | he
      · have := hI.old e he; omega
      · simp only [List.mem_singleton] at he
        subst he; simp
    · rw [List.map_append, List.nodup_append]
      refine ⟨hI.no, by simp, fun a ha b hb => ?_⟩
      obtain ⟨x, hx, rfl⟩ := List.mem_map.1 ha
      simp only [List.map_cons, List.map_nil, List.mem_singleton] at hb
      subst hb
      exact hno x.pl (by rw [← hS]; exact List.mem_map_of_mem hx)
  refine PoolAt.shut (S := comeS S id bs) (A := T) (B := []) (e := ⟨⟨id, bs, false, false, 0⟩, bx, xa, xc, clk⟩) (ra := a') (rc := c') (m := m) (clk := clk + 1) (by rw [List.map_append, hS]; rfl) hI2 hTl rfl ?_
  rw [List.length_append, List.map_append, List.map_append, List.append_nil]
  exact k1
end Go.Proofs.Ytclehoaeppbmpaa
