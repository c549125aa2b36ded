/- Package disk: calls on no disk, a Read of no sector; the reference's Read. -/
import Derived.Test.YtgcfonjiingpnaaRD
namespace Go.Proofs.Ytgcfonjiingpnaa
set_option linter.unusedVariables false
set_option linter.unusedSimpArgs false
set_option linter.unusedSectionVars false
set_option linter.unnecessarySimpa false
open Go Go.Proofs
set_option maxRecDepth 20000
set_option maxHeartbeats 4000000
attribute [local irreducible] SG WC WO W1 WD WK PS Rd Tri Exit.then Exit.inBlock bodyPost calmQ Mid sadd
variable {W : World} {n : Nat} {F : Fr} {L : List HP} {G : Act → World → Prop}
theorem rdo_tail {a : Option Addr} {vs : List Value} {R : List HP} (h : RdO W a vs) (j : Nat) (hR : R[j]? = some (old W)) (L : List HP) : Rd W (L ++ R) a vs :=
  h.rd (L.length + j) (by rw [List.getElem?_append_right (Nat.le_add_right _ _), Nat.add_sub_cancel_left]; exact hR)
theorem dread_nil (i : Int) (R : List HP) : Tri Try.prog W 27 [.pointer none, i64 i] R (X := Unit) (fun _ => .tuple #[.slice none 0 0, i64 11]) (fun _ => True) (fun _ => R) := by
  refine tri_enter2 Try.func27 rfl Try.ntmps27 rfl ?_
  repeat' (first | refine sg_wo ?_ | refine sg_ps (ps_move rfl) rfl ?_ | refine sg_ps (ps_assign rfl) rfl ?_ | refine sg_seq ?_ | refine sg_region ?_ | refine sg_nil ?_ | refine sg_then ?_ | refine sg_ps (ps_bin rfl rfl inferInstance) rfl ?_ | refine sg_cond_t rfl ?_ | refine sg_block ?_ | refine sg_ret ?_ | refine ex_then_ret ?_ | refine ex_block_ret ?_)
  exact ex_ret2 rfl rfl rfl () rfl trivial (fun w hO => hO)
theorem dread_bad (d : Nat) (S : DS) (i : Int) (R : List HP) (hk : ¬ (0 ≤ i ∧ i < S.seen.length)) :
    Tri Try.prog W 27 [dp d, i64 i] (DiskRep d S :: R) (X := Unit) (fun _ => .tuple #[.slice none 0 0, i64 1]) (fun _ => True) (fun _ => DiskRep d S :: R) := by
  refine tri_enter2 Try.func27 rfl Try.ntmps27 rfl ?_
  repeat' (first | refine sg_wo ?_ | refine sg_ps (ps_move rfl) rfl ?_ | refine sg_ps (ps_assign rfl) rfl ?_ | refine sg_seq ?_ | refine sg_region ?_ | refine sg_nil ?_ | refine sg_then ?_ | refine sg_ps (ps_bin rfl rfl inferInstance) rfl ?_ | refine sg_cond_f rfl ?_ | refine sg_block ?_)
  refine sg_call (there_tri d S i R) rfl rfl (fun _ _ => ?_)
  rw [show decide (0 ≤ i ∧ i < (S.seen.length : Int)) = false from decide_eq_false hk]
  repeat' (first | refine sg_wo ?_ | refine sg_ps (ps_assign rfl) rfl ?_ | refine sg_seq ?_ | refine sg_region ?_ | refine sg_nil ?_ | refine sg_then ?_ | refine sg_ps (ps_not rfl) rfl ?_ | refine sg_cond_t rfl ?_ | refine sg_ret ?_ | refine ex_then_ret ?_ | refine ex_block_ret ?_)
  exact ex_ret2 rfl rfl rfl () rfl trivial (fun w hO => hO)
theorem dcrash_nil (a : Option Addr) (m c : Nat) (R : List HP) : Tri Try.prog W 25 [.pointer none, .slice a m c] R (X := Unit) (fun _ => .tuple #[]) (fun _ => True) (fun _ => R) := by
  refine tri_enter2 Try.func25 rfl Try.ntmps25 rfl ?_
  repeat' (first | refine sg_wo ?_ | refine sg_ps (ps_move rfl) rfl ?_ | refine sg_seq ?_ | refine sg_region ?_ | refine sg_nil ?_ | refine sg_then ?_ | refine sg_ps (ps_bin rfl rfl inferInstance) rfl ?_ | refine sg_cond_t rfl ?_ | refine sg_ret ?_ | refine ex_then_ret ?_)
  exact ex_ret0 rfl () rfl trivial (fun w hO => hO)
theorem dwrite_nil (i : Int) (a : Option Addr) (m c : Nat) (R : List HP) : Tri Try.prog W 22 [.pointer none, i64 i, .slice a m c] R (X := Unit) (fun _ => i64 11) (fun _ => True) (fun _ => R) := by
  refine tri_enter3 Try.func22 rfl Try.ntmps22 rfl ?_
  repeat' (first | refine sg_wo ?_ | refine sg_ps (ps_move rfl) rfl ?_ | refine sg_ps (ps_assign rfl) rfl ?_ | refine sg_seq ?_ | refine sg_region ?_ | refine sg_nil ?_ | refine sg_then ?_ | refine sg_ps (ps_bin rfl rfl inferInstance) rfl ?_ | refine sg_cond_t rfl ?_ | refine sg_block ?_ | refine sg_ret ?_ | refine ex_then_ret ?_ | refine ex_block_ret ?_)
  exact ex_ret1 rfl rfl () rfl trivial (fun w hO => hO)
theorem dsync_nil (R : List HP) : Tri Try.prog W 28 [.pointer none] R (X := Unit) (fun _ => i64 11) (fun _ => True) (fun _ => R) := by
  refine tri_enter1 Try.func28 rfl Try.ntmps28 rfl ?_
  repeat' (first | refine sg_wo ?_ | refine sg_ps (ps_move rfl) rfl ?_ | refine sg_ps (ps_assign rfl) rfl ?_ | refine sg_seq ?_ | refine sg_region ?_ | refine sg_nil ?_ | refine sg_then ?_ | refine sg_ps (ps_bin rfl rfl inferInstance) rfl ?_ | refine sg_cond_t rfl ?_ | refine sg_block ?_ | refine sg_ret ?_ | refine ex_then_ret ?_ | refine ex_block_ret ?_)
  exact ex_ret1 rfl rfl () rfl trivial (fun w hO => hO)
theorem dsize_nil (R : List HP) : Tri Try.prog W 29 [.pointer none] R (X := Unit) (fun _ => i64 0) (fun _ => True) (fun _ => R) := by
  refine tri_enter1 Try.func29 rfl Try.ntmps29 rfl ?_
  repeat' (first | refine sg_wo ?_ | refine sg_ps (ps_move rfl) rfl ?_ | refine sg_ps (ps_assign rfl) rfl ?_ | refine sg_seq ?_ | refine sg_region ?_ | refine sg_nil ?_ | refine sg_then ?_ | refine sg_ps (ps_bin rfl rfl inferInstance) rfl ?_ | refine sg_cond_t rfl ?_ | refine sg_ret ?_ | refine ex_then_ret ?_)
  exact ex_ret1 rfl rfl () rfl trivial (fun w hO => hO)
theorem dwrites_nil (R : List HP) : Tri Try.prog W 14 [.pointer none] R (X := Unit) (fun _ => i64 0) (fun _ => True) (fun _ => R) := by
  refine tri_enter1 Try.func14 rfl Try.ntmps14 rfl ?_
  repeat' (first | refine sg_wo ?_ | refine sg_ps (ps_move rfl) rfl ?_ | refine sg_ps (ps_assign rfl) rfl ?_ | refine sg_seq ?_ | refine sg_region ?_ | refine sg_nil ?_ | refine sg_then ?_ | refine sg_ps (ps_bin rfl rfl inferInstance) rfl ?_ | refine sg_cond_t rfl ?_ | refine sg_ret ?_ | refine ex_then_ret ?_)
  exact ex_ret1 rfl rfl () rfl trivial (fun w hO => hO)
theorem rread_bad (r : Nat) (D : DS) (i : Int) (R : List HP) (hk : ¬ (0 ≤ i ∧ i < D.seen.length)) :
    Tri Try.prog W 24 [dp r, i64 i] (RefRep r D :: R) (X := Unit) (fun _ => .tuple #[.slice none 0 0, i64 1]) (fun _ => True) (fun _ => RefRep r D :: R) := by
  refine tri_enter2 Try.func24 rfl Try.ntmps24 rfl ?_
  refine RefRep.open fun x hx => ?_
  obtain ⟨l1, l2, l3⟩ := hx.lens
  repeat' (first | refine sg_wo ?_ | refine sg_ps (ps_move rfl) rfl ?_ | refine sg_ps (ps_assign rfl) rfl ?_ | refine sg_seq ?_ | refine sg_region ?_ | refine sg_nil ?_ | refine sg_then ?_ | refine sg_ps (ps_fieldAddr rfl) rfl ?_ | refine sg_ps (ps_nilCheck rfl) rfl ?_ | refine sg_load 0 rfl rfl rfl rfl ?_ | refine sg_ps (ps_bin rfl rfl inferInstance) rfl ?_ | refine sg_cond_t rfl ?_ | refine sg_guard_yes rfl rfl ?_ | refine sg_guard_nt rfl rfl rfl ?_ | refine sg_ps (ps_pick_t rfl rfl) rfl ?_ | refine sg_ps (ps_pick_f rfl rfl) rfl ?_ | refine sg_ps (ps_len rfl) rfl ?_ | refine sg_ret ?_ | refine ex_then_ret ?_ | (refine sg_guard_dec rfl rfl (fun hg => ?_) (fun hg => ?_) <;> first | (exfalso; omega) | (exact absurd rfl hg) | skip) | (refine sg_cond_dec rfl (fun hg => ?_) (fun hg => ?_) <;> first | (exfalso; omega) | (exact absurd rfl hg) | skip))
  all_goals exact ex_ret2 rfl rfl rfl () rfl trivial (fun w hO => RefRep.shut x hx hO)
theorem rread_tri (r : Nat) (D : DS) (k : Nat) (R : List HP) (hk : k < D.seen.length) :
    Tri Try.prog W 24 [dp r, i64 k] (RefRep r D :: R) (X := Option Addr × Nat) (fun x => .tuple #[.slice x.1 64 x.2, i64 0]) (fun _ => True) (fun x => sown x.1 64 x.2 1 (D.seen[k].map bv) :: RefRep r D :: R) := by
  refine tri_enter2 Try.func24 rfl Try.ntmps24 rfl ?_
  refine RefRep.open fun x hx => ?_
  obtain ⟨l1, l2, l3⟩ := hx.lens
  have hks : k < x.ss.length := by omega
  have hsk : x.ss[k].2 = D.seen[k] := by
    have h9 := congrArg (fun l => l[k]?) hx.seen
    simp only [List.getElem?_map, List.getElem?_eq_getElem hks, List.getElem?_eq_getElem hk, Option.map_some, Option.some.injEq] at h9
    exact h9
  have h64 : x.ss[k].2.length = 64 := by rw [hsk]; exact hx.dok.sec _ (List.getElem_mem hk)
  have hin := hx.sin _ (List.getElem_mem hks)
  repeat' (first | refine sg_wo ?_ | refine sg_ps (ps_move rfl) rfl ?_ | refine sg_ps (ps_assign rfl) rfl ?_ | refine sg_seq ?_ | refine sg_region ?_ | refine sg_nil ?_ | refine sg_then ?_ | refine sg_ps (ps_fieldAddr rfl) rfl ?_ | refine sg_ps (ps_nilCheck rfl) rfl ?_ | refine sg_load 0 rfl rfl rfl rfl ?_ | refine sg_ps (ps_bin rfl rfl inferInstance) rfl ?_ | refine sg_guard_yes rfl rfl ?_ | refine sg_ps (ps_pick_f rfl rfl) rfl ?_ | refine sg_ps (ps_len rfl) rfl ?_ | refine sg_ps (ps_indexAddr rfl rfl rfl (by omega)) rfl ?_ | refine sg_skip ?_ | (refine sg_cond_dec rfl (fun hg => ?_) (fun hg => ?_) <;> first | (exfalso; omega) | (exact absurd rfl hg) | skip))
  refine sg_load_rd rfl ((rd_sown 2 rfl (fun _ _ h => h)).get k (v := shdr x.ss[k]) (by rw [List.getElem?_map, List.getElem?_eq_getElem hks]; rfl)) rfl ?_
  repeat' (first | refine sg_wo ?_)
  have hc := rawCopy_tri (W := W) x.ss[k].2 (some ⟨x.ss[k].1, 0, none⟩) 64 (by omega) (blk r (rdcells D x) :: sown (some ⟨x.kb, 0, none⟩) x.ks.length x.kc 1 (x.ks.map shdr) :: sown (some ⟨x.sb, 0, none⟩) x.ss.length x.sc 1 (x.ss.map shdr) :: sown x.wa x.ws.length x.wc 2 (x.ws.flatMap putc) :: blks x.ls :: R) (rd_blks 4 rfl hin (fun j u h => by rw [Nat.zero_add]; exact h))
  rw [h64] at hc
  refine sg_call hc rfl rfl (fun y _ => ?_)
  repeat' (first | refine sg_wo ?_ | refine sg_ps (ps_assign rfl) rfl ?_ | refine sg_nil ?_ | refine sg_then ?_ | refine sg_ret ?_)
  exact ex_ret2 rfl rfl rfl y rfl trivial (fun w hO => by
    rw [hsk] at hO
    exact (RefRep.shut (L := _ :: R) x hx (hO.pickT [_, _, _, _, _, _] [1, 2, 3, 4, 5, 0] (by decide))).front1)
end Go.Proofs.Ytgcfonjiingpnaa
