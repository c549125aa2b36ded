/- Package extent: cut, New, Alloc, Take. -/
import Derived.Test.YtcchgkjcoknkcaaEX3
namespace Go.Proofs.Ytcchgkjcoknkcaa
set_option linter.unusedVariables false
set_option linter.unusedSimpArgs false
set_option linter.unusedSectionVars false
set_option linter.unnecessarySimpa false
open Go Go.Proofs
section
variable {W : World} {n : Nat} {F : Fr} {L : List HP} {G : Act → World → Prop}
theorem sg_buildSlice0 {P : Program} {ops : Array Oper} {Q : Exit → Act → World → Prop} {K : Act → World → Prop} {d : Nat} {ty : TypeId} {pos : String} {af : Array Edge} {t e sz by_ : Nat} {z v : Value} {vs : List Value} {x : Operand} [hs : SliceT P t e sz] [hz : Zero P e z sz by_] (hv : ev F x = some v) (hl : sz ≤ 16777216) (h0 : sz ≠ 0)
    (hb : v.cells.toList = vs) (hvl : vs.length = sz) (hd : Nat.blt d n = true)
    (h : ∀ b : Nat, SG W n ((d, .slice (some ⟨b, 0, none⟩) 1 1) :: F) (blk0 b vs :: L) K) : SG W n F L (W1 P ops Q ⟨some d, .buildSlice t 1 #[(0, x)], ty, pos, af, none⟩ K) := by
  obtain ⟨i, h1, h2, h3⟩ := hs.h
  obtain ⟨i', i1, i2, i3, i4, i5⟩ := hz.h
  rw [h2] at i1; simp only [Option.some.injEq] at i1; subst i1
  refine sg_value (X := Nat) (fun b => .slice (some ⟨b, 0, none⟩) 1 1) (fun b => blk0 b vs :: L) (fun _ => True) hd (fun w hO a ha => ?_) (fun b _ => h b)
  refine ⟨w.heap.size, w.alloc (.cells vs.toArray e), ?_, trivial, hO.alloc0 vs e⟩
  have hlen : (zerosOf z (1 * sz)).length = sz := by simp [zerosOf]
  have hbf : bfillS sz (zerosOf z (1 * sz)) [(0, v)] = some vs := by
    show (if v.cells.toList.length = sz ∧ 0 * sz + sz ≤ (zerosOf z (1 * sz)).length then some (splice (zerosOf z (1 * sz)) (0 * sz) v.cells.toList) else none) = some vs
    rw [if_pos ⟨by rw [hb, hvl], by rw [hlen]; omega⟩, Nat.zero_mul, hb, splice_full _ _ (by rw [hvl, hlen])]
  have hza : ((Array.range (1 * sz)).map fun x => z.cells[x % z.cells.size]!).toList = zerosOf z (1 * sz) := by simp [zerosOf]
  have hf := fillS_eq sz [(0, v)] ((Array.range (1 * sz)).map fun x => z.cells[x % z.cells.size]!) vs (by rw [hza]; exact hbf)
  rw [Nat.one_mul] at hf
  have hn : ¬ (16777216 < sz) := by omega
  simp [execOp, Instr.buildSlice, run_underlying h1, sizeOf, typeInfo, zeroValue, h2, h3, i2, hn, h0, ha.ev hv, newRow, hf]
end
theorem hcells_cut (A B C : HL) (h : Nat × Nat) : (hcells (A ++ h :: B)).take (A.length * 2) ++ hcells C ++ (hcells (A ++ h :: B)).drop ((A.length + 1) * 2) = hcells (A ++ C ++ B) := by
  have e : A ++ h :: B = (A ++ [h]) ++ B := by simp
  have hd := hcells_drop (A ++ [h]) B
  rw [List.length_append, List.length_singleton, ← e] at hd
  rw [hcells_take, hd, hcells_app, hcells_app]
theorem XS.runs_in {X : XS} (hX : X.ok) {h : Nat × Nat} (hm : h ∈ X.runs) : X.lo ≤ h.1 ∧ 1 ≤ h.2 ∧ h.1 + h.2 ≤ X.lo + X.o.length := runs_lo hm
set_option maxRecDepth 20000
set_option maxHeartbeats 4000000
attribute [local irreducible] SG WC WO W1 WD WK PS Rd Tri Exit.then Exit.inBlock bodyPost calmQ Mid sadd
variable {W : World} {n : Nat} {F : Fr} {L : List HP} {G : Act → World → Prop}
def XS.cut (X : XS) (st m : Nat) : XS := { X with o := setr X.o (st - X.lo) m false }
theorem cut_tri (p : Nat) (X : XS) (A B : HL) (s l st m : Nat) (R : List HP) (hr : X.runs = A ++ (s, l) :: B) (h1 : s ≤ st) (h2 : st + m ≤ s + l) (hm : 1 ≤ m) :
    Tri Try.prog W 26 [dp p, i64 A.length, i64 st, i64 m] (SpaceRep p X :: R) (X := Unit) (fun _ => .tuple #[]) (fun _ => True) (fun _ => SpaceRep p (X.cut st m) :: R) := by
  refine tri_enter4 Try.func26 rfl Try.ntmps26 rfl ?_
  refine SpaceRep.open fun a c hX => ?_
  have hhi := hX.hi
  have hin := XS.runs_in hX (h := (s, l)) (by rw [hr]; simp)
  simp only at hin
  have hlen := runs_len X.o X.lo
  have hrl : X.runs.length = A.length + (B.length + 1) := by rw [hr]; simp
  have hrl2 : X.runs.length ≤ 4096 := by unfold XS.runs; omega
  have hX' : (X.cut st m).ok := ⟨by show X.lo + (setr _ _ _ _).length ≤ _; rw [setr_len]; exact hhi⟩
  have hcut : (X.cut st m).runs = A ++ cutL s l st m ++ B := runs_cut hr h1 h2 hm
  have hclen : (X.cut st m).o.length = X.o.length := setr_len _ _ _ _
  have hget : X.runs[A.length]? = some (s, l) := by rw [hr]; simp
  have hne : 0 < X.runs.length := by omega
  obtain ⟨H, hH⟩ : ∃ H, H = X.runs := ⟨_, rfl⟩
  refine sg_rd_some (rd_sown (W := W) (L := blk p (xcells X a c) :: sown a X.runs.length c 2 (hcells X.runs) :: R) (vs := hcells X.runs) 1 rfl fun _ _ h => h) (hcells_ne hne) fun b o ha => ?_
  have hra := Rd.at2 (rd_sown (W := W) (L := blk p (xcells X a c) :: sown a X.runs.length c 2 (hcells X.runs) :: R) (vs := hcells X.runs) 1 rfl fun _ _ h => h) ha A.length (by omega)
  have hge : X.runs[A.length] = (s, l) := by
    have := List.getElem?_eq_getElem (l := X.runs) (i := A.length) (by omega)
    rw [hget] at this; exact (Option.some.inj this).symm
  rw [hge] at hra
  subst ha
  refine sg_seq ?_
  repeat' (first | refine sg_wo ?_ | refine sg_ps (ps_move rfl) rfl ?_ | refine sg_region ?_ | refine sg_ps (ps_fieldAddr rfl) rfl ?_ | refine sg_ps (ps_nilCheck rfl) rfl ?_ | refine sg_load 0 rfl rfl rfl rfl ?_ | refine sg_ps (ps_indexAddr rfl rfl rfl (by omega)) rfl ?_)
  refine sg_load_agg_rd rfl rfl hra rfl ?_
  repeat' (first | refine sg_wo ?_ | refine sg_nil ?_ | refine sg_then ?_ | refine sg_store_whole [] rfl rfl rfl rfl rfl ?_ | refine sg_alloc rfl (fun al => ?_))
  refine sg_seq ?_
  repeat' (first | refine sg_wo ?_ | refine sg_ps (ps_assign rfl) rfl ?_ | refine sg_region ?_ | refine sg_nil ?_ | refine sg_then ?_)
  obtain ⟨l1, hl1⟩ : ∃ l1 : HL, l1 = if s < st then [(s, st - s)] else [] := ⟨_, rfl⟩
  obtain ⟨l2, hl2⟩ : ∃ l2 : HL, l2 = if st + m < s + l then [(st + m, s + l - st - m)] else [] := ⟨_, rfl⟩
  have hll : cutL s l st m = l1 ++ l2 := by rw [hl1, hl2]; rfl
  have hl1l : l1.length ≤ 1 := by rw [hl1]; split <;> simp
  have hl2l : l2.length ≤ 1 := by rw [hl2]; split <;> simp
  refine sg_seq_mid (γ := Option Addr × Nat) (fun _ => True) (fun x => [(0, dp p), (1, i64 A.length), (2, i64 st), (3, i64 m), (8, dp al), (9, .slice x.1 l1.length x.2)])
    (fun x => sown0 x.1 l1.length x.2 2 (hcells l1) :: blk al (hc (s, l)) :: blk p (xcells X (some ⟨b, o, none⟩) c) :: sown (some ⟨b, o, none⟩) X.runs.length c 2 (hcells X.runs) :: R) ?_ ?_
  · refine sg_nil0 2 ?_
    repeat' (first | refine sg_wo ?_ | refine sg_ps (ps_move rfl) rfl ?_ | refine sg_seq ?_ | refine sg_region ?_ | refine sg_nil ?_ | refine sg_then ?_ | refine sg_ps (ps_fieldAddr rfl) rfl ?_ | refine sg_load 1 rfl rfl rfl rfl ?_ | refine sg_ps (ps_sub64 rfl rfl (by omega)) rfl ?_ | refine sg_ps (ps_bin rfl rfl inferInstance) rfl ?_ | refine sg_ps (ps_build rfl rfl) rfl ?_ | refine sg_skip ?_ | (refine sg_cond_dec rfl (fun hg => ?_) (fun hg => ?_) <;> first | (exfalso; omega) | (exact absurd rfl hg) | skip))
    · have hst : s < st := by have : (st : Int) > ((s, l).1 : Int) := hg; simp only at this; omega
      rw [if_pos hst] at hl1
      subst hl1
      have e1 : [i64 s, Value.int .i64 ((st : Int) - (s : Int))] = hcells [(s, st - s)] := by
        simp only [hcells, hc, List.flatMap_cons, List.flatMap_nil, List.append_nil]
        rw [show ((st - s : Nat) : Int) = (st : Int) - (s : Int) by omega]
      refine sg_buildSlice1 (vs := hcells [(s, st - s)]) rfl (of_decide_eq_true rfl) e1 rfl rfl (fun b2 => ?_)
      refine sg_front1 ?_
      refine sg_wo ?_
      refine sg_append0 (news := hcells [(s, st - s)]) rfl rfl rfl rfl (hcells_one _) (rd_blk 1 rfl fun j u hj => by rw [Nat.zero_add]; exact hj) (by simp only [maxLen]; omega) (by omega) fun a' c' => ?_
      rw [List.nil_append]
      repeat' (first | refine sg_wo ?_ | refine sg_ps (ps_assign rfl) rfl ?_ | refine sg_nil ?_)
      exact ex_mid (a', c') trivial (.cons rfl (.cons rfl (.cons rfl (.cons rfl (.cons rfl (.cons rfl .nil)))))) (fun w hO => hO.front1.tail)
    · have hst : ¬ s < st := by have : ¬ (st : Int) > ((s, l).1 : Int) := hg; simp only at this; omega
      rw [if_neg hst] at hl1
      subst hl1
      exact ex_mid (none, 0) trivial (.cons rfl (.cons rfl (.cons rfl (.cons rfl (.cons rfl (.cons rfl .nil)))))) (fun w hO => hO)
  · rintro ⟨va, vc⟩ -
    dsimp only
    refine sg_seq_mid (γ := Option Addr × Nat) (fun _ => True) (fun x => [(0, dp p), (1, i64 A.length), (2, i64 st), (3, i64 m), (8, dp al), (9, .slice x.1 (l1.length + l2.length) x.2)])
      (fun x => sown0 x.1 (l1.length + l2.length) x.2 2 (hcells l1 ++ hcells l2) :: blk al (hc (s, l)) :: blk p (xcells X (some ⟨b, o, none⟩) c) :: sown (some ⟨b, o, none⟩) X.runs.length c 2 (hcells X.runs) :: R) ?_ ?_
    · skip
      repeat' (first | refine sg_wo ?_ | refine sg_seq ?_ | refine sg_region ?_ | refine sg_load_whole 1 rfl rfl rfl rfl ?_)
      refine sg_call (end_tri s l _ (by omega)) rfl rfl (fun _ _ => ?_)
      repeat' (first | refine sg_wo ?_ | refine sg_ps (ps_move rfl) rfl ?_ | refine sg_region ?_ | refine sg_nil ?_ | refine sg_then ?_ | refine sg_ps (ps_add64 rfl rfl (by omega)) rfl ?_ | refine sg_ps (ps_bin rfl rfl inferInstance) rfl ?_ | refine sg_load_whole 1 rfl rfl rfl rfl ?_ | refine sg_skip ?_ | (refine sg_cond_dec rfl (fun hg => ?_) (fun hg => ?_) <;> first | (exfalso; omega) | (exact absurd rfl hg) | skip))
      · have hst : st + m < s + l := by omega
        rw [if_pos hst] at hl2
        subst hl2
        refine sg_call (end_tri s l _ (by omega)) rfl rfl (fun _ _ => ?_)
        repeat' (first | refine sg_wo ?_ | refine sg_ps (ps_move rfl) rfl ?_ | refine sg_ps (ps_sub64 rfl rfl (by omega)) rfl ?_ | refine sg_ps (ps_build rfl rfl) rfl ?_)
        have e1 : [Value.int .i64 ((st : Int) + (m : Int)), Value.int .i64 (((s + l : Nat) : Int) - (st : Int) - (m : Int))] = hcells [(st + m, s + l - st - m)] := by
          simp only [hcells, hc, List.flatMap_cons, List.flatMap_nil, List.append_nil]
          rw [show ((s + l - st - m : Nat) : Int) = ((s + l : Nat) : Int) - (st : Int) - (m : Int) by omega, Int.natCast_add st m]
        refine sg_buildSlice1 (vs := hcells [(st + m, s + l - st - m)]) rfl (of_decide_eq_true rfl) e1 rfl rfl (fun b2 => ?_)
        refine sg_front1 ?_
        refine sg_wo ?_
        refine sg_append0 (news := hcells [(st + m, s + l - st - m)]) rfl rfl rfl rfl (hcells_one _) (rd_blk 1 rfl fun j u hj => by rw [Nat.zero_add]; exact hj) (by simp only [maxLen]; omega) (by omega) fun a' c' => ?_
        repeat' (first | refine sg_wo ?_ | refine sg_ps (ps_assign rfl) rfl ?_ | refine sg_nil ?_)
        exact ex_mid (a', c') trivial (.cons rfl (.cons rfl (.cons rfl (.cons rfl (.cons rfl (.cons rfl .nil)))))) (fun w hO => hO.front1.tail)
      · have hst : ¬ st + m < s + l := by omega
        rw [if_neg hst] at hl2
        subst hl2
        exact ex_mid (va, vc) trivial (.cons rfl (.cons rfl (.cons rfl (.cons rfl (.cons rfl (.cons rfl .nil)))))) (fun w hO => by
          rw [show hcells l1 ++ hcells [] = hcells l1 by simp [hcells]]; exact hO)
    · rintro ⟨ua, uc⟩ -
      dsimp only
      rw [← hcells_app, ← hll, ← List.length_append, ← hll]
      repeat' (first | refine sg_wo ?_ | refine sg_ps (ps_move rfl) rfl ?_ | refine sg_region ?_ | refine sg_ps (ps_fieldAddr rfl) rfl ?_ | refine sg_ps (ps_nilCheck rfl) rfl ?_ | refine sg_load 2 rfl rfl rfl rfl ?_ | refine sg_ps (ps_add64 rfl rfl (by omega)) rfl ?_)
      have hcl2 : (cutL s l st m).length ≤ 2 := by rw [hll, List.length_append]; omega
      rw [show (A.length : Int) + 1 = ((A.length + 1 : Nat) : Int) by omega]
      refine sg_call ((replace_tri (hcells X.runs) (hcells (cutL s l st m)) (some ⟨b, o, none⟩) ua X.runs.length c (cutL s l st m).length uc A.length (A.length + 1) (blk al (hc (s, l)) :: blk p (xcells X (some ⟨b, o, none⟩) c) :: R)
        (by omega) (by omega) (by omega) (by omega) (hcells_one _) (hcells_one _) (hcells_len _) (hcells_len _)).pre (fun w hO => hO.front3.front1)) rfl rfl (fun y _ => ?_)
      obtain ⟨na, nc⟩ := y
      dsimp only
      have hc1 : List.take (A.length * 2) (hcells X.runs) ++ hcells (cutL s l st m) ++ List.drop ((A.length + 1) * 2) (hcells X.runs) = hcells (X.cut st m).runs := by
        rw [hcut, hr, hcells_cut]
      have hc2 : A.length + (cutL s l st m).length + (X.runs.length - (A.length + 1)) = (X.cut st m).runs.length := by
        rw [hcut, hrl]; simp only [List.length_append]; omega
      rw [hc1, hc2]
      repeat' (first | refine sg_wo ?_ | refine sg_nil ?_ | refine sg_ps (ps_fieldAddr rfl) rfl ?_ | refine sg_ps (ps_nilCheck rfl) rfl ?_ | refine sg_store [_, _] rfl rfl rfl (of_decide_eq_true rfl) ?_)
      refine ex_end0 rfl () rfl trivial (fun w hO => SpaceRep.shut (a := na) (c := nc) hX' ?_)
      have h2 := hO.front2.front2.tail
      rw [show xcells (X.cut st m) na nc = (xcells X (some ⟨b, o, none⟩) c).set (0 + 2) (.slice na (X.cut st m).runs.length nc) by
        simp only [xcells, hclen]; rfl]
      exact h2
end Go.Proofs.Ytcchgkjcoknkcaa
