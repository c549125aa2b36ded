/- More on structs: loads of wholes in regions that draw their order. -/
import Derived.Test.YtclehoaeppbmpaaAG
namespace Go.Proofs.Ytclehoaeppbmpaa
set_option linter.unusedVariables false
set_option linter.unusedSimpArgs false
set_option linter.unusedSectionVars false
set_option linter.unnecessarySimpa false
open Go
section
variable {P : Program} [BS P] {W : World} {n : Nat} {F : Fr} {L LR : List HP} {ops : Array Oper} {Q : Exit → Act → World → Prop} {K : Act → World → Prop} {l : List Oper} {π : List Nat} {i : Nat}
variable {d : Nat} {ty : TypeId} {pos : String} {af : Array Edge}
theorem sk_lw_g {g : Option (Nat × Bool)} {t sz : Nat} {x : Operand} {ad : Addr} {vs : List Value} [Agg P t sz] (hi : l[i]? = some ⟨some d, .load t x, ty, pos, af, g⟩)
    (hw : ∀ a, Rep a n F → Region.wanted ⟨some d, .load t x, ty, pos, af, g⟩ (yielded l.toArray a.tmps) = true)
    (hx : ev F x = some (.pointer (some ad))) (hl : vs.length = sz) (hr : Rd W LR (some ad) vs) (hd : Nat.blt d n = true) (h : SG W n ((d, .agg vs.toArray) :: F) L (WK P l.toArray Q (fun w => Own W w LR) π)) :
    SG W n F L (WK P l.toArray Q (fun w => Own W w LR) (i :: π)) := by
  intro w hO a ha
  simp only [WK, List.getElem?_toArray, hi]
  rw [if_neg (by simp [kindOf]), if_pos (by rfl)]
  have key : ∀ w', Own W w' LR → ∀ j u, vs[j]? = some u → w'.cell? (ad.add j) = some u := by
    intro w' hO' j u hj
    rcases hr w' hO' with he | ⟨b, o, he, hc⟩
    · rw [he] at hj; simp at hj
    · simp only [Option.some.injEq] at he; subst he
      rw [addr_add]; exact hc j u hj
  refine ⟨.agg vs.toArray, vs.zipIdx.map (fun p => (ad.add p.2, p.1)), .inl ⟨hw a ha, fun w hw => ?_⟩, ?_, h w hO _ (ha.put hd _)⟩
  · have hc : ∀ j u, vs[j]? = some u → w.cell? (ad.add j) = some u := fun j u hj => hw (ad.add j, u) (by rw [List.mem_map]; exact ⟨(u, j), by rw [List.mem_zipIdx_iff_getElem?]; exact hj, rfl⟩)
    simp [execOp, ha.ev hx, Instr.loadAt, Instr.sureAddr, run_load_agg (P := P) (t := t) (ad := ad) hl hc]
  · intro w' hO' p hp
    rw [List.mem_map] at hp
    obtain ⟨⟨u, j⟩, hq, rfl⟩ := hp
    exact key w' hO' j u (by simpa [List.mem_zipIdx_iff_getElem?] using hq)
theorem sk_lw {t sz b : Nat} {x : Operand} {cs : List Value} (k : Nat) [Agg P t sz] (hi : l[i]? = some ⟨some d, .load t x, ty, pos, af, none⟩) (hL : LR[k]? = some (blk b cs)) (hx : ev F x = some (.pointer (some ⟨b, 0, none⟩))) (hl : cs.length = sz) (hd : Nat.blt d n = true) (h : SG W n ((d, .agg cs.toArray) :: F) L (WK P l.toArray Q (fun w => Own W w LR) π)) :
    SG W n F L (WK P l.toArray Q (fun w => Own W w LR) (i :: π)) :=
  sk_lw_g hi (fun a _ => by simp [Region.wanted]) hx hl (rd_blk k hL (fun j u hj => by rw [Nat.zero_add]; exact hj)) hd h
theorem sk_lwg {t sz b j t' : Nat} {gb : Bool} {x : Operand} {cs : List Value} (k : Nat) [Agg P t sz] (hi : l[i]? = some ⟨some d, .load t x, ty, pos, af, some (j, gb)⟩) (hj : (l[j]?).bind (·.dst) = some t') (ht : look F t' = some (.bool gb)) (hL : LR[k]? = some (blk b cs)) (hx : ev F x = some (.pointer (some ⟨b, 0, none⟩))) (hl : cs.length = sz) (hd : Nat.blt d n = true) (h : SG W n ((d, .agg cs.toArray) :: F) L (WK P l.toArray Q (fun w => Own W w LR) π)) :
    SG W n F L (WK P l.toArray Q (fun w => Own W w LR) (i :: π)) :=
  sk_lw_g hi (fun a ha => by
    have hy : yielded l.toArray a.tmps j = some gb := by simp [yielded, hj, ha.get t' _ ht]
    simp [Region.wanted, hy]) hx hl (rd_blk k hL (fun j u hj => by rw [Nat.zero_add]; exact hj)) hd h
end
end Go.Proofs.Ytclehoaeppbmpaa
