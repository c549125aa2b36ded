/- Bytes to a string in a region that draws its order, calls behind. -/
import Derived.Test.YtclehoaeppbmpaaDR2
namespace Go.Proofs.Ytclehoaeppbmpaa
set_option linter.unusedVariables false
set_option linter.unusedSimpArgs false
set_option linter.unusedSectionVars false
set_option linter.unnecessarySimpa false
open Go
section
variable {P : Program} [BS P] {W : World} {n : Nat} {F : Fr} {L LR : List HP} {Q : Exit → Act → World → Prop} {l : List Oper} {π : List Nat} {i : Nat}
variable {d : Nat} {ty : TypeId} {pos : String} {af : Array Edge}
theorem sk_str_w {g : Option (Nat × Bool)} {x : Operand} {a0 : Option Addr} {len cap : Nat} {bs : List UInt8} (hi : l[i]? = some ⟨some d, .convert 37 9 x, ty, pos, af, g⟩)
    (hw : ∀ a, Rep a n F → Region.wanted ⟨some d, .convert 37 9 x, ty, pos, af, g⟩ (yielded l.toArray a.tmps) = true)
    (hx : ev F x = some (.slice a0 len cap)) (hd : Nat.blt d n = true)
    (hl : bs.length = len) (hLR : ∀ w, Own W w L → Own W w LR) (hr : Rd W LR a0 (bs.map fun b => .int .u8 (b.toNat : Int))) (h : SG W n ((d, .string (strOf bs)) :: F) L (WK P l.toArray Q (fun w => Own W w LR) π)) :
    SG W n F L (WK P l.toArray Q (fun w => Own W w LR) (i :: π)) := by
  intro w hO a ha
  simp only [WK, List.getElem?_toArray, hi]
  rw [if_neg (by simp [kindOf]), if_pos (by rfl)]
  rcases hr w (hLR w hO) with hb | ⟨b, o, hb, _⟩
  · have hb' : bs = [] := by simpa using hb
    refine ⟨_, [], .inl ⟨hw a ha, fun w _ => ?_⟩, (fun _ _ p hp => absurd hp (by simp)), h w hO _ (ha.put hd _)⟩
    have := str_yields (P := P) (a0 := a0) (cap := cap) hl [] w (by simp) (fun _ => hb') (by rw [hb]; simp)
    simp [execOp, ha.ev hx, this]
  · refine ⟨_, (bs.map fun b => Value.int .u8 (b.toNat : Int)).zipIdx.map (fun p => ((⟨b, o, none⟩ : Addr).add p.2, p.1)), .inl ⟨hw a ha, fun w hcs => ?_⟩, ?_, h w hO _ (ha.put hd _)⟩
    · have := str_yields (P := P) (a0 := a0) (cap := cap) hl _ w hcs (by rw [hb]; simp) (by
        intro ad had j u hj
        rw [hb] at had; simp only [Option.some.injEq] at had; subst had
        rw [List.mem_map]; exact ⟨(u, j), by rw [List.mem_zipIdx_iff_getElem?]; exact hj, rfl⟩)
      simp [execOp, ha.ev hx, this]
    · intro w' hO' p hp
      rw [List.mem_map] at hp
      obtain ⟨⟨u, j⟩, hq, rfl⟩ := hp
      have hq' : (bs.map fun b => Value.int .u8 (b.toNat : Int))[j]? = some u := by simpa [List.mem_zipIdx_iff_getElem?] using hq
      rw [addr_add]
      rcases hr w' hO' with he | ⟨b', o', he, hc⟩
      · rw [he] at hq'; simp at hq'
      · rw [hb] at he; simp only [Option.some.injEq, Addr.mk.injEq] at he
        obtain ⟨rfl, rfl, _⟩ := he
        exact hc j u hq'
theorem sk_str {x : Operand} {a0 : Option Addr} {len cap : Nat} {bs : List UInt8} (hi : l[i]? = some ⟨some d, .convert 37 9 x, ty, pos, af, none⟩) (hx : ev F x = some (.slice a0 len cap)) (hd : Nat.blt d n = true)
    (hl : bs.length = len) (hLR : ∀ w, Own W w L → Own W w LR) (hr : Rd W LR a0 (bs.map fun b => .int .u8 (b.toNat : Int))) (h : SG W n ((d, .string (strOf bs)) :: F) L (WK P l.toArray Q (fun w => Own W w LR) π)) :
    SG W n F L (WK P l.toArray Q (fun w => Own W w LR) (i :: π)) := sk_str_w hi (fun a _ => by simp [Region.wanted]) hx hd hl hLR hr h
theorem sk_str_g {x : Operand} {j t' : Nat} {gb : Bool} {a0 : Option Addr} {len cap : Nat} {bs : List UInt8} (hi : l[i]? = some ⟨some d, .convert 37 9 x, ty, pos, af, some (j, gb)⟩) (hj : (l[j]?).bind (·.dst) = some t') (ht : look F t' = some (.bool gb)) (hx : ev F x = some (.slice a0 len cap)) (hd : Nat.blt d n = true)
    (hl : bs.length = len) (hLR : ∀ w, Own W w L → Own W w LR) (hr : Rd W LR a0 (bs.map fun b => .int .u8 (b.toNat : Int))) (h : SG W n ((d, .string (strOf bs)) :: F) L (WK P l.toArray Q (fun w => Own W w LR) π)) :
    SG W n F L (WK P l.toArray Q (fun w => Own W w LR) (i :: π)) := sk_str_w hi (fun a ha => by
      have hy : yielded l.toArray a.tmps j = some gb := by simp [yielded, hj, ha.get t' _ ht]
      simp [Region.wanted, hy]) hx hd hl hLR hr h
end
end Go.Proofs.Ytclehoaeppbmpaa
