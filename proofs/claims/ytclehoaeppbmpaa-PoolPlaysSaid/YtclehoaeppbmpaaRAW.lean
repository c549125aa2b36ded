/- What all laws share. -/
import Derived.Test.YtclehoaeppbmpaaRS
import Derived.Test.YtclehoaeppbmpaaRows
namespace Go.Proofs.Ytclehoaeppbmpaa
set_option linter.unusedVariables false
set_option linter.unusedSimpArgs false
set_option linter.unusedSectionVars false
set_option linter.unnecessarySimpa false
open Go Go.Proofs
theorem law_own : ownKnob Try.prog.godebug = none := by kernel_rfl
theorem law_laidOut : laidOutB Try.prog = true := by kernel_rfl
theorem strOf_toList (bs : List UInt8) : (strOf bs).toList = bs := by
  simp [strOf, ByteArray.toList_eq]
theorem str_eq (a b : List UInt8) : ((strOf a).toList = (strOf b).toList) ↔ a = b := by rw [strOf_toList, strOf_toList]
theorem str_dec (a b : List UInt8) : decide ((strOf a).toList = (strOf b).toList) = decide (a = b) := decide_eq_decide.2 (str_eq a b)
theorem strOf_size (w : List UInt8) : (strOf w).size = w.length := by simp [strOf, ByteArray.size]
theorem sown_cap {W w : World} {L : List HP} {a : Option Addr} {m c sz : Nat} {xs : List Value} (hO : Own W w (sown a m c sz xs :: L)) : m ≤ c ∧ c ≤ 9223372036854775807 := by
  obtain ⟨_, ⟨_, h1, h2⟩ | ⟨g, _, h1, h2, _⟩⟩ := hO.sownCells
  · omega
  · exact ⟨h1, by simpa [maxLen] using h2⟩
theorem own_block {W w : World} {L : List HP} {a : Option Addr} {m c sz : Nat} {xs : List Value} (hm : 0 < m) (hO : Own W w (sown a m c sz xs :: L)) :
    ∃ x : Nat × List Value, (a = some ⟨x.1, 0, none⟩ ∧ m ≤ c ∧ c ≤ 9223372036854775807 ∧ x.2.length = c * sz ∧ x.2.take (m * sz) = xs) ∧ Own W w (blk x.1 x.2 :: L) := by
  obtain ⟨h, K, ⟨_, hx⟩, hs, hK, hS, hd⟩ := hO.uncons
  rcases hx with ⟨_, h0, _⟩ | ⟨g, cur, T, fz, ha, hn, hc, hcl, htk, hfz, rfl⟩
  · omega
  · exact ⟨(g, cur), ⟨ha, hn, by simpa [maxLen] using hc, hcl, htk⟩, .cons hO.os hO.tape hO.output ⟨T, fz, hfz, rfl⟩ hs hK hS hd⟩
theorem ne_of_pos {bs : List UInt8} (h : 0 < bs.length) : bs.map bv ≠ [] := by
  intro e; have := congrArg List.length e; simp at this; rw [this] at h; simp at h
end Go.Proofs.Ytclehoaeppbmpaa
