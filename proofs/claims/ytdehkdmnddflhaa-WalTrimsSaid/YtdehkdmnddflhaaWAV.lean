/- Package wal, plain: the pieces that a mount has written, and what a crash leaves of them. -/
import Derived.Test.YtdehkdmnddflhaaWAU
namespace Go.Proofs.Ytdehkdmnddflhaa
set_option linter.unusedVariables false
set_option linter.unusedSimpArgs false
set_option linter.unusedSectionVars false
set_option linter.unnecessarySimpa false
open Go Go.Proofs
theorem wfind_agree {at_ bt : Nat → List UInt8} {top : Nat} : ∀ (k s μ : Nat) (data : List UInt8) (next : Nat) (R : List (Nat × Nat × List UInt8)), (∀ p, s ≤ p → p < s + k → bt p = at_ p) → wfind bt top k s μ data next R = wfind at_ top k s μ data next R
  | 0, _, _, _, _, _, _ => rfl
  | k + 1, s, μ, data, next, R, h => by
    have h2 : ∀ p, s + 1 ≤ p → p < s + 1 + k → bt p = at_ p := fun p g1 g2 => h p (by omega) (by omega)
    rw [wfind_succ, wfind_succ, h s (Nat.le_refl _) (by omega), wfind_agree k (s + 1) _ _ _ _ h2, wfind_agree k (s + 1) _ _ _ _ h2]
/-- The ring's window as it stands. -/
def win (S : LS) (D : DS) (p : Nat) : List UInt8 := if S.head ≤ p ∧ p < S.head + S.size then wat D S p else []
theorem win_in {S : LS} {D : DS} {p : Nat} (h1 : S.head ≤ p) (h2 : p < S.head + S.size) : win S D p = D.at (S.pos p) := if_pos ⟨h1, h2⟩
theorem win_out {S : LS} {D : DS} {p : Nat} (h : ¬ (S.head ≤ p ∧ p < S.head + S.size)) : win S D p = [] := if_neg h
/-- Piece p of the records zs that stand from s on. -/
def newp (M : Nat) : Nat → List (List UInt8) → Nat → List UInt8
  | _, [], _ => []
  | s, d :: zs, p => if p < s + cnt d.length then pcs M s d (p - s) else newp M (s + cnt d.length) zs p
theorem torn_of {bt et : Nat → List UInt8} {M e : Nat} {part : Option (List UInt8)} (hp : ∀ d, part = some d → d.length ≤ 32768) : ∀ (ys : List (List UInt8)) (s : Nat), (∀ d ∈ ys, d.length ≤ 32768) →
    (∀ p, s ≤ p → et p = bt p ∨ (p < e ∧ et p = newp M s (ys ++ part.toList) p)) → (part = none → e ≤ s + total (byM M ys)) → (∀ d, part = some d → e < s + total (byM M ys) + cnt d.length) → Torn bt et M s ys part
  | [], s, _, hm, h1, h2 => by
    have ht : total (byM M []) = 0 := rfl
    cases part with
    | none =>
      intro p hsp
      have := h1 rfl
      rcases hm p hsp with g | ⟨g, _⟩
      · exact g
      · omega
    | some d =>
      have h3 := h2 d rfl
      have hc := cnt_spec (hp d rfl)
      refine ⟨hp d rfl, fun i hi => ?_, ⟨cnt d.length - 1, by omega, ?_⟩, fun p hsp => ?_⟩
      · rcases hm (s + i) (by omega) with g | ⟨_, g⟩
        · exact .inl g
        · right
          rw [g]
          show (if s + i < s + cnt d.length then pcs M s d (s + i - s) else _) = _
          rw [if_pos (by omega), Nat.add_sub_cancel_left]
      · rcases hm (s + (cnt d.length - 1)) (by omega) with g | ⟨g, _⟩
        · exact g
        · omega
      · rcases hm p (by omega) with g | ⟨g, _⟩
        · exact g
        · omega
  | d :: ys, s, hl, hm, h1, h2 => by
    have hd := hl d List.mem_cons_self
    have hc := cnt_spec hd
    have ht : total (byM M (d :: ys)) = cnt d.length + total (byM M ys) := rfl
    refine ⟨hd, fun i hi => ?_, torn_of (e := e) hp ys (s + cnt d.length) (fun x hx => hl x (List.mem_cons_of_mem _ hx)) (fun p hsp => ?_) (fun g => by have := h1 g; omega) (fun x g => by have := h2 x g; omega)⟩
    · rcases hm (s + i) (by omega) with g | ⟨_, g⟩
      · exact .inl g
      · right
        rw [g]
        show (if s + i < s + cnt d.length then pcs M s d (s + i - s) else _) = _
        rw [if_pos (by omega), Nat.add_sub_cancel_left]
    · rcases hm p (by omega) with g | ⟨g1, g2⟩
      · exact .inl g
      · refine .inr ⟨g1, ?_⟩
        rw [g2]
        show (if p < s + cnt d.length then _ else newp M (s + cnt d.length) (ys ++ part.toList) p) = _
        rw [if_neg (by omega)]
/-- What waits: the pieces a .. e - 1. -/
structure Waits (S : LS) (bt nw : Nat → List UInt8) (a e : Nat) (D : DS) : Prop where
  len : a + D.wait.length = e
  get : ∀ m x, D.wait[m]? = some x → x = (S.pos (a + m), bt (a + m), nw (a + m))
theorem Waits.nodup {S : LS} {bt nw : Nat → List UInt8} {a e : Nat} {D : DS} (h : Waits S bt nw a e D) (he : e ≤ a + S.size) : (D.wait.map (·.1)).Nodup := by
  rw [List.nodup_iff_pairwise_ne, List.pairwise_iff_getElem]
  intro i j hi hj hij
  rw [List.length_map] at hi hj
  rw [List.getElem_map, List.getElem_map]
  have hl := h.len
  have e1 := h.get i _ (List.getElem?_eq_getElem hi)
  have e2 := h.get j _ (List.getElem?_eq_getElem hj)
  rw [e1, e2]
  exact pos_ne S (by omega) (by omega)
/-- A crash: below a and from e on nothing changes; in between the new or the old. -/
theorem Waits.crash {S : LS} {bt nw : Nat → List UInt8} {a e : Nat} {D : DS} (h : Waits S bt nw a e D) (ha : S.head ≤ a) (he : e ≤ S.head + S.size) (hs : 0 < S.size) (hl : S.base + S.size ≤ D.seen.length) (keep : List Int) (p : Nat) (h1 : S.head ≤ p) (h2 : p < S.head + S.size) :
    (D.crash keep).at (S.pos p) = if a ≤ p ∧ p < e then (if keepOf keep (p - a) = true then nw p else bt p) else D.at (S.pos p) := by
  have hlen := h.len
  by_cases hin : a ≤ p ∧ p < e
  · rw [if_pos hin]
    have hi : p - a < D.wait.length := by omega
    have hx := List.getElem?_eq_getElem hi
    have e1 := h.get _ _ hx
    rw [show a + (p - a) = p by omega] at e1
    rw [e1] at hx
    have hb : S.pos p < D.seen.length := by have := Nat.mod_lt p hs; unfold LS.pos; omega
    exact crash_here (keep := keep) (h.nodup (by omega)) hx hb
  · rw [if_neg hin]
    refine crash_away (fun x hx => ?_)
    obtain ⟨m, hm, rfl⟩ := List.mem_iff_getElem.1 hx
    rw [h.get m _ (List.getElem?_eq_getElem hm)]
    show S.pos (a + m) ≠ S.pos p
    rcases Nat.lt_or_ge p (a + m) with g | g
    · exact (pos_ne S g (by omega)).symm
    · exact pos_ne S (by omega) (by omega)
end Go.Proofs.Ytdehkdmnddflhaa
