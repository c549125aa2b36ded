/- Package wal, plain: the state between two mounts; a crash and the next Open. -/
import Derived.Test.YtdehkdmnddflhaaWAV
namespace Go.Proofs.Ytdehkdmnddflhaa
set_option linter.unusedVariables false
set_option linter.unusedSimpArgs false
set_option linter.unusedSectionVars false
set_option linter.unnecessarySimpa false
open Go Go.Proofs
theorem hasAll_append {at_ : Nat → List UInt8} {top : Nat} {l2 : List (Nat × List UInt8)} : ∀ (l : List (Nat × List UInt8)) (s μ : Nat), HasAll at_ top s μ l → HasAll at_ top (s + total l) (lastM μ l) l2 → HasAll at_ top s μ (l ++ l2)
  | [], _, _, _, h => h
  | x :: l, s, μ, ⟨g1, g2, g3, g4, g5, g6⟩, h => ⟨g1, g2, g3, g4, g5, hasAll_append l _ _ g6 (by rw [Nat.add_assoc]; exact h)⟩
theorem hasAll_top {at_ : Nat → List UInt8} {top top2 : Nat} (ht : top ≤ top2) : ∀ (l : List (Nat × List UInt8)) (s μ : Nat), HasAll at_ top s μ l → HasAll at_ top2 s μ l
  | [], _, _, _ => trivial
  | x :: l, s, μ, ⟨g1, g2, g3, g4, g5, g6⟩ => ⟨g1, g2, g3, by omega, g5, hasAll_top ht l _ _ g6⟩
theorem total_app (b : List (Nat × List UInt8)) : ∀ a : List (Nat × List UInt8), total (a ++ b) = total a + total b
  | [] => by simp [total]
  | x :: a => by simp only [List.cons_append, total, total_app b a]; omega
theorem lastM_app (b : List (Nat × List UInt8)) : ∀ (a : List (Nat × List UInt8)) (μ : Nat), lastM μ (a ++ b) = lastM (lastM μ a) b
  | [], _ => rfl
  | x :: a, _ => lastM_app b a _
theorem lastM_byM {M : Nat} : ∀ (ys : List (List UInt8)) (μ : Nat), μ ≤ M → lastM μ (byM M ys) ≤ M
  | [], _, h => h
  | _ :: ys, _, _ => lastM_byM ys M (Nat.le_refl _)
theorem total_take (M : Nat) : ∀ (ys : List (List UInt8)) (j : Nat), total (byM M (ys.take j)) ≤ total (byM M ys)
  | [], j => by simp [byM, total]
  | d :: ys, 0 => Nat.zero_le _
  | d :: ys, j + 1 => by show cnt d.length + total (byM M (ys.take j)) ≤ cnt d.length + total (byM M ys); have := total_take M ys j; omega
theorem newp_all {et : Nat → List UInt8} {M : Nat} {part : Option (List UInt8)} (hm : M < 4294967296) : ∀ (ys : List (List UInt8)) (sf s μ : Nat), μ ≤ M → (∀ d ∈ ys, d.length ≤ 32768) →
    (∀ p, s ≤ p → p < s + total (byM M (ys.take sf)) → et p = newp M s (ys ++ part.toList) p) → HasAll et M s μ (byM M (ys.take sf))
  | [], sf, s, μ, _, _, _ => by rw [List.take_nil]; trivial
  | d :: ys, 0, s, μ, _, _, _ => trivial
  | d :: ys, sf + 1, s, μ, hμ, hl, h => by
    have ht : total (byM M ((d :: ys).take (sf + 1))) = cnt d.length + total (byM M (ys.take sf)) := rfl
    refine ⟨fun i hi => ?_, hl d List.mem_cons_self, hμ, Nat.le_refl _, hm, newp_all (part := part) hm ys sf _ _ (Nat.le_refl _) (fun x hx => hl x (List.mem_cons_of_mem _ hx)) (fun p g1 g2 => ?_)⟩
    · have hi' : i < cnt d.length := hi
      rw [h (s + i) (by omega) (by omega)]
      show (if s + i < s + cnt d.length then pcs M s d (s + i - s) else _) = _
      rw [if_pos (by omega), Nat.add_sub_cancel_left]; rfl
    · have g1' : s + cnt d.length ≤ p := g1
      have g2' : p < s + cnt d.length + total (byM M (ys.take sf)) := g2
      rw [h p (by omega) (by omega)]
      show (if p < s + cnt d.length then _ else newp M (s + cnt d.length) (ys ++ part.toList) p) = _
      rw [if_neg (by omega)]
theorem newp_look {M : Nat} (hm : M < 4294967296) : ∀ (zs : List (List UInt8)) (s p : Nat), (∀ d ∈ zs, d.length ≤ 32768) → s ≤ p → p < 18446744073709551616 → (lookA (newp M s zs p) p).ok = true → (lookA (newp M s zs p) p).mount ≤ M
  | [], s, p, _, _, _, h => by
    show (lookA [] p).mount ≤ M
    unfold lookA
    split
    · show lmount [] ≤ M
      have : lmount [] = 0 := by decide
      omega
    · exact Nat.zero_le _
  | d :: zs, s, p, hl, h1, h2, h => by
    by_cases hp : p < s + cnt d.length
    · have e : newp M s (d :: zs) p = pcs M s d (p - s) := if_pos hp
      have := (pcs_look (i := p - s) (s := s) (hl d List.mem_cons_self) (by omega) hm (by omega)).2
      rw [show s + (p - s) = p by omega] at this
      rw [e, this]
      exact Nat.le_refl _
    · have e : newp M s (d :: zs) p = newp M (s + cnt d.length) zs p := if_neg hp
      rw [e] at h ⊢
      exact newp_look hm zs _ p (fun x hx => hl x (List.mem_cons_of_mem _ hx)) (by omega) h2 h
/-- Between two mounts: bt as it was at the last Open, l found then, ys appended since, part cut off; a: where what waits begins; e: where what was written ends. -/
structure PI (S : LS) (least : Nat) (bt : Nat → List UInt8) (l : List (Nat × List UInt8)) (ys : List (List UInt8)) (part : Option (List UInt8)) (sf a e : Nat) (D : DS) : Prop where
  size : 0 < S.size
  fits : S.base + S.size ≤ D.seen.length
  bound : S.head + S.size + 3000 < 9223372036854775808
  head : 1 ≤ S.head
  mount : S.mount < 4294967296
  found : HasAll bt S.mount S.head least l
  len : ∀ d ∈ ys, d.length ≤ 32768
  plen : ∀ d, part = some d → d.length ≤ 32768
  next : S.head + total l + total (byM S.mount ys) = S.next
  room : S.next ≤ S.head + S.size
  nopart : part = none → e = S.next
  cut : ∀ d, part = some d → S.next ≤ e ∧ e < S.next + cnt d.length ∧ S.next + cnt d.length ≤ S.head + S.size ∧ D.down = true
  old : Older bt S.mount
  last : lastM least l ≤ S.mount
  stuck : lastM least l = S.mount ∨ ∀ R, wfind bt S.mount (S.size - total l) (S.head + total l) (lastM least l) [] (S.head + total l) R = (R, S.head + total l)
  out : ∀ p, ¬ (S.head ≤ p ∧ p < S.head + S.size) → bt p = []
  cur : ∀ p, S.head ≤ p → p < S.head + S.size → D.at (S.pos p) = if S.head + total l ≤ p ∧ p < e then newp S.mount (S.head + total l) (ys ++ part.toList) p else bt p
  from_ : S.head + total l ≤ a
  wait : Waits S bt (newp S.mount (S.head + total l) (ys ++ part.toList)) a e D
  safe : sf ≤ ys.length ∧ S.head + total l + total (byM S.mount (ys.take sf)) ≤ a
theorem PI.crash {S : LS} {least : Nat} {bt : Nat → List UInt8} {l : List (Nat × List UInt8)} {ys : List (List UInt8)} {part : Option (List UInt8)} {sf a e : Nat} {D : DS} (h : PI S least bt l ys part sf a e D) (keep : List Int) (M2 : Nat) (hM : S.mount < M2) (hM2 : M2 < 4294967296) :
    ∃ j nx, sf ≤ j ∧ j ≤ ys.length ∧ wfound (D.crash keep) S.base S.size M2 S.head least = (recsOf S.head (l ++ byM S.mount (ys.take j)), nx) ∧ S.head ≤ nx ∧ nx ≤ S.head + S.size ∧
      PI ⟨S.base, S.size, M2, S.head, nx⟩ least (win S (D.crash keep)) (l ++ byM S.mount (ys.take j)) [] none 0 nx nx (D.crash keep) := by
  have hb := h.bound
  have hnext := h.next
  have hroom := h.room
  have hfrom := h.from_
  have hwl := h.wait.len
  have hlen : (D.crash keep).seen.length = D.seen.length := by
    have : ∀ (w : List (Nat × List UInt8 × List UInt8)) (k : Nat) (seen : List (List UInt8)), (fore seen keep k w).length = seen.length := by
      intro w
      induction w with
      | nil => intros; rfl
      | cons p w ih => intro k seen; simp only [fore]; rw [ih]; split <;> simp
    show (fore (back D.seen D.wait) keep 0 D.wait).length = _
    rw [this, back_len]
  have heR : e ≤ S.head + S.size := by
    cases hp : part with
    | none => rw [h.nopart hp]; exact hroom
    | some d => have := h.cut d hp; omega
  have hcr := h.wait.crash (by omega) heR h.size h.fits keep
  obtain ⟨et, het⟩ : ∃ et, et = win S (D.crash keep) := ⟨_, rfl⟩
  have hin : ∀ p, S.head ≤ p → p < S.head + S.size → et p = if a ≤ p ∧ p < e then (if keepOf keep (p - a) = true then newp S.mount (S.head + total l) (ys ++ part.toList) p else bt p) else D.at (S.pos p) := by
    intro p g1 g2
    rw [het, win_in g1 g2]; exact hcr p g1 g2
  have hout : ∀ p, ¬ (S.head ≤ p ∧ p < S.head + S.size) → et p = bt p := by
    intro p g
    rw [het, win_out g, h.out p g]
  have hlow : ∀ p, p < S.head + total l → et p = bt p := by
    intro p g
    by_cases hw : S.head ≤ p ∧ p < S.head + S.size
    · rw [hin p hw.1 hw.2, if_neg (by omega), h.cur p hw.1 hw.2, if_neg (by omega)]
    · exact hout p hw
  have hmix : ∀ p, S.head + total l ≤ p → et p = bt p ∨ (p < e ∧ et p = newp S.mount (S.head + total l) (ys ++ part.toList) p) := by
    intro p g
    by_cases hw : S.head ≤ p ∧ p < S.head + S.size
    · rw [hin p hw.1 hw.2]
      by_cases hae : a ≤ p ∧ p < e
      · rw [if_pos hae]
        split
        · exact .inr ⟨hae.2, rfl⟩
        · exact .inl rfl
      · rw [if_neg hae, h.cur p hw.1 hw.2]
        by_cases hpe : p < e
        · rw [if_pos ⟨g, hpe⟩]; exact .inr ⟨hpe, rfl⟩
        · rw [if_neg (by omega)]; exact .inl rfl
    · exact .inl (hout p hw)
  have hT : Torn bt et S.mount (S.head + total l) ys part := torn_of (e := e) h.plen ys _ h.len hmix (fun hp => by rw [h.nopart hp]; omega) (fun d hp => by have := h.cut d hp; omega)
  have hA : HasAll et S.mount S.head least l := hasAll_agree l _ _ h.found (fun q g1 g2 => hlow q g2)
  obtain ⟨j, j1, j2, j3, j4⟩ := find_torn (top := S.mount) (top2 := M2) h.old h.mount (Nat.le_refl _) (by omega) ys (S.head + total l) (lastM least l) (S.size - total l) hT (by omega) h.last h.stuck
  have hsf : sf ≤ j := by
    refine j4 sf h.safe.1 (newp_all (part := part) h.mount ys sf _ _ h.last h.len (fun p g1 g2 => ?_))
    have hs2 := h.safe.2
    rw [hin p (by omega) (by omega), if_neg (by omega), h.cur p (by omega) (by omega), if_pos ⟨g1, by omega⟩]
  have htt := total_take S.mount ys j
  have hL : HasAll et M2 S.head least (l ++ byM S.mount (ys.take j)) := hasAll_top (by omega) _ _ _ (hasAll_append l _ _ hA j2)
  have htL : total (l ++ byM S.mount (ys.take j)) = total l + total (byM S.mount (ys.take j)) := total_app _ _
  have hlL : lastM least (l ++ byM S.mount (ys.take j)) = lastM (lastM least l) (byM S.mount (ys.take j)) := lastM_app _ _ _
  have hst : ∀ R, wfind et M2 (S.size - total (l ++ byM S.mount (ys.take j))) (S.head + total (l ++ byM S.mount (ys.take j))) (lastM least (l ++ byM S.mount (ys.take j))) [] (S.head + total (l ++ byM S.mount (ys.take j))) R = (R, S.head + total (l ++ byM S.mount (ys.take j))) := by
    intro R
    rw [htL, hlL, ← Nat.add_assoc, ← Nat.sub_sub]
    exact j3 R
  generalize hLe : l ++ byM S.mount (ys.take j) = L at hL htL hlL hst
  refine ⟨j, S.head + total L, hsf, j1, ?_, by omega, by omega, ?_⟩
  · rw [hLe]
    unfold wfound
    have e1 := find_all (S.size - total L) L S.head least [] hL (by omega)
    rw [show S.size - total L + total L = S.size by omega, hst, List.nil_append] at e1
    rw [← e1]
    refine wfind_agree S.size S.head least [] S.head [] (fun p g1 g2 => ?_)
    rw [het, win_in g1 g2]; rfl
  · rw [← het, hLe]
    exact {
      size := h.size
      fits := by show S.base + S.size ≤ _; rw [hlen]; exact h.fits
      bound := h.bound
      head := h.head
      mount := hM2
      found := hL
      len := fun d hd => by simp at hd
      plen := fun d hd => by simp at hd
      next := rfl
      room := by show S.head + total L ≤ S.head + S.size; omega
      nopart := fun _ => rfl
      cut := fun d hd => by simp at hd
      old := by
        intro p hp
        show (lookA (et p) p).mount < M2
        by_cases hw : S.head ≤ p ∧ p < S.head + S.size
        · by_cases hn0 : S.head + total l ≤ p
          · rcases hmix p hn0 with g | ⟨g1, g2⟩
            · rw [g] at hp ⊢; have := h.old p hp; omega
            · rw [g2] at hp ⊢
              have hz : ∀ d ∈ ys ++ part.toList, d.length ≤ 32768 := by
                intro d hd
                rcases List.mem_append.1 hd with q | q
                · exact h.len d q
                · cases hpt : part with
                  | none => rw [hpt] at q; simp at q
                  | some x => rw [hpt] at q; simp at q; subst q; exact h.plen _ hpt
              have := newp_look h.mount _ _ p hz hn0 (by omega) hp
              omega
          · rw [hlow p (by omega)] at hp ⊢; have := h.old p hp; omega
        · rw [hout p hw] at hp ⊢; have := h.old p hp; omega
      last := by
        show lastM least L ≤ M2
        have := lastM_byM (ys.take j) (lastM least l) h.last
        omega
      stuck := .inr hst
      out := fun p hp => by rw [het]; exact win_out (S := S) hp
      cur := fun p g1 g2 => by
        show (D.crash keep).at (S.pos p) = if S.head + total L ≤ p ∧ p < S.head + total L then _ else et p
        rw [if_neg (by omega), het]; exact (win_in (S := S) g1 g2).symm
      from_ := Nat.le_refl _
      wait := ⟨rfl, fun m x hx => by have hx' : ([] : List (Nat × List UInt8 × List UInt8))[m]? = some x := hx; simp at hx'⟩
      safe := ⟨Nat.le_refl _, Nat.le_refl _⟩ }
end Go.Proofs.Ytdehkdmnddflhaa
