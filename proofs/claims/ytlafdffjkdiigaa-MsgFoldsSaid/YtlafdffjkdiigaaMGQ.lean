/- Messages: plain laws of Grow, Commit and Add. -/
import Derived.Test.YtlafdffjkdiigaaMGP
namespace Go.Proofs.Ytlafdffjkdiigaa
set_option linter.unusedVariables false
set_option linter.unusedSimpArgs false
set_option linter.unusedSectionVars false
set_option linter.unnecessarySimpa false
open Go Go.Proofs
/-- A slot put right. -/
def nrm (s : ST) : ST := if s.has = true then s else ⟨false, []⟩
theorem ST.ext' {a b : ST} (h1 : a.has = b.has) (h2 : a.val = b.val) : a = b := by cases a; cases b; simp_all
theorem nrm_t {s : ST} (h : s.has = true) : nrm s = s := if_pos h
theorem nrm_f {s : ST} (h : s.has = false) : nrm s = ⟨false, []⟩ := if_neg (by rw [h]; simp)
theorem nrm_has (s : ST) : (nrm s).has = s.has := by
  cases h : s.has with
  | true => rw [nrm_t h, h]
  | false => rw [nrm_f h]
theorem nrm_nrm (s : ST) : nrm (nrm s) = nrm s := by
  cases h : s.has with
  | true => rw [nrm_t h, nrm_t h]
  | false => rw [nrm_f h]; rfl
theorem mkE_old (key : List UInt8) (a b : ST) (t : Int) : (mkE key a b t).old = nrm a := by
  cases h : a.has with
  | true => rw [nrm_t h]; exact ST.ext' rfl (if_pos h)
  | false => rw [nrm_f h]; exact ST.ext' h (if_neg (by rw [h]; simp))
theorem mkE_own (key : List UInt8) (a b : ST) {t : Int} (ht : t ≠ 0) : (mkE key a b t).own = nrm b := by
  cases h : b.has with
  | true => rw [nrm_t h]; exact ST.ext' ((if_pos ⟨ht, h⟩).trans h.symm) (if_pos ⟨ht, h⟩)
  | false => rw [nrm_f h]; exact ST.ext' (if_neg (by rw [h]; simp)) (if_neg (by rw [h]; simp))
theorem mkE_congr {key : List UInt8} {a a' b b' : ST} {t : Int} (h1 : nrm a = nrm a') (h2 : t ≠ 0 → nrm b = nrm b') : mkE key a b t = mkE key a' b' t := by
  have hh : a.has = a'.has := by rw [← nrm_has a, h1, nrm_has]
  have hv : (if a.has = true then a.val else []) = (if a'.has = true then a'.val else []) := by
    cases h : a.has with
    | true => rw [if_pos rfl, ← hh, h, if_pos rfl]; rw [nrm_t h, nrm_t (hh ▸ h)] at h1; rw [h1]
    | false => rw [if_neg (by simp), ← hh, h, if_neg (by simp)]
  by_cases ht : t = 0
  · subst ht
    rw [EN.ext']
    exact ⟨rfl, hh, hv, rfl, by simp [mkE], by simp [mkE]⟩
  · have h2 := h2 ht
    have hh2 : b.has = b'.has := by rw [← nrm_has b, h2, nrm_has]
    rw [EN.ext']
    refine ⟨rfl, hh, hv, rfl, ?_, ?_⟩
    · show (if t ≠ 0 ∧ b.has = true then true else false) = (if t ≠ 0 ∧ b'.has = true then true else false)
      rw [hh2]
    · show (if t ≠ 0 ∧ b.has = true then b.val else []) = (if t ≠ 0 ∧ b'.has = true then b'.val else [])
      cases h : b.has with
      | true => rw [if_pos ⟨ht, rfl⟩, ← hh2, h, if_pos ⟨ht, rfl⟩]; rw [nrm_t h, nrm_t (hh2 ▸ h)] at h2; rw [h2]
      | false => rw [if_neg (by simp), ← hh2, h, if_neg (by simp)]
/-- A worker that leaves it be whether there is a value. -/
structure Keeps1 (w : ST → ST) : Prop where
  has : ∀ s, (w s).has = s.has
  no : ∀ s, s.has = false → w s = s
theorem Keeps1.nrm {w : ST → ST} (h : Keeps1 w) (s : ST) : Go.Proofs.Ytlafdffjkdiigaa.nrm (w (Go.Proofs.Ytlafdffjkdiigaa.nrm s)) = Go.Proofs.Ytlafdffjkdiigaa.nrm (w s) := by
  cases hs : s.has with
  | true => rw [nrm_t hs]
  | false => rw [nrm_f hs, h.no ⟨false, []⟩ rfl, h.no s hs, nrm_f hs]; rfl
theorem Keeps1.nrm' {w : ST → ST} (h : Keeps1 w) (s : ST) : w (Go.Proofs.Ytlafdffjkdiigaa.nrm s) = Go.Proofs.Ytlafdffjkdiigaa.nrm (w s) := by
  cases hs : s.has with
  | true => rw [nrm_t hs, nrm_t (by rw [h.has, hs])]
  | false => rw [nrm_f hs, h.no ⟨false, []⟩ rfl, h.no s hs, nrm_f hs]
theorem grow_keeps (m : MS) : Keeps1 (fun s => s.grow m) := by
  constructor
  · intro s
    show (s.grow m).has = s.has
    unfold ST.grow
    split
    · rfl
    · rename_i h
      cases hs : s.has with
      | true => rfl
      | false => exact absurd (.inl hs) h
  · exact fun s hs => if_pos (.inl hs)
theorem add_keeps (m : MS) : Keeps1 (fun s => s.add m) := by
  constructor
  · intro s
    show (s.add m).has = s.has
    unfold ST.add
    split
    · rfl
    · rename_i h
      cases hs : s.has with
      | true => rfl
      | false => exact absurd (.inl hs) h
  · exact fun s hs => if_pos (.inl hs)
theorem apply_grow (e : EN) (m : MS) (h : m.kind = 4) : e.apply m = mkE e.key (e.old.grow m) (e.own.grow m) e.txn := by
  unfold EN.apply
  rw [if_neg (by omega), if_neg (by omega), if_neg (by omega), if_pos h]
  unfold applyW
  rw [if_pos h]
theorem apply_commit (e : EN) (m : MS) (h : m.kind = 5) : e.apply m = if e.txn ≠ 0 ∧ e.txn = m.txn then mkE e.key e.own e.own 0 else mkE e.key e.old e.own e.txn := by
  unfold EN.apply
  rw [if_neg (by omega), if_neg (by omega), if_neg (by omega), if_neg (by omega)]
  unfold applyN
  simp only [h, if_true]
theorem mkE_zero (key : List UInt8) (a b b' : ST) : mkE key a b 0 = mkE key a b' 0 := mkE_congr rfl (fun h => absurd rfl h)
theorem grow_commit (e : EN) (he : e.neat) (g c : MS) (hg : g.kind = 4) (hc : c.kind = 5) (ht : c.txn = e.txn) : (e.apply g).apply c = (e.apply c).apply g := by
  have hK := grow_keeps g
  rw [apply_commit (e.apply g) c hc, apply_commit e c hc, ht]
  have hgt : (e.apply g).txn = e.txn := by rw [apply_grow e g hg]; rfl
  have hgk : (e.apply g).key = e.key := apply_key e g
  rw [hgt, hgk]
  by_cases h0 : e.txn = 0
  · rw [if_neg (by rintro ⟨h, _⟩; exact h h0), if_neg (by rintro ⟨h, _⟩; exact h h0), neat_mkE he]
    have := neat_mkE (apply_neat e g)
    rw [hgk, hgt] at this
    exact this
  · rw [if_pos ⟨h0, rfl⟩, if_pos ⟨h0, rfl⟩, apply_grow e g hg, mkE_own _ _ _ h0, apply_grow _ g hg]
    show mkE e.key (nrm (e.own.grow g)) _ 0 = mkE e.key ((mkE e.key e.own e.own 0).old.grow g) _ 0
    rw [mkE_old]
    refine mkE_congr ?_ (fun h => absurd rfl h)
    rw [nrm_nrm]
    exact (hK.nrm e.own).symm
theorem grow_twice (s : ST) (m : MS) (h0 : 0 ≤ m.off) (h1 : m.off < 255) : (s.grow m).grow m = s.grow m := by
  by_cases h : s.has = false ∨ s.val = [] ∨ ((s.val.getD 0 0).toNat : Int) ≠ m.off ∨ 512 < s.val.length + m.val.length
  · have e : s.grow m = s := if_pos h
    rw [e, e]
  · have e : s.grow m = ⟨true, bump (s.val ++ m.val)⟩ := if_neg h
    rw [e]
    refine if_pos (.inr (.inr (.inl ?_)))
    cases hv : s.val with
    | nil => exact absurd (.inr (.inl hv)) h
    | cons a t =>
      have h2 : ((s.val.getD 0 0).toNat : Int) = m.off := Decidable.byContradiction fun hh => h (.inr (.inr (.inl hh)))
      rw [hv] at h2
      have h3 : (a.toNat : Int) = m.off := h2
      show (((bump (a :: t ++ m.val)).getD 0 0).toNat : Int) ≠ m.off
      have h4 : ((bump (a :: t ++ m.val)).getD 0 0) = UInt8.ofNat (a.toNat + 1) := rfl
      rw [h4, UInt8.toNat_ofNat']
      omega
theorem once_grow (e : EN) (g : MS) (hg : g.kind = 4) (h0 : 0 ≤ g.off) (h1 : g.off < 255) : (e.apply g).apply g = e.apply g := by
  have hK := grow_keeps g
  rw [apply_grow (e.apply g) g hg, apply_grow e g hg]
  refine mkE_congr ?_ (fun ht => ?_)
  · rw [mkE_old]
    exact (hK.nrm _).trans (by rw [grow_twice _ _ h0 h1])
  · have ht : e.txn ≠ 0 := ht
    rw [mkE_own _ _ _ ht]
    exact (hK.nrm _).trans (by rw [grow_twice _ _ h0 h1])
theorem addAt_addAt (bs : List UInt8) (o x y : Nat) (h : o + 8 ≤ bs.length) : addAt (addAt bs o x) o y = addAt bs o (x + y) := by
  have hA : addAt bs o x = bs.take o ++ (be 8 (unbe ((bs.drop o).take 8) + x) ++ bs.drop (o + 8)) := rfl
  have hlen : (bs.take o).length = o := by simp; omega
  have h1 : (addAt bs o x).take o = bs.take o := by rw [hA, List.take_append_of_le_length (by omega), List.take_of_length_le (by omega)]
  have h2 : (addAt bs o x).drop o = be 8 (unbe ((bs.drop o).take 8) + x) ++ bs.drop (o + 8) := by
    rw [hA, List.drop_append_of_le_length (by omega), List.drop_of_length_le (by omega), List.nil_append]
  have h3 : ((addAt bs o x).drop o).take 8 = be 8 (unbe ((bs.drop o).take 8) + x) := by
    rw [h2, List.take_append_of_le_length (by simp), List.take_of_length_le (by simp)]
  have h4 : (addAt bs o x).drop (o + 8) = bs.drop (o + 8) := by
    rw [← List.drop_drop, h2, List.drop_append_of_le_length (by simp), List.drop_of_length_le (by simp), List.nil_append]
  unfold addAt at h1 h3 h4 ⊢
  rw [h1, h3, h4, unbe_be]
  congr 2
  rw [← be_mod 8 (_ % _ + y), ← be_mod 8 (_ + (x + y))]
  congr 1
  omega
theorem add_add (s : ST) (m n b : MS) (h1 : n.off = m.off) (h2 : b.off = m.off) (h3 : b.num = (m.num + n.num) % 2 ^ 64) : (s.add m).add n = s.add b := by
  by_cases h : s.has = false ∨ m.off < 0 ∨ m.off > (s.val.length : Int) - 8
  · have e1 : s.add m = s := if_pos h
    have e2 : s.add b = s := if_pos (by rw [h2]; exact h)
    have e3 : s.add n = s := if_pos (by rw [h1]; exact h)
    rw [e1, e2, e3]
  · have e1 : s.add m = ⟨true, addAt s.val m.off.toNat m.num⟩ := if_neg h
    have e2 : s.add b = ⟨true, addAt s.val b.off.toNat b.num⟩ := if_neg (by rw [h2]; exact h)
    have hl : m.off.toNat + 8 ≤ s.val.length := by omega
    have e3 : ST.add ⟨true, addAt s.val m.off.toNat m.num⟩ n = ⟨true, addAt (addAt s.val m.off.toNat m.num) n.off.toNat n.num⟩ := by
      refine if_neg ?_
      show ¬ (true = false ∨ n.off < 0 ∨ n.off > ((addAt s.val m.off.toNat m.num).length : Int) - 8)
      rw [addAt_length _ _ _ hl, h1]
      rintro (h5 | h5)
      · cases h5
      · exact h (.inr h5)
    rw [e1, e3, e2, h1, h2, addAt_addAt _ _ _ _ hl, h3]
    congr 1
    unfold addAt
    congr 2
    rw [← be_mod 8 (_ + (m.num + n.num)), ← be_mod 8 (_ + (m.num + n.num) % 2 ^ 64)]
    congr 1
    omega
theorem apply_add (e : EN) (m : MS) (h : m.kind = 3) (h0 : 0 ≤ m.off) (ht : m.txn = 0) : e.apply m = mkE e.key (e.old.add m) e.own e.txn := by
  unfold EN.apply
  rw [if_neg (by omega), if_neg (by omega), if_pos ⟨h, h0⟩]
  unfold applyW
  rw [if_neg (by omega), if_pos ht]
theorem apply_add_no (e : EN) (he : e.neat) (m : MS) (h : m.kind = 3) (h0 : m.off < 0) : e.apply m = e := by
  unfold EN.apply
  rw [if_neg (by omega), if_neg (by omega), if_neg (by omega), if_neg (by omega)]
  unfold applyN
  split
  · rw [if_neg (by omega), if_neg (by omega), neat_mkE he]
  · exact neat_mkE he
theorem adds (e : EN) (he : e.neat) (m n b : MS) (hm : m.kind = 3) (hn : n.kind = 3) (hb : b.kind = 3) (tm : m.txn = 0) (tn : n.txn = 0) (tb : b.txn = 0) (h1 : n.off = m.off) (h2 : b.off = m.off) (h3 : b.num = (m.num + n.num) % 2 ^ 64) :
    (e.apply m).apply n = e.apply b := by
  by_cases h0 : 0 ≤ m.off
  · rw [apply_add _ n hn (by omega) tn, apply_add e m hm h0 tm, apply_add e b hb (by omega) tb]
    refine mkE_congr ?_ (fun ht => ?_)
    · rw [mkE_old]
      exact ((add_keeps n).nrm _).trans (by rw [add_add _ m n b h1 h2 h3])
    · have ht : e.txn ≠ 0 := ht
      rw [mkE_own _ _ _ ht, nrm_nrm]
  · rw [apply_add_no e he m hm (by omega), apply_add_no e he n hn (by omega), apply_add_no e he b hb (by omega)]
end Go.Proofs.Ytlafdffjkdiigaa
