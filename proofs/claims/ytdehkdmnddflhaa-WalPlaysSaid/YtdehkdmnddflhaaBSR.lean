/- A list of texts, each in a block of its own: grown at its end, cut, read. -/
import Derived.Test.YtdehkdmnddflhaaDK3
import Derived.Test.YtdehkdmnddflhaaRWC
import Derived.Test.YtdehkdmnddflhaaRWB
namespace Go.Proofs.Ytdehkdmnddflhaa
set_option linter.unusedVariables false
set_option linter.unusedSimpArgs false
set_option linter.unusedSectionVars false
set_option linter.unnecessarySimpa false
open Go Go.Proofs
set_option maxRecDepth 20000
set_option maxHeartbeats 4000000
attribute [local irreducible] SG WC WO W1 WD WK PS Rd Tri Exit.then Exit.inBlock bodyPost calmQ Mid sadd
variable {W : World} {n : Nat} {F : Fr} {L : List HP} {G : Act → World → Prop}
theorem Own.dropMid {w : World} {A B C : List HP} (hO : Own W w (A ++ (B ++ C))) : Own W w (A ++ C) := by
  obtain ⟨K, hK, hs, hp⟩ := hO.sat
  obtain ⟨K1, K2, rfl, h1, h2⟩ := map_append_inv _ _ _ _ hK
  obtain ⟨K3, K4, rfl, h3, h4⟩ := map_append_inv _ _ _ _ h2
  refine ⟨hO.os, hO.tape, hO.output, K1 ++ K4, by simp [h1, h4], fun x hx => hs x ?_, ?_⟩
  · rcases List.mem_append.1 hx with g | g <;> simp [g]
  · rw [List.pairwise_append, List.pairwise_append] at hp
    rw [List.pairwise_append]
    exact ⟨hp.1, hp.2.1.2.1, fun x hx y hy => hp.2.2 x hx y (List.mem_append_right _ hy)⟩
theorem own_cut {w : World} {a : Option Addr} {m c sz : Nat} {xs : List Value} {k : Nat} (hk : k ≤ m) (hO : Own W w (sown a m c sz xs :: L)) : Own W w (sown a k c sz (xs.take (k * sz)) :: L) := by
  refine hO.imp ?_
  rintro h ⟨hl, ⟨rfl, rfl, rfl⟩ | ⟨g, cur, T, fz, rfl, hn, hc, hcl, ht, hfz, rfl⟩⟩
  · have e : k = 0 := by omega
    subst e
    have ex : xs = [] := List.eq_nil_of_length_eq_zero (by simpa using hl)
    subst ex
    exact ⟨by simp, .inl ⟨rfl, rfl, rfl⟩⟩
  · have hkm : k * sz ≤ m * sz := Nat.mul_le_mul_right _ hk
    refine ⟨by rw [List.length_take, hl]; omega, .inr ⟨g, cur, T, fz, rfl, by omega, hc, hcl, ?_, hfz, rfl⟩⟩
    rw [← ht, List.take_take, Nat.min_eq_left hkm]
/-- A copied text: its bytes, where they lie. -/
structure CB where
  data : List UInt8
  a : Option Addr
  c : Nat
def CB.hdr (x : CB) : Value := .slice x.a x.data.length x.c
def CB.chunk (x : CB) : HP := sown x.a x.data.length x.c 1 (x.data.map bv)
def BsRep (oa : Option Addr) (oc : Nat) (l : List CB) : HP := sepL (sown oa l.length oc 1 (l.map CB.hdr) :: l.map CB.chunk)
theorem bs_nil {w : World} (hO : Own W w L) : Own W w (BsRep none 0 [] :: L) := Own.join (L1 := [sown none 0 0 1 []]) (own_nil hO)
theorem bs_open {w : World} {oa : Option Addr} {oc : Nat} {l : List CB} {p q : HP} (hO : Own W w (BsRep oa oc l :: p :: q :: L)) : Own W w (sown oa l.length oc 1 (l.map CB.hdr) :: p :: q :: (l.map CB.chunk ++ L)) := by
  have h := Own.split (L1 := sown oa l.length oc 1 (l.map CB.hdr) :: l.map CB.chunk) hO
  have h2 := Own.front (L1 := sown oa l.length oc 1 (l.map CB.hdr) :: l.map CB.chunk) (L2 := q :: L) h
  have h3 := Own.front (L1 := p :: sown oa l.length oc 1 (l.map CB.hdr) :: l.map CB.chunk) (L2 := L) h2
  exact h3.front1.front2
theorem bs_snoc {w : World} {oa : Option Addr} {oc : Nat} {l : List CB} {r : CB} (hO : Own W w (sown oa (l.length + 1) oc 1 (l.map CB.hdr ++ [r.hdr]) :: r.chunk :: (l.map CB.chunk ++ L))) : Own W w (BsRep oa oc (l ++ [r]) :: L) := by
  refine Own.join (L1 := sown oa (l ++ [r]).length oc 1 ((l ++ [r]).map CB.hdr) :: (l ++ [r]).map CB.chunk) ?_
  have h2 := Own.back (L1 := sown oa (l.length + 1) oc 1 (l.map CB.hdr ++ [r.hdr]) :: l.map CB.chunk) (p := r.chunk) (L2 := L) hO.front1
  simpa using h2
theorem bs_take {w : World} {oa : Option Addr} {oc : Nat} {l : List CB} {k : Nat} (hk : k ≤ l.length) (hO : Own W w (BsRep oa oc l :: L)) : Own W w (BsRep oa oc (l.take k) :: L) := by
  have h := Own.split (L1 := sown oa l.length oc 1 (l.map CB.hdr) :: l.map CB.chunk) hO
  have h2 := own_cut hk (L := l.map CB.chunk ++ L) h
  rw [Nat.mul_one] at h2
  refine Own.join (L1 := sown oa (l.take k).length oc 1 ((l.take k).map CB.hdr) :: (l.take k).map CB.chunk) ?_
  rw [List.length_take, Nat.min_eq_left hk, List.map_take, List.map_take]
  refine Own.dropMid (A := sown oa k oc 1 ((l.map CB.hdr).take k) :: (l.map CB.chunk).take k) (B := (l.map CB.chunk).drop k) ?_
  rw [List.cons_append, ← List.append_assoc, List.take_append_drop]
  exact h2
theorem rd_bs (k : Nat) {oa : Option Addr} {oc : Nat} {l : List CB} (hL : L[k]? = some (BsRep oa oc l)) : Rd W L oa (l.map CB.hdr) := by
  unfold Rd
  intro w hO
  obtain ⟨L', hO'⟩ := hO.nth hL
  have h := rd_sown (W := W) (L := (sown oa l.length oc 1 (l.map CB.hdr) :: l.map CB.chunk) ++ L') (vs := l.map CB.hdr) 0 rfl (fun _ _ h => h)
  unfold Rd at h
  exact h w hO'.split
theorem rd_bdata (k : Nat) {oa : Option Addr} {oc i : Nat} {l : List CB} {r : CB} (hL : L[k]? = some (BsRep oa oc l)) (hi : l[i]? = some r) : Rd W L r.a (r.data.map bv) := by
  unfold Rd
  intro w hO
  obtain ⟨L', hO'⟩ := hO.nth hL
  have hlt := (List.getElem?_eq_some_iff.1 hi).1
  have h := rd_sown (W := W) (L := (sown oa l.length oc 1 (l.map CB.hdr) :: l.map CB.chunk) ++ L') (a := r.a) (n := r.data.length) (c := r.c) (sz := 1) (xs := r.data.map bv) (vs := r.data.map bv) (i + 1) (by
    rw [List.cons_append, List.getElem?_cons_succ, List.getElem?_append_left (by simpa using hlt), List.getElem?_map, hi]; rfl) (fun _ _ h => h)
  unfold Rd at h
  exact h w hO'.split
theorem rd_bhdr (k : Nat) {b oc i : Nat} {l : List CB} {r : CB} (hL : L[k]? = some (BsRep (some ⟨b, 0, none⟩) oc l)) (hi : l[i]? = some r) : Rd W L (some ⟨b, 0 + i * 1, none⟩) [r.hdr] :=
  (rd_bs (W := W) k hL).get i (by rw [List.getElem?_map, hi]; rfl)
theorem sg_bs_some (k : Nat) {oa : Option Addr} {oc : Nat} {l : List CB} (hL : L[k]? = some (BsRep oa oc l)) (hne : 0 < l.length) (h : ∀ b, oa = some ⟨b, 0, none⟩ → SG W n F L G) : SG W n F L G := by
  refine sg_open (X := Nat) (L' := fun _ => L) (φ := fun b => oa = some ⟨b, 0, none⟩) (fun w hO => ?_) (fun b hb => h b hb)
  obtain ⟨L', hO'⟩ := hO.nth hL
  obtain ⟨g, hg⟩ := (Own.split (L1 := sown oa l.length oc 1 (l.map CB.hdr) :: l.map CB.chunk) hO').sownSome hne
  exact ⟨g, hg, hO⟩
theorem sg_bs_cap (k : Nat) {oa : Option Addr} {oc : Nat} {l : List CB} (hL : L[k]? = some (BsRep oa oc l)) (h : l.length ≤ oc → SG W n F L G) : SG W n F L G := by
  refine sg_open (X := Unit) (L' := fun _ => L) (φ := fun _ => l.length ≤ oc) (fun w hO => ?_) (fun _ hb => h hb)
  obtain ⟨L', hO'⟩ := hO.nth hL
  obtain ⟨h1, _⟩ := sown_cap (Own.split (L1 := sown oa l.length oc 1 (l.map CB.hdr) :: l.map CB.chunk) hO')
  exact ⟨(), h1, hO⟩
end Go.Proofs.Ytdehkdmnddflhaa
