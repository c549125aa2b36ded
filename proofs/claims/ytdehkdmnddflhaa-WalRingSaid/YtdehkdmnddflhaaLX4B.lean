/- WalRing: the live records, and what the log's state says of them. -/
import Derived.Test.YtdehkdmnddflhaaLX3
import Derived.Test.YtdehkdmnddflhaaLX4A
import Derived.Test.YtdehkdmnddflhaaRWB
namespace Go.Proofs.Ytdehkdmnddflhaa
set_option linter.unusedVariables false
set_option linter.unusedSimpArgs false
set_option linter.unusedSectionVars false
set_option linter.unnecessarySimpa false
open Go Go.Proofs
set_option maxRecDepth 20000
set_option maxHeartbeats 4000000
attribute [local irreducible] SG WC WO W1 WD WK PS Rd Tri Exit.then Exit.inBlock bodyPost calmQ Mid sadd
variable {W : World} {n : Nat} {F : Fr} {L : List HP} {G : Act → World → Prop}
/-- A live record: where it begins, its bytes, where they lie. -/
structure LR where
  pos : Nat
  data : List UInt8
  a : Nat
def LR.cells (r : LR) : List Value := [u64v r.pos, .slice (some ⟨r.a, 0, none⟩) r.data.length r.data.length]
def LR.chunk (r : LR) : HP := blk r.a (r.data.map bv)
def LiveRep (oa : Option Addr) (oc : Nat) (l : List LR) : HP := sepL (swin oa l.length oc 2 (l.flatMap LR.cells) :: l.map LR.chunk)
theorem live_nil {w : World} (hO : Own W w L) : Own W w (LiveRep none 0 [] :: L) := Own.join (L1 := [swin none 0 0 2 []]) (own_nilwin hO)
theorem live_tail {w : World} {oa : Option Addr} {oc : Nat} {r : LR} {l : List LR} (hO : Own W w (LiveRep oa oc (r :: l) :: L)) : Own W w (LiveRep (if oc = 1 then oa else oa.map (·.add (1 * 2))) (oc - 1) l :: L) := by
  have h := Own.split (L1 := swin oa (r :: l).length oc 2 ((r :: l).flatMap LR.cells) :: (r :: l).map LR.chunk) hO
  have h2 := Own.winTail (L := (r :: l).map LR.chunk ++ L) h (Nat.zero_lt_succ _)
  have h3 := (Own.front1 (L := l.map LR.chunk ++ L) (x0 := swin _ _ _ _ _) (p := r.chunk) h2).tail
  exact Own.join (L1 := swin _ l.length (oc - 1) 2 (l.flatMap LR.cells) :: l.map LR.chunk) h3
theorem live_open {w : World} {oa : Option Addr} {oc : Nat} {l : List LR} {p q : HP} (hO : Own W w (LiveRep oa oc l :: p :: q :: L)) : Own W w (swin oa l.length oc 2 (l.flatMap LR.cells) :: p :: q :: (l.map LR.chunk ++ L)) := by
  have h := Own.split (L1 := swin oa l.length oc 2 (l.flatMap LR.cells) :: l.map LR.chunk) hO
  have h2 := Own.front (L1 := swin oa l.length oc 2 (l.flatMap LR.cells) :: l.map LR.chunk) (L2 := q :: L) h
  have h3 := Own.front (L1 := p :: swin oa l.length oc 2 (l.flatMap LR.cells) :: l.map LR.chunk) (L2 := L) h2
  exact h3.front1.front2
theorem live_snoc {w : World} {oa : Option Addr} {oc : Nat} {l : List LR} {r : LR} (hO : Own W w (swin oa (l.length + 1) oc 2 (l.flatMap LR.cells ++ r.cells) :: r.chunk :: (l.map LR.chunk ++ L))) : Own W w (LiveRep oa oc (l ++ [r]) :: L) := by
  refine Own.join (L1 := swin oa (l ++ [r]).length oc 2 ((l ++ [r]).flatMap LR.cells) :: (l ++ [r]).map LR.chunk) ?_
  have h2 := Own.back (L1 := swin oa (l.length + 1) oc 2 (l.flatMap LR.cells ++ r.cells) :: l.map LR.chunk) (p := r.chunk) (L2 := L) hO.front1
  simpa using h2
theorem rd_live (k : Nat) {oa : Option Addr} {oc : Nat} {l : List LR} (hL : L[k]? = some (LiveRep oa oc l)) : Rd W L oa (l.flatMap LR.cells) := by
  unfold Rd
  intro w hO
  obtain ⟨L', hO'⟩ := hO.nth hL
  have h := rd_swin (W := W) (L := (swin oa l.length oc 2 (l.flatMap LR.cells) :: l.map LR.chunk) ++ L') (vs := l.flatMap LR.cells) 0 rfl (fun _ _ h => h)
  unfold Rd at h
  exact h w hO'.split
theorem rd_ldata (k : Nat) {oa : Option Addr} {oc i : Nat} {l : List LR} {r : LR} (hL : L[k]? = some (LiveRep oa oc l)) (hi : l[i]? = some r) : Rd W L (some ⟨r.a, 0, none⟩) (r.data.map bv) := by
  unfold Rd
  intro w hO
  obtain ⟨L', hO'⟩ := hO.nth hL
  have hlt := (List.getElem?_eq_some_iff.1 hi).1
  have h := rd_blk (W := W) (L := (swin oa l.length oc 2 (l.flatMap LR.cells) :: l.map LR.chunk) ++ L') (b := r.a) (o := 0) (cs := r.data.map bv) (vs := r.data.map bv) (i + 1) (by
    rw [List.cons_append, List.getElem?_cons_succ, List.getElem?_append_left (by simpa using hlt), List.getElem?_map, hi]; rfl) (fun j u h => by rw [Nat.zero_add]; exact h)
  unfold Rd at h
  exact h w hO'.split
theorem lcells_get {l : List LR} {i j : Nat} {r : LR} (hi : l[i]? = some r) (hj : j < 2) : (l.flatMap LR.cells)[i * 2 + j]? = r.cells[j]? := flat_get 2 LR.cells l i j r (fun _ _ => rfl) hi hj
theorem rd_lcell (k : Nat) {b o oc i j : Nat} {l : List LR} {r : LR} {v : Value} (hL : L[k]? = some (LiveRep (some ⟨b, o, none⟩) oc l)) (hi : l[i]? = some r) (hj : j < 2) (hv : r.cells[j]? = some v) : Rd W L (some ⟨b, o + i * 2 + j, none⟩) [v] := by
  have h := (rd_live (W := W) k hL).at (i * 2 + j) (ws := [v]) (fun q u hq => by
    match q, hq with
    | 0, hq =>
      simp only [List.getElem?_cons_zero, Option.some.injEq] at hq
      rw [← hq, Nat.add_zero, lcells_get hi hj]; exact hv)
  rw [Nat.add_assoc]
  exact h
theorem sg_live_some (k : Nat) {oa : Option Addr} {oc : Nat} {l : List LR} (hL : L[k]? = some (LiveRep oa oc l)) (hne : 0 < l.length) (h : ∀ b o, oa = some ⟨b, o, none⟩ → SG W n F L G) : SG W n F L G := by
  refine sg_open (X := Nat × Nat) (L' := fun _ => L) (φ := fun b => oa = some ⟨b.1, b.2, none⟩) (fun w hO => ?_) (fun b hb => h b.1 b.2 hb)
  obtain ⟨L', hO'⟩ := hO.nth hL
  have h2 := Own.split (L1 := swin oa l.length oc 2 (l.flatMap LR.cells) :: l.map LR.chunk) hO'
  obtain ⟨_, ⟨hn, _⟩ | ⟨g, o, ha, _⟩⟩ := Own.winCells (L := l.map LR.chunk ++ L') h2
  · omega
  · exact ⟨(g, o), ha, hO⟩
theorem wconv8 (x : Nat) : Value.int .u8 (IntKind.u8.wrap (x : Int)) = bv (UInt8.ofNat x) := by
  rw [wrap_u _ rfl, bv_ofNat]; rfl
theorem fill8 (bs : List UInt8) (i k : Nat) : (bs.map bv).set k (Value.int .u8 (IntKind.u8.wrap ((i : Int) + (k : Int)))) = (bs.set k (UInt8.ofNat (i + k))).map bv := by
  rw [List.map_set, ← Int.natCast_add, wconv8]
/- The plain law. -/
def atsOk : Nat → List LR → Prop
  | _, [] => True
  | h, r :: l => r.pos = h ∧ atsOk (h + cnt r.data.length) l
def one (l : List LR) : List (Nat × List UInt8) := l.map fun r => (1, r.data)
theorem one_append (a b : List LR) : one (a ++ b) = one a ++ one b := List.map_append
theorem atsOk_snoc {r : LR} : ∀ (l : List LR) (h : Nat), atsOk h l → r.pos = h + total (one l) → atsOk h (l ++ [r])
  | [], h, _, e => ⟨by simpa [one, total] using e, trivial⟩
  | x :: l, h, ⟨e1, e2⟩, e => ⟨e1, atsOk_snoc l _ e2 (by rw [e]; show h + (cnt x.data.length + total (one l)) = _; omega)⟩
theorem atsOk_get : ∀ (l : List LR) (h : Nat), atsOk h l → (recsOf h (one l)).map (fun x => (x.1, x.2.2)) = l.map fun r => (r.pos, r.data)
  | [], _, _ => rfl
  | x :: l, h, ⟨e1, e2⟩ => by
    show (h, x.data) :: (recsOf (h + cnt x.data.length) (one l)).map (fun x => (x.1, x.2.2)) = (x.pos, x.data) :: l.map fun r => (r.pos, r.data)
    rw [atsOk_get l _ e2, e1]
/-- The law's state: the head, the next place, the disk, the live records. -/
structure RInv (sz k h nx : Nat) (D : DS) (l : List LR) : Prop where
  inv : LInv ⟨0, sz, 1, h, nx⟩ D h (one l)
  fine : Fine D 16 (8 * k)
  ats : atsOk h l
  pos : 1 ≤ h
  top : nx ≤ 1 + 8 * k
theorem RInv.mono {sz k k2 h nx : Nat} {D : DS} {l : List LR} (hi : RInv sz k h nx D l) (hk : k ≤ k2) : RInv sz k2 h nx D l :=
  ⟨hi.inv, ⟨hi.fine.fuse, hi.fine.down, hi.fine.len, by have := hi.fine.writes; omega, by have := hi.fine.wait; omega⟩, hi.ats, hi.pos, by have := hi.top; omega⟩
theorem RInv.le {sz k h nx : Nat} {D : DS} {l : List LR} (hi : RInv sz k h nx D l) : h + total (one l) = nx ∧ h ≤ nx ∧ nx ≤ h + sz := by
  have h1 := hi.inv.tot
  have h2 := hi.inv.win
  have h3 : h + total (one l) = nx := h1
  have h4 : nx ≤ h + sz := h2
  exact ⟨h3, by omega, h4⟩
theorem RInv.tail {sz k h nx : Nat} {D : DS} {r : LR} {l : List LR} (hi : RInv sz k h nx D (r :: l)) : RInv sz k (h + cnt r.data.length) nx D l := by
  have h1 := LInv.drop (pre := one [r]) (post := one l) hi.inv (by intro x hx; simp only [one, List.map_cons, List.map_nil, List.mem_singleton] at hx; subst hx; exact Nat.le_refl _)
  have e : h + total (one [r]) = h + cnt r.data.length := rfl
  rw [e] at h1
  exact ⟨⟨h1.all, h1.tot, h1.win, h1.low, h1.last⟩, hi.fine, hi.ats.2, by have := hi.pos; omega, hi.top⟩
theorem RInv.push {sz k h nx : Nat} {D E : DS} {r : LR} {l : List LR} (hi : RInv sz k h nx D l) (hsz : 4 ≤ sz) (hk : k ≤ 100) (hd : r.data.length < 120) (hp : r.pos = nx) (hc : cnt r.data.length ≤ 8)
    (hw : WWr ⟨0, sz, 1, h, nx⟩ (cnt r.data.length) r.data D E 0 (cnt r.data.length)) (hf : Fine E 16 (8 * k + cnt r.data.length)) (hr : nx - h + cnt r.data.length ≤ sz) : RInv sz (k + 1) h (nx + cnt r.data.length) E (l ++ [r]) := by
  obtain ⟨g1, g2, g3⟩ := hi.le
  have ht := hi.top
  have h1 := hi.inv.append (data := r.data) (by omega) (show 0 < sz by omega) (show 1 < 4294967296 by decide) (show nx + 656 < _ by omega) hw (show nx + cnt r.data.length ≤ h + sz by omega)
  refine ⟨?_, ⟨hf.fuse, hf.down, hf.len, by have := hf.writes; omega, by have := hf.wait; omega⟩, atsOk_snoc l h hi.ats (by rw [hp, g1]), hi.pos, by omega⟩
  rw [one_append]
  exact h1
/-- An append, whatever comes of it. -/
theorem append_any (lg d sz k h nx : Nat) (D : DS) (l : List LR) (bs : List UInt8) (mb c : Nat) (R : List HP) (hi : RInv sz k h nx D l) (hsz : 4 ≤ sz) (hs16 : sz ≤ 16) (hk : k ≤ 100) (hd : bs.length < 120) (hcb : cnt bs.length ≤ 8) (hc : bs.length ≤ c) (hr : Rd W R (some ⟨mb, 0, none⟩) (bs.map bv)) :
    Tri Try.prog W 13 [dp lg, .slice (some ⟨mb, 0, none⟩) bs.length c] (blk lg (lcells d ⟨0, sz, 1, h, nx⟩) :: DiskRep d D :: R) (X := Bool × Nat × Nat × DS) (fun x => .tuple #[u64v x.2.1, i64 (if x.1 then 0 else 3)])
      (fun x => (x.1 = true ∧ x.2.1 = nx ∧ RInv sz (k + 1) h x.2.2.1 x.2.2.2 (l ++ [⟨nx, bs, mb⟩])) ∨ (x.1 = false ∧ x.2.1 = 0 ∧ RInv sz k h x.2.2.1 x.2.2.2 l ∧ sz < x.2.2.1 - h + cnt bs.length))
      (fun x => blk lg (lcells d ⟨0, sz, 1, h, x.2.2.1⟩) :: DiskRep d x.2.2.2 :: R) := by
  obtain ⟨g1, g2, g3⟩ := hi.le
  have ht := hi.top
  by_cases hroom : nx - h + cnt bs.length ≤ sz
  · obtain ⟨E, w1, f1, hap⟩ := append_fits (W := W) lg d 0 sz 1 h nx D bs (some ⟨mb, 0, none⟩) c 16 (8 * k) R hsz (by decide) (by omega) hi.fine (by omega) (by decide) g2 (by omega) hc (by omega) hr hroom
    exact hap.imp (fun _ _ => ⟨(true, nx, nx + cnt bs.length, E), rfl, .inl ⟨rfl, rfl, hi.push (r := ⟨nx, bs, mb⟩) hsz hk hd rfl hcb w1 f1 hroom⟩, fun w hO => hO⟩)
  · have hap := append_full (W := W) lg d 0 sz 1 h nx D bs (some ⟨mb, 0, none⟩) c 16 (8 * k) R hsz (by decide) (by omega) hi.fine (by omega) (by decide) g2 (by omega) (by omega) hc (by omega) hr hroom
    exact hap.imp (fun _ _ => ⟨(false, 0, nx, D), rfl, .inr ⟨rfl, rfl, hi, by show sz < nx - h + cnt bs.length; omega⟩, fun w hO => hO⟩)
end Go.Proofs.Ytdehkdmnddflhaa
