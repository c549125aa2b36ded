/- Package pool: the pool, and how a place goes out of it. -/
import Derived.Test.YtclehoaeppbmpaaPO4
namespace Go.Proofs.Ytclehoaeppbmpaa
set_option linter.unusedVariables false
set_option linter.unusedSimpArgs false
set_option linter.unusedSectionVars false
set_option linter.unnecessarySimpa false
open Go Go.Proofs
theorem getE_at {a : Int} {A B : List ME} {e : ME} (h : e.1 = a) (hA : ∀ x ∈ A, x.1 ≠ a) : getE (A ++ e :: B) a = some e.2.1 := by
  have : ∀ (A : List ME) (n : Nat), (∀ x ∈ A, x.1 ≠ a) → findE (A ++ e :: B) a n = some (n + A.length, e.2.1) := by
    intro A
    induction A with
    | nil => intro n _; simp [findE, h]
    | cons y A ih =>
      intro n hA
      have hy : ¬ a = y.1 := fun g => hA y (by simp) g.symm
      rw [List.cons_append, findE, if_neg hy, ih (n + 1) (fun x hx => hA x (by simp [hx])), List.length_cons]
      congr 2; omega
  rw [getE, this A 0 hA]; rfl
theorem delE_at {a : Int} {A B : List ME} {e : ME} (h : e.1 = a) (hA : ∀ x ∈ A, x.1 ≠ a) : delE (A ++ e :: B) a = A ++ B := by
  have : ∀ (A : List ME) (n : Nat), (∀ x ∈ A, x.1 ≠ a) → findE (A ++ e :: B) a n = some (n + A.length, e.2.1) := by
    intro A
    induction A with
    | nil => intro n _; simp [findE, h]
    | cons y A ih =>
      intro n hA
      have hy : ¬ a = y.1 := fun g => hA y (by simp) g.symm
      rw [List.cons_append, findE, if_neg hy, ih (n + 1) (fun x hx => hA x (by simp [hx])), List.length_cons]
      congr 2; omega
  rw [delE, this A 0 hA]
  simp only [Nat.zero_add]
  exact erase_app e B A
theorem getE_no {a : Int} {A : List ME} (hA : ∀ x ∈ A, x.1 ≠ a) : getE A a = none := by
  rcases findE_split a A 0 with ⟨A', e, B, h1, h2, h3, h4⟩ | ⟨h1, h2⟩
  · exact absurd h2 (hA e (by rw [h1]; simp))
  · rw [getE, h2]; rfl
structure Pl where
  id : Int
  bs : List UInt8
  dirty : Bool
  used : Bool
  pins : Int
structure PlS where
  most : Int
  rows : List Pl
  hand : Nat
structure PE where
  pl : Pl
  ptr : Nat
  a : Option Addr
  c : Nat
  born : Nat
def PE.me (e : PE) : ME := (e.pl.id, dp e.ptr, e.born)
def PE.cells (e : PE) : List Value := [u64 e.pl.id, .slice e.a e.pl.bs.length e.c, .bool e.pl.dirty, .bool e.pl.used, i64 e.pl.pins]
def PE.own (e : PE) : HP := sepL [blk0 e.ptr e.cells, sown e.a e.pl.bs.length e.c 1 (e.pl.bs.map bv)]
def PE.dp (e : PE) : Value := .pointer (some ⟨e.ptr, 0, none⟩)
structure PInv (T : List PE) (clk : Nat) : Prop where
  old : ∀ e ∈ T, e.born < clk
  no : (T.map (·.pl.id)).Nodup
structure PX where
  T : List PE
  ra : Option Addr
  rc : Nat
  m : Nat
  clk : Nat
def pcells (bp : Nat) (S : PlS) (k : Nat) (ra : Option Addr) (rc m : Nat) : List Value := [.iface 24 (dp bp), i64 S.most, .slice ra k rc, .map (some m), i64 S.hand]
def pparts (p bp : Nat) (S : PlS) (x : PX) : List HP := [blk p (pcells bp S x.T.length x.ra x.rc x.m), sown x.ra x.T.length x.rc 1 (x.T.map PE.dp), mapc .u64 x.m (x.T.map PE.me) x.clk, sepL (x.T.map PE.own)]
def PoolRep (p bp : Nat) (S : PlS) : HP := fun h => ∃ x : PX, (x.T.map (·.pl) = S.rows ∧ PInv x.T x.clk) ∧ sepL (pparts p bp S x) h
section
variable {W : World} {n : Nat} {F : Fr} {L : List HP} {G : Act → World → Prop}
theorem PoolRep.open {p bp : Nat} {S : PlS} (h : ∀ (T : List PE) ra rc m clk, T.map (·.pl) = S.rows → PInv T clk → SG W n F (blk p (pcells bp S T.length ra rc m) :: sown ra T.length rc 1 (T.map PE.dp) :: mapc .u64 m (T.map PE.me) clk :: sepL (T.map PE.own) :: L) G) : SG W n F (PoolRep p bp S :: L) G := by
  refine sg_ex (p := fun (x : PX) h => (x.T.map (·.pl) = S.rows ∧ PInv x.T x.clk) ∧ sepL (pparts p bp S x) h) ?_
  rintro ⟨T, ra, rc, m, clk⟩
  refine sg_and fun hx => sg_split (h T ra rc m clk hx.1 hx.2)
theorem PoolRep.shut {w : World} {p bp : Nat} {S : PlS} {T : List PE} {ra : Option Addr} {rc m clk : Nat} (hS : T.map (·.pl) = S.rows) (hI : PInv T clk) (hO : Own W w (blk p (pcells bp S T.length ra rc m) :: sown ra T.length rc 1 (T.map PE.dp) :: mapc .u64 m (T.map PE.me) clk :: sepL (T.map PE.own) :: L)) : Own W w (PoolRep p bp S :: L) :=
  (Own.join (L1 := pparts p bp S ⟨T, ra, rc, m, clk⟩) hO).imp fun k hk => ⟨⟨T, ra, rc, m, clk⟩, ⟨hS, hI⟩, hk⟩
theorem Own.plOut {w : World} {A B : List PE} {e : PE} {p q r : HP} (hO : Own W w (p :: q :: r :: sepL ((A ++ e :: B).map PE.own) :: L)) : Own W w (p :: q :: r :: blk0 e.ptr e.cells :: sown e.a e.pl.bs.length e.c 1 (e.pl.bs.map bv) :: sepL ((A ++ B).map PE.own) :: L) := by
  have h1 := hO.front3
  rw [List.map_append, List.map_cons] at h1
  have h2 := h1.sepOut
  rw [← List.map_append] at h2
  have h3 := h2.split
  exact h3.front5.front5.front5
theorem Own.plIn {w : World} {A B : List PE} {e : PE} {p q r : HP} (hO : Own W w (p :: q :: r :: blk0 e.ptr e.cells :: sown e.a e.pl.bs.length e.c 1 (e.pl.bs.map bv) :: sepL ((A ++ B).map PE.own) :: L)) : Own W w (p :: q :: r :: sepL ((A ++ e :: B).map PE.own) :: L) := by
  have h1 : Own W w ([blk0 e.ptr e.cells, sown e.a e.pl.bs.length e.c 1 (e.pl.bs.map bv)] ++ sepL ((A ++ B).map PE.own) :: p :: q :: r :: L) := hO.front5.front5.front5
  have h2 : Own W w (e.own :: sepL ((A ++ B).map PE.own) :: p :: q :: r :: L) := Own.join h1
  rw [List.map_append] at h2
  have h3 := h2.sepIn
  have hm : (A ++ e :: B).map PE.own = A.map PE.own ++ e.own :: B.map PE.own := by rw [List.map_append, List.map_cons]
  rw [hm]
  exact h3.back3
end
/-- The pool, and row i lies at x. -/
def PoolAt (p bp : Nat) (S : PlS) (i x : Nat) : HP := fun h => ∃ X : PX, (X.T.map (·.pl) = S.rows ∧ PInv X.T X.clk ∧ ∃ A e B, X.T = A ++ e :: B ∧ A.length = i ∧ e.ptr = x) ∧ sepL (pparts p bp S X) h
section
variable {W : World} {n : Nat} {F : Fr} {L : List HP} {G : Act → World → Prop}
theorem PoolAt.rep {w : World} {p bp : Nat} {S : PlS} {i x : Nat} (hO : Own W w (PoolAt p bp S i x :: L)) : Own W w (PoolRep p bp S :: L) :=
  hO.imp fun h ⟨X, ⟨h1, h2, _⟩, h3⟩ => ⟨X, ⟨h1, h2⟩, h3⟩
theorem PoolAt.open {p bp : Nat} {S : PlS} {i x : Nat} (h : ∀ (A B : List PE) (e : PE) ra rc m clk, (A ++ e :: B).map (·.pl) = S.rows → PInv (A ++ e :: B) clk → A.length = i → e.ptr = x →
    SG W n F (blk p (pcells bp S (A ++ e :: B).length ra rc m) :: sown ra (A ++ e :: B).length rc 1 ((A ++ e :: B).map PE.dp) :: mapc .u64 m ((A ++ e :: B).map PE.me) clk :: blk0 e.ptr e.cells :: sown e.a e.pl.bs.length e.c 1 (e.pl.bs.map bv) :: sepL ((A ++ B).map PE.own) :: L) G) :
    SG W n F (PoolAt p bp S i x :: L) G := by
  refine sg_ex (p := fun (X : PX) h => (X.T.map (·.pl) = S.rows ∧ PInv X.T X.clk ∧ ∃ A e B, X.T = A ++ e :: B ∧ A.length = i ∧ e.ptr = x) ∧ sepL (pparts p bp S X) h) ?_
  rintro ⟨T, ra, rc, m, clk⟩
  refine sg_and fun ⟨h1, h2, A, e, B, h3, h4, h5⟩ => ?_
  dsimp only at h1 h2 h3
  subst h3
  refine sg_split ?_
  exact sg_own (fun w hO => Own.plOut (show Own W w (_ :: _ :: _ :: _ :: _) from hO)) (h A B e ra rc m clk h1 h2 h4 h5)
theorem PoolAt.shut {w : World} {p bp : Nat} {S : PlS} {A B : List PE} {e : PE} {i x : Nat} {ra : Option Addr} {rc m clk : Nat} (hS : (A ++ e :: B).map (·.pl) = S.rows) (hI : PInv (A ++ e :: B) clk) (hi : A.length = i) (hx : e.ptr = x)
    (hO : Own W w (blk p (pcells bp S (A ++ e :: B).length ra rc m) :: sown ra (A ++ e :: B).length rc 1 ((A ++ e :: B).map PE.dp) :: mapc .u64 m ((A ++ e :: B).map PE.me) clk :: blk0 e.ptr e.cells :: sown e.a e.pl.bs.length e.c 1 (e.pl.bs.map bv) :: sepL ((A ++ B).map PE.own) :: L)) : Own W w (PoolAt p bp S i x :: L) :=
  (Own.join (L1 := pparts p bp S ⟨A ++ e :: B, ra, rc, m, clk⟩) hO.plIn).imp fun k hk => ⟨⟨A ++ e :: B, ra, rc, m, clk⟩, ⟨hS, hI, A, e, B, rfl, hi, hx⟩, hk⟩
end
def takeS (S : PlS) (i : Nat) : PlS := { S with rows := S.rows.eraseIdx i, hand := if S.rows.length - 1 ≤ (if i < S.hand then S.hand - 1 else S.hand) then 0 else (if i < S.hand then S.hand - 1 else S.hand) }
theorem PInv.ne {A B : List PE} {e : PE} {clk : Nat} (h : PInv (A ++ e :: B) clk) : ∀ x ∈ A.map PE.me, x.1 ≠ e.pl.id := by
  intro x hx
  obtain ⟨y, hy, rfl⟩ := List.mem_map.1 hx
  have := h.no
  rw [List.map_append, List.map_cons, List.nodup_append] at this
  exact this.2.2 y.pl.id (List.mem_map_of_mem hy) e.pl.id (by simp)
theorem PInv.cut {A B : List PE} {e : PE} {clk : Nat} (h : PInv (A ++ e :: B) clk) : PInv (A ++ B) clk := by
  have hsub : (A ++ B).Sublist (A ++ e :: B) := List.Sublist.append_left (List.sublist_cons_self e B) A
  exact ⟨fun x hx => h.old x (hsub.subset hx), h.no.sublist (hsub.map _)⟩
end Go.Proofs.Ytclehoaeppbmpaa
