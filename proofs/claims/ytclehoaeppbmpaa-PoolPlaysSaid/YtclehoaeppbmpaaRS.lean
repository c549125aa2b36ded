/- A slice that is only read: wherever it lies; numbers of bytes. -/
import Derived.Test.YtclehoaeppbmpaaTY
import Derived.Test.YtclehoaeppbmpaaRW
namespace Go.Proofs.Ytclehoaeppbmpaa
set_option linter.unusedVariables false
set_option linter.unusedSimpArgs false
set_option linter.unusedSectionVars false
set_option linter.unnecessarySimpa false
open Go
abbrev bv (b : UInt8) : Value := .int .u8 (b.toNat : Int)
abbrev dp (d : Nat) : Value := .pointer (some ⟨d, 0, none⟩)
abbrev i64 (i : Int) : Value := .int .i64 i
def hcell (h : PH) (b k : Nat) : Option Value := match h b with
  | some (.cells cs _ _) => cs[k]?
  | _ => none
theorem hcell_sub {h : PH} {w : World} {b k : Nat} {u : Value} (hs : PH.sub h w) (hc : hcell h b k = some u) : w.cell? ⟨b, k, none⟩ = some u := by
  unfold hcell at hc
  split at hc
  · rename_i cs T fz e
    simp [World.cell?, hs _ _ e, hc]
  · simp at hc
/-- xs stand where a points to (nothing is said if there are none). -/
def rsl (a : Option Addr) (xs : List Value) : HP := fun h => xs = [] ∨ ∃ b o, a = some ⟨b, o, none⟩ ∧ ∀ j u, xs[j]? = some u → hcell h b (o + j) = some u
theorem rd_rsl {W : World} {L : List HP} (i : Nat) {a : Option Addr} {xs vs : List Value} (hL : L[i]? = some (rsl a xs)) (hv : ∀ (j : Nat) (u : Value), vs[j]? = some u → xs[j]? = some u) : Rd W L a vs := by
  intro w hO
  obtain ⟨L', hO'⟩ := hO.nth hL
  obtain ⟨h, K, hp, hs, _⟩ := hO'.uncons
  rcases hp with rfl | ⟨b, o, ha, hc⟩
  · left
    cases vs with
    | nil => rfl
    | cons v vs => have := hv 0 v rfl; simp at this
  · exact .inr ⟨b, o, ha, fun j u hj => hcell_sub hs (hc j u (hv j u hj))⟩
theorem rd_rsl_self {W : World} {L : List HP} (i : Nat) {a : Option Addr} {xs : List Value} (hL : L[i]? = some (rsl a xs)) : Rd W L a xs := rd_rsl i hL fun _ _ h => h
theorem own_rsl_sown {W w : World} {a : Option Addr} {n c sz : Nat} {xs : List Value} {L : List HP} (hO : Own W w (sown a n c sz xs :: L)) : Own W w (rsl a xs :: L) := by
  refine hO.imp ?_
  rintro h ⟨hl, ⟨_, hn, _⟩ | ⟨g, cur, T, fz, ha, _, _, _, ht, _, rfl⟩⟩
  · left; exact List.eq_nil_of_length_eq_zero (by rw [hl, hn]; simp)
  · right
    refine ⟨g, 0, ha, fun j u hj => ?_⟩
    simp only [hcell, PH.one_self]
    rw [← ht, List.getElem?_take] at hj
    split at hj
    · simpa using hj
    · simp at hj
theorem own_rsl_blk {W w : World} {b o : Nat} {cs xs : List Value} {L : List HP} (hO : Own W w (blk b cs :: L)) (hv : ∀ j u, xs[j]? = some u → cs[o + j]? = some u) : Own W w (rsl (some ⟨b, o, none⟩) xs :: L) := by
  refine hO.imp ?_
  rintro h ⟨T, fz, _, rfl⟩
  right
  refine ⟨b, o, rfl, fun j u hj => ?_⟩
  simp only [hcell, PH.one_self]
  simpa using hv j u hj
/-- The address of xs[k:]. -/
def sadd (a : Option Addr) (c k : Nat) : Option Addr := if c = k then a else a.map (·.add k)
theorem rsl_sub {a : Option Addr} {c k : Nat} {xs : List Value} (hc : xs.length ≤ c) (h : PH) (hp : rsl a xs h) : rsl (sadd a c k) (xs.drop k) h := by
  rcases hp with rfl | ⟨b, o, ha, hx⟩
  · left; simp
  · by_cases hk : xs.length ≤ k
    · left; exact List.drop_of_length_le hk
    · right
      refine ⟨b, o + k, ?_, fun j u hj => ?_⟩
      · subst ha
        simp only [sadd]
        rw [if_neg (by omega)]
        simp [addr_add]
      · rw [List.getElem?_drop] at hj
        rw [Nat.add_assoc]
        exact hx _ u hj
theorem own_rsl_sub {W w : World} {a : Option Addr} {c : Nat} {xs : List Value} {L : List HP} (k : Nat) (hc : xs.length ≤ c) (hO : Own W w (rsl a xs :: L)) : Own W w (rsl (sadd a c k) (xs.drop k) :: L) :=
  hO.imp (rsl_sub hc)
section
variable {P : Program} {n : Nat} {F : Fr} {ty : TypeId}
theorem ps_slice_l1 {x lo : Operand} {t e len cap l : Nat} {a0 : Option Addr} {k : IntKind} {i : Int} [hs : SliceT P t e 1] (hx : ev F x = some (.slice a0 len cap)) (hlo : ev F lo = some (.int k i)) 
    (hi1 : i = (l : Int)) (hlh : l ≤ len) :
    PS P n F (.slice t x (some lo) none none) ty (.slice (sadd a0 cap l) (len - l) (cap - l)) := by
  have := ps_slice_l (P := P) (n := n) (ty := ty) (t := t) hx hlo hi1 hlh
  rw [Nat.mul_one] at this
  exact this
theorem ps_slice_lh1 {x lo hi : Operand} {t e len cap l h' : Nat} {a0 : Option Addr} {k k' : IntKind} {i j : Int} [hs : SliceT P t e 1] (hx : ev F x = some (.slice a0 len cap)) (hlo : ev F lo = some (.int k i)) (hhi : ev F hi = some (.int k' j)) 
    (hi1 : i = (l : Int)) (hj1 : j = (h' : Int)) (hlh : l ≤ h') (hc : h' ≤ cap) :
    PS P n F (.slice t x (some lo) (some hi) none) ty (.slice (sadd a0 cap l) (h' - l) (cap - l)) := by
  have := ps_slice_lh (P := P) (n := n) (ty := ty) (t := t) hx hlo hhi hi1 hj1 hlh hc
  rw [Nat.mul_one] at this
  exact this
end
/-- xs[:k] reads as the first k. -/
theorem Rd.take {W : World} {L : List HP} {a : Option Addr} {xs : List Value} (k : Nat) (h : Rd W L a xs) : Rd W L a (xs.take k) := by
  intro w hO
  rcases h w hO with rfl | ⟨b, o, ha, hc⟩
  · left; simp
  · exact .inr ⟨b, o, ha, fun j u hj => hc j u (by rw [List.getElem?_take] at hj; split at hj; exact hj; simp at hj)⟩
theorem Rd.sub {W : World} {L : List HP} {a : Option Addr} {c : Nat} {xs : List Value} (k : Nat) (hl : xs.length ≤ c) (h : Rd W L a xs) : Rd W L (sadd a c k) (xs.drop k) := by
  intro w hO
  rcases h w hO with rfl | ⟨b, o, ha, hc⟩
  · left; simp
  · by_cases hk : xs.length ≤ k
    · left; exact List.drop_of_length_le hk
    · right
      refine ⟨b, o + k, ?_, fun j u hj => ?_⟩
      · subst ha
        simp only [sadd]
        rw [if_neg (by omega)]
        simp [addr_add]
      · rw [List.getElem?_drop] at hj
        rw [Nat.add_assoc]
        exact hc _ u hj
theorem Rd.get {W : World} {L : List HP} {b o : Nat} {xs : List Value} (h : Rd W L (some ⟨b, o, none⟩) xs) (i : Nat) {v : Value} (hv : xs[i]? = some v) : Rd W L (some ⟨b, o + i * 1, none⟩) [v] := by
  rw [Nat.mul_one]
  refine h.at i fun j u hj => ?_
  match j, hj with
  | 0, hj => simp only [List.getElem?_cons_zero, Option.some.injEq] at hj; rw [← hj]; exact hv

theorem Tri.open {P : Program} {W : World} {f : FuncId} {args : List Value} {L : List HP} {X Y : Type} {v : X → Value} {φ : X → Prop} {L' : X → List HP} {ψ : Y → Prop} {Ly : Y → List HP}
    (hL : ∀ w, Own W w L → ∃ y, ψ y ∧ Own W w (Ly y)) (h : ∀ y, ψ y → Tri P W f args (Ly y) v φ L') : Tri P W f args L v φ L' := fun w hO =>
  let ⟨y, hy, hO'⟩ := hL w hO
  h y hy w hO'
theorem Tri.imp {P : Program} {W : World} {f : FuncId} {args : List Value} {L : List HP} {X Y : Type} {v : X → Value} {φ : X → Prop} {L' : X → List HP} {v2 : Y → Value} {ψ : Y → Prop} {L2 : Y → List HP}
    (h : Tri P W f args L v φ L') (hp : ∀ x, φ x → ∃ y, v x = v2 y ∧ ψ y ∧ ∀ w, Own W w (L' x) → Own W w (L2 y)) : Tri P W f args L v2 ψ L2 := fun w hO =>
  (h w hO).mono fun e w' ⟨x, he, hx, hO'⟩ => let ⟨y, hv, hy, hL⟩ := hp x hx; ⟨y, by rw [he, hv], hy, hL w' hO'⟩
/- numbers and their bytes, the greatest first -/
def be : Nat → Nat → List UInt8
  | 0, _ => []
  | n + 1, x => be n (x / 256) ++ [UInt8.ofNat x]
def unbe (l : List UInt8) : Nat := l.foldl (fun a b => a * 256 + b.toNat) 0
@[simp] theorem be_length : ∀ n x, (be n x).length = n
  | 0, _ => rfl
  | n + 1, x => by simp [be, be_length n]
theorem u8_mod (x : Nat) : UInt8.ofNat (x % 256) = UInt8.ofNat x := by
  apply UInt8.toNat_inj.1; simp
theorem be_mod : ∀ n x, be n (x % 256 ^ n) = be n x
  | 0, _ => rfl
  | n + 1, x => by
    simp only [be]
    have e1 : x % 256 ^ (n + 1) / 256 = x / 256 % 256 ^ n := by rw [Nat.pow_succ, Nat.mul_comm, Nat.mod_mul_right_div_self]
    have e2 : UInt8.ofNat (x % 256 ^ (n + 1)) = UInt8.ofNat x := by
      rw [← u8_mod (x % 256 ^ (n + 1)), ← u8_mod x, Nat.pow_succ, Nat.mod_mul_left_mod]
    rw [e1, be_mod n, e2]
theorem be_add (n : Nat) : ∀ m x, be n (x / 256 ^ m) ++ be m x = be (n + m) x
  | 0, x => by simp [be]
  | m + 1, x => by
    have e : x / 256 ^ (m + 1) = x / 256 / 256 ^ m := by rw [Nat.pow_succ, Nat.mul_comm, Nat.div_div_eq_div_mul]
    rw [show n + (m + 1) = (n + m) + 1 by omega]
    simp only [be]
    rw [e, ← List.append_assoc, be_add n m (x / 256)]
theorem unbe_push (l : List UInt8) (b : UInt8) : unbe (l ++ [b]) = unbe l * 256 + b.toNat := by simp [unbe]
theorem unbe_lt_aux : ∀ (l : List UInt8) (a m : Nat), a < m → l.foldl (fun a b => a * 256 + b.toNat) a < m * 256 ^ l.length
  | [], a, m, h => by simpa using h
  | b :: l, a, m, h => by
    have hb := b.toNat_lt
    have := unbe_lt_aux l (a * 256 + b.toNat) (m * 256) (by omega)
    rw [List.length_cons, Nat.pow_succ, Nat.mul_comm (256 ^ _), ← Nat.mul_assoc]
    exact this
theorem unbe_lt (l : List UInt8) : unbe l < 256 ^ l.length := by
  have := unbe_lt_aux l 0 1 (by omega)
  rwa [Nat.one_mul] at this
theorem unbe_be : ∀ n x, unbe (be n x) = x % 256 ^ n
  | 0, x => by simp [be, unbe, Nat.mod_one]
  | n + 1, x => by
    simp only [be]
    rw [unbe_push, unbe_be n, Nat.pow_succ, Nat.mul_comm (256 ^ n), Nat.mod_mul, UInt8.toNat_ofNat']
    omega
theorem unbe_take_succ {l : List UInt8} {j : Nat} (h : j < l.length) : unbe (l.take (j + 1)) = unbe (l.take j) * 256 + l[j].toNat := by
  rw [List.take_add_one, List.getElem?_eq_getElem h, Option.toList_some, unbe_push]
theorem bv_ofNat (x : Nat) : bv (UInt8.ofNat x) = .int .u8 ((x % 256 : Nat) : Int) := by simp [bv]
theorem bv_one {l : List UInt8} : ∀ u ∈ l.map bv, u.oneCell' = true := by
  intro u hu; obtain ⟨b, _, rfl⟩ := List.mem_map.1 hu; rfl
theorem bv_get {l : List UInt8} {j : Nat} (h : j < l.length) : (l.map bv)[j]? = some (bv l[j]) := by simp [h]
/- wraps -/
theorem wrap_u (k : IntKind) (hk : k.signed = false) (x : Nat) : k.wrap (x : Int) = ((x % 2 ^ k.bits : Nat) : Int) := by
  simp [IntKind.wrap, hk]
theorem shr_nat (x m : Nat) : (x : Int).fdiv (2 ^ m) = ((x / 2 ^ m : Nat) : Int) := by
  have e : ((2 : Int) ^ m) = ((2 ^ m : Nat) : Int) := by simp
  rw [e, Int.fdiv_eq_ediv_of_nonneg _ (Int.natCast_nonneg _), Int.natCast_ediv]
end Go.Proofs.Ytclehoaeppbmpaa
