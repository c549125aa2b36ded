/- What came in, read by its type; and the row of a law out of its contract. -/
import Derived.Test.YtclehoaeppbmpaaK2
import Derived.OpenShut
import Derived.SizedLaws
import Derived.Carry
import Derived.ChangeOld
import Derived.ChangeArms
import Derived.ChangeMaps5
import Derived.Deep.Slices
import Derived.WalkKit
import Derived.ProofKit
namespace Go.Proofs.Ytclehoaeppbmpaa
set_option linter.unusedVariables false
set_option linter.unusedSimpArgs false
set_option linter.unusedSectionVars false
set_option linter.unnecessarySimpa false
open Go Go.ChangeShapes Go.WideShapes Go.ChangeAt Go.RowKit

/-- Where vs can be read in the world W, for ever. -/
def RdO (W : World) (a : Option Addr) (vs : List Value) : Prop :=
  vs = [] ∨ ∃ b o, a = some ⟨b, o, none⟩ ∧ ∀ j u, vs[j]? = some u → W.cell? ⟨b, o + j, none⟩ = some u
theorem RdO.rd {W : World} {L : List HP} {a : Option Addr} {vs : List Value} (h : RdO W a vs) (i : Nat) (hL : L[i]? = some (old W)) : Rd W L a vs := by
  rcases h with rfl | ⟨b, o, rfl, h⟩
  · exact rd_nil
  · exact rd_old i hL (fun j u hj => by rw [addr_add]; exact h j u hj)
theorem RdO.some {W : World} {a : Option Addr} {vs : List Value} (h : RdO W a vs) (hne : vs ≠ []) : ∃ b o, a = some ⟨b, o, none⟩ ∧ ∀ j u, vs[j]? = some u → W.cell? ⟨b, o + j, none⟩ = some u := h.resolve_left hne

structure RT (P : Program) (t : TypeId) (α : Type) where
  of : List Value → Value
  E : World → α → List Value → Prop
  op : ∀ {H : Type} {enc : TypeId × Value → H} {w : World} {fuel : Nat} {cs : List Value} {x : DataW H × List MemPlace}, DataW.trod enc P w 0 (fun _ => true) true fuel t cs = some x → (∀ n ∈ x.1.weights P t, n ≤ reachBytes) → ∃ a, E w a cs
  ok : ∀ {w : World} {b : Nat} {v : Value}, Value.okWide P w .any b t v → v = of v.cells.toList

abbrev head1 (cs : List Value) : Value := cs.headD .nilFunc
def RT.bool {P : Program} {t : TypeId} (ht : P.underlying t = some .bool) : RT P t Bool where
  of := head1
  E _ a cs := cs = [.bool a]
  op h _ := by obtain ⟨b, h, _⟩ := DataW.trod_bool ht h; exact ⟨b, h⟩
  ok h := by obtain ⟨b, rfl⟩ := okWide_bool ht h; rfl
theorem trod_int_of {H : Type} {enc : TypeId × Value → H} {P : Program} {w : World} {base : Nat} {sp : Nat → Bool} {held : Bool} {t : TypeId} {k : IntKind} {fuel : Nat} {cs : List Value} {x : DataW H × List MemPlace} (ht : P.underlying t = some (.int k)) (h : DataW.trod enc P w base sp held fuel t cs = some x) : ∃ n, cs = [.int k n] ∧ (Lit.int k n).wf = true := by
  cases fuel with
  | zero => simp [DataW.trod] at h
  | succ n =>
    unfold DataW.trod at h
    rw [ht] at h
    split at h <;> simp_all
theorem wf_of {k : IntKind} {a lo hi : Int} (h : (Lit.int k a).wf = true) (hl : k.min = lo) (hh : k.max = hi) : lo ≤ a ∧ a ≤ hi := by
  subst hl; subst hh; simpa [Lit.wf] using h
theorem wf_i64 {a : Int} (h : (Lit.int .i64 a).wf = true) : -9223372036854775808 ≤ a ∧ a ≤ 9223372036854775807 := wf_of h (by decide) (by decide)
theorem wf_u64 {a : Int} (h : (Lit.int .u64 a).wf = true) : 0 ≤ a ∧ a ≤ 18446744073709551615 := wf_of h (by decide) (by decide)
theorem wf_u32 {a : Int} (h : (Lit.int .u32 a).wf = true) : 0 ≤ a ∧ a ≤ 4294967295 := wf_of h (by decide) (by decide)
theorem wf_u8 {a : Int} (h : (Lit.int .u8 a).wf = true) : 0 ≤ a ∧ a ≤ 255 := wf_of h (by decide) (by decide)
def RT.int {P : Program} {t : TypeId} (k : IntKind) (ht : P.underlying t = some (.int k)) : RT P t Int where
  of := head1
  E _ a cs := cs = [.int k a] ∧ (Lit.int k a).wf = true
  op h _ := trod_int_of ht h
  ok h := by obtain ⟨b, rfl⟩ := okWide_int ht h; rfl
def RT.u8 {P : Program} {t : TypeId} (ht : P.underlying t = some (.int .u8)) : RT P t UInt8 where
  of := head1
  E _ a cs := cs = [.int .u8 (a.toNat : Int)]
  op h _ := by
    obtain ⟨n, rfl, hn⟩ := trod_int_of ht h
    have hn := wf_u8 hn
    refine ⟨UInt8.ofNat n.toNat, ?_⟩
    have e : ((UInt8.ofNat n.toNat).toNat : Int) = n := by simp; omega
    rw [e]
  ok h := by obtain ⟨b, rfl⟩ := okWide_int ht h; rfl
theorem trod_string_of {H : Type} {enc : TypeId × Value → H} {P : Program} {w : World} {base : Nat} {sp : Nat → Bool} {held : Bool} {t : TypeId} {fuel : Nat} {cs : List Value} {x : DataW H × List MemPlace} (ht : P.underlying t = some .string) (h : DataW.trod enc P w base sp held fuel t cs = some x) : ∃ s : ByteArray, cs = [.string s] ∧ x.1 = .lit (.string s.data.toList) ∧ s.size ≤ maxLen := by
  cases fuel with
  | zero => simp [DataW.trod] at h
  | succ n =>
    unfold DataW.trod at h
    rw [ht] at h
    split at h <;> simp_all
    obtain ⟨h, rfl⟩ := h
    simp [h]
def RT.str {P : Program} {t : TypeId} (ht : P.underlying t = some .string) : RT P t (List UInt8) where
  of := head1
  E _ a cs := cs = [.string (strOf a)] ∧ a.length ≤ 140737488351232
  op h hw := by
    obtain ⟨s, rfl, hx, hs⟩ := trod_string_of ht h
    rw [hx] at hw
    refine ⟨s.data.toList, by simp [strOf], ?_⟩
    have := hw s.data.toList.length (by simp [DataW.weights])
    simpa [reachBytes] using this
  ok h := by obtain ⟨b, rfl⟩ := okWide_string ht h; rfl

theorem weights_all_mem {H : Type} {P : Program} {e : TypeId} : ∀ {ds : List (DataW H)} {d : DataW H}, d ∈ ds → ∀ n ∈ d.weights P e, n ∈ DataW.weightsAll P e ds
  | d0 :: ds, d, hd, n, hn => by
    simp only [DataW.weightsAll, List.mem_append]
    rcases List.mem_cons.1 hd with rfl | hd
    · exact .inl hn
    · exact .inr (weights_all_mem hd n hn)
theorem flatten_get {k : Nat} {vss : List (List Value)} (hk : ∀ vs ∈ vss, vs.length = k) : ∀ (j : Nat) (u : Value), vss.flatten[j]? = some u → ∃ i r vs, vss[i]? = some vs ∧ vs[r]? = some u ∧ j = i * k + r ∧ r < k := by
  induction vss with
  | nil => intro j u h; simp at h
  | cons v vss ih =>
    intro j u h
    have hv := hk v (by simp)
    rw [List.flatten_cons] at h
    by_cases hj : j < v.length
    · rw [List.getElem?_append_left hj] at h
      exact ⟨0, j, v, rfl, h, by omega, by omega⟩
    · rw [List.getElem?_append_right (by omega)] at h
      obtain ⟨i, r, vs, h1, h2, h3, h4⟩ := ih (fun vs hvs => hk vs (by simp [hvs])) _ _ h
      exact ⟨i + 1, r, vs, h1, h2, by rw [Nat.add_mul]; omega, h4⟩
/-- A slice's elements, as they came in. -/
def SliceE {β : Type} (E : World → β → List Value → Prop) (sz bys : Nat) (w : World) (xs : List β) (cs : List Value) : Prop :=
  ∃ (ad : Option Addr) (cap : Nat) (vss : List (List Value)), cs = [.slice ad xs.length cap] ∧ xs.length ≤ cap ∧ cap ≤ maxLen ∧ xs.length * bys ≤ 140737488351232 ∧
    vss.length = xs.length ∧ (∀ vs ∈ vss, vs.length = sz) ∧ (∀ (i : Nat) (x : β) (vs : List Value), xs[i]? = some x → vss[i]? = some vs → E w x vs) ∧ RdO w ad vss.flatten
theorem exists_list {α : Type} (p : Nat → α → Prop) : ∀ n, (∀ i, i < n → ∃ x, p i x) → ∃ l : List α, l.length = n ∧ ∀ i x, l[i]? = some x → p i x
  | 0, _ => ⟨[], rfl, by simp⟩
  | n + 1, h => by
    obtain ⟨l, hl, hp⟩ := exists_list p n (fun i hi => h i (by omega))
    obtain ⟨x, hx⟩ := h n (by omega)
    refine ⟨l ++ [x], by simp [hl], fun i y hy => ?_⟩
    by_cases hi : i < l.length
    · rw [List.getElem?_append_left hi] at hy; exact hp i y hy
    · rw [List.getElem?_append_right (by omega)] at hy
      obtain ⟨h0, rfl⟩ : i - l.length = 0 ∧ x = y := by
        cases h0 : i - l.length with
        | zero => rw [h0] at hy; simpa using hy
        | succ k => rw [h0] at hy; simp at hy
      rw [show i = n by omega]; exact hx
theorem rows_get {w : World} {ad : Addr} {sz : Nat} {vss : List (List Value)} (h1 : ∀ vs ∈ vss, vs.length = sz) (h2 : ∀ (i : Nat) (vs : List Value), vss[i]? = some vs → w.cells? 0 (ad.add (i * sz)) sz = some vs) : RdO w (some ad) vss.flatten := by
  cases hf : vss.flatten with
  | nil => exact .inl rfl
  | cons v0 r0 =>
    right
    have key : ∀ j u, vss.flatten[j]? = some u → w.cell? (ad.add j) = some u := by
      intro j u hj
      obtain ⟨i, r, vs, hi, hr, hjj, hrk⟩ := flatten_get h1 j u hj
      obtain ⟨_, hlen, hc⟩ := World.cells?_some (h2 i vs hi)
      have := hc r hrk
      rw [hr, Go.Deep.add_add, ← hjj] at this
      exact this
    rw [hf] at key
    have h0 := key 0 v0 rfl
    simp only [Addr.add, if_true] at h0
    have hs := spot_of_cell h0
    refine ⟨ad.block, ad.off, by rw [← hs], fun j u hj => ?_⟩
    have h := key j u hj
    rw [hs, addr_add] at h
    exact h
def RT.slice {P : Program} {t e : TypeId} {β : Type} (sz bys : Nat) (ht : P.underlying t = some (.slice e)) (hc : P.cellsOf e = sz) (hb : P.bytesOf e = bys) (re : RT P e β) : RT P t (List β) where
  of := head1
  E := SliceE re.E sz bys
  op {H enc w fuel cs x} h hw := by
    rcases DataW.trod_slice ht h with ⟨rfl, _⟩ | ⟨a, len, cap, elems, rest, n, _, rfl, rfl, _, hl, hm, hlen, hel, _, _⟩
    · exact ⟨[], none, 0, [], rfl, by simp, by simp, by simp, rfl, by simp, by simp, .inl rfl⟩
    · obtain ⟨l, hll, hlp⟩ := exists_list (fun i (p : β × List Value) => w.cells? 0 (a.add (i * sz)) sz = some p.2 ∧ re.E w p.1 p.2) len (by
        intro i hi
        have h1 := hel i hi
        rw [List.getElem?_eq_getElem (by omega)] at h1
        obtain ⟨vs, h2, h3⟩ := Option.bind_eq_some_iff.1 h1
        obtain ⟨b, hE⟩ := re.op h3 (fun n hn => hw n (by
          simp only [DataW.weights, ht]
          refine List.mem_cons_of_mem _ (List.mem_append.2 (.inl (weights_all_mem (d := elems[i].1) ?_ n hn)))
          exact List.mem_map.2 ⟨_, List.getElem_mem _, rfl⟩))
        exact ⟨(b, vs), by rw [← hc]; exact h2, hE⟩)
      refine ⟨l.map (·.1), some a, cap, l.map (·.2), by simp [hll], by simp [hll, hl], hm, ?_, by simp, ?_, ?_, ?_⟩
      · have := hw ((elems.length + rest.length) * bys) (by simp [DataW.weights, ht, hb])
        simp only [List.length_map, hll, reachBytes] at this ⊢
        refine Nat.le_trans (Nat.mul_le_mul_right _ ?_) this
        omega
      · intro vs hvs
        obtain ⟨p, hp, rfl⟩ := List.mem_map.1 hvs
        obtain ⟨i, hi, rfl⟩ := List.getElem_of_mem hp
        exact (World.cells?_some (hlp i _ (List.getElem?_eq_getElem hi)).1).2.1
      · intro i x vs hx hvs
        rw [List.getElem?_map] at hx hvs
        cases hli : l[i]? with
        | none => rw [hli] at hx; simp at hx
        | some p =>
          rw [hli] at hx hvs
          simp at hx hvs
          rw [← hx, ← hvs]
          exact (hlp i p hli).2
      · refine rows_get (sz := sz) ?_ ?_
        · intro vs hvs
          obtain ⟨p, hp, rfl⟩ := List.mem_map.1 hvs
          obtain ⟨i, hi, rfl⟩ := List.getElem_of_mem hp
          exact (World.cells?_some (hlp i _ (List.getElem?_eq_getElem hi)).1).2.1
        · intro i vs hvs
          rw [List.getElem?_map] at hvs
          cases hli : l[i]? with
          | none => rw [hli] at hvs; simp at hvs
          | some p =>
            rw [hli] at hvs
            simp at hvs
            rw [← hvs]
            exact (hlp i p hli).1
  ok h := by obtain ⟨a, l, c, rfl⟩ := okWide_slice ht h; rfl
theorem flatten_ones {α : Type} (g : α → Value) : ∀ xs : List α, (xs.map (fun x => [g x])).flatten = xs.map g
  | [] => rfl
  | x :: xs => by rw [List.map_cons, List.flatten_cons, flatten_ones g xs]; rfl
/-- Elements of one cell each. -/
theorem SliceE.one {β : Type} {E : World → β → List Value → Prop} {sz bys : Nat} {w : World} {xs : List β} {cs : List Value} (g : β → Value) (hg : ∀ x vs, E w x vs → vs = [g x]) (h : SliceE E sz bys w xs cs) :
    ∃ (ad : Option Addr) (cap : Nat), cs = [.slice ad xs.length cap] ∧ xs.length ≤ cap ∧ cap ≤ maxLen ∧ xs.length * bys ≤ 140737488351232 ∧ RdO w ad (xs.map g) := by
  obtain ⟨ad, cap, vss, h1, h2, h3, h4, h5, _, h6, h7⟩ := h
  refine ⟨ad, cap, h1, h2, h3, h4, ?_⟩
  have : vss = xs.map (fun x => [g x]) := by
    apply List.ext_getElem (by simp [h5])
    intro i hi hj
    simp
    simp at hj
    exact hg _ _ (h6 i _ _ (List.getElem?_eq_getElem hj) (List.getElem?_eq_getElem hi))
  rw [this] at h7
  rwa [flatten_ones] at h7

theorem flatten_at {k r : Nat} (hr : r < k) : ∀ {vss : List (List Value)} (hk : ∀ vs ∈ vss, vs.length = k) (i : Nat), i < vss.length → vss.flatten[i * k + r]? = vss[i]?.bind (·[r]?)
  | [], _, i, hi => by simp at hi
  | v :: vss, hk, 0, _ => by
    have hv := hk v (by simp)
    rw [List.flatten_cons, Nat.zero_mul, Nat.zero_add, List.getElem?_append_left (by omega)]; rfl
  | v :: vss, hk, i + 1, hi => by
    have hv := hk v (by simp)
    rw [List.flatten_cons, Nat.add_mul, List.getElem?_append_right (by omega), hv, show i * k + 1 * k + r - k = i * k + r by omega, flatten_at hr (fun vs h => hk vs (by simp [h])) i (by simpa using hi)]; rfl
theorem SliceE.at {β : Type} {E : World → β → List Value → Prop} {sz bys : Nat} {w : World} {xs : List β} {cs : List Value} (hsz : 0 < sz) (h : SliceE E sz bys w xs cs) :
    ∃ (ad : Option Addr) (cap : Nat), cs = [.slice ad xs.length cap] ∧ xs.length ≤ cap ∧ cap ≤ maxLen ∧ xs.length * bys ≤ 140737488351232 ∧
      (0 < xs.length → ∃ b o, ad = some ⟨b, o, none⟩) ∧
      ∀ (i : Nat) (h : i < xs.length) (b o : Nat), ad = some ⟨b, o, none⟩ → ∃ vs, vs.length = sz ∧ E w xs[i] vs ∧ RdO w (some ⟨b, o + i * sz, none⟩) vs := by
  obtain ⟨ad, cap, vss, h1, h2, h3, h4, h5, h6, h7, h8⟩ := h
  have hlen : vss.flatten.length = xs.length * sz := by
    rw [List.length_flatten, show vss.map List.length = List.replicate vss.length sz by
      rw [List.eq_replicate_iff]; exact ⟨by simp, fun b hb => by obtain ⟨v, hv, rfl⟩ := List.mem_map.1 hb; exact h6 v hv⟩]
    simp [h5]
  refine ⟨ad, cap, h1, h2, h3, h4, ?_, ?_⟩
  · intro hp
    obtain ⟨b, o, e, _⟩ := h8.some (by intro e; rw [e] at hlen; have := Nat.mul_pos hp hsz; simp at hlen; omega)
    exact ⟨b, o, e⟩
  · rintro i hi b o rfl
    have hi' : i < vss.length := by omega
    refine ⟨vss[i], h6 _ (List.getElem_mem _), h7 i _ _ (List.getElem?_eq_getElem hi) (List.getElem?_eq_getElem hi'), .inr ⟨b, o + i * sz, rfl, fun j u hj => ?_⟩⟩
    obtain ⟨b', o', e, hc⟩ := h8.some (by intro e; rw [e] at hlen; have := Nat.mul_pos (show 0 < xs.length by omega) hsz; simp at hlen; omega)
    simp only [Option.some.injEq, Addr.mk.injEq] at e
    obtain ⟨rfl, rfl, _⟩ := e
    have hj' : j < sz := by rw [← h6 vss[i] (List.getElem_mem _)]; exact (List.getElem?_eq_some_iff.1 hj).1
    rw [Nat.add_assoc]
    refine hc _ u ?_
    rw [flatten_at hj' h6 i hi', List.getElem?_eq_getElem hi']
    exact hj
theorem rem_lt (a : Int) {m : Int} (hm : 0 < m) : -m < a.tmod m ∧ a.tmod m < m := by
  have h1 := Int.tmod_lt_of_pos a hm
  have h2 := Int.lt_tmod_of_pos a hm
  omega
theorem rem_nat (a : Int) (m : Nat) (hm : 0 < m) : ∃ k : Nat, (a.tmod m + m).tmod m = (k : Int) ∧ k < m := by
  have h := rem_lt a (m := m) (by omega)
  obtain ⟨j, hj⟩ : ∃ j : Nat, a.tmod m + m = (j : Int) := ⟨(a.tmod m + m).toNat, by omega⟩
  refine ⟨j % m, ?_, Nat.mod_lt _ hm⟩
  rw [hj, Int.tmod_eq_emod_of_nonneg (by omega)]; omega
theorem rem_pos (k m : Nat) : (k : Int).tmod (m : Int) = ((k % m : Nat) : Int) := by
  rw [Int.tmod_eq_emod_of_nonneg (by omega)]; omega
structure RF (P : Program) (off : Nat) (fs : List Field) (tot : Nat) (α : Type) where
  E : World → α → List Value → Prop
  op : ∀ {H : Type} {enc : TypeId × Value → H} {w : World} {fuel : Nat} {cs : List Value}, cs.length = tot →
    (∀ f ∈ fs, ∃ x, DataW.trod enc P w 0 (fun _ => true) true fuel f.type ((cs.drop f.offset).take (P.cellsOf f.type)) = some x ∧ ∀ n ∈ x.1.weights P f.type, n ≤ reachBytes) → ∃ a, E w a (cs.drop off)
def RF.nil {P : Program} {off tot : Nat} (h : tot = off) : RF P off [] tot Unit where
  E _ _ cs := cs = []
  op hl _ := ⟨(), by rw [List.drop_eq_nil_iff]; omega⟩
def RF.cons {P : Program} {off tot : Nat} {f : Field} {fs : List Field} {α β : Type} (sz : Nat) (rt : RT P f.type α) (h : f.offset = off) (hc : P.cellsOf f.type = sz) (rest : RF P (off + sz) fs tot β) : RF P off (f :: fs) tot (α × β) where
  E w a cs := ∃ c1 c2, cs = c1 ++ c2 ∧ rt.E w a.1 c1 ∧ rest.E w a.2 c2
  op {H enc w fuel cs} hl hf := by
    obtain ⟨x, hx, hw⟩ := hf f (by simp)
    obtain ⟨a, ha⟩ := rt.op hx hw
    obtain ⟨b, hb⟩ := rest.op hl (fun g hg => hf g (by simp [hg]))
    refine ⟨(a, b), _, _, ?_, ha, hb⟩
    rw [h, hc, ← List.drop_drop, List.take_append_drop]
def RT.struct {P : Program} {t : TypeId} {fs : Array Field} {tot : Nat} {α : Type} (ht : P.underlying t = some (.struct fs)) (hc : P.cellsOf t = tot) (r : RF P 0 fs.toList tot α) : RT P t α where
  of cs := .agg cs.toArray
  E w a cs := cs.length = tot ∧ r.E w a cs
  op {H enc w fuel cs x} h hw := by
    obtain ⟨xs, n, _, rfl, hl, hlen, hf⟩ := DataW.trod_struct ht h
    have hl' : cs.length = tot := hl.trans hc
    obtain ⟨a, ha⟩ := r.op (H := H) (enc := enc) (w := w) (fuel := n) hl' (by
      intro f hfm
      obtain ⟨i, hi, rfl⟩ := List.getElem_of_mem hfm
      have hi' : i < fs.size := by simpa using hi
      have h1 := hf i fs[i] (by simp [hi'])
      rw [List.getElem?_eq_getElem (by omega)] at h1
      refine ⟨_, by simpa using h1, fun m hm => hw m ?_⟩
      simp only [DataW.weights, ht]
      refine DataW.weights_mem_each (j := i) (t := fs[i].type) (d := xs[i].1) ?_ ?_ m (by simpa using hm)
      · simp [hi']
      · simp [show i < xs.length by omega])
    exact ⟨a, hl', by simpa using ha⟩
  ok h := by
    obtain ⟨cs, rfl, _⟩ := okWide_struct ht h
    simp [Value.cells]

theorem rdo_part {W : World} {b o i : Nat} {v : Value} {vs : List Value} (h : RdO W (some ⟨b, o, none⟩) vs) (hv : vs[i]? = some v) : RdO W (some ⟨b, o + i, none⟩) [v] := by
  obtain ⟨b', o', e, hc⟩ := h.some (by rintro rfl; simp at hv)
  simp only [Option.some.injEq, Addr.mk.injEq] at e
  obtain ⟨rfl, rfl, _⟩ := e
  refine .inr ⟨b, o + i, rfl, fun j u hj => ?_⟩
  match j, hj with
  | 0, hj => simp only [List.getElem?_cons_zero, Option.some.injEq] at hj; rw [← hj, Nat.add_zero]; exact hc _ _ hv
theorem rdo_one {W : World} {b o i : Nat} {v : Value} {vs : List Value} (h : RdO W (some ⟨b, o, none⟩) vs) (hv : vs[i]? = some v) : RdO W (some ⟨b, o + i * 1, none⟩) [v] := by
  rw [Nat.mul_one]; exact rdo_part h hv
/-- Many blocks as one chunk. -/
def blks (ls : List (Nat × List Value)) : HP := sepL (ls.map fun p => blk p.1 p.2)
theorem own_blks_nil {W w : World} {L : List HP} (hO : Own W w L) : Own W w (blks [] :: L) := Own.join (L1 := []) hO
theorem own_blks_push {W w : World} {L : List HP} {b : Nat} {cs : List Value} {ls : List (Nat × List Value)} (hO : Own W w (blk b cs :: blks ls :: L)) : Own W w (blks ((b, cs) :: ls) :: L) :=
  Own.join (L1 := blk b cs :: ls.map fun p => blk p.1 p.2) (Own.front (L1 := ls.map fun p => blk p.1 p.2) hO.front1.split)
theorem rd_blks {W : World} {L : List HP} (i : Nat) {b o : Nat} {cs vs : List Value} {ls : List (Nat × List Value)} (hL : L[i]? = some (blks ls)) (hm : (b, cs) ∈ ls) (hv : ∀ j u, vs[j]? = some u → cs[o + j]? = some u) : Rd W L (some ⟨b, o, none⟩) vs := by
  intro w hO
  obtain ⟨L', hO'⟩ := hO.nth hL
  obtain ⟨k, hk, hkk⟩ := List.getElem_of_mem hm
  refine rd_blk (L := (ls.map fun p => blk p.1 p.2) ++ L') k ?_ hv w hO'.split
  rw [List.getElem?_append_left (by simpa using hk), List.getElem?_map, List.getElem?_eq_getElem hk, hkk]; rfl
section
variable {W : World} {n : Nat} {F : Fr} {L : List HP} {G : Act → World → Prop}
theorem sg_blks_nil (h : SG W n F (blks [] :: L) G) : SG W n F L G := fun w hO a ha => h w (own_blks_nil hO) a ha
theorem sg_blks_push {b : Nat} {cs : List Value} {ls : List (Nat × List Value)} (h : SG W n F (blks ((b, cs) :: ls) :: L) G) : SG W n F (blk b cs :: blks ls :: L) G := fun w hO a ha => h w (own_blks_push hO) a ha
end
/-- All arguments as they came in. -/
def Opens (P : Program) (W : World) : List TypeId → List Value → Prop
  | [], [] => True
  | t :: ts, v :: vs => (∀ (α : Type) (r : RT P t α), ∃ a, v = r.of v.cells.toList ∧ r.E W a v.cells.toList) ∧ Opens P W ts vs
  | _, _ => False
theorem Opens.cons {P : Program} {W : World} {t : TypeId} {ts : List TypeId} {vs : List Value} {α : Type} (r : RT P t α) (h : Opens P W (t :: ts) vs) : ∃ a cs vs', vs = r.of cs :: vs' ∧ r.E W a cs ∧ Opens P W ts vs' := by
  cases vs with
  | nil => exact h.elim
  | cons v vs' =>
    obtain ⟨h1, h2⟩ := h
    obtain ⟨a, h3, h4⟩ := h1 α r
    exact ⟨a, v.cells.toList, vs', by rw [← h3], h4, h2⟩
theorem Opens.nil {P : Program} {W : World} {vs : List Value} (h : Opens P W [] vs) : vs = [] := by
  cases vs with
  | nil => rfl
  | cons v vs' => exact h.elim
theorem opens_of {H : Type} {enc : TypeId × Value → H} {P : Program} {W : World} {base : Nat} : ∀ {ts : List TypeId} {vs : List Value} {ds : List (DataW H)} {p : List MemPlace},
    DataW.TrodAll enc P W 0 (fun _ => true) true ts vs ds p → (∀ (j : Nat) t v, ts[j]? = some t → vs[j]? = some v → Value.okWide P W .any base t v) → (∀ n ∈ DataW.weightsEach P ts ds, n ≤ reachBytes) → Opens P W ts vs
  | [], vs, ds, p, h, _, _ => by obtain ⟨rfl, _⟩ := trodAll_nil h; trivial
  | t :: ts, vs, ds, p, h, hv, hw => by
    obtain ⟨v, vs', d, ds', p', q', rfl, rfl, rfl, h1, h2⟩ := trodAll_cons h
    simp only [DataW.weightsEach, List.mem_append] at hw
    refine ⟨fun α r => ?_, opens_of h2 (fun j => hv (j + 1)) (fun n hn => hw n (.inr hn))⟩
    obtain ⟨fuel, hf⟩ := h1
    obtain ⟨a, ha⟩ := r.op hf (fun n hn => hw n (.inl hn))
    exact ⟨a, r.ok (hv 0 t v rfl rfl), ha⟩
theorem trodAll_below {H : Type} {enc : TypeId × Value → H} {P : Program} {W W' : World} (laid : laidOutB P = true) (bel : Below W.heap.size W W') : ∀ {ts : List TypeId} {vs : List Value} {ds : List (DataW H)} {p : List MemPlace},
    (ts.all fun t => P.readableRec t && decide (t < P.types.size)) = true → DataW.TrodAll enc P W 0 (fun _ => true) true ts vs ds p → DataW.TrodAll enc P W' 0 (fun b => decide (b < W.heap.size)) true ts vs ds p
  | [], vs, ds, p, _, h => by obtain ⟨rfl, rfl, rfl⟩ := trodAll_nil h; exact trodAll_mk0
  | t :: ts, vs, ds, p, ha, h => by
    simp only [List.all_cons, Bool.and_eq_true, decide_eq_true_eq] at ha
    obtain ⟨v, vs', d, ds', p', q', rfl, rfl, rfl, h1, h2⟩ := trodAll_cons h
    refine trodAll_cons_mk (Below.trod laid ha.1.1 ha.1.2 h1 bel ?_) (trodAll_below laid bel ha.2 h2)
    obtain ⟨m, hm⟩ := h1
    exact DataW.trod_lt m _ _ _ hm
theorem trodAll_len {H : Type} {enc : TypeId × Value → H} {P : Program} {W : World} {base : Nat} {sp : Nat → Bool} {held : Bool} : ∀ {ts : List TypeId} {vs : List Value} {ds : List (DataW H)} {p : List MemPlace}, DataW.TrodAll enc P W base sp held ts vs ds p → ds.length = ts.length
  | [], vs, ds, p, h => by obtain ⟨_, rfl, _⟩ := trodAll_nil h; rfl
  | t :: ts, vs, ds, p, h => by
    obtain ⟨v, vs', d, ds', p', q', _, rfl, _, _, h2⟩ := trodAll_cons h
    simp [trodAll_len h2]
/-- THE ROW OF A LAW: whatever came in, the contract says true and gives the old memory back. -/
theorem lift {C : Checked} {os : Os} {f : FuncId} {fn : Func} {s : ChangeSpec} {H : Type} {enc : TypeId × Value → H} {tb : TypeId} (started : os.Started)
    (own : ownKnob C.prog.godebug = none) (laid : laidOutB C.prog = true) (noInit : C.prog.inits.idxOf? f = none) (hfn : C.prog.funcs[f]? = some fn)
    (witness : ∃ (w : World) (tape : Tape) (i : Input), w.os = os ∧ (w.forCall tape i).Shaped C.prog ∧ i.vars = [] ∧ Input.okWide C.prog (w.forCall tape i) .any w.heap.size f i ∧
      s.pre6 enc C.prog fn [] false (w.forCall tape i).memory i.args ∧ ({} : Assume).holds C.prog (lone (Frame.enter C.prog f i.args .normal) [] (w.forCall tape i)))
    (hv : s.vars = []) (hr : fn.resultTypes = #[tb]) (hb : C.prog.underlying tb = some .bool)
    (hts : (fn.params.toList.all fun t => C.prog.readableRec t && decide (t < C.prog.types.size)) = true)
    (hs : ∀ ds : List (DataW H), ds.length = fn.params.toList.length → s.fn H ds = { results := [.lit (.bool true)], args := ds, vars := [] })
    (tri : ∀ (W : World) (vs : List Value), Opens C.prog W fn.params.toList vs → Tri C.prog W f vs [old W] (X := Unit) (fun _ => .bool true) (fun _ => True) (fun _ => [old W])) :
    ReturnsInHanded {} C os f .any (s.pre6 enc C.prog fn [] false) (s.post enc C.prog fn false true false false) := by
  refine returnsInHanded_of_change_sized own started noInit hfn witness ?_
  intro W base args ds gs before hval hW _ hsz _
  have hW' := hW
  obtain ⟨p, q, hA, hV, rfl, hfz, hnd⟩ := hW
  rw [hv] at hV
  obtain ⟨rfl, rfl⟩ := trodVars_none hV
  have hlen := trodAll_len hA
  have hO : Opens C.prog W fn.params.toList args.toList := by
    refine opens_of hA (fun j t v hj hv => hval j t v (by simpa using hj) (by simpa using hv)) (fun n hn => ?_)
    have hvt : s.plain.varTypes C.prog = [] := by simp [ChangeSpec.plain, DataSpec.varTypes, hv]
    rw [hvt, List.append_nil, List.append_nil] at hsz
    simpa using List.all_eq_true.1 hsz n hn
  have hT := tri W args.toList hO W (Own.start W)
  rw [Array.toArray_toList] at hT
  refine hT.mono fun e W' hx => ?_
  obtain ⟨_, rfl, _, hOwn⟩ := hx
  have bel := hOwn.below
  refine ⟨_, rfl, ds, [], p ++ [], [], p, [], hW', ?_, ?_, ?_, bel.frame _, fun h => by cases h⟩
  · rw [List.append_nil, hs ds hlen, hr]
    exact trodAll_mk1 (shut_bool hb _)
  · rw [List.append_nil, hs ds hlen]
    exact trodAll_below laid bel hts hA
  · rw [List.append_nil, hs ds hlen, hv]
    rfl

end Go.Proofs.Ytclehoaeppbmpaa
