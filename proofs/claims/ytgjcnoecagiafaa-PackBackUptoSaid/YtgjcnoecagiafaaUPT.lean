/- Readings with their bulk; the row of a law's second form out of its contract. -/
import Derived.Test.YtgjcnoecagiafaaRAW
import Derived.JoinedCond
import Derived.Deep.CondSized
namespace Go.Proofs.Ytgjcnoecagiafaa
set_option linter.unusedVariables false
set_option linter.unusedSimpArgs false
set_option linter.unusedSectionVars false
set_option linter.unnecessarySimpa false
open Go Go.ChangeShapes Go.WideShapes Go.ChangeAt Go.RowKit
structure RU (P : Program) (t : TypeId) (α : Type) where
  of : List Value → Value
  E : World → α → List Value → Prop
  bulk : α → Nat
  op : ∀ {H : Type} {enc : TypeId × Value → H} {w : World} {fuel : Nat} {cs : List Value} {x : DataW H × List MemPlace}, DataW.trod enc P w 0 (fun _ => true) true fuel t cs = some x → (∀ n ∈ x.1.weights P t, n ≤ reachBytes) → ∃ a, E w a cs ∧ bulk a ≤ Rows.uptoBulk x.1
  ok : ∀ {w : World} {b : Nat} {v : Value}, Value.okWide P w .any b t v → v = of v.cells.toList
theorem bulk_one {H : Type} (d : DataW H) : 1 ≤ Rows.uptoBulk d := by
  cases d with
  | lit l => cases l <;> simp [Rows.uptoBulk]
  | nil => simp [Rows.uptoBulk]
  | ptr d => simp [Rows.uptoBulk]
  | slice elems spare => simp [Rows.uptoBulk]
  | agg parts => simp [Rows.uptoBulk]
  | iface t d => simp [Rows.uptoBulk]
  | map entries => simp [Rows.uptoBulk]
  | held h => simp [Rows.uptoBulk]
/-- A reading whose bulk is only known to be one. -/
def RU.one {P : Program} {t : TypeId} {α : Type} (r : RT P t α) : RU P t α where
  of := r.of
  E := r.E
  bulk _ := 1
  op h hw := by obtain ⟨a, ha⟩ := r.op h hw; exact ⟨a, ha, bulk_one _⟩
  ok := r.ok
def RU.str {P : Program} {t : TypeId} (ht : P.underlying t = some .string) : RU P t (List UInt8) where
  of := head1
  E _ a cs := cs = [.string (strOf a)] ∧ a.length ≤ 140737488351232
  bulk a := a.length + 1
  op h hw := by
    obtain ⟨s, rfl, hx, hs⟩ := trod_string_of ht h
    rw [hx] at hw ⊢
    refine ⟨s.data.toList, ⟨by simp [strOf], ?_⟩, ?_⟩
    · have := hw s.data.toList.length (by simp [DataW.weights])
      simpa [reachBytes] using this
    · simp [Rows.uptoBulk]
  ok h := by obtain ⟨b, rfl⟩ := okWide_string ht h; rfl
def sumBulk {β : Type} (f : β → Nat) (l : List β) : Nat := (l.map f).sum
theorem sumBulk_le {H β : Type} {f : β → Nat} : ∀ (l : List β) (ds : List (DataW H)), l.length = ds.length → (∀ (i : Nat) (b : β) (d : DataW H), l[i]? = some b → ds[i]? = some d → f b ≤ Rows.uptoBulk d) → sumBulk f l ≤ Rows.uptoBulkAll ds
  | [], [], _, _ => Nat.le_refl _
  | b :: l, d :: ds, hl, h => by
    have h1 := h 0 b d rfl rfl
    have h2 := sumBulk_le l ds (by simpa using hl) (fun i b d hb hd => h (i + 1) b d hb hd)
    simp only [sumBulk, List.map_cons, List.sum_cons, Rows.uptoBulkAll] at h2 ⊢
    omega
  | [], _ :: _, hl, _ => by simp at hl
  | _ :: _, [], hl, _ => by simp at hl
def RU.slice {P : Program} {t e : TypeId} {β : Type} (sz bys : Nat) (ht : P.underlying t = some (.slice e)) (hc : P.cellsOf e = sz) (hb : P.bytesOf e = bys) (re : RU P e β) : RU P t (List β) where
  of := head1
  E := SliceE re.E sz bys
  bulk l := sumBulk re.bulk l + 1
  op {H enc w fuel cs x} h hw := by
    rcases DataW.trod_slice ht h with ⟨rfl, _⟩ | ⟨a, len, cap, elems, rest, n, _, rfl, rfl, _, hl, hm, hlen, hel, _, _⟩
    · exact ⟨[], ⟨none, 0, [], rfl, by simp, by simp, by simp, rfl, by simp, by simp, .inl rfl⟩, bulk_one _⟩
    · obtain ⟨l, hll, hlp⟩ := exists_list (fun i (p : β × List Value) => w.cells? 0 (a.add (i * sz)) sz = some p.2 ∧ re.E w p.1 p.2 ∧ ∀ d, elems[i]? = some d → re.bulk p.1 ≤ Rows.uptoBulk d.1) len (by
        intro i hi
        have h1 := hel i hi
        rw [List.getElem?_eq_getElem (by omega)] at h1
        obtain ⟨vs, h2, h3⟩ := Option.bind_eq_some_iff.1 h1
        obtain ⟨b, hE, hB⟩ := re.op h3 (fun n hn => hw n (by
          simp only [DataW.weights, ht]
          refine List.mem_cons_of_mem _ (List.mem_append.2 (.inl (weights_all_mem (d := elems[i].1) ?_ n hn)))
          exact List.mem_map.2 ⟨_, List.getElem_mem _, rfl⟩))
        exact ⟨(b, vs), by rw [← hc]; exact h2, hE, fun d hd => by
          rw [List.getElem?_eq_getElem (by omega)] at hd
          simp only [Option.some.injEq] at hd
          rw [← hd]; exact hB⟩)
      refine ⟨l.map (·.1), ⟨some a, cap, l.map (·.2), by simp [hll], by simp [hll, hl], hm, ?_, by simp, ?_, ?_, ?_⟩, ?_⟩
      · have := hw ((elems.length + rest.length) * bys) (by simp [DataW.weights, ht, hb])
        simp only [List.length_map, hll, reachBytes] at this ⊢
        refine Nat.le_trans (Nat.mul_le_mul_right _ ?_) this
        omega
      · intro vs hvs
        obtain ⟨p, hp, rfl⟩ := List.mem_map.1 hvs
        obtain ⟨i, hi, rfl⟩ := List.getElem_of_mem hp
        exact (World.cells?_some (hlp i _ (List.getElem?_eq_getElem hi)).1).2.1
      · intro i x vs hx hvs
        rw [List.getElem?_map] at hx hvs
        cases hli : l[i]? with
        | none => rw [hli] at hx; simp at hx
        | some p =>
          rw [hli] at hx hvs
          simp at hx hvs
          rw [← hx, ← hvs]
          exact (hlp i p hli).2.1
      · refine rows_get (sz := sz) ?_ ?_
        · intro vs hvs
          obtain ⟨p, hp, rfl⟩ := List.mem_map.1 hvs
          obtain ⟨i, hi, rfl⟩ := List.getElem_of_mem hp
          exact (World.cells?_some (hlp i _ (List.getElem?_eq_getElem hi)).1).2.1
        · intro i vs hvs
          rw [List.getElem?_map] at hvs
          cases hli : l[i]? with
          | none => rw [hli] at hvs; simp at hvs
          | some p =>
            rw [hli] at hvs
            simp at hvs
            rw [← hvs]
            exact (hlp i p hli).1
      · have h9 := sumBulk_le (f := re.bulk) (l.map (·.1)) (elems.map (·.1)) (by simp [hll, hlen]) (by
          intro i b d hb hd
          rw [List.getElem?_map] at hb hd
          cases hli : l[i]? with
          | none => rw [hli] at hb; simp at hb
          | some p =>
            cases hei : elems[i]? with
            | none => rw [hei] at hd; simp at hd
            | some q =>
              rw [hli] at hb
              rw [hei] at hd
              simp at hb hd
              rw [← hb, ← hd]
              exact (hlp i p hli).2.2 q hei)
        simp only [Rows.uptoBulk]
        omega
  ok h := by obtain ⟨a, l, c, rfl⟩ := okWide_slice ht h; rfl
structure RUF (P : Program) (off : Nat) (fs : List Field) (tot : Nat) (α : Type) where
  E : World → α → List Value → Prop
  bulk : α → Nat
  op : ∀ {H : Type} {enc : TypeId × Value → H} {w : World} {fuel : Nat} {cs : List Value} (ds : List (DataW H × List MemPlace)), cs.length = tot → ds.length = fs.length →
    (∀ (i : Nat) (f : Field) (x : DataW H × List MemPlace), fs[i]? = some f → ds[i]? = some x → DataW.trod enc P w 0 (fun _ => true) true fuel f.type ((cs.drop f.offset).take (P.cellsOf f.type)) = some x ∧ ∀ n ∈ x.1.weights P f.type, n ≤ reachBytes) → ∃ a, E w a (cs.drop off) ∧ bulk a ≤ Rows.uptoBulkAll (ds.map (·.1))
def RUF.nil {P : Program} {off tot : Nat} (h : tot = off) : RUF P off [] tot Unit where
  E _ _ cs := cs = []
  bulk _ := 0
  op ds hl _ _ := ⟨(), by rw [List.drop_eq_nil_iff]; omega, Nat.zero_le _⟩
def RUF.cons {P : Program} {off tot : Nat} {f : Field} {fs : List Field} {α β : Type} (sz : Nat) (rt : RU P f.type α) (h : f.offset = off) (hc : P.cellsOf f.type = sz) (rest : RUF P (off + sz) fs tot β) : RUF P off (f :: fs) tot (α × β) where
  E w a cs := ∃ c1 c2, cs = c1 ++ c2 ∧ rt.E w a.1 c1 ∧ rest.E w a.2 c2
  bulk a := rt.bulk a.1 + rest.bulk a.2
  op {H enc w fuel cs} ds hl hd hf := by
    match ds, hd with
    | x :: ds, hd =>
      obtain ⟨hx, hw⟩ := hf 0 f x rfl rfl
      obtain ⟨a, ha, hba⟩ := rt.op hx hw
      obtain ⟨b, hb, hbb⟩ := rest.op ds hl (by simpa using hd) (fun i g y hg hy => hf (i + 1) g y hg hy)
      refine ⟨(a, b), ⟨_, _, ?_, ha, hb⟩, ?_⟩
      · rw [h, hc, ← List.drop_drop, List.take_append_drop]
      · simp only [List.map_cons, Rows.uptoBulkAll]
        omega
def RU.struct {P : Program} {t : TypeId} {fs : Array Field} {tot : Nat} {α : Type} (ht : P.underlying t = some (.struct fs)) (hc : P.cellsOf t = tot) (r : RUF P 0 fs.toList tot α) : RU P t α where
  of cs := .agg cs.toArray
  E w a cs := cs.length = tot ∧ r.E w a cs
  bulk a := r.bulk a + 1
  op {H enc w fuel cs x} h hw := by
    obtain ⟨xs, n, _, rfl, hl, hlen, hf⟩ := DataW.trod_struct ht h
    have hl' : cs.length = tot := hl.trans hc
    obtain ⟨a, ha, hb⟩ := r.op (H := H) (enc := enc) (w := w) (fuel := n) xs hl' (by simpa using hlen) (by
      intro i f y hfi hyi
      have hi : i < fs.size := by have := (List.getElem?_eq_some_iff.1 hfi).1; simpa using this
      have hfe : fs[i] = f := by have := (List.getElem?_eq_some_iff.1 hfi).2; simpa using this
      have h1 := hf i fs[i] (by simp [hi])
      rw [List.getElem?_eq_getElem (by omega)] at h1
      have hy : xs[i]'(by omega) = y := (List.getElem?_eq_some_iff.1 hyi).2
      rw [hy, hfe] at h1
      refine ⟨by simpa using h1, fun m hm => hw m ?_⟩
      simp only [DataW.weights, ht]
      refine DataW.weights_mem_each (j := i) (t := fs[i].type) (d := xs[i].1) ?_ ?_ m (by rw [hy, hfe]; exact hm)
      · simp [hi]
      · simp [show i < xs.length by omega])
    refine ⟨a, ⟨hl', by simpa using ha⟩, ?_⟩
    simp only [Rows.uptoBulk]
    omega
  ok h := by
    obtain ⟨cs, rfl, _⟩ := okWide_struct ht h
    simp [Value.cells]
/-- All arguments as they came in, with a bound for what they weigh together. -/
def OpensU (P : Program) (W : World) : List TypeId → List Value → Nat → Prop
  | [], [], _ => True
  | t :: ts, v :: vs, q => ∃ q1 q2, q1 + q2 ≤ q ∧ (∀ (α : Type) (r : RU P t α), ∃ a, v = r.of v.cells.toList ∧ r.E W a v.cells.toList ∧ r.bulk a ≤ q1) ∧ OpensU P W ts vs q2
  | _, _, _ => False
theorem OpensU.cons {P : Program} {W : World} {t : TypeId} {ts : List TypeId} {vs : List Value} {q : Nat} {α : Type} (r : RU P t α) (h : OpensU P W (t :: ts) vs q) : ∃ a cs vs' q2, vs = r.of cs :: vs' ∧ r.E W a cs ∧ r.bulk a + q2 ≤ q ∧ OpensU P W ts vs' q2 := by
  cases vs with
  | nil => exact h.elim
  | cons v vs' =>
    obtain ⟨q1, q2, hq, h1, h2⟩ := h
    obtain ⟨a, h3, h4, h5⟩ := h1 α r
    exact ⟨a, v.cells.toList, vs', q2, by rw [← h3], h4, by omega, h2⟩
theorem OpensU.nil {P : Program} {W : World} {vs : List Value} {q : Nat} (h : OpensU P W [] vs q) : vs = [] := by
  cases vs with
  | nil => rfl
  | cons v vs' => exact h.elim
theorem opensU_of {H : Type} {enc : TypeId × Value → H} {P : Program} {W : World} {base : Nat} : ∀ {ts : List TypeId} {vs : List Value} {ds : List (DataW H)} {p : List MemPlace} {q : Nat},
    DataW.TrodAll enc P W 0 (fun _ => true) true ts vs ds p → (∀ (j : Nat) t v, ts[j]? = some t → vs[j]? = some v → Value.okWide P W .any base t v) → (∀ n ∈ DataW.weightsEach P ts ds, n ≤ reachBytes) → Rows.uptoBulkAll ds ≤ q → OpensU P W ts vs q
  | [], vs, ds, p, q, h, _, _, _ => by obtain ⟨rfl, _⟩ := trodAll_nil h; trivial
  | t :: ts, vs, ds, p, q, h, hv, hw, hq => by
    obtain ⟨v, vs', d, ds', p', q', rfl, rfl, rfl, h1, h2⟩ := trodAll_cons h
    simp only [DataW.weightsEach, List.mem_append] at hw
    simp only [Rows.uptoBulkAll] at hq
    refine ⟨Rows.uptoBulk d, Rows.uptoBulkAll ds', hq, fun α r => ?_, opensU_of h2 (fun j => hv (j + 1)) (fun n hn => hw n (.inr hn)) (Nat.le_refl _)⟩
    obtain ⟨fuel, hf⟩ := h1
    obtain ⟨a, ha, hb⟩ := r.op hf (fun n hn => hw n (.inl hn))
    exact ⟨a, r.ok (hv 0 t v rfl rfl), ha, hb⟩
/-- THE ROW OF A LAW'S SECOND FORM. -/
theorem liftU {C : Checked} {os : Os} {f : FuncId} {fn : Func} {s : ChangeSpec} {H : Type} {enc : TypeId × Value → H} {tb : TypeId} {F : Stop.Interp} (started : os.Started)
    (own : ownKnob C.prog.godebug = none) (laid : laidOutB C.prog = true) (noInit : C.prog.inits.idxOf? f = none) (hfn : C.prog.funcs[f]? = some fn)
    (witness : ∃ (w : World) (tape : Tape) (i : Input), w.os = os ∧ (w.forCall tape i).Shaped C.prog ∧ i.vars = [] ∧ Input.okWide C.prog (w.forCall tape i) .any w.heap.size f i ∧
      (Rows.OpenSpec.upto s).pre6 enc C.prog fn [] false (w.forCall tape i).memory i.args ∧ ({} : Assume).holds C.prog (lone (Frame.enter C.prog f i.args .normal) [] (w.forCall tape i)))
    (hv : s.vars = []) (hr : fn.resultTypes = #[tb]) (hb : C.prog.underlying tb = some .bool)
    (hts : (fn.params.toList.all fun t => C.prog.readableRec t && decide (t < C.prog.types.size)) = true)
    (hs : ∀ ds : List (DataW H), ds.length = fn.params.toList.length → s.fn H ds = { results := [.lit (.bool true)], args := ds, vars := [] })
    (tri : ∀ (W : World) (vs : List Value), OpensU C.prog W fn.params.toList vs 1048576 → Tri C.prog W f vs [old W] (X := Unit) (fun _ => .bool true) (fun _ => True) (fun _ => [old W])) :
    ReturnsInHanded {} C os f .any ((Rows.OpenSpec.upto s).pre6 enc C.prog fn [] false) (((Rows.OpenSpec.upto s).at F).post enc C.prog fn false true false false) := by
  refine returnsInHanded_of_cond_sized (s := Rows.OpenSpec.upto s) (k := Rows.uptoSmall) rfl own started noInit hfn witness ?_
  intro W base args ds gs before hval hW _ hk hsz _
  have hW' := hW
  obtain ⟨p, q, hA, hV, rfl, hfz, hnd⟩ := hW
  rw [show (Rows.OpenSpec.upto s).vars = s.vars from rfl, hv] at hV
  obtain ⟨rfl, rfl⟩ := trodVars_none hV
  have hlen := trodAll_len hA
  rw [List.append_nil] at hk
  have hbound : Rows.uptoBulkAll ds ≤ 1048576 := of_decide_eq_true hk
  have hO : OpensU C.prog W fn.params.toList args.toList 1048576 := by
    refine opensU_of hA (fun j t v hj hv => hval j t v (by simpa using hj) (by simpa using hv)) (fun n hn => ?_) hbound
    have hvt : (Rows.OpenSpec.upto s).bare.plain.varTypes C.prog = [] := by
      have : (Rows.OpenSpec.upto s).bare.plain.vars = [] := hv
      simp [DataSpec.varTypes, this]
    rw [hvt, List.append_nil, List.append_nil] at hsz
    simpa using List.all_eq_true.1 hsz n hn
  have hT := tri W args.toList hO W (Own.start W)
  rw [Array.toArray_toList] at hT
  refine hT.mono fun e W' hx => ?_
  obtain ⟨_, rfl, _, hOwn⟩ := hx
  have bel := hOwn.below
  have hs' : ((Rows.OpenSpec.upto s).at F).fn H ds = { results := [.lit (.bool true)], args := ds, vars := [] } := hs ds hlen
  refine ⟨_, rfl, ds, [], p ++ [], [], p, [], hW', ?_, ?_, ?_, bel.frame _, fun h => by cases h⟩
  · rw [List.append_nil, hs', hr]
    exact trodAll_mk1 (shut_bool hb _)
  · rw [List.append_nil, hs']
    exact trodAll_below laid bel hts hA
  · rw [List.append_nil, hs']
    have hv' : ((Rows.OpenSpec.upto s).at F).vars = [] := hv
    rw [hv']
    rfl
end Go.Proofs.Ytgjcnoecagiafaa
