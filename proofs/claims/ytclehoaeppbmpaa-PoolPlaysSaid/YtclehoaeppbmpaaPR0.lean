/- The reference pool: its picture; a store into an own slice; at. -/
import Derived.Test.YtclehoaeppbmpaaPO20
namespace Go.Proofs.Ytclehoaeppbmpaa
set_option linter.unusedVariables false
set_option linter.unusedSimpArgs false
set_option linter.unusedSectionVars false
set_option linter.unnecessarySimpa false
open Go Go.Proofs
section
variable {P : Program} [BS P] {W : World} {n : Nat} {F : Fr} {L : List HP} {ops : Array Oper} {Q : Exit → Act → World → Prop} {K : Act → World → Prop} {ty : TypeId} {pos : String} {af : Array Edge}
theorem sg_store_sown {x y : Operand} {t g o k c sz : Nat} {xs : List Value} {v : Value} (L1 : List HP) {L2 : List HP} [hc : Cell P t] (hx : ev F x = some (.pointer (some ⟨g, o, none⟩))) (hy : ev F y = some v) (h1 : v.oneCell' = true) (ho : o < xs.length)
    (h : SG W n F (L1 ++ sown (some ⟨g, 0, none⟩) k c sz (xs.set o v) :: L2) K) : SG W n F (L1 ++ sown (some ⟨g, 0, none⟩) k c sz xs :: L2) (W1 P ops Q ⟨none, .store t x y, ty, pos, af, none⟩ K) := by
  refine sg_open (X := List Value) (L' := fun cur => L1 ++ blk g cur :: L2) (φ := fun cur => k ≤ c ∧ c ≤ maxLen ∧ cur.length = c * sz ∧ cur.take (k * sz) = xs) (fun w hO => ?_) ?_
  · have h2 := hO.front
    obtain ⟨h3, _⟩ := h2.sownCells
    have hk : 0 < k := by
      rcases Nat.eq_zero_or_pos k with rfl | h
      · rw [Nat.zero_mul] at h3; omega
      · exact h
    obtain ⟨⟨g', cur⟩, ⟨e1, e2, e3, e4, e5⟩, h5⟩ := own_block hk h2
    simp only [Option.some.injEq, Addr.mk.injEq, and_true] at e1
    subst e1
    exact ⟨cur, ⟨e2, by simp only [maxLen]; exact e3, e4, e5⟩, h5.back⟩
  · rintro cur ⟨e2, e3, e4, e5⟩
    have hcl : o < cur.length := by
      rw [← e5, List.length_take] at ho; omega
    refine sg_store L1 hx hy h1 hcl ?_
    refine sg_own (fun w hO => ?_) h
    have h6 := own_mk hO.front e2 e3 (by rw [List.length_set]; exact e4) (xs := xs.set o v) (by rw [List.take_set, e5])
    exact h6.back
end
structure RE where
  pl : Pl
  a : Option Addr
  c : Nat
def RE.cells (e : RE) : List Value := [u64 e.pl.id, .slice e.a e.pl.bs.length e.c, .bool e.pl.dirty, i64 e.pl.pins, .bool e.pl.used]
def RE.own (e : RE) : HP := sown e.a e.pl.bs.length e.c 1 (e.pl.bs.map bv)
def recs (T : List RE) : List Value := T.flatMap RE.cells
theorem recs_len (T : List RE) : (recs T).length = T.length * 5 := flat_length 5 RE.cells T (fun _ _ => rfl)
theorem recs_app (a b : List RE) : recs (a ++ b) = recs a ++ recs b := by simp [recs]
theorem recs_cons (e : RE) (b : List RE) : recs (e :: b) = e.cells ++ recs b := by simp [recs]
theorem recs_one (T : List RE) : ∀ u ∈ recs T, u.oneCell' = true := by
  intro u hu
  simp only [recs, List.mem_flatMap] at hu
  obtain ⟨x, _, hu⟩ := hu
  simp only [RE.cells, List.mem_cons, List.not_mem_nil, or_false] at hu
  rcases hu with rfl | rfl | rfl | rfl | rfl <;> rfl
theorem recs_ne {T : List RE} (h : 0 < T.length) : recs T ≠ [] := by
  intro e
  have := recs_len T
  rw [e, List.length_nil] at this; omega
theorem recs_set {A C : List RE} {e e' : RE} (j : Nat) (v : Value) (hj : j < 5) (he : e'.cells = e.cells.set j v) : (recs (A ++ e :: C)).set (A.length * 5 + j) v = recs (A ++ e' :: C) := by
  have hl := recs_len A
  have h5 : e.cells.length = 5 := rfl
  rw [recs_app, recs_cons, recs_app, recs_cons, he, List.set_append, if_neg (by omega), List.set_append, if_pos (by omega), show A.length * 5 + j - (recs A).length = j by omega]
theorem Rd.rrow {W : World} {L : List HP} {A C : List RE} {e : RE} {g o : Nat} (hr : Rd W L (some ⟨g, o, none⟩) (recs (A ++ e :: C))) : Rd W L (some ⟨g, o + A.length * 5, none⟩) e.cells := by
  refine hr.at (A.length * 5) fun q u hq => ?_
  have hq2 : q < 5 := (List.getElem?_eq_some_iff.1 hq).1
  have hl := recs_len A
  rw [recs_app, recs_cons, List.getElem?_append_right (by omega), List.getElem?_append_left (by show _ < 5; omega), show A.length * 5 + q - (recs A).length = q by omega]
  exact hq
structure RX where
  T : List RE
  ra : Option Addr
  rc : Nat
def rpc (bp : Nat) (S : PlS) (k : Nat) (ra : Option Addr) (rc : Nat) : List Value := [dp bp, i64 S.most, .slice ra k rc, i64 S.hand]
def rpparts (p bp : Nat) (S : PlS) (x : RX) : List HP := [blk p (rpc bp S x.T.length x.ra x.rc), sown x.ra x.T.length x.rc 5 (recs x.T), sepL (x.T.map RE.own)]
def RPool (p bp : Nat) (S : PlS) : HP := fun h => ∃ x : RX, x.T.map (·.pl) = S.rows ∧ sepL (rpparts p bp S x) h
section
variable {W : World} {n : Nat} {F : Fr} {L : List HP} {G : Act → World → Prop}
theorem RPool.open {p bp : Nat} {S : PlS} (h : ∀ (T : List RE) ra rc, T.map (·.pl) = S.rows → SG W n F (blk p (rpc bp S T.length ra rc) :: sown ra T.length rc 5 (recs T) :: sepL (T.map RE.own) :: L) G) : SG W n F (RPool p bp S :: L) G := by
  refine sg_ex (p := fun (x : RX) h => x.T.map (·.pl) = S.rows ∧ sepL (rpparts p bp S x) h) ?_
  rintro ⟨T, ra, rc⟩
  refine sg_and fun hx => sg_split (h T ra rc hx)
theorem RPool.get {w : World} {p bp : Nat} {S : PlS} (hO : Own W w (RPool p bp S :: L)) : ∃ x : RX, x.T.map (·.pl) = S.rows ∧ Own W w (blk p (rpc bp S x.T.length x.ra x.rc) :: sown x.ra x.T.length x.rc 5 (recs x.T) :: sepL (x.T.map RE.own) :: L) := by
  obtain ⟨h, K, ⟨x, h1, h2⟩, hs, hK, hS, hd⟩ := hO.uncons
  have h3 : Own W w (sepL (rpparts p bp S x) :: L) := .cons hO.os hO.tape hO.output h2 hs hK hS hd
  exact ⟨x, h1, h3.split⟩
theorem RPool.shut {w : World} {p bp : Nat} {S : PlS} {T : List RE} {ra : Option Addr} {rc : Nat} (hS : T.map (·.pl) = S.rows) (hO : Own W w (blk p (rpc bp S T.length ra rc) :: sown ra T.length rc 5 (recs T) :: sepL (T.map RE.own) :: L)) : Own W w (RPool p bp S :: L) :=
  (Own.join (L1 := rpparts p bp S ⟨T, ra, rc⟩) hO).imp fun k hk => ⟨⟨T, ra, rc⟩, hS, hk⟩
end
theorem re_split {T : List RE} {i : Nat} (h : i < T.length) : ∃ A e C, T = A ++ e :: C ∧ A.length = i :=
  ⟨T.take i, T[i], T.drop (i + 1), by rw [List.getElem_cons_drop, List.take_append_drop], by rw [List.length_take]; omega⟩
set_option maxRecDepth 20000
set_option maxHeartbeats 4000000
attribute [local irreducible] SG WC WO W1 WD WK PS Rd Tri Exit.then Exit.inBlock bodyPost calmQ Mid sadd
variable {W : World} {n : Nat} {F : Fr} {L : List HP} {G : Act → World → Prop}
theorem rato_tri (p bp : Nat) (S : PlS) (id : Int) (R : List HP) (hl : S.rows.length ≤ 1000000) (T : List RE) (ra : Option Addr) (rc : Nat) (hT : T.map (·.pl) = S.rows) :
    Tri Try.prog W 42 [dp p, u64 id] (blk p (rpc bp S T.length ra rc) :: sown ra T.length rc 5 (recs T) :: sepL (T.map RE.own) :: R) (X := Unit) (fun _ => i64 (optI (atP S.rows id 0))) (fun _ => True) (fun _ => blk p (rpc bp S T.length ra rc) :: sown ra T.length rc 5 (recs T) :: sepL (T.map RE.own) :: R) := by
  refine tri_enter2 Try.func42 rfl Try.ntmps42 rfl ?_
  have hTl : T.length = S.rows.length := by rw [← hT, List.length_map]
  unfold rpc
  repeat' (first | refine sg_wo ?_ | refine sg_ps (ps_assign rfl) rfl ?_ | refine sg_seq ?_ | refine sg_region ?_ | refine sg_nil ?_ | refine sg_then ?_ | refine sg_block ?_)
  refine sg_loop (γ := Nat) (fun i => i ≤ T.length ∧ atP (S.rows.drop i) id i = atP S.rows id 0) (fun i => [(0, dp p), (1, u64 id), (5, i64 i)]) (fun _ => blk p [dp bp, i64 S.most, .slice ra T.length rc, i64 S.hand] :: sown ra T.length rc 5 (recs T) :: sepL (T.map RE.own) :: R) (fun i => T.length - i) 0 ⟨Nat.zero_le _, rfl⟩
    (.cons rfl (.cons rfl (.cons rfl .nil))) (fun w hO => hO) ?_
  rintro i ⟨hi, hx⟩
  by_cases hil : i < T.length
  · obtain ⟨A, e, C, rfl, rfl⟩ := re_split hil
    have hrd : Rd W (blk p [dp bp, i64 S.most, .slice ra (A ++ e :: C).length rc, i64 S.hand] :: sown ra (A ++ e :: C).length rc 5 (recs (A ++ e :: C)) :: sepL ((A ++ e :: C).map RE.own) :: R) ra (recs (A ++ e :: C)) := rd_sown 1 rfl fun _ _ h => h
    refine sg_rd_some hrd (recs_ne (by rw [List.length_append, List.length_cons]; omega)) fun b0 o0 ha => ?_
    subst ha
    have hra := hrd.rrow.at (ws := [u64 e.pl.id]) 0 (fun q u hq => by match q, hq with | 0, hq => exact hq)
    have hdr : S.rows.drop A.length = e.pl :: C.map (·.pl) := by rw [← hT, List.map_append, List.map_cons]; exact List.drop_left' (by simp)
    have hdr2 : S.rows.drop (A.length + 1) = C.map (·.pl) := by rw [← List.drop_drop, hdr]; rfl
    rw [hdr, atP] at hx
    repeat' (first | refine sg_wo ?_ | refine sg_ps (ps_move rfl) rfl ?_ | refine sg_seq ?_ | refine sg_region ?_ | refine sg_nil ?_ | refine sg_then ?_ | refine sg_ps (ps_fieldAddr rfl) rfl ?_ | refine sg_ps (ps_nilCheck rfl) rfl ?_ | refine sg_load 0 rfl rfl rfl rfl ?_ | refine sg_ps (ps_bin rfl rfl inferInstance) rfl ?_ | refine sg_ps (ps_len rfl) rfl ?_ | refine sg_ps (ps_indexAddr rfl rfl rfl (by omega)) rfl ?_ | refine sg_block ?_ | refine sg_skip ?_ | (refine sg_cond_dec rfl (fun hg => ?_) (fun hg => ?_) <;> first | (exfalso; omega) | (exact absurd rfl hg) | skip))
    refine sg_load_rd rfl hra rfl ?_
    by_cases he : e.pl.id = id
    · rw [if_pos he] at hx
      rw [he, ← hx]
      repeat' (first | refine sg_wo ?_ | refine sg_ps (ps_move rfl) rfl ?_ | refine sg_ps (ps_assign rfl) rfl ?_ | refine sg_seq ?_ | refine sg_region ?_ | refine sg_nil ?_ | refine sg_then ?_ | refine sg_ps (ps_bin rfl rfl inferInstance) rfl ?_ | refine sg_ret ?_ | refine ex_then_ret ?_ | refine ex_block_ret ?_ | (refine sg_cond_dec rfl (fun hg => ?_) (fun hg => ?_) <;> first | (exfalso; omega) | (exact absurd rfl hg) | skip))
      exact ex_ret1 rfl rfl () rfl trivial (fun w hO => hO)
    · rw [if_neg he] at hx
      repeat' (first | refine sg_wo ?_ | refine sg_ps (ps_move rfl) rfl ?_ | refine sg_ps (ps_assign rfl) rfl ?_ | refine sg_region ?_ | refine sg_nil ?_ | refine sg_then ?_ | refine sg_ps (ps_add64 rfl rfl (by omega)) rfl ?_ | refine sg_ps (ps_bin rfl rfl inferInstance) rfl ?_ | refine sg_skip ?_ | refine ex_block_normal ?_ | (refine sg_cond_dec rfl (fun hg => ?_) (fun hg => ?_) <;> first | (exfalso; omega) | (exact absurd rfl hg) | skip))
      exact ex_mid (A.length + 1) ⟨by omega, by omega, by rw [hdr2]; exact hx⟩ (.cons rfl (.cons rfl (.cons rfl .nil))) (fun w hO => hO)
  · obtain rfl : i = T.length := by omega
    rw [List.drop_of_length_le (by omega)] at hx
    rw [← hx]
    repeat' (first | refine sg_wo ?_ | refine sg_ps (ps_move rfl) rfl ?_ | refine sg_ps (ps_assign rfl) rfl ?_ | refine sg_seq ?_ | refine sg_region ?_ | refine sg_nil ?_ | refine sg_then ?_ | refine sg_ps (ps_fieldAddr rfl) rfl ?_ | refine sg_ps (ps_nilCheck rfl) rfl ?_ | refine sg_load 0 rfl rfl rfl rfl ?_ | refine sg_ps (ps_bin rfl rfl inferInstance) rfl ?_ | refine sg_ps (ps_len rfl) rfl ?_ | refine sg_ret ?_ | refine sg_exit ?_ | refine ex_then_exit ?_ | refine ex_block_hit ?_ | (refine sg_cond_dec rfl (fun hg => ?_) (fun hg => ?_) <;> first | (exfalso; omega) | (exact absurd rfl hg) | skip))
    exact ex_ret1 rfl rfl () rfl trivial (fun w hO => hO)
theorem rat_tri (p bp : Nat) (S : PlS) (id : Int) (R : List HP) (hl : S.rows.length ≤ 1000000) :
    Tri Try.prog W 42 [dp p, u64 id] (RPool p bp S :: R) (X := Unit) (fun _ => i64 (optI (atP S.rows id 0))) (fun _ => True) (fun _ => RPool p bp S :: R) :=
  Tri.open (fun w hO => RPool.get hO) fun x hx => Tri.imp (rato_tri p bp S id R hl x.T x.ra x.rc hx) fun _ _ => ⟨(), rfl, trivial, fun w hO => RPool.shut hx hO⟩
end Go.Proofs.Ytclehoaeppbmpaa
