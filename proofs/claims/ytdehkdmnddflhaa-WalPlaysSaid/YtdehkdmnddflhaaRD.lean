/- The reference's disk (granaryref02): its representation, told by the same state as the program's disk. -/
import Derived.Test.YtdehkdmnddflhaaDK3
import Derived.Test.YtdehkdmnddflhaaAG2
import Derived.Test.YtdehkdmnddflhaaDR3
import Derived.Test.YtdehkdmnddflhaaDR5
import Derived.Test.YtdehkdmnddflhaaRWC
namespace Go.Proofs.Ytdehkdmnddflhaa
set_option linter.unusedVariables false
set_option linter.unusedSimpArgs false
set_option linter.unusedSectionVars false
set_option linter.unnecessarySimpa false
open Go Go.Proofs
set_option maxRecDepth 20000
set_option maxHeartbeats 4000000
attribute [local irreducible] SG WC WO W1 WD WK PS Rd Tri Exit.then Exit.inBlock bodyPost calmQ Mid sadd
variable {W : World} {n : Nat} {F : Fr} {L : List HP} {G : Act → World → Prop}
theorem Own.pickT {w : World} (A : List HP) {R : List HP} (hO : Own W w (A ++ R)) (idx : List Nat) (hn : idx.Nodup) : Own W w (Ytdehkdmnddflhaa.pick idx A ++ R) := by
  obtain ⟨K, hK, hs, hp⟩ := hO.sat
  obtain ⟨K1, K2, rfl, h1, h2⟩ := map_append_inv _ _ _ _ hK
  rw [List.pairwise_append] at hp
  obtain ⟨p1, p2, p3⟩ := hp
  refine ⟨hO.os, hO.tape, hO.output, idx.filterMap (fun i => K1[i]?) ++ K2, ?_, ?_, ?_⟩
  · subst h1
    simp only [Ytdehkdmnddflhaa.pick, List.map_append, List.map_filterMap, List.getElem?_map, h2]
  · intro x hx
    rcases List.mem_append.1 hx with hx | hx
    · obtain ⟨i, _, hi⟩ := List.mem_filterMap.1 hx
      exact hs x (List.mem_append_left _ (List.mem_of_getElem? hi))
    · exact hs x (List.mem_append_right _ hx)
  · rw [List.pairwise_append]
    refine ⟨?_, p2, ?_⟩
    · rw [List.pairwise_filterMap]
      refine hn.imp ?_
      intro i j hij x hx y hy
      obtain ⟨hi, rfl⟩ := List.getElem?_eq_some_iff.1 hx
      obtain ⟨hj, rfl⟩ := List.getElem?_eq_some_iff.1 hy
      have hpp := List.pairwise_iff_getElem.1 p1
      rcases Nat.lt_or_gt_of_ne hij with h | h
      · exact hpp i j hi hj h
      · exact (hpp j i hj hi h).symm
    · intro x hx y hy
      obtain ⟨i, _, hi⟩ := List.mem_filterMap.1 hx
      exact p3 x (List.mem_of_getElem? hi) y hy
/-- A sector: its block, its bytes. -/
abbrev Sc := Nat × List UInt8
def shdr (x : Sc) : Value := .slice (some ⟨x.1, 0, none⟩) 64 64
def putc (p : Nat × Sc) : List Value := [i64 (p.1 : Int), shdr p.2]
structure RDX where
  ks : List Sc
  ss : List Sc
  ws : List (Nat × Sc)
  kb : Nat
  kc : Nat
  sb : Nat
  sc : Nat
  wa : Option Addr
  wc : Nat
  ls : List (Nat × List Value)
def rfuse (D : DS) : Int := if D.down = true then -1 else D.fuse
def rdcells (D : DS) (x : RDX) : List Value := [.slice (some ⟨x.kb, 0, none⟩) x.ks.length x.kc, .slice (some ⟨x.sb, 0, none⟩) x.ss.length x.sc, .slice x.wa x.ws.length x.wc, i64 (rfuse D), .bool D.down, i64 (D.writes : Int), i64 (D.syncs : Int)]
structure RDX.ok (x : RDX) (D : DS) : Prop where
  dok : D.ok
  kept : x.ks.map (·.2) = back D.seen D.wait
  seen : x.ss.map (·.2) = D.seen
  wait : x.ws.map (fun p => (p.1, p.2.2)) = D.wait.map (fun p => (p.1, p.2.2))
  kin : ∀ y ∈ x.ks, (y.1, y.2.map bv) ∈ x.ls
  sin : ∀ y ∈ x.ss, (y.1, y.2.map bv) ∈ x.ls
  win : ∀ p ∈ x.ws, (p.2.1, p.2.2.map bv) ∈ x.ls
theorem RDX.ok.lens {x : RDX} {D : DS} (h : x.ok D) : x.ks.length = D.seen.length ∧ x.ss.length = D.seen.length ∧ x.ws.length = D.wait.length := by
  have h1 := congrArg List.length h.kept
  have h2 := congrArg List.length h.seen
  have h3 := congrArg List.length h.wait
  simp only [List.length_map, back_length] at h1 h2 h3
  exact ⟨h1, h2, h3⟩
def RefRep (r : Nat) (D : DS) : HP := fun h => ∃ x : RDX, x.ok D ∧ sepL [blk r (rdcells D x), sown (some ⟨x.kb, 0, none⟩) x.ks.length x.kc 1 (x.ks.map shdr), sown (some ⟨x.sb, 0, none⟩) x.ss.length x.sc 1 (x.ss.map shdr), sown x.wa x.ws.length x.wc 2 (x.ws.flatMap putc), blks x.ls] h
theorem RefRep.open {r : Nat} {D : DS} (h : ∀ x : RDX, x.ok D → SG W n F (blk r (rdcells D x) :: sown (some ⟨x.kb, 0, none⟩) x.ks.length x.kc 1 (x.ks.map shdr) :: sown (some ⟨x.sb, 0, none⟩) x.ss.length x.sc 1 (x.ss.map shdr) :: sown x.wa x.ws.length x.wc 2 (x.ws.flatMap putc) :: blks x.ls :: L) G) : SG W n F (RefRep r D :: L) G := by
  refine sg_ex (p := fun (x : RDX) h => x.ok D ∧ sepL [blk r (rdcells D x), sown (some ⟨x.kb, 0, none⟩) x.ks.length x.kc 1 (x.ks.map shdr), sown (some ⟨x.sb, 0, none⟩) x.ss.length x.sc 1 (x.ss.map shdr), sown x.wa x.ws.length x.wc 2 (x.ws.flatMap putc), blks x.ls] h) ?_
  intro x
  refine sg_and ?_
  intro hx
  exact sg_split (h x hx)
theorem RefRep.shut {w : World} {r : Nat} {D : DS} (x : RDX) (hx : x.ok D)
    (hO : Own W w (blk r (rdcells D x) :: sown (some ⟨x.kb, 0, none⟩) x.ks.length x.kc 1 (x.ks.map shdr) :: sown (some ⟨x.sb, 0, none⟩) x.ss.length x.sc 1 (x.ss.map shdr) :: sown x.wa x.ws.length x.wc 2 (x.ws.flatMap putc) :: blks x.ls :: L)) : Own W w (RefRep r D :: L) := by
  have h := Own.join (L1 := [blk r (rdcells D x), sown (some ⟨x.kb, 0, none⟩) x.ks.length x.kc 1 (x.ks.map shdr), sown (some ⟨x.sb, 0, none⟩) x.ss.length x.sc 1 (x.ss.map shdr), sown x.wa x.ws.length x.wc 2 (x.ws.flatMap putc), blks x.ls]) hO
  exact h.imp fun k hk => ⟨x, hx, hk⟩
theorem sg_ref_ok {r : Nat} {D : DS} (h : D.ok → SG W n F (RefRep r D :: L) G) : SG W n F (RefRep r D :: L) G := by
  refine sg_open (φ := fun (_ : Unit) => D.ok) (fun w hO => ⟨(), ?_, hO⟩) (fun _ hS => h hS)
  obtain ⟨h0, K, hp, _⟩ := hO.uncons
  obtain ⟨x, hx, _⟩ := hp
  exact hx.dok
theorem set_take1 {cur xs : List Value} {m : Nat} (h : cur.take (m * 1) = xs) (i : Nat) (v : Value) : (cur.set i v).take (m * 1) = xs.set i v := by rw [List.take_set, h]
theorem sg_sown_some (k : Nat) {a : Option Addr} {m c sz : Nat} {xs : List Value} (hL : L[k]? = some (sown a m c sz xs)) (hm : 0 < m) (h : ∀ b, a = some ⟨b, 0, none⟩ → SG W n F L G) : SG W n F L G := by
  refine sg_open (X := Nat) (L' := fun _ => L) (φ := fun b => a = some ⟨b, 0, none⟩) (fun w hO => ?_) (fun b hb => h b hb)
  obtain ⟨L', hO'⟩ := hO.nth hL
  obtain ⟨g, hg⟩ := hO'.sownSome hm
  exact ⟨g, hg, hO⟩
theorem rzeros (m : Nat) : (List.range (m * 1)).map (fun i => (Value.int .u8 0).cells[i % (Value.int .u8 0).cells.size]!) = (List.replicate m (0 : UInt8)).map bv := by
  rw [List.map_replicate, Nat.mul_one, List.eq_replicate_iff]
  refine ⟨by simp, fun b hb => ?_⟩
  obtain ⟨i, _, rfl⟩ := List.mem_map.1 hb
  show (#[Value.int .u8 0] : Array Value)[i % 1]! = _
  rw [Nat.mod_one]; rfl
theorem rd_putc (k : Nat) {wb wc j q : Nat} {ws : List (Nat × Sc)} {p : Nat × Sc} {v : Value} (hL : L[k]? = some (sown (some ⟨wb, 0, none⟩) ws.length wc 2 (ws.flatMap putc))) (hi : ws[j]? = some p) (hq : q < 2) (hv : (putc p)[q]? = some v) : Rd W L (some ⟨wb, 0 + j * 2 + q, none⟩) [v] := by
  refine rd_sown_at k hL (fun i u hu => ?_)
  match i, hu with
  | 0, hu =>
    simp only [List.getElem?_cons_zero, Option.some.injEq] at hu
    rw [← hu, Nat.add_zero, Nat.zero_add, flat_get 2 putc ws j q p (fun _ _ => rfl) hi hq]; exact hv
/- Fuse, Sync. -/
theorem rfuse_tri (r : Nat) (D : DS) (i : Int) (R : List HP) (hi : i ≤ 9223372036854775807) :
    Tri Try.prog W 34 [dp r, i64 i] (RefRep r D :: R) (X := Unit) (fun _ => .tuple #[]) (fun _ => True) (fun _ => RefRep r (D.setFuse i) :: R) := by
  refine tri_enter2 Try.func34 rfl Try.ntmps34 rfl ?_
  refine RefRep.open fun x hx => ?_
  obtain ⟨ks, ss, ws, kb, kc, sb, sc, wa, wc, ls⟩ := x
  by_cases hd : D.down = true
  · have e : D.setFuse i = D := by simp [DS.setFuse, hd]
    rw [e]
    have e2 : rdcells D ⟨ks, ss, ws, kb, kc, sb, sc, wa, wc, ls⟩ = [.slice (some ⟨kb, 0, none⟩) ks.length kc, .slice (some ⟨sb, 0, none⟩) ss.length sc, .slice wa ws.length wc, i64 (rfuse D), .bool true, i64 (D.writes : Int), i64 (D.syncs : Int)] := by simp only [rdcells, hd]
    rw [e2]
    repeat' (first | refine sg_wo ?_ | refine sg_ps (ps_move rfl) rfl ?_ | refine sg_seq ?_ | refine sg_region ?_ | refine sg_nil ?_ | refine sg_then ?_ | refine sg_ps (ps_fieldAddr rfl) rfl ?_ | refine sg_ps (ps_nilCheck rfl) rfl ?_ | refine sg_load 0 rfl rfl rfl rfl ?_ | refine sg_cond_t rfl ?_ | refine sg_ret ?_ | refine ex_then_ret ?_)
    refine ex_ret0 rfl () rfl True.intro (fun w hO => ?_)
    rw [← e2] at hO
    exact RefRep.shut _ hx hO
  · have hdf : D.down = false := by simpa using hd
    have e : D.setFuse i = { D with fuse := max i (-1) } := by simp [DS.setFuse, hdf]
    rw [e]
    have e2 : rdcells D ⟨ks, ss, ws, kb, kc, sb, sc, wa, wc, ls⟩ = [.slice (some ⟨kb, 0, none⟩) ks.length kc, .slice (some ⟨sb, 0, none⟩) ss.length sc, .slice wa ws.length wc, i64 D.fuse, .bool false, i64 (D.writes : Int), i64 (D.syncs : Int)] := by simp [rdcells, rfuse, hdf]
    have e3 : rdcells { D with fuse := max i (-1) } ⟨ks, ss, ws, kb, kc, sb, sc, wa, wc, ls⟩ = [.slice (some ⟨kb, 0, none⟩) ks.length kc, .slice (some ⟨sb, 0, none⟩) ss.length sc, .slice wa ws.length wc, i64 (max i (-1)), .bool false, i64 (D.writes : Int), i64 (D.syncs : Int)] := by simp [rdcells, rfuse, hdf]
    have hok : RDX.ok ⟨ks, ss, ws, kb, kc, sb, sc, wa, wc, ls⟩ { D with fuse := max i (-1) } := ⟨⟨hx.dok.n, hx.dok.sec, hx.dok.wt, by show -1 ≤ max i (-1) ∧ max i (-1) ≤ 9223372036854775807; omega⟩, hx.kept, hx.seen, hx.wait, hx.kin, hx.sin, hx.win⟩
    rw [e2]
    by_cases h0 : i < 0
    · skip
      repeat' (first | refine sg_wo ?_ | refine sg_ps (ps_move rfl) rfl ?_ | refine sg_seq ?_ | refine sg_region ?_ | refine sg_nil ?_ | refine sg_then ?_ | refine sg_ps (ps_fieldAddr rfl) rfl ?_ | refine sg_ps (ps_nilCheck rfl) rfl ?_ | refine sg_load 0 rfl rfl rfl rfl ?_ | refine sg_ps (ps_bin rfl rfl inferInstance) rfl ?_ | refine sg_cond_f rfl ?_ | refine sg_skip ?_ | refine sg_store [] rfl rfl rfl (of_decide_eq_true rfl) ?_ | (refine sg_cond_dec rfl (fun hg => ?_) (fun hg => ?_) <;> first | (exfalso; omega) | (exact absurd rfl hg) | skip))
      refine ex_end0 rfl () rfl True.intro (fun w hO => ?_)
      refine RefRep.shut _ hok ?_
      rw [e3, show max i (-1) = -1 by omega]
      exact hO
    · skip
      repeat' (first | refine sg_wo ?_ | refine sg_ps (ps_move rfl) rfl ?_ | refine sg_seq ?_ | refine sg_region ?_ | refine sg_nil ?_ | refine sg_then ?_ | refine sg_ps (ps_fieldAddr rfl) rfl ?_ | refine sg_ps (ps_nilCheck rfl) rfl ?_ | refine sg_load 0 rfl rfl rfl rfl ?_ | refine sg_ps (ps_bin rfl rfl inferInstance) rfl ?_ | refine sg_cond_f rfl ?_ | refine sg_skip ?_ | refine sg_store [] rfl rfl rfl (of_decide_eq_true rfl) ?_ | (refine sg_cond_dec rfl (fun hg => ?_) (fun hg => ?_) <;> first | (exfalso; omega) | (exact absurd rfl hg) | skip))
      refine ex_end0 rfl () rfl True.intro (fun w hO => ?_)
      refine RefRep.shut _ hok ?_
      rw [e3, show max i (-1) = i by omega]
      exact hO
theorem rsync_tri (r : Nat) (D : DS) (R : List HP) (hb : D.syncs ≤ 1000000) :
    Tri Try.prog W 33 [dp r] (RefRep r D :: R) (X := Unit) (fun _ => i64 D.sync.1) (fun _ => True) (fun _ => RefRep r D.sync.2 :: R) := by
  refine tri_enter1 Try.func33 rfl Try.ntmps33 rfl ?_
  refine RefRep.open fun x hx => ?_
  obtain ⟨ks, ss, ws, kb, kc, sb, sc, wa, wc, ls⟩ := x
  obtain ⟨l1, l2, l3⟩ := hx.lens
  dsimp only at l1 l2 l3
  have hn := hx.dok.n
  by_cases hd : D.down = true
  · have e : D.sync = (4, D) := by simp [DS.sync, hd]
    rw [e]
    have e2 : rdcells D ⟨ks, ss, ws, kb, kc, sb, sc, wa, wc, ls⟩ = [.slice (some ⟨kb, 0, none⟩) ks.length kc, .slice (some ⟨sb, 0, none⟩) ss.length sc, .slice wa ws.length wc, i64 (rfuse D), .bool true, i64 (D.writes : Int), i64 (D.syncs : Int)] := by simp only [rdcells, hd]
    rw [e2]
    repeat' (first | refine sg_wo ?_ | refine sg_ps (ps_move rfl) rfl ?_ | refine sg_ps (ps_assign rfl) rfl ?_ | refine sg_seq ?_ | refine sg_region ?_ | refine sg_nil ?_ | refine sg_then ?_ | refine sg_ps (ps_fieldAddr rfl) rfl ?_ | refine sg_ps (ps_nilCheck rfl) rfl ?_ | refine sg_load 0 rfl rfl rfl rfl ?_ | refine sg_cond_t rfl ?_ | refine sg_ret ?_ | refine ex_then_ret ?_)
    refine ex_ret1 rfl rfl () rfl True.intro (fun w hO => ?_)
    rw [← e2] at hO
    exact RefRep.shut _ hx hO
  · have hdf : D.down = false := by simpa using hd
    have e : D.sync = (0, { D with wait := [], syncs := D.syncs + 1 }) := by simp [DS.sync, hdf]
    rw [e]
    have e2 : rdcells D ⟨ks, ss, ws, kb, kc, sb, sc, wa, wc, ls⟩ = [.slice (some ⟨kb, 0, none⟩) ks.length kc, .slice (some ⟨sb, 0, none⟩) ss.length sc, .slice wa ws.length wc, i64 D.fuse, .bool false, i64 (D.writes : Int), i64 (D.syncs : Int)] := by simp [rdcells, rfuse, hdf]
    rw [e2]
    repeat' (first | refine sg_wo ?_ | refine sg_ps (ps_move rfl) rfl ?_ | refine sg_ps (ps_assign rfl) rfl ?_ | refine sg_seq ?_ | refine sg_region ?_ | refine sg_nil ?_ | refine sg_then ?_ | refine sg_ps (ps_fieldAddr rfl) rfl ?_ | refine sg_ps (ps_nilCheck rfl) rfl ?_ | refine sg_load 0 rfl rfl rfl rfl ?_ | refine sg_cond_f rfl ?_ | refine sg_block ?_ | refine sg_skip ?_)
    refine sg_loop (γ := Nat × List Sc) (fun g => g.1 ≤ ss.length ∧ g.2.length = ss.length ∧ ∀ j, j < g.1 → g.2[j]? = ss[j]?) (fun g => [(0, dp r), (3, i64 g.1)])
      (fun g => blk r [.slice (some ⟨kb, 0, none⟩) ks.length kc, .slice (some ⟨sb, 0, none⟩) ss.length sc, .slice wa ws.length wc, i64 D.fuse, .bool false, i64 (D.writes : Int), i64 (D.syncs : Int)] :: sown (some ⟨kb, 0, none⟩) ks.length kc 1 (g.2.map shdr) :: sown (some ⟨sb, 0, none⟩) ss.length sc 1 (ss.map shdr) :: sown wa ws.length wc 2 (ws.flatMap putc) :: blks ls :: R) (fun g => ss.length - g.1) (0, ks)
      ⟨Nat.zero_le _, by show ks.length = ss.length; omega, fun j hj => absurd hj (Nat.not_lt_zero _)⟩ (.cons rfl (.cons rfl .nil)) (fun w hO => hO) ?_
    rintro ⟨i, k2⟩ ⟨hi, hk2, hj⟩
    dsimp only at hi hk2 hj ⊢
    by_cases his : i < ss.length
    · refine sg_front1 ?_
      refine sg_open (fun w hO => own_block (by omega) hO) ?_
      rintro ⟨g, cur⟩ ⟨ha, g1, g2, g3, g4⟩
      simp only [Option.some.injEq, Addr.mk.injEq, and_true] at ha
      subst ha
      dsimp only at g3 g4 ⊢
      repeat' (first | refine sg_wo ?_ | refine sg_ps (ps_move rfl) rfl ?_ | refine sg_seq ?_ | refine sg_region ?_ | refine sg_nil ?_ | refine sg_then ?_ | refine sg_ps (ps_fieldAddr rfl) rfl ?_ | refine sg_ps (ps_nilCheck rfl) rfl ?_ | refine sg_load 1 rfl rfl rfl rfl ?_ | refine sg_ps (ps_bin rfl rfl inferInstance) rfl ?_ | refine sg_ps (ps_len rfl) rfl ?_ | refine sg_block ?_ | refine sg_skip ?_ | (refine sg_cond_dec rfl (fun hg => ?_) (fun hg => ?_) <;> first | (exfalso; omega) | (exact absurd rfl hg) | skip))
      refine sg_drawK (blk r [.slice (some ⟨kb, 0, none⟩) ks.length kc, .slice (some ⟨sb, 0, none⟩) ss.length sc, .slice wa ws.length wc, i64 D.fuse, .bool false, i64 (D.writes : Int), i64 (D.syncs : Int)] :: sown (some ⟨sb, 0, none⟩) ss.length sc 1 (ss.map shdr) :: R) [0, 1, 2, 4, 5, 6, 7, 9, 3, 8, 10, 11, 12, 13] (by kernel_rfl) (by kernel_rfl) (fun w hO => hO.pickT [_, _, _, _, _] [1, 2] (by decide)) ?_
      repeat' (first | refine sk_pure rfl rfl (ps_move rfl) rfl ?_ | refine sk_pure rfl rfl (ps_nilCheck rfl) rfl ?_ | refine sk_pure rfl rfl (ps_fieldAddr rfl) rfl ?_ | refine sk_pure rfl rfl (ps_indexAddr rfl rfl rfl (by omega)) rfl ?_ | refine sk_load 0 rfl rfl rfl rfl rfl ?_)
      refine sk_load_rd rfl rfl ((rd_sown 1 rfl (fun _ _ h => h)).get i (v := shdr (ss[i]'his)) (by rw [List.getElem?_map, List.getElem?_eq_getElem his]; rfl)) rfl ?_
      repeat' (first | refine sk_pure rfl rfl (ps_indexAddr rfl rfl rfl (by omega)) rfl ?_ | refine sk_eff rfl rfl ?_)
      refine sg_store [] rfl rfl rfl (by omega) ?_
      refine sk_end (by kernel_rfl) ?_
      refine sk_nil ?_
      rw [List.nil_append]
      refine sg_own_mk (m := ks.length) (c := kc) (sz := 1) (xs := (k2.set i (ss[i]'his)).map shdr) (by omega) (by simpa [maxLen] using g2) (by rw [List.length_set]; exact g3) (by
        rw [show 0 + i * 1 = i by omega, set_take1 g4, List.map_set]) ?_
      repeat' (first | refine sg_wo ?_ | refine sg_ps (ps_move rfl) rfl ?_ | refine sg_ps (ps_assign rfl) rfl ?_ | refine sg_region ?_ | refine sg_nil ?_ | refine sg_then ?_ | refine sg_ps (ps_add64 rfl rfl (by omega)) rfl ?_ | refine ex_block_normal ?_)
      refine ex_mid (i + 1, k2.set i (ss[i]'his)) ⟨by show ss.length - (i + 1) < ss.length - i; omega, by show i + 1 ≤ ss.length; omega, by show (k2.set i _).length = _; rw [List.length_set]; exact hk2, fun j hj2 => ?_⟩ (.cons rfl (.cons rfl .nil)) (fun w hO => hO.front1)
      show (k2.set i (ss[i]'his))[j]? = ss[j]?
      by_cases hji : j = i
      · subst hji
        rw [List.getElem?_set_self (by omega), List.getElem?_eq_getElem his]
      · rw [List.getElem?_set_ne (fun e => hji e.symm)]
        have hj3 : j < i + 1 := hj2
        exact hj j (by omega)
    · have hks : k2 = ss := by
        refine List.ext_getElem? (fun j => ?_)
        by_cases hjs : j < ss.length
        · exact hj j (by omega)
        · rw [List.getElem?_eq_none (by omega), List.getElem?_eq_none (by omega)]
      subst hks
      repeat' (first | refine sg_wo ?_ | refine sg_ps (ps_move rfl) rfl ?_ | refine sg_ps (ps_assign rfl) rfl ?_ | refine sg_seq ?_ | refine sg_region ?_ | refine sg_nil ?_ | refine sg_then ?_ | refine sg_ps (ps_fieldAddr rfl) rfl ?_ | refine sg_ps (ps_nilCheck rfl) rfl ?_ | refine sg_load 0 rfl rfl rfl rfl ?_ | refine sg_ps (ps_add64 rfl rfl (by omega)) rfl ?_ | refine sg_ps (ps_bin rfl rfl inferInstance) rfl ?_ | refine sg_ps (ps_len rfl) rfl ?_ | refine sg_ret ?_ | refine sg_exit ?_ | refine ex_then_exit ?_ | refine ex_block_hit ?_ | refine sg_store [] rfl rfl rfl (of_decide_eq_true rfl) ?_ | (refine sg_cond_dec rfl (fun hg => ?_) (fun hg => ?_) <;> first | (exfalso; omega) | (exact absurd rfl hg) | skip))
      refine ex_ret1 rfl rfl () rfl True.intro (fun w hO => ?_)
      have e4 : rdcells { D with wait := [], syncs := D.syncs + 1 } ⟨k2, k2, [], kb, kc, sb, sc, none, 0, ls⟩ = [.slice (some ⟨kb, 0, none⟩) k2.length kc, .slice (some ⟨sb, 0, none⟩) k2.length sc, .slice none 0 0, i64 D.fuse, .bool false, i64 (D.writes : Int), i64 ((D.syncs + 1 : Nat) : Int)] := by simp [rdcells, rfuse, hdf]
      refine RefRep.shut ⟨k2, k2, [], kb, kc, sb, sc, none, 0, ls⟩ ⟨⟨hx.dok.n, hx.dok.sec, by simp, hx.dok.fz⟩, hx.seen, hx.seen, rfl, hx.sin, hx.sin, fun p hp => by simp at hp⟩ ?_
      rw [e4, show ([] : List (Nat × Sc)).length = 0 from rfl]
      have hkk : ks.length = k2.length := by omega
      rw [hkk] at hO
      have h2 := (own_nil (sz := 2) hO).pickT [_, _, _, _, _, _] [1, 2, 3, 0, 5] (by decide)
      exact h2
/- Crash. -/
theorem fore_app (keep : List Int) (m : List (Nat × List UInt8 × List UInt8)) : ∀ (l : List (Nat × List UInt8 × List UInt8)) (seen : List (List UInt8)) (k : Nat), fore seen keep k (l ++ m) = fore (fore seen keep k l) keep (k + l.length) m
  | [], _, _ => rfl
  | p :: l, seen, k => by
    simp only [List.cons_append, fore, List.length_cons]
    rw [fore_app keep m l]
    congr 1; omega
theorem fore_out (keep : List Int) : ∀ (l : List (Nat × List UInt8 × List UInt8)) (seen : List (List UInt8)) (k : Nat), keep.length ≤ k → fore seen keep k l = seen
  | [], _, _, _ => rfl
  | p :: l, seen, k, h => by
    have e : keepOf keep k = false := by unfold keepOf; rw [List.getElem?_eq_none h]
    simp only [fore]
    rw [e, if_neg (by decide), fore_out keep l seen (k + 1) (by omega)]
theorem fore_take {keep : List Int} {w : List (Nat × List UInt8 × List UInt8)} {seen : List (List UInt8)} {j : Nat} (h : w.length ≤ j ∨ keep.length ≤ j) (hj : j ≤ w.length) : fore seen keep 0 (w.take j) = fore seen keep 0 w := by
  rcases h with h | h
  · rw [List.take_of_length_le h]
  · have e := fore_app keep (w.drop j) (w.take j) seen 0
    rw [List.take_append_drop, fore_out keep (w.drop j) _ _ (by rw [List.length_take]; omega)] at e
    exact e.symm
theorem crash_ok {D : DS} (h : D.ok) (keep : List Int) : (D.crash keep).ok := by
  have hb := back_sec h.sec D.wait (fun p hp => (h.wt p hp).2.1)
  have hf := fore_sec keep D.wait (back D.seen D.wait) 0 hb (fun p hp => (h.wt p hp).2.2)
  refine ⟨?_, hf, fun p hp => by have hp' : p ∈ ([] : List (Nat × List UInt8 × List UInt8)) := hp; simp at hp', by show (-1 : Int) ≤ -1 ∧ (-1 : Int) ≤ _; decide⟩
  have e : (D.crash keep).seen.length = D.seen.length := by simp only [DS.crash, fore_length, back_length]
  rw [e]; exact h.n
theorem rcrash_tri (r : Nat) (D : DS) (keep : List Int) (ka : Option Addr) (kcap : Nat) (R : List HP) (hr : ∀ L, Rd W (L ++ R) ka (keep.map (Value.int .i64))) (hkl : keep.length ≤ 1152921504606846976) (hwl : D.wait.length ≤ 1000000) :
    Tri Try.prog W 37 [dp r, .slice ka keep.length kcap] (RefRep r D :: R) (X := Unit) (fun _ => .tuple #[]) (fun _ => True) (fun _ => RefRep r (D.crash keep) :: R) := by
  refine tri_enter2 Try.func37 rfl Try.ntmps37 rfl ?_
  refine RefRep.open fun x hx => ?_
  obtain ⟨ks, ss, ws, kb, kc, sb, sc, wa, wc, ls⟩ := x
  obtain ⟨l1, l2, l3⟩ := hx.lens
  dsimp only at l1 l2 l3
  have hn := hx.dok.n
  have e2 : rdcells D ⟨ks, ss, ws, kb, kc, sb, sc, wa, wc, ls⟩ = [.slice (some ⟨kb, 0, none⟩) ks.length kc, .slice (some ⟨sb, 0, none⟩) ss.length sc, .slice wa ws.length wc, i64 (rfuse D), .bool D.down, i64 (D.writes : Int), i64 (D.syncs : Int)] := rfl
  rw [e2]
  generalize rfuse D = fu
  generalize hdn : D.down = dn
  have hwget : ∀ j (h : j < ws.length), ∃ p, D.wait[j]? = some p ∧ p.1 = ws[j].1 ∧ p.2.2 = ws[j].2.2 ∧ ws[j].1 < ks.length := by
    intro j h
    have h9 := congrArg (fun l => l[j]?) hx.wait
    simp only [List.getElem?_map, List.getElem?_eq_getElem h, List.getElem?_eq_getElem (show j < D.wait.length by omega), Option.map_some, Option.some.injEq, Prod.mk.injEq] at h9
    have hw := (hx.dok.wt _ (List.getElem_mem (show j < D.wait.length by omega))).1
    exact ⟨_, List.getElem?_eq_getElem (by omega), h9.1.symm, h9.2.symm, by rw [h9.1]; omega⟩
  refine sg_seq_mid (γ := List Sc) (fun g => g.length = ks.length ∧ g.map (·.2) = fore (back D.seen D.wait) keep 0 D.wait ∧ ∀ y ∈ g, (y.1, y.2.map bv) ∈ ls) (fun _ => [(0, dp r)])
    (fun g => blk r [.slice (some ⟨kb, 0, none⟩) ks.length kc, .slice (some ⟨sb, 0, none⟩) ss.length sc, .slice wa ws.length wc, i64 fu, .bool dn, i64 (D.writes : Int), i64 (D.syncs : Int)] :: sown (some ⟨kb, 0, none⟩) ks.length kc 1 (g.map shdr) :: sown (some ⟨sb, 0, none⟩) ss.length sc 1 (ss.map shdr) :: sown wa ws.length wc 2 (ws.flatMap putc) :: blks ls :: R) ?_ ?_
  · skip
    repeat' (first | refine sg_wo ?_ | refine sg_ps (ps_assign rfl) rfl ?_ | refine sg_seq ?_ | refine sg_region ?_ | refine sg_nil ?_ | refine sg_then ?_ | refine sg_block ?_)
    refine sg_loop (γ := Nat × List Sc) (fun g => g.1 ≤ ws.length ∧ g.2.length = ks.length ∧ g.2.map (·.2) = fore (back D.seen D.wait) keep 0 (D.wait.take g.1) ∧ ∀ y ∈ g.2, (y.1, y.2.map bv) ∈ ls) (fun g => [(0, dp r), (1, .slice ka keep.length kcap), (4, i64 g.1)])
      (fun g => blk r [.slice (some ⟨kb, 0, none⟩) ks.length kc, .slice (some ⟨sb, 0, none⟩) ss.length sc, .slice wa ws.length wc, i64 fu, .bool dn, i64 (D.writes : Int), i64 (D.syncs : Int)] :: sown (some ⟨kb, 0, none⟩) ks.length kc 1 (g.2.map shdr) :: sown (some ⟨sb, 0, none⟩) ss.length sc 1 (ss.map shdr) :: sown wa ws.length wc 2 (ws.flatMap putc) :: blks ls :: R) (fun g => ws.length - g.1) (0, ks)
      ⟨Nat.zero_le _, rfl, by rw [List.take_zero]; exact hx.kept, hx.kin⟩ (.cons rfl (.cons rfl (.cons rfl .nil))) (fun w hO => hO) ?_
    rintro ⟨j, k2⟩ ⟨hj, hk2, hm, hin⟩
    dsimp only at hj hk2 hm hin ⊢
    by_cases hc : j < ws.length ∧ j < keep.length
    · obtain ⟨hjw, hjk⟩ := hc
      obtain ⟨p, hp, hp1, hp2, hp3⟩ := hwget j hjw
      have hkr : ∀ L, Rd W (L ++ R) ka (keep.map (Value.int .i64)) := hr
      have hstep : fore (back D.seen D.wait) keep 0 (D.wait.take (j + 1)) = if keepOf keep j = true then (fore (back D.seen D.wait) keep 0 (D.wait.take j)).set p.1 p.2.2 else fore (back D.seen D.wait) keep 0 (D.wait.take j) := by
        rw [List.take_add_one, hp, Option.toList_some, fore_snoc, List.length_take, Nat.zero_add, Nat.min_eq_left (by omega)]
      refine sg_rd_some (hkr [_, _, _, _, _]) (by intro e; have := congrArg List.length e; rw [List.length_map, List.length_nil] at this; omega) ?_
      rintro cb co rfl
      repeat' (first | refine sg_wo ?_ | refine sg_ps (ps_move rfl) rfl ?_ | refine sg_seq ?_ | refine sg_region ?_ | refine sg_nil ?_ | refine sg_then ?_ | refine sg_ps (ps_fieldAddr rfl) rfl ?_ | refine sg_ps (ps_nilCheck rfl) rfl ?_ | refine sg_load 0 rfl rfl rfl rfl ?_ | refine sg_ps (ps_bin rfl rfl inferInstance) rfl ?_ | refine sg_guard_yes rfl rfl ?_ | refine sg_ps (ps_pick_t rfl rfl) rfl ?_ | refine sg_ps (ps_len rfl) rfl ?_ | refine sg_ps (ps_indexAddr rfl rfl rfl (by omega)) rfl ?_ | refine sg_block ?_ | refine sg_skip ?_ | (refine sg_guard_dec rfl rfl (fun hg => ?_) (fun hg => ?_) <;> first | (exfalso; omega) | (exact absurd rfl hg) | skip) | (refine sg_cond_dec rfl (fun hg => ?_) (fun hg => ?_) <;> first | (exfalso; omega) | (exact absurd rfl hg) | skip))
      refine sg_load_rd rfl ((hkr [_, _, _, _, _]).get j (v := i64 (keep[j]'hjk)) (by rw [List.getElem?_map, List.getElem?_eq_getElem hjk]; rfl)) rfl ?_
      by_cases hko : keepOf keep j = true
      · have hne : ¬ (keep[j]'hjk).tmod 2 = 0 := by
          intro e; unfold keepOf at hko; rw [List.getElem?_eq_getElem hjk] at hko; simp [e] at hko
        rw [if_pos hko] at hstep
        repeat' (first | refine sg_wo ?_ | refine sg_nil ?_ | refine sg_then ?_ | refine sg_ps (ps_bin rfl rfl inferInstance) rfl ?_ | refine sg_ps (ps_rem rfl rfl (by decide)) rfl ?_ | (refine sg_cond_ndec rfl (fun hg => ?_) (fun hg => ?_) <;> first | (exfalso; omega) | (exact absurd rfl hg) | skip))
        refine sg_front1 ?_
        refine sg_open (fun w hO => own_block (by omega) hO) ?_
        rintro ⟨g, cur⟩ ⟨ha, g1, g2, g3, g4⟩
        simp only [Option.some.injEq, Addr.mk.injEq, and_true] at ha
        subst ha
        dsimp only at g3 g4 ⊢
        refine sg_front3 ?_
        refine sg_sown_some 0 rfl (by omega) ?_
        rintro wb rfl
        refine sg_drawK (blk r [.slice (some ⟨kb, 0, none⟩) ks.length kc, .slice (some ⟨sb, 0, none⟩) ss.length sc, .slice (some ⟨wb, 0, none⟩) ws.length wc, i64 fu, .bool dn, i64 (D.writes : Int), i64 (D.syncs : Int)] :: sown (some ⟨wb, 0, none⟩) ws.length wc 2 (ws.flatMap putc) :: R) [0, 1, 2, 4, 5, 6, 8, 12, 13, 14, 16, 3, 7, 9, 10, 11, 15, 17, 18, 19, 20, 21] (by kernel_rfl) (by kernel_rfl) (fun w hO => hO.pickT [_, _, _, _, _] [2, 0] (by decide)) ?_
        repeat' (first | refine sk_pure rfl rfl (ps_move rfl) rfl ?_ | refine sk_pure rfl rfl (ps_nilCheck rfl) rfl ?_ | refine sk_pure rfl rfl (ps_fieldAddr rfl) rfl ?_ | refine sk_pure rfl rfl (ps_indexAddr rfl rfl rfl (by omega)) rfl ?_ | refine sk_load 0 rfl rfl rfl rfl rfl ?_)
        refine sk_load_rd rfl rfl (rd_putc (j := j) (q := 0) 1 rfl (List.getElem?_eq_getElem hjw) (by decide) rfl) rfl ?_
        repeat' (first | refine sk_pure rfl rfl (ps_fieldAddr rfl) rfl ?_ | refine sk_pure rfl rfl (ps_indexAddr rfl rfl rfl (by omega)) rfl ?_ | refine sk_load 0 rfl rfl rfl rfl rfl ?_)
        refine sk_load_rd rfl rfl (rd_putc (j := j) (q := 1) 1 rfl (List.getElem?_eq_getElem hjw) (by decide) rfl) rfl ?_
        repeat' (first | refine sk_pure rfl rfl (ps_indexAddr rfl rfl rfl (by omega)) rfl ?_ | refine sk_eff rfl rfl ?_)
        refine sg_store [_] rfl rfl rfl (by omega) ?_
        refine sk_end (by kernel_rfl) ?_
        refine sk_nil ?_
        refine sg_front1 ?_
        refine sg_own_mk (m := ks.length) (c := kc) (sz := 1) (xs := (k2.set (ws[j]'hjw).1 (ws[j]'hjw).2).map shdr) (by omega) (by simpa [maxLen] using g2) (by rw [List.length_set]; exact g3) (by
          rw [show 0 + (ws[j]'hjw).1 * 1 = (ws[j]'hjw).1 by omega, set_take1 g4, List.map_set]) ?_
        repeat' (first | refine sg_wo ?_ | refine sg_ps (ps_move rfl) rfl ?_ | refine sg_ps (ps_assign rfl) rfl ?_ | refine sg_region ?_ | refine sg_nil ?_ | refine sg_then ?_ | refine sg_ps (ps_add64 rfl rfl (by omega)) rfl ?_ | refine ex_block_normal ?_)
        refine ex_mid (j + 1, k2.set (ws[j]'hjw).1 (ws[j]'hjw).2) ⟨by show ws.length - (j + 1) < ws.length - j; omega, by show j + 1 ≤ ws.length; omega, by show (k2.set _ _).length = _; rw [List.length_set]; exact hk2, ?_, ?_⟩ (.cons rfl (.cons rfl (.cons rfl .nil))) (fun w hO => hO.pickT [_, _, _, _, _] [2, 0, 3, 1, 4] (by decide))
        · show (k2.set _ _).map (·.2) = fore (back D.seen D.wait) keep 0 (D.wait.take (j + 1))
          rw [hstep, List.map_set, hm, hp1, hp2]
        · intro y hy
          rcases List.mem_or_eq_of_mem_set (show y ∈ k2.set _ _ from hy) with h1 | h1
          · exact hin y h1
          · rw [h1]; exact hx.win _ (List.getElem_mem hjw)
      · have heq : (keep[j]'hjk).tmod 2 = 0 := by
          unfold keepOf at hko; rw [List.getElem?_eq_getElem hjk] at hko; simpa using hko
        rw [if_neg hko] at hstep
        repeat' (first | refine sg_wo ?_ | refine sg_ps (ps_move rfl) rfl ?_ | refine sg_ps (ps_assign rfl) rfl ?_ | refine sg_region ?_ | refine sg_nil ?_ | refine sg_then ?_ | refine sg_ps (ps_add64 rfl rfl (by omega)) rfl ?_ | refine sg_ps (ps_bin rfl rfl inferInstance) rfl ?_ | refine sg_ps (ps_rem rfl rfl (by decide)) rfl ?_ | refine sg_skip ?_ | refine ex_block_normal ?_ | (refine sg_cond_ndec rfl (fun hg => ?_) (fun hg => ?_) <;> first | (exfalso; omega) | (exact absurd rfl hg) | skip))
        exact ex_mid (j + 1, k2) ⟨by show ws.length - (j + 1) < ws.length - j; omega, by show j + 1 ≤ ws.length; omega, hk2, by show k2.map (·.2) = fore (back D.seen D.wait) keep 0 (D.wait.take (j + 1)); rw [hstep]; exact hm, hin⟩ (.cons rfl (.cons rfl (.cons rfl .nil))) (fun w hO => hO)
    · have hall : k2.map (·.2) = fore (back D.seen D.wait) keep 0 D.wait := by rw [hm]; exact fore_take (by omega) (by omega)
      repeat' (first | refine sg_wo ?_ | refine sg_ps (ps_move rfl) rfl ?_ | refine sg_seq ?_ | refine sg_region ?_ | refine sg_nil ?_ | refine sg_then ?_ | refine sg_ps (ps_fieldAddr rfl) rfl ?_ | refine sg_ps (ps_nilCheck rfl) rfl ?_ | refine sg_load 0 rfl rfl rfl rfl ?_ | refine sg_ps (ps_bin rfl rfl inferInstance) rfl ?_ | refine sg_cond_f rfl ?_ | refine sg_guard_yes rfl rfl ?_ | refine sg_guard_nf rfl rfl rfl ?_ | refine sg_ps (ps_pick_t rfl rfl) rfl ?_ | refine sg_ps (ps_pick_f rfl rfl) rfl ?_ | refine sg_ps (ps_len rfl) rfl ?_ | refine sg_exit ?_ | refine ex_then_exit ?_ | refine ex_block_hit ?_ | (refine sg_guard_dec rfl rfl (fun hg => ?_) (fun hg => ?_) <;> first | (exfalso; omega) | (exact absurd rfl hg) | skip) | (refine sg_cond_dec rfl (fun hg => ?_) (fun hg => ?_) <;> first | (exfalso; omega) | (exact absurd rfl hg) | skip))
      all_goals exact ex_mid k2 ⟨hk2, hall, hin⟩ (.cons rfl .nil) (fun w hO => hO)
  · rintro k2 ⟨hk2, hall, hin⟩
    repeat' (first | refine sg_wo ?_ | refine sg_ps (ps_assign rfl) rfl ?_ | refine sg_seq ?_ | refine sg_region ?_ | refine sg_nil ?_ | refine sg_then ?_ | refine sg_block ?_)
    refine sg_loop (γ := Nat × List Sc) (fun g => g.1 ≤ k2.length ∧ g.2.length = k2.length ∧ ∀ j, j < g.1 → g.2[j]? = k2[j]?) (fun g => [(0, dp r), (5, i64 g.1)])
      (fun g => blk r [.slice (some ⟨kb, 0, none⟩) ks.length kc, .slice (some ⟨sb, 0, none⟩) ss.length sc, .slice wa ws.length wc, i64 fu, .bool dn, i64 (D.writes : Int), i64 (D.syncs : Int)] :: sown (some ⟨kb, 0, none⟩) ks.length kc 1 (k2.map shdr) :: sown (some ⟨sb, 0, none⟩) ss.length sc 1 (g.2.map shdr) :: sown wa ws.length wc 2 (ws.flatMap putc) :: blks ls :: R) (fun g => k2.length - g.1) (0, ss)
      ⟨Nat.zero_le _, by show ss.length = k2.length; omega, fun j hj => absurd hj (Nat.not_lt_zero _)⟩ (.cons rfl (.cons rfl .nil)) (fun w hO => hO) ?_
    rintro ⟨i, s2⟩ ⟨hi, hs2, hj⟩
    dsimp only at hi hs2 hj ⊢
    by_cases his : i < k2.length
    · refine sg_front2 ?_
      refine sg_open (fun w hO => own_block (by omega) hO) ?_
      rintro ⟨g, cur⟩ ⟨ha, g1, g2, g3, g4⟩
      simp only [Option.some.injEq, Addr.mk.injEq, and_true] at ha
      subst ha
      dsimp only at g3 g4 ⊢
      repeat' (first | refine sg_wo ?_ | refine sg_ps (ps_move rfl) rfl ?_ | refine sg_seq ?_ | refine sg_region ?_ | refine sg_nil ?_ | refine sg_then ?_ | refine sg_ps (ps_fieldAddr rfl) rfl ?_ | refine sg_ps (ps_nilCheck rfl) rfl ?_ | refine sg_load 1 rfl rfl rfl rfl ?_ | refine sg_ps (ps_bin rfl rfl inferInstance) rfl ?_ | refine sg_ps (ps_len rfl) rfl ?_ | refine sg_block ?_ | refine sg_skip ?_ | (refine sg_cond_dec rfl (fun hg => ?_) (fun hg => ?_) <;> first | (exfalso; omega) | (exact absurd rfl hg) | skip))
      refine sg_drawK (blk r [.slice (some ⟨kb, 0, none⟩) ks.length kc, .slice (some ⟨sb, 0, none⟩) ss.length sc, .slice wa ws.length wc, i64 fu, .bool dn, i64 (D.writes : Int), i64 (D.syncs : Int)] :: sown (some ⟨kb, 0, none⟩) ks.length kc 1 (k2.map shdr) :: R) [0, 1, 2, 4, 5, 6, 7, 9, 3, 8, 10, 11, 12, 13] (by kernel_rfl) (by kernel_rfl) (fun w hO => hO.pickT [_, _, _, _, _] [1, 2] (by decide)) ?_
      repeat' (first | refine sk_pure rfl rfl (ps_move rfl) rfl ?_ | refine sk_pure rfl rfl (ps_nilCheck rfl) rfl ?_ | refine sk_pure rfl rfl (ps_fieldAddr rfl) rfl ?_ | refine sk_pure rfl rfl (ps_indexAddr rfl rfl rfl (by omega)) rfl ?_ | refine sk_load 0 rfl rfl rfl rfl rfl ?_)
      refine sk_load_rd rfl rfl ((rd_sown 1 rfl (fun _ _ h => h)).get i (v := shdr (k2[i]'his)) (by rw [List.getElem?_map, List.getElem?_eq_getElem his]; rfl)) rfl ?_
      repeat' (first | refine sk_pure rfl rfl (ps_indexAddr rfl rfl rfl (by omega)) rfl ?_ | refine sk_eff rfl rfl ?_)
      refine sg_store [] rfl rfl rfl (by omega) ?_
      refine sk_end (by kernel_rfl) ?_
      refine sk_nil ?_
      rw [List.nil_append]
      refine sg_own_mk (m := ss.length) (c := sc) (sz := 1) (xs := (s2.set i (k2[i]'his)).map shdr) (by omega) (by simpa [maxLen] using g2) (by rw [List.length_set]; exact g3) (by
        rw [show 0 + i * 1 = i by omega, set_take1 g4, List.map_set]) ?_
      repeat' (first | refine sg_wo ?_ | refine sg_ps (ps_move rfl) rfl ?_ | refine sg_ps (ps_assign rfl) rfl ?_ | refine sg_region ?_ | refine sg_nil ?_ | refine sg_then ?_ | refine sg_ps (ps_add64 rfl rfl (by omega)) rfl ?_ | refine ex_block_normal ?_)
      refine ex_mid (i + 1, s2.set i (k2[i]'his)) ⟨by show k2.length - (i + 1) < k2.length - i; omega, by show i + 1 ≤ k2.length; omega, by show (s2.set i _).length = _; rw [List.length_set]; exact hs2, fun j hj2 => ?_⟩ (.cons rfl (.cons rfl .nil)) (fun w hO => hO.pickT [_, _, _, _, _] [1, 2, 0, 3, 4] (by decide))
      show (s2.set i (k2[i]'his))[j]? = k2[j]?
      by_cases hji : j = i
      · subst hji
        rw [List.getElem?_set_self (by omega), List.getElem?_eq_getElem his]
      · rw [List.getElem?_set_ne (fun e => hji e.symm)]
        have hj3 : j < i + 1 := hj2
        exact hj j (by omega)
    · have hks : s2 = k2 := by
        refine List.ext_getElem? (fun j => ?_)
        by_cases hjs : j < k2.length
        · exact hj j (by omega)
        · rw [List.getElem?_eq_none (by omega), List.getElem?_eq_none (by omega)]
      subst hks
      repeat' (first | refine sg_wo ?_ | refine sg_ps (ps_move rfl) rfl ?_ | refine sg_seq ?_ | refine sg_region ?_ | refine sg_nil ?_ | refine sg_then ?_ | refine sg_ps (ps_fieldAddr rfl) rfl ?_ | refine sg_ps (ps_nilCheck rfl) rfl ?_ | refine sg_load 0 rfl rfl rfl rfl ?_ | refine sg_ps (ps_bin rfl rfl inferInstance) rfl ?_ | refine sg_ps (ps_len rfl) rfl ?_ | refine sg_exit ?_ | refine ex_then_exit ?_ | refine ex_block_hit ?_ | refine sg_store [] rfl rfl rfl (of_decide_eq_true rfl) ?_ | (refine sg_cond_dec rfl (fun hg => ?_) (fun hg => ?_) <;> first | (exfalso; omega) | (exact absurd rfl hg) | skip))
      refine ex_end0 rfl () rfl True.intro (fun w hO => ?_)
      have e4 : rdcells (D.crash keep) ⟨s2, s2, [], kb, kc, sb, sc, none, 0, ls⟩ = [.slice (some ⟨kb, 0, none⟩) s2.length kc, .slice (some ⟨sb, 0, none⟩) s2.length sc, .slice none 0 0, i64 (-1), .bool false, i64 (D.writes : Int), i64 (D.syncs : Int)] := rfl
      refine RefRep.shut ⟨s2, s2, [], kb, kc, sb, sc, none, 0, ls⟩ ⟨crash_ok hx.dok keep, hall, hall, rfl, hin, hin, fun p hp => by simp at hp⟩ ?_
      rw [e4, show ([] : List (Nat × Sc)).length = 0 from rfl]
      have hkk : ks.length = s2.length := by omega
      have hss : ss.length = s2.length := by omega
      rw [hkk, hss] at hO
      have h2 := (own_nil (sz := 2) hO).pickT [_, _, _, _, _, _] [1, 2, 3, 0, 5] (by decide)
      exact h2
/- Write. -/
theorem rback_snoc (p : Nat × List UInt8 × List UInt8) : ∀ (l : List (Nat × List UInt8 × List UInt8)) (seen : List (List UInt8)), back seen (l ++ [p]) = back (seen.set p.1 p.2.1) l
  | [], seen => rfl
  | q :: l, seen => by simp only [List.cons_append, back]; rw [rback_snoc p l]
def rdput (D : DS) (k : Nat) (bs : List UInt8) : DS := { D with seen := D.seen.set k (pad bs), wait := D.wait ++ [(k, D.seen.getD k [], pad bs)], fuse := if 0 < D.fuse then D.fuse - 1 else D.fuse, writes := D.writes + 1 }
theorem rdput_ok {D : DS} (h : D.ok) {k : Nat} (hk : k < D.seen.length) {bs : List UInt8} (hb : bs.length ≤ 64) : (rdput D k bs).ok := by
  have hg : (D.seen.getD k []).length = 64 := by rw [List.getD_eq_getElem?_getD, List.getElem?_eq_getElem hk]; exact h.sec _ (List.getElem_mem hk)
  have hsl : (rdput D k bs).seen.length = D.seen.length := by simp [rdput]
  refine ⟨by rw [hsl]; exact h.n, fun s hs => ?_, fun p hp => ?_, ?_⟩
  · rcases List.mem_or_eq_of_mem_set (show s ∈ D.seen.set k (pad bs) from hs) with h1 | h1
    · exact h.sec s h1
    · rw [h1]; exact pad_length hb
  · show p.1 < (D.seen.set k (pad bs)).length ∧ _
    rw [List.length_set]
    rcases List.mem_append.1 (show p ∈ D.wait ++ [(k, D.seen.getD k [], pad bs)] from hp) with h1 | h1
    · exact h.wt p h1
    · rw [List.mem_singleton.1 h1]; exact ⟨hk, hg, pad_length hb⟩
  · have hz := h.fz
    show -1 ≤ (if 0 < D.fuse then D.fuse - 1 else D.fuse) ∧ (if 0 < D.fuse then D.fuse - 1 else D.fuse) ≤ _
    split <;> omega
theorem fill_step (bs : List UInt8) (k : Nat) (hk : k < bs.length) (h64 : bs.length ≤ 64) : ((bs.take k ++ List.replicate (64 - k) 0).map bv).set k (bv bs[k]) = (bs.take (k + 1) ++ List.replicate (64 - (k + 1)) 0).map bv := by
  rw [← List.map_set]
  congr 1
  rw [List.set_append_right _ _ (by rw [List.length_take]; omega), List.length_take, Nat.min_eq_left (by omega), Nat.sub_self, show 64 - k = (64 - (k + 1)) + 1 by omega, List.replicate_succ, List.set_cons_zero, List.take_add_one, List.getElem?_eq_getElem hk, Option.toList_some, List.append_assoc]
  rfl
theorem rwrite_tri (r : Nat) (D : DS) (i : Int) (bs : List UInt8) (ba : Option Addr) (bc : Nat) (R : List HP) (hb : D.writes ≤ 1000000) (hw : D.wait.length ≤ 1000000) (hr : ∀ L, Rd W (L ++ R) ba (bs.map bv)) (hbl : bs.length ≤ 9223372036854775807) :
    Tri Try.prog W 36 [dp r, i64 i, .slice ba bs.length bc] (RefRep r D :: R) (X := Unit) (fun _ => i64 (D.write i bs).1) (fun _ => True) (fun _ => RefRep r (D.write i bs).2 :: R) := by
  refine tri_enter3 Try.func36 rfl Try.ntmps36 rfl ?_
  refine RefRep.open fun x hx => ?_
  obtain ⟨ks, ss, ws, kb, kc, sb, sc, wa, wc, ls⟩ := x
  obtain ⟨l1, l2, l3⟩ := hx.lens
  dsimp only at l1 l2 l3
  have hn := hx.dok.n
  have e2 : rdcells D ⟨ks, ss, ws, kb, kc, sb, sc, wa, wc, ls⟩ = [.slice (some ⟨kb, 0, none⟩) ks.length kc, .slice (some ⟨sb, 0, none⟩) ss.length sc, .slice wa ws.length wc, i64 (rfuse D), .bool D.down, i64 (D.writes : Int), i64 (D.syncs : Int)] := rfl
  by_cases hbad : ¬ (0 ≤ i ∧ i < D.seen.length) ∨ 64 < bs.length
  · have e : D.write i bs = (1, D) := by unfold DS.write; rw [if_pos hbad]
    rw [e, e2]
    generalize rfuse D = fu at *
    generalize hdn : D.down = dn at *
    repeat' (first | refine sg_wo ?_ | refine sg_ps (ps_move rfl) rfl ?_ | refine sg_ps (ps_assign rfl) rfl ?_ | refine sg_seq ?_ | refine sg_region ?_ | refine sg_nil ?_ | refine sg_then ?_ | refine sg_ps (ps_fieldAddr rfl) rfl ?_ | refine sg_ps (ps_nilCheck rfl) rfl ?_ | refine sg_load 0 rfl rfl rfl rfl ?_ | refine sg_ps (ps_bin rfl rfl inferInstance) rfl ?_ | refine sg_cond_t rfl ?_ | refine sg_guard_yes rfl rfl ?_ | refine sg_guard_nt rfl rfl rfl ?_ | refine sg_ps (ps_pick_t rfl rfl) rfl ?_ | refine sg_ps (ps_pick_f rfl rfl) rfl ?_ | refine sg_ps (ps_len rfl) rfl ?_ | refine sg_ret ?_ | refine ex_then_ret ?_ | (refine sg_guard_dec rfl rfl (fun hg => ?_) (fun hg => ?_) <;> first | (exfalso; omega) | (exact absurd rfl hg) | skip) | (refine sg_cond_dec rfl (fun hg => ?_) (fun hg => ?_) <;> first | (exfalso; omega) | (exact absurd rfl hg) | skip))
    all_goals (refine ex_ret1 rfl rfl () rfl True.intro (fun w hO => ?_); rw [← e2] at hO; exact RefRep.shut _ hx hO)
  have hi0 : 0 ≤ i := by omega
  obtain ⟨k, rfl⟩ : ∃ k : Nat, i = (k : Int) := ⟨i.toNat, by omega⟩
  have hk : k < D.seen.length := by omega
  have h64 : bs.length ≤ 64 := by omega
  by_cases hd : D.down = true
  · have e : D.write (k : Int) bs = (4, D) := by unfold DS.write; rw [if_neg hbad, if_pos hd]
    have ef : rfuse D = -1 := if_pos hd
    rw [e, e2, ef, hd]
    rw [ef, hd] at e2
    repeat' (first | refine sg_wo ?_ | refine sg_ps (ps_move rfl) rfl ?_ | refine sg_ps (ps_assign rfl) rfl ?_ | refine sg_seq ?_ | refine sg_region ?_ | refine sg_nil ?_ | refine sg_then ?_ | refine sg_ps (ps_fieldAddr rfl) rfl ?_ | refine sg_ps (ps_nilCheck rfl) rfl ?_ | refine sg_load 0 rfl rfl rfl rfl ?_ | refine sg_ps (ps_bin rfl rfl inferInstance) rfl ?_ | refine sg_cond_t rfl ?_ | refine sg_cond_f rfl ?_ | refine sg_guard_yes rfl rfl ?_ | refine sg_ps (ps_pick_f rfl rfl) rfl ?_ | refine sg_ps (ps_len rfl) rfl ?_ | refine sg_skip ?_ | refine sg_ret ?_ | refine ex_then_ret ?_ | (refine sg_guard_dec rfl rfl (fun hg => ?_) (fun hg => ?_) <;> first | (exfalso; omega) | (exact absurd rfl hg) | skip) | (refine sg_cond_dec rfl (fun hg => ?_) (fun hg => ?_) <;> first | (exfalso; omega) | (exact absurd rfl hg) | skip))
    refine ex_ret1 rfl rfl () rfl True.intro (fun w hO => ?_)
    rw [← e2] at hO; exact RefRep.shut _ hx hO
  have hdf : D.down = false := by simpa using hd
  have ef : rfuse D = D.fuse := if_neg hd
  by_cases hf : D.fuse = 0
  · have e : D.write (k : Int) bs = (4, { D with down := true }) := by unfold DS.write; rw [if_neg hbad, if_neg hd, if_pos hf]
    rw [e, e2, ef, hdf, hf]
    repeat' (first | refine sg_wo ?_ | refine sg_ps (ps_move rfl) rfl ?_ | refine sg_ps (ps_assign rfl) rfl ?_ | refine sg_seq ?_ | refine sg_region ?_ | refine sg_nil ?_ | refine sg_then ?_ | refine sg_ps (ps_fieldAddr rfl) rfl ?_ | refine sg_ps (ps_nilCheck rfl) rfl ?_ | refine sg_load 0 rfl rfl rfl rfl ?_ | refine sg_ps (ps_bin rfl rfl inferInstance) rfl ?_ | refine sg_cond_t rfl ?_ | refine sg_guard_yes rfl rfl ?_ | refine sg_ps (ps_pick_f rfl rfl) rfl ?_ | refine sg_ps (ps_len rfl) rfl ?_ | refine sg_skip ?_ | refine sg_ret ?_ | refine ex_then_ret ?_ | refine sg_store [] rfl rfl rfl (of_decide_eq_true rfl) ?_ | (refine sg_guard_dec rfl rfl (fun hg => ?_) (fun hg => ?_) <;> first | (exfalso; omega) | (exact absurd rfl hg) | skip) | (refine sg_cond_dec rfl (fun hg => ?_) (fun hg => ?_) <;> first | (exfalso; omega) | (exact absurd rfl hg) | skip))
    refine ex_ret1 rfl rfl () rfl True.intro (fun w hO => ?_)
    exact RefRep.shut ⟨ks, ss, ws, kb, kc, sb, sc, wa, wc, ls⟩ ⟨⟨hx.dok.n, hx.dok.sec, hx.dok.wt, by show (-1 : Int) ≤ 0 ∧ (0 : Int) ≤ _; decide⟩, hx.kept, hx.seen, hx.wait, hx.kin, hx.sin, hx.win⟩ hO
  have e : D.write (k : Int) bs = (0, rdput D k bs) := by unfold DS.write; rw [if_neg hbad, if_neg hd, if_neg hf, Int.toNat_natCast]; rfl
  have hfz := hx.dok.fz
  have hpok := rdput_ok hx.dok hk h64
  rw [e, e2, ef, hdf]
  obtain ⟨fu, hfu⟩ : ∃ fu, fu = (if 0 < D.fuse then D.fuse - 1 else D.fuse) := ⟨_, rfl⟩
  skip
  refine sg_seq ?_
  repeat' (first | refine sg_wo ?_ | refine sg_ps (ps_assign rfl) rfl ?_ | refine sg_region ?_ | refine sg_nil ?_ | refine sg_then ?_)
  refine sg_seq ?_
  refine sg_seq ?_
  repeat' (first | refine sg_wo ?_ | refine sg_ps (ps_move rfl) rfl ?_ | refine sg_region ?_ | refine sg_nil ?_ | refine sg_then ?_ | refine sg_ps (ps_fieldAddr rfl) rfl ?_ | refine sg_ps (ps_nilCheck rfl) rfl ?_ | refine sg_load 0 rfl rfl rfl rfl ?_ | refine sg_ps (ps_bin rfl rfl inferInstance) rfl ?_ | refine sg_guard_yes rfl rfl ?_ | refine sg_ps (ps_pick_f rfl rfl) rfl ?_ | refine sg_ps (ps_len rfl) rfl ?_ | refine sg_skip ?_ | (refine sg_guard_dec rfl rfl (fun hg => ?_) (fun hg => ?_) <;> first | (exfalso; omega) | (exact absurd rfl hg) | skip) | (refine sg_cond_dec rfl (fun hg => ?_) (fun hg => ?_) <;> first | (exfalso; omega) | (exact absurd rfl hg) | skip))
  refine sg_seq ?_
  refine sg_seq ?_
  repeat' (first | refine sg_wo ?_ | refine sg_ps (ps_move rfl) rfl ?_ | refine sg_region ?_ | refine sg_nil ?_ | refine sg_then ?_ | refine sg_ps (ps_fieldAddr rfl) rfl ?_ | refine sg_ps (ps_nilCheck rfl) rfl ?_ | refine sg_load 0 rfl rfl rfl rfl ?_ | refine sg_ps (ps_bin rfl rfl inferInstance) rfl ?_ | refine sg_skip ?_ | (refine sg_cond_dec rfl (fun hg => ?_) (fun hg => ?_) <;> first | (exfalso; omega) | (exact absurd rfl hg) | skip))
  refine sg_seq ?_
  refine sg_seq ?_
  repeat' (first | refine sg_wo ?_ | refine sg_ps (ps_move rfl) rfl ?_ | refine sg_region ?_ | refine sg_nil ?_ | refine sg_then ?_ | refine sg_ps (ps_fieldAddr rfl) rfl ?_ | refine sg_ps (ps_nilCheck rfl) rfl ?_ | refine sg_load 0 rfl rfl rfl rfl ?_ | refine sg_cond_f rfl ?_ | refine sg_skip ?_)
  refine sg_seq_mid (γ := Unit) (fun _ => True) (fun _ => [(0, dp r), (1, i64 (k : Int)), (2, .slice ba bs.length bc)])
    (fun _ => blk r [.slice (some ⟨kb, 0, none⟩) ks.length kc, .slice (some ⟨sb, 0, none⟩) ss.length sc, .slice wa ws.length wc, i64 fu, .bool false, i64 (D.writes : Int), i64 (D.syncs : Int)] :: sown (some ⟨kb, 0, none⟩) ks.length kc 1 (ks.map shdr) :: sown (some ⟨sb, 0, none⟩) ss.length sc 1 (ss.map shdr) :: sown wa ws.length wc 2 (ws.flatMap putc) :: blks ls :: R) ?_ ?_
  · by_cases hp : 0 < D.fuse
    · rw [if_pos hp] at hfu
      subst hfu
      repeat' (first | refine sg_wo ?_ | refine sg_ps (ps_move rfl) rfl ?_ | refine sg_seq ?_ | refine sg_region ?_ | refine sg_nil ?_ | refine sg_then ?_ | refine sg_ps (ps_fieldAddr rfl) rfl ?_ | refine sg_ps (ps_nilCheck rfl) rfl ?_ | refine sg_load 0 rfl rfl rfl rfl ?_ | refine sg_ps (ps_sub64 rfl rfl (by omega)) rfl ?_ | refine sg_ps (ps_bin rfl rfl inferInstance) rfl ?_ | refine sg_store [] rfl rfl rfl (of_decide_eq_true rfl) ?_ | (refine sg_cond_dec rfl (fun hg => ?_) (fun hg => ?_) <;> first | (exfalso; omega) | (exact absurd rfl hg) | skip))
      exact ex_mid () trivial (.cons rfl (.cons rfl (.cons rfl .nil))) (fun w hO => hO)
    · rw [if_neg hp] at hfu
      subst hfu
      repeat' (first | refine sg_wo ?_ | refine sg_ps (ps_move rfl) rfl ?_ | refine sg_seq ?_ | refine sg_region ?_ | refine sg_nil ?_ | refine sg_then ?_ | refine sg_ps (ps_fieldAddr rfl) rfl ?_ | refine sg_ps (ps_nilCheck rfl) rfl ?_ | refine sg_load 0 rfl rfl rfl rfl ?_ | refine sg_ps (ps_bin rfl rfl inferInstance) rfl ?_ | refine sg_skip ?_ | (refine sg_cond_dec rfl (fun hg => ?_) (fun hg => ?_) <;> first | (exfalso; omega) | (exact absurd rfl hg) | skip))
      exact ex_mid () trivial (.cons rfl (.cons rfl (.cons rfl .nil))) (fun w hO => hO)
  · intro _ _
    repeat' (first | refine sg_wo ?_ | refine sg_seq ?_ | refine sg_region ?_)
    refine sg_make (ln := 64) (cn := 64) rfl rfl rfl rfl rfl (Nat.le_refl _) (by decide) (by decide) (fun fb => ?_)
    rw [show (List.range (64 * 1)).map (fun i => (Value.int .u8 0).cells[i % (Value.int .u8 0).cells.size]!) = ((bs.take 0 ++ List.replicate (64 - 0) (0 : UInt8)).map bv) from rzeros 64]
    repeat' (first | refine sg_wo ?_ | refine sg_ps (ps_assign rfl) rfl ?_ | refine sg_seq ?_ | refine sg_region ?_ | refine sg_nil ?_ | refine sg_then ?_ | refine sg_block ?_)
    refine sg_loop (γ := Nat) (fun g => g ≤ bs.length) (fun g => [(0, dp r), (1, i64 (k : Int)), (2, .slice ba bs.length bc), (7, .slice (some ⟨fb, 0, none⟩) 64 64), (8, i64 g)])
      (fun g => blk fb ((bs.take g ++ List.replicate (64 - g) (0 : UInt8)).map bv) :: blk r [.slice (some ⟨kb, 0, none⟩) ks.length kc, .slice (some ⟨sb, 0, none⟩) ss.length sc, .slice wa ws.length wc, i64 fu, .bool false, i64 (D.writes : Int), i64 (D.syncs : Int)] :: sown (some ⟨kb, 0, none⟩) ks.length kc 1 (ks.map shdr) :: sown (some ⟨sb, 0, none⟩) ss.length sc 1 (ss.map shdr) :: sown wa ws.length wc 2 (ws.flatMap putc) :: blks ls :: R) (fun g => bs.length - g) 0 (Nat.zero_le _)
      (.cons rfl (.cons rfl (.cons rfl (.cons rfl (.cons rfl .nil))))) (fun w hO => hO) ?_
    intro g hg0
    by_cases hgl : g < bs.length
    · refine sg_rd_some (hr [_, _, _, _, _, _]) (by intro e; have := congrArg List.length e; rw [List.length_map, List.length_nil] at this; omega) ?_
      rintro bb bo rfl
      repeat' (first | refine sg_wo ?_ | refine sg_ps (ps_move rfl) rfl ?_ | refine sg_seq ?_ | refine sg_region ?_ | refine sg_nil ?_ | refine sg_then ?_ | refine sg_ps (ps_bin rfl rfl inferInstance) rfl ?_ | refine sg_ps (ps_len rfl) rfl ?_ | refine sg_ps (ps_indexAddr rfl rfl rfl (by omega)) rfl ?_ | refine sg_block ?_ | refine sg_skip ?_ | (refine sg_cond_dec rfl (fun hg => ?_) (fun hg => ?_) <;> first | (exfalso; omega) | (exact absurd rfl hg) | skip))
      refine sg_load_rd rfl ((hr [_, _, _, _, _, _]).get g (v := bv (bs[g]'hgl)) (by rw [List.getElem?_map, List.getElem?_eq_getElem hgl]; rfl)) rfl ?_
      repeat' (first | refine sg_wo ?_ | refine sg_ps (ps_indexAddr rfl rfl rfl (by omega)) rfl ?_)
      refine sg_store [] rfl rfl rfl (by simp; omega) ?_
      rw [show 0 + g * 1 = g by omega, fill_step bs g hgl h64]
      repeat' (first | refine sg_wo ?_ | refine sg_ps (ps_move rfl) rfl ?_ | refine sg_ps (ps_assign rfl) rfl ?_ | refine sg_region ?_ | refine sg_nil ?_ | refine sg_then ?_ | refine sg_ps (ps_add64 rfl rfl (by omega)) rfl ?_ | refine ex_block_normal ?_)
      exact ex_mid (g + 1) ⟨by omega, by omega⟩ (.cons rfl (.cons rfl (.cons rfl (.cons rfl (.cons rfl .nil))))) (fun w hO => hO)
    · have hge : g = bs.length := by omega
      subst hge
      have ep : bs.take bs.length ++ List.replicate (64 - bs.length) (0 : UInt8) = pad bs := by rw [List.take_length]; rfl
      rw [ep]
      repeat' (first | refine sg_wo ?_ | refine sg_ps (ps_move rfl) rfl ?_ | refine sg_seq ?_ | refine sg_region ?_ | refine sg_nil ?_ | refine sg_then ?_ | refine sg_ps (ps_fieldAddr rfl) rfl ?_ | refine sg_ps (ps_nilCheck rfl) rfl ?_ | refine sg_load 1 rfl rfl rfl rfl ?_ | refine sg_ps (ps_bin rfl rfl inferInstance) rfl ?_ | refine sg_ps (ps_len rfl) rfl ?_ | refine sg_ps (ps_indexAddr rfl rfl rfl (by omega)) rfl ?_ | refine sg_exit ?_ | refine ex_then_exit ?_ | refine ex_block_hit ?_ | (refine sg_cond_dec rfl (fun hg => ?_) (fun hg => ?_) <;> first | (exfalso; omega) | (exact absurd rfl hg) | skip))
      refine sg_front3 ?_
      refine sg_open (fun w hO => own_block (by omega) hO) ?_
      rintro ⟨q, cur⟩ ⟨ha, g1, g2, g3, g4⟩
      simp only [Option.some.injEq, Addr.mk.injEq, and_true] at ha
      subst ha
      dsimp only at g3 g4 ⊢
      refine sg_store [] rfl rfl rfl (by omega) ?_
      rw [List.nil_append]
      refine sg_own_mk (m := ss.length) (c := sc) (sz := 1) (xs := (ss.set k (fb, pad bs)).map shdr) (by omega) (by simpa [maxLen] using g2) (by rw [List.length_set]; exact g3) (by
        rw [show 0 + k * 1 = k by omega, set_take1 g4, List.map_set]; rfl) ?_
      repeat' (first | refine sg_wo ?_ | refine sg_ps (ps_move rfl) rfl ?_ | refine sg_seq ?_ | refine sg_region ?_ | refine sg_nil ?_ | refine sg_then ?_ | refine sg_ps (ps_fieldAddr rfl) rfl ?_ | refine sg_ps (ps_nilCheck rfl) rfl ?_ | refine sg_load 2 rfl rfl rfl rfl ?_ | refine sg_ps (ps_build rfl rfl) rfl ?_)
      refine sg_buildSlice1 (sz := 2) (vs := putc (k, (fb, pad bs))) rfl (by decide) rfl rfl rfl (fun vb => ?_)
      refine sg_own (fun w hO => hO.pickT [_, _, _, _, _, _, _] [5, 0, 1, 2, 3, 4, 6] (by decide)) ?_
      repeat' (first | refine sg_wo ?_)
      refine sg_append (sz := 2) (m := 1) (news := putc (k, (fb, pad bs))) rfl rfl rfl rfl (by intro u hu; simp [putc] at hu; rcases hu with rfl | rfl <;> rfl) (rd_blk 1 rfl (fun j u h => by rw [Nat.zero_add]; exact h)) (by simp only [maxLen]; omega) (by omega) (fun a2 c2 => ?_)
      repeat' (first | refine sg_wo ?_ | refine sg_ps (ps_move rfl) rfl ?_ | refine sg_ps (ps_assign rfl) rfl ?_ | refine sg_seq ?_ | refine sg_region ?_ | refine sg_nil ?_ | refine sg_then ?_ | refine sg_ps (ps_fieldAddr rfl) rfl ?_ | refine sg_ps (ps_nilCheck rfl) rfl ?_ | refine sg_load 4 rfl rfl rfl rfl ?_ | refine sg_ps (ps_add64 rfl rfl (by omega)) rfl ?_ | refine sg_ret ?_ | refine sg_store [_, _, _, _] rfl rfl rfl (of_decide_eq_true rfl) ?_)
      refine ex_ret1 rfl rfl () rfl True.intro (fun w hO => ?_)
      have hlen : (ws ++ [(k, (fb, pad bs))]).length = ws.length + 1 := by simp
      refine RefRep.shut ⟨ks, ss.set k (fb, pad bs), ws ++ [(k, (fb, pad bs))], kb, kc, sb, sc, a2, c2, (fb, (pad bs).map bv) :: ls⟩ ?_ ?_
      · refine ⟨hpok, ?_, ?_, ?_, fun y hy => List.mem_cons_of_mem _ (hx.kin y hy), fun y hy => ?_, fun p hp => ?_⟩
        · show ks.map (·.2) = back (D.seen.set k (pad bs)) (D.wait ++ [(k, D.seen.getD k [], pad bs)])
          rw [rback_snoc, hx.kept, List.set_set]
          congr 1
          rw [List.getD_eq_getElem?_getD, List.getElem?_eq_getElem hk]
          exact (List.set_getElem_self hk).symm
        · show (ss.set k (fb, pad bs)).map (·.2) = D.seen.set k (pad bs)
          rw [List.map_set, hx.seen]
        · show (ws ++ [(k, (fb, pad bs))]).map (fun p => (p.1, p.2.2)) = (D.wait ++ [(k, D.seen.getD k [], pad bs)]).map (fun p => (p.1, p.2.2))
          rw [List.map_append, List.map_append, hx.wait]; rfl
        · rcases List.mem_or_eq_of_mem_set (show y ∈ ss.set k (fb, pad bs) from hy) with h1 | h1
          · exact List.mem_cons_of_mem _ (hx.sin y h1)
          · rw [h1]; exact List.mem_cons_self
        · rcases List.mem_append.1 (show p ∈ ws ++ [(k, (fb, pad bs))] from hp) with h1 | h1
          · exact List.mem_cons_of_mem _ (hx.win p h1)
          · rw [List.mem_singleton.1 h1]; exact List.mem_cons_self
      · have e5 : rdcells (rdput D k bs) ⟨ks, ss.set k (fb, pad bs), ws ++ [(k, (fb, pad bs))], kb, kc, sb, sc, a2, c2, (fb, (pad bs).map bv) :: ls⟩ = [.slice (some ⟨kb, 0, none⟩) ks.length kc, .slice (some ⟨sb, 0, none⟩) ss.length sc, .slice a2 (ws.length + 1) c2, i64 fu, .bool false, i64 ((D.writes + 1 : Nat) : Int), i64 (D.syncs : Int)] := by
          have : rfuse (rdput D k bs) = fu := by rw [hfu]; exact if_neg hd
          simp only [rdcells, this, hlen, List.length_set]
          simp only [rdput, hdf]
        rw [e5]
        dsimp only
        rw [List.length_set, hlen, List.flatMap_append]
        have h1 := own_blks_push (hO.pickT [_, _, _, _, _, _, _] [3, 6, 4, 5, 2, 0] (by decide))
        exact h1.pickT [_, _, _, _, _] [1, 2, 3, 4, 0] (by decide)
/- New. -/
structure NX where
  ks : List Sc
  ss : List Sc
  ka : Option Addr
  kc : Nat
  sa : Option Addr
  sc : Nat
  ls : List (Nat × List Value)
theorem rnew_bad (i : Int) (R : List HP) (h : i < 8 ∨ 4096 < i) :
    Tri Try.prog W 26 [i64 i] R (X := Unit) (fun _ => .tuple #[.pointer none, i64 1]) (fun _ => True) (fun _ => R) := by
  refine tri_enter1 Try.func26 rfl Try.ntmps26 rfl ?_
  repeat' (first | refine sg_wo ?_ | refine sg_ps (ps_move rfl) rfl ?_ | refine sg_ps (ps_assign rfl) rfl ?_ | refine sg_seq ?_ | refine sg_region ?_ | refine sg_nil ?_ | refine sg_then ?_ | refine sg_ps (ps_bin rfl rfl inferInstance) rfl ?_ | refine sg_cond_t rfl ?_ | refine sg_guard_yes rfl rfl ?_ | refine sg_guard_nt rfl rfl rfl ?_ | refine sg_ps (ps_pick_t rfl rfl) rfl ?_ | refine sg_ps (ps_pick_f rfl rfl) rfl ?_ | refine sg_ret ?_ | refine ex_then_ret ?_ | (refine sg_guard_dec rfl rfl (fun hg => ?_) (fun hg => ?_) <;> first | (exfalso; omega) | (exact absurd rfl hg) | skip) | (refine sg_cond_dec rfl (fun hg => ?_) (fun hg => ?_) <;> first | (exfalso; omega) | (exact absurd rfl hg) | skip))
  all_goals (refine ex_ret2 rfl rfl rfl () rfl trivial (fun w hO => hO))
theorem rnew_tri (k : Nat) (R : List HP) (h : 8 ≤ k) (h2 : k ≤ 4096) :
    Tri Try.prog W 26 [i64 k] R (fun r => .tuple #[dp r, i64 0]) (fun _ => True) (fun r => RefRep r (DS.new k) :: R) := by
  refine tri_enter1 Try.func26 rfl Try.ntmps26 rfl ?_
  repeat' (first | refine sg_wo ?_ | refine sg_ps (ps_move rfl) rfl ?_ | refine sg_ps (ps_assign rfl) rfl ?_ | refine sg_seq ?_ | refine sg_region ?_ | refine sg_nil ?_ | refine sg_then ?_ | refine sg_ps (ps_bin rfl rfl inferInstance) rfl ?_ | refine sg_guard_yes rfl rfl ?_ | refine sg_ps (ps_pick_f rfl rfl) rfl ?_ | refine sg_ps (ps_build rfl rfl) rfl ?_ | refine sg_box rfl rfl (fun bx => ?_) | refine sg_block ?_ | refine sg_skip ?_ | (refine sg_guard_dec rfl rfl (fun hg => ?_) (fun hg => ?_) <;> first | (exfalso; omega) | (exact absurd rfl hg) | skip) | (refine sg_cond_dec rfl (fun hg => ?_) (fun hg => ?_) <;> first | (exfalso; omega) | (exact absurd rfl hg) | skip))
  refine sg_own (fun w hO => (own_blks_nil (own_nil (sz := 1) (own_nil (sz := 1) hO))).pickT [_, _, _, _] [3, 1, 2, 0] (by decide)) ?_
  refine sg_loop (γ := Nat × NX) (fun g => g.1 ≤ k ∧ g.2.ks.length = g.1 ∧ g.2.ss.length = g.1 ∧ (∀ y ∈ g.2.ks, y.2 = List.replicate 64 0 ∧ (y.1, y.2.map bv) ∈ g.2.ls) ∧ (∀ y ∈ g.2.ss, y.2 = List.replicate 64 0 ∧ (y.1, y.2.map bv) ∈ g.2.ls)) (fun g => [(0, i64 k), (4, dp bx), (5, i64 g.1)])
    (fun g => blk bx [.slice g.2.ka g.2.ks.length g.2.kc, .slice g.2.sa g.2.ss.length g.2.sc, .slice none 0 0, i64 (-1), .bool false, i64 0, i64 0] :: sown g.2.ka g.2.ks.length g.2.kc 1 (g.2.ks.map shdr) :: sown g.2.sa g.2.ss.length g.2.sc 1 (g.2.ss.map shdr) :: blks g.2.ls :: R) (fun g => k - g.1) (0, ⟨[], [], none, 0, none, 0, []⟩)
    ⟨Nat.zero_le _, rfl, rfl, fun y hy => by simp at hy, fun y hy => by simp at hy⟩ (.cons rfl (.cons rfl (.cons rfl .nil))) (fun w hO => hO) ?_
  rintro ⟨i, ks, ss, ka, kc, sa, sc, ls⟩ ⟨hi, h3, h4, h5, h6⟩
  dsimp only at hi h3 h4 h5 h6 ⊢
  have hz : (List.range (64 * 1)).map (fun i => (Value.int .u8 0).cells[i % (Value.int .u8 0).cells.size]!) = (List.replicate 64 (0 : UInt8)).map bv := rzeros 64
  by_cases hik : i < k
  · skip
    repeat' (first | refine sg_wo ?_ | refine sg_ps (ps_move rfl) rfl ?_ | refine sg_seq ?_ | refine sg_region ?_ | refine sg_nil ?_ | refine sg_then ?_ | refine sg_ps (ps_bin rfl rfl inferInstance) rfl ?_ | refine sg_block ?_ | refine sg_skip ?_ | (refine sg_cond_dec rfl (fun hg => ?_) (fun hg => ?_) <;> first | (exfalso; omega) | (exact absurd rfl hg) | skip))
    refine sg_drawK (blk bx [.slice ka ks.length kc, .slice sa ss.length sc, .slice none 0 0, i64 (-1), .bool false, i64 0, i64 0] :: R) [0, 1, 2, 3, 4, 5, 6, 7, 8, 9, 10] (by kernel_rfl) (by kernel_rfl) (fun w hO => hO.pickT [_, _, _, _] [0] (by decide)) ?_
    repeat' (first | refine sk_pure rfl rfl (ps_move rfl) rfl ?_ | refine sk_pure rfl rfl (ps_nilCheck rfl) rfl ?_ | refine sk_pure rfl rfl (ps_fieldAddr rfl) rfl ?_ | refine sk_load 0 rfl rfl rfl rfl rfl ?_ | refine sk_eff rfl rfl ?_)
    refine sg_make (ln := 64) (cn := 64) rfl rfl rfl rfl rfl (Nat.le_refl _) (by decide) (by decide) (fun mb => ?_)
    rw [hz]
    refine sk_back (fun w hO => hO.pickT [_, _, _, _, _] [1] (by decide)) ?_
    repeat' (first | refine sk_eff rfl rfl ?_)
    refine sg_buildSlice1 (sz := 1) (vs := [shdr (mb, List.replicate 64 0)]) rfl (by decide) rfl rfl rfl (fun vb => ?_)
    refine sk_back (fun w hO => hO.pickT [_, _, _, _, _, _] [2] (by decide)) ?_
    repeat' (first | refine sk_eff rfl rfl ?_)
    refine sg_own (fun w hO => hO.pickT [_, _, _, _, _, _] [3, 0, 1, 2, 4, 5] (by decide)) ?_
    refine sg_append (sz := 1) (m := 1) (news := [shdr (mb, List.replicate 64 0)]) rfl rfl rfl rfl (by intro u hu; simp at hu; subst hu; rfl) (rd_blk 1 rfl (fun j u h => by rw [Nat.zero_add]; exact h)) (by simp only [maxLen]; omega) (by omega) (fun a2 c2 => ?_)
    refine sk_end (by kernel_rfl) ?_
    repeat' (first | refine sk_pure rfl rfl (ps_nilCheck rfl) rfl ?_ | refine sk_pure rfl rfl (ps_fieldAddr rfl) rfl ?_ | refine sk_eff rfl rfl ?_ | refine sg_store [_, _, _] rfl rfl rfl (of_decide_eq_true rfl) ?_)
    refine sk_end (by kernel_rfl) ?_
    refine sk_nil ?_
    have hz0 : shdr (mb, List.replicate 64 0) = .slice (some ⟨mb, 0, none⟩) 64 64 := rfl
    refine sg_own (L' := blks ((mb, (List.replicate 64 (0 : UInt8)).map bv) :: ls) :: blk bx [.slice a2 (ks.length + 1) c2, .slice sa ss.length sc, .slice none 0 0, i64 (-1), .bool false, i64 0, i64 0] :: sown a2 (ks.length + 1) c2 1 (ks.map shdr ++ [shdr (mb, List.replicate 64 0)]) :: sown sa ss.length sc 1 (ss.map shdr) :: R) (fun w hO => own_blks_push (hO.pickT [_, _, _, _, _, _] [2, 5, 3, 0, 4] (by decide))) ?_
    repeat' (first | refine sg_then ?_)
    refine sg_drawK (blk bx [.slice a2 (ks.length + 1) c2, .slice sa ss.length sc, .slice none 0 0, i64 (-1), .bool false, i64 0, i64 0] :: R) [0, 1, 2, 3, 4, 5, 6, 7, 8, 9, 10] (by kernel_rfl) (by kernel_rfl) (fun w hO => hO.pickT [_, _, _, _] [1] (by decide)) ?_
    repeat' (first | refine sk_pure rfl rfl (ps_move rfl) rfl ?_ | refine sk_pure rfl rfl (ps_nilCheck rfl) rfl ?_ | refine sk_pure rfl rfl (ps_fieldAddr rfl) rfl ?_ | refine sk_load 0 rfl rfl rfl rfl rfl ?_ | refine sk_eff rfl rfl ?_)
    refine sg_make (ln := 64) (cn := 64) rfl rfl rfl rfl rfl (Nat.le_refl _) (by decide) (by decide) (fun mb2 => ?_)
    rw [hz]
    refine sk_back (fun w hO => hO.pickT [_, _, _, _, _] [2] (by decide)) ?_
    repeat' (first | refine sk_eff rfl rfl ?_)
    refine sg_buildSlice1 (sz := 1) (vs := [shdr (mb2, List.replicate 64 0)]) rfl (by decide) rfl rfl rfl (fun vb2 => ?_)
    refine sk_back (fun w hO => hO.pickT [_, _, _, _, _, _] [3] (by decide)) ?_
    repeat' (first | refine sk_eff rfl rfl ?_)
    refine sg_own (fun w hO => hO.pickT [_, _, _, _, _, _] [5, 0, 1, 2, 3, 4] (by decide)) ?_
    refine sg_append (sz := 1) (m := 1) (news := [shdr (mb2, List.replicate 64 0)]) rfl rfl rfl rfl (by intro u hu; simp at hu; subst hu; rfl) (rd_blk 1 rfl (fun j u h => by rw [Nat.zero_add]; exact h)) (by simp only [maxLen]; omega) (by omega) (fun a3 c3 => ?_)
    refine sk_end (by kernel_rfl) ?_
    repeat' (first | refine sk_pure rfl rfl (ps_nilCheck rfl) rfl ?_ | refine sk_pure rfl rfl (ps_fieldAddr rfl) rfl ?_ | refine sk_eff rfl rfl ?_ | refine sg_store [_, _, _, _] rfl rfl rfl (of_decide_eq_true rfl) ?_)
    refine sk_end (by kernel_rfl) ?_
    refine sk_nil ?_
    repeat' (first | refine sg_wo ?_ | refine sg_ps (ps_move rfl) rfl ?_ | refine sg_ps (ps_assign rfl) rfl ?_ | refine sg_region ?_ | refine sg_nil ?_ | refine sg_then ?_ | refine sg_ps (ps_add64 rfl rfl (by omega)) rfl ?_ | refine ex_block_normal ?_)
    have e1 : ks.length + 1 = (ks ++ [((mb, List.replicate 64 0) : Sc)]).length := by simp
    have e2 : ss.length + 1 = (ss ++ [((mb2, List.replicate 64 0) : Sc)]).length := by simp
    refine ex_mid (i + 1, ⟨ks ++ [(mb, List.replicate 64 0)], ss ++ [(mb2, List.replicate 64 0)], a2, c2, a3, c3, (mb2, (List.replicate 64 (0 : UInt8)).map bv) :: (mb, (List.replicate 64 (0 : UInt8)).map bv) :: ls⟩) ⟨by show k - (i + 1) < k - i; omega, by show i + 1 ≤ k; omega, by show (ks ++ _).length = i + 1; rw [List.length_append, h3]; rfl, by show (ss ++ _).length = i + 1; rw [List.length_append, h4]; rfl, fun y hy => ?_, fun y hy => ?_⟩ (.cons rfl (.cons rfl (.cons rfl .nil))) (fun w hO => ?_)
    · rcases List.mem_append.1 (show y ∈ ks ++ [(mb, List.replicate 64 0)] from hy) with g | g
      · exact ⟨(h5 y g).1, List.mem_cons_of_mem _ (List.mem_cons_of_mem _ (h5 y g).2)⟩
      · rw [List.mem_singleton.1 g]; exact ⟨rfl, List.mem_cons_of_mem _ List.mem_cons_self⟩
    · rcases List.mem_append.1 (show y ∈ ss ++ [(mb2, List.replicate 64 0)] from hy) with g | g
      · exact ⟨(h6 y g).1, List.mem_cons_of_mem _ (List.mem_cons_of_mem _ (h6 y g).2)⟩
      · rw [List.mem_singleton.1 g]; exact ⟨rfl, List.mem_cons_self⟩
    · dsimp only
      rw [← e1, ← e2, List.map_append, List.map_append]
      have h9 := own_blks_push (hO.pickT [_, _, _, _, _, _] [2, 3, 4, 5, 0] (by decide))
      exact h9.pickT [_, _, _, _] [1, 2, 3, 0] (by decide)
  · have hk2 : i = k := by omega
    subst hk2
    refine sg_sown_some 1 rfl (by omega) ?_
    rintro kb rfl
    refine sg_sown_some 2 rfl (by omega) ?_
    rintro sb rfl
    repeat' (first | refine sg_wo ?_ | refine sg_ps (ps_move rfl) rfl ?_ | refine sg_ps (ps_assign rfl) rfl ?_ | refine sg_seq ?_ | refine sg_region ?_ | refine sg_nil ?_ | refine sg_then ?_ | refine sg_ps (ps_bin rfl rfl inferInstance) rfl ?_ | refine sg_ret ?_ | refine sg_exit ?_ | refine ex_then_exit ?_ | refine ex_block_hit ?_ | (refine sg_cond_dec rfl (fun hg => ?_) (fun hg => ?_) <;> first | (exfalso; omega) | (exact absurd rfl hg) | skip))
    refine ex_ret2 rfl rfl rfl bx rfl trivial (fun w hO => ?_)
    have er : ∀ l : List Sc, l.length = i → (∀ y ∈ l, y.2 = List.replicate 64 0) → l.map (·.2) = (DS.new i).seen := by
      intro l hl hy
      show l.map (·.2) = List.replicate i (List.replicate 64 0)
      rw [List.eq_replicate_iff]
      refine ⟨by rw [List.length_map, hl], fun b hb => ?_⟩
      obtain ⟨y, h7, rfl⟩ := List.mem_map.1 hb
      exact hy y h7
    refine RefRep.shut ⟨ks, ss, [], kb, kc, sb, sc, none, 0, ls⟩ ⟨⟨by simp [DS.new]; omega, by simp [DS.new], by simp [DS.new], by simp [DS.new]⟩, er ks h3 (fun y hy => (h5 y hy).1), er ss h4 (fun y hy => (h6 y hy).1), rfl, fun y hy => (h5 y hy).2, fun y hy => (h6 y hy).2, fun p hp => by simp at hp⟩ ?_
    have h9 := (own_nil (sz := 2) hO).pickT [_, _, _, _, _] [1, 2, 3, 0, 4] (by decide)
    exact h9
end Go.Proofs.Ytdehkdmnddflhaa
