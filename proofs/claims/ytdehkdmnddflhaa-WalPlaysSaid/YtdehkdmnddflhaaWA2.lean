/- Package wal: look. -/
import Derived.Test.YtdehkdmnddflhaaWA
namespace Go.Proofs.Ytdehkdmnddflhaa
set_option linter.unusedVariables false
set_option linter.unusedSimpArgs false
set_option linter.unusedSectionVars false
set_option linter.unnecessarySimpa false
open Go Go.Proofs
set_option maxRecDepth 20000
set_option maxHeartbeats 4000000
section
variable {P : Program} [BS P] {W : World} {n : Nat} {F : Fr} {L : List HP}
theorem ex_retct {fn : Func} {t s sz b u : Nat} {val : Value} {cs : List Value} {X : Type} {v : X → Value} {φ : X → Prop} {L' : X → List HP} [Agg P s sz] (k : Nat) (hr : fn.results = #[.cell t s, .tmp u]) (hl : look F t = some (.pointer (some ⟨b, 0, none⟩))) (hl2 : look F u = some val)
    (hk : L[k]? = some (blk b cs)) (hc : cs.length = sz)
    (x : X) (hv : .tuple #[.agg cs.toArray, val] = v x) (hφ : φ x) (hL : ∀ w, Own W w L → Own W w (L' x)) : SG W n F L (bodyPost P fn (TriR W v φ L') .ret) := by
  intro w hO a ha
  refine ⟨ha.defers, .tuple #[.agg cs.toArray, val], ?_, x, by rw [hv], hφ, hL w hO⟩
  have h1 := run_cell_res (P := P) (t := s) k hO hk hc
  simp [results, hr, ha.get t _ hl, ha.get u _ hl2, asAddr, h1]
end
attribute [local irreducible] SG WC WO W1 WD WK PS Rd Tri Exit.then Exit.inBlock bodyPost calmQ Mid sadd
variable {W : World} {n : Nat} {F : Fr} {L : List HP} {G : Act → World → Prop}
theorem num_ok {bs : List UInt8} {k : Nat} (h : k ≤ bs.length) : IS.num ⟨bs, false⟩ k = (unbe (bs.take k), ⟨bs.drop k, false⟩) := by
  unfold IS.num
  rw [if_neg (by rintro (h1 | h1); cases h1; dsimp only at h1; omega)]; rfl
theorem num_one {bs : List UInt8} (h : 0 < bs.length) : IS.num ⟨bs, false⟩ 1 = (bs[0].toNat, ⟨bs.drop 1, false⟩) := by
  rw [num_ok (by omega)]
  have := unbe_take_succ (l := bs) (j := 0) (by omega)
  simp [unbe] at this ⊢
  exact this
theorem num_at {bs : List UInt8} {j : Nat} (h : j < bs.length) : IS.num ⟨bs.drop j, false⟩ 1 = (bs[j].toNat, ⟨bs.drop (j + 1), false⟩) := by
  rw [num_one (by rw [List.length_drop]; omega)]
  simp [List.drop_drop]
theorem num_ok1 {bs : List UInt8} {k : Nat} (h : k ≤ bs.length) : (IS.num ⟨bs, false⟩ k).1 = unbe (bs.take k) := by rw [num_ok h]
theorem num_ok2 {bs : List UInt8} {k : Nat} (h : k ≤ bs.length) : (IS.num ⟨bs, false⟩ k).2 = ⟨bs.drop k, false⟩ := by rw [num_ok h]
theorem num_at1 {bs : List UInt8} {j : Nat} (h : j < bs.length) : (IS.num ⟨bs.drop j, false⟩ 1).1 = bs[j].toNat := by rw [num_at h]
theorem num_at2 {bs : List UInt8} {j : Nat} (h : j < bs.length) : (IS.num ⟨bs.drop j, false⟩ 1).2 = ⟨bs.drop (j + 1), false⟩ := by rw [num_at h]
/-- What 'look' answers. -/
structure LA where
  mount : Nat
  flags : Nat
  data : List UInt8
  ok : Bool
def lown (b : List UInt8) : Nat := unbe (b.take 8)
def lmount (b : List UInt8) : Nat := unbe ((b.drop 8).take 4)
def lflags (b : List UInt8) : Nat := (b.getD 12 0).toNat
def llen (b : List UInt8) : Nat := (b.getD 13 0).toNat
def lgood (b : List UInt8) (s : Nat) : Prop := lown b = s ∧ lflags b ≤ 3 ∧ llen b ≤ 50 ∧ (2 ≤ lflags b ∨ llen b = 50) ∧ (llen b ≠ 0 ∨ lflags b = 3) ∧ ∀ x ∈ b.drop (14 + llen b), x = 0
instance (b : List UInt8) (s : Nat) : Decidable (lgood b s) := by unfold lgood; infer_instance
def lookA (b : List UInt8) (s : Nat) : LA := if lgood b s then ⟨lmount b, lflags b, (b.drop 14).take (llen b), true⟩ else ⟨0, 0, [], false⟩
def pcells (A : LA) (a : Option Addr) (c : Nat) : List Value := [.int .u32 (A.mount : Int), .int .u8 (A.flags : Int), .slice a A.data.length c]
def DS.at (D : DS) (i : Nat) : List UInt8 := D.seen.getD i []
def and2 (f : Nat) : Int := IntKind.u8.wrap ((BitVec.ofInt IntKind.u8.bits (f : Int) &&& BitVec.ofInt IntKind.u8.bits 2).toNat : Int)
def and1 (f : Nat) : Int := IntKind.u8.wrap ((BitVec.ofInt IntKind.u8.bits (f : Int) &&& BitVec.ofInt IntKind.u8.bits 1).toNat : Int)
theorem and_two (f : Nat) (h : f ≤ 3) : and2 f = if 2 ≤ f then 2 else 0 := by
  have : f = 0 ∨ f = 1 ∨ f = 2 ∨ f = 3 := by omega
  rcases this with rfl | rfl | rfl | rfl <;> decide
theorem and_one8 (f : Nat) (h : f ≤ 3) : and1 f = ((f % 2 : Nat) : Int) := by
  have : f = 0 ∨ f = 1 ∨ f = 2 ∨ f = 3 := by omega
  rcases this with rfl | rfl | rfl | rfl <;> decide
instance (priority := high) instAnd2 (P : Program) (t : TypeId) (f : Nat) : BinR P .and t (.int .u8 (f : Int)) (.int .u8 2) (.int .u8 (and2 f)) := ⟨fun w _ _ => by simp [eqGuard, binOp, Op.intBits, and2]⟩
instance (priority := high) instAnd1 (P : Program) (t : TypeId) (f : Nat) : BinR P .and t (.int .u8 (f : Int)) (.int .u8 1) (.int .u8 (and1 f)) := ⟨fun w _ _ => by simp [eqGuard, binOp, Op.intBits, and1]⟩
theorem sg_disk_ok2 {p : HP} {d : Nat} {D : DS} (h : D.ok → SG W n F (p :: DiskRep d D :: L) G) : SG W n F (p :: DiskRep d D :: L) G := by
  refine sg_open (X := Unit) (L' := fun _ => p :: DiskRep d D :: L) (φ := fun _ => D.ok) (fun w hO => ?_) (fun _ hS => h hS)
  obtain ⟨k, K, ⟨x, hS, hk⟩, hs, hK, hS', hd⟩ := hO.front1.uncons
  exact ⟨(), hS, hO⟩
theorem look_tri (l d s : Nat) (S : LS) (D : DS) (hS : S.ok D) (R : List HP) :
    Tri Try.prog W 51 [dp l, u64v s] (blk l (lcells d S) :: DiskRep d D :: R) (X := Option Addr × Nat) (fun x => .tuple #[.agg (pcells (lookA (D.at (S.pos s)) s) x.1 x.2).toArray, .bool (lookA (D.at (S.pos s)) s).ok]) (fun _ => True)
      (fun x => sown x.1 (lookA (D.at (S.pos s)) s).data.length x.2 1 ((lookA (D.at (S.pos s)) s).data.map bv) :: blk l (lcells d S) :: DiskRep d D :: R) := by
  have hpos := hS.pos s
  have hsz := hS.size
  have hfit := hS.fits
  have hmax := hS.max
  refine tri_enter2 Try.func51 rfl Try.ntmps51 rfl ?_
  repeat' (first | refine sg_wo ?_ | refine sg_ps (ps_assign rfl) rfl ?_ | refine sg_seq ?_ | refine sg_region ?_ | refine sg_nil ?_ | refine sg_then ?_ | refine sg_alloc rfl (fun al => ?_))
  revert al
  intro r4
  let z0 : List Value := [.int .u32 0, .int .u8 0, .slice none 0 0]
  refine sg_own (L' := blk l (lcells d S) :: DiskRep d D :: blk r4 z0 :: R) (fun w hO => hO.front2.front2) ?_
  refine sg_disk_ok2 fun hD => ?_
  refine sg_drawK [blk l (lcells d S)] [0, 1, 2, 4, 5, 3, 6, 7, 8, 9, 10, 11, 12] (by kernel_rfl) (by kernel_rfl) (fun w hO => hO.pick [0] (by decide)) ?_
  repeat' (first | refine sk_pure rfl rfl (ps_move rfl) rfl ?_ | refine sk_pure rfl rfl (ps_nilCheck rfl) rfl ?_ | refine sk_pure rfl rfl (ps_fieldAddr rfl) rfl ?_ | refine sk_load 0 rfl rfl rfl rfl rfl ?_ | refine sk_eff rfl rfl ?_)
  refine sg_call (at_tri l d s S (by omega) (by omega) (by omega) _) rfl rfl (fun _ _ => ?_)
  refine sk_back (fun w hO => hO.pick [0] (by decide)) ?_
  repeat' (first | refine sk_eff rfl rfl ?_)
  refine sg_call ((read_tri d D (S.pos s) (blk l (lcells d S) :: blk r4 z0 :: R) hpos).pre (fun w hO => hO.front1)) rfl rfl (fun rb _ => ?_)
  refine sk_back (fun w hO => hO.pick [2] (by decide)) ?_
  repeat' (first | refine sk_nil ?_ | refine sk_pure rfl rfl (ps_move rfl) rfl ?_ | refine sk_pure rfl rfl (ps_assign rfl) rfl ?_ | refine sk_pure rfl rfl (ps_extract rfl rfl) rfl ?_)
  have hb : D.at (S.pos s) = D.seen[S.pos s] := by unfold DS.at; rw [List.getD_eq_getElem?_getD, List.getElem?_eq_getElem hpos]; rfl
  rw [hb]
  have hbl : D.seen[S.pos s].length = 64 := hD.sec _ (List.getElem_mem hpos)
  generalize D.seen[S.pos s] = b at hbl
  have hbad : ¬ lgood b s → lookA b s = ⟨0, 0, [], false⟩ := fun h => if_neg h
  have hgood : lgood b s → lookA b s = ⟨lmount b, lflags b, (b.drop 14).take (llen b), true⟩ := fun h => if_pos h
  have ef : lflags b = b[12].toNat := by unfold lflags; rw [List.getD_eq_getElem?_getD, List.getElem?_eq_getElem (by omega)]; rfl
  have en : llen b = b[13].toNat := by unfold llen; rw [List.getD_eq_getElem?_getD, List.getElem?_eq_getElem (by omega)]; rfl
  have hfl := b[12].toNat_lt
  have hnl := b[13].toNat_lt
  have hto := to_tri (W := W) (some ⟨rb, 0, none⟩) 64 b (blk rb (b.map bv) :: DiskRep d D :: blk l (lcells d S) :: blk r4 z0 :: R) (by omega) (rd_blk 0 rfl (fun j u h => by rw [Nat.zero_add]; exact h))
  rw [hbl] at hto
  repeat' (first | refine sg_wo ?_ | refine sg_ps (ps_move rfl) rfl ?_ | refine sg_seq ?_ | refine sg_region ?_ | refine sg_nil ?_ | refine sg_then ?_ | refine sg_ps (ps_bin rfl rfl inferInstance) rfl ?_ | refine sg_cond_f rfl ?_ | refine sg_skip ?_)
  refine sg_call hto rfl rfl (fun j _ => ?_)
  refine sg_drop1 ?_
  repeat' (first | refine sg_wo ?_ | refine sg_ps (ps_move rfl) rfl ?_ | refine sg_ps (ps_assign rfl) rfl ?_ | refine sg_seq ?_ | refine sg_region ?_ | refine sg_nil ?_ | refine sg_then ?_)
  refine sg_call (inU64_tri j ⟨b, false⟩ _) rfl rfl (fun _ _ => ?_)
  rw [num_ok2 (by omega), num_ok1 (by omega), show unbe (b.take 8) = lown b from rfl]
  repeat' (first | refine sg_wo ?_ | refine sg_ps (ps_move rfl) rfl ?_ | refine sg_ps (ps_assign rfl) rfl ?_ | refine sg_seq ?_ | refine sg_region ?_ | refine sg_nil ?_ | refine sg_then ?_)
  refine sg_call (inU32_tri j ⟨b.drop 8, false⟩ _) rfl rfl (fun _ _ => ?_)
  rw [num_ok2 (by rw [List.length_drop]; omega), num_ok1 (by rw [List.length_drop]; omega), show unbe ((b.drop 8).take 4) = lmount b from rfl, show (b.drop 8).drop 4 = b.drop 12 by simp]
  repeat' (first | refine sg_wo ?_ | refine sg_ps (ps_move rfl) rfl ?_)
  refine sg_call (inU8_tri j ⟨b.drop 12, false⟩ _) rfl rfl (fun _ _ => ?_)
  rw [num_at2 (by omega), num_at1 (by omega), ← ef]
  repeat' (first | refine sg_wo ?_ | refine sg_ps (ps_move rfl) rfl ?_ | refine sg_seq ?_ | refine sg_region ?_ | refine sg_nil ?_ | refine sg_then ?_ | refine sg_ps (ps_build rfl rfl) rfl ?_ | refine sg_store_whole [] rfl rfl rfl rfl rfl ?_ | refine sg_alloc rfl (fun al => ?_))
  revert al
  intro pp
  refine sg_front1 ?_
  refine sg_call (inU8_tri j ⟨b.drop 13, false⟩ _) rfl rfl (fun _ _ => ?_)
  rw [num_at2 (by omega), num_at1 (by omega), ← en]
  rw [← ef] at hfl
  rw [← en] at hnl
  generalize hF : lflags b = f at *
  generalize hN : llen b = k at *
  generalize hM : lmount b = mt at *
  generalize hW : lown b = own at *
  repeat' (first | refine sg_wo ?_ | refine sg_ps (ps_assign rfl) rfl ?_ | refine sg_nil ?_ | refine sg_then ?_ | refine sg_ps (ps_conv rfl) rfl ?_)
  rw [i64_of_nat k (by omega)]
  let z0 : List Value := [.int .u32 0, .int .u8 0, .slice none 0 0]
  refine sg_own (L' := InRep j ⟨b.drop 14, false⟩ :: blk pp [.int .u32 (mt : Int), .int .u8 (f : Int), .slice none 0 0] :: DiskRep d D :: blk l (lcells d S) :: blk r4 z0 :: R) (fun w hO => hO) ?_
  have hand := and_two f
  have hfail : ¬ lgood b s → ∀ (T : IS), ∀ w, Own W w (InRep j T :: blk pp [.int .u32 (mt : Int), .int .u8 (f : Int), .slice none 0 0] :: DiskRep d D :: blk l (lcells d S) :: blk r4 z0 :: R) →
      Own W w (sown none (lookA b s).data.length 0 1 ((lookA b s).data.map bv) :: blk l (lcells d S) :: DiskRep d D :: R) := by
    intro h T w hO
    rw [hbad h]
    exact own_nil hO.tail.tail.front1.front2.tail
  refine sg_seq_mid (γ := Unit) (fun _ => own = s ∧ f ≤ 3 ∧ k ≤ 50 ∧ (2 ≤ f ∨ k = 50) ∧ (k ≠ 0 ∨ f = 3)) (fun _ => [(4, dp r4), (8, dp j), (10, dp pp), (11, i64 k)]) (fun _ => InRep j ⟨b.drop 14, false⟩ :: blk pp [.int .u32 (mt : Int), .int .u8 (f : Int), .slice none 0 0] :: DiskRep d D :: blk l (lcells d S) :: blk r4 z0 :: R) ?_ ?_
  · by_cases hearly : own = s ∧ f ≤ 3 ∧ k ≤ 50 ∧ (2 ≤ f ∨ k = 50) ∧ (k ≠ 0 ∨ f = 3)
    · have hearly' := hearly
      obtain ⟨q1, q2, q3, q4, q5⟩ := hearly
      have hand := hand q2
      have hand' : (2 ≤ f ∧ and2 f = 2) ∨ (f < 2 ∧ and2 f = 0) := by split at hand <;> omega
      clear hand
      repeat' (first | refine sg_wo ?_ | refine sg_ps (ps_move rfl) rfl ?_ | refine sg_seq ?_ | refine sg_region ?_ | refine sg_nil ?_ | refine sg_then ?_ | refine sg_ps (ps_fieldAddr rfl) rfl ?_ | refine sg_load 1 rfl rfl rfl rfl ?_ | refine sg_ps (ps_bin rfl rfl inferInstance) rfl ?_ | refine sg_cond_f rfl ?_ | refine sg_guard_yes rfl rfl ?_ | refine sg_guard_nf rfl rfl rfl ?_ | refine sg_ps (ps_pick_t rfl rfl) rfl ?_ | refine sg_ps (ps_pick_f rfl rfl) rfl ?_ | refine sg_skip ?_ | (refine sg_guard_dec rfl rfl (fun hg => ?_) (fun hg => ?_) <;> first | (exfalso; omega) | (exact absurd rfl hg) | skip) | (refine sg_guard_ndec rfl rfl (fun hg => ?_) (fun hg => ?_) <;> first | (exfalso; omega) | (exact absurd rfl hg) | skip) | (refine sg_cond_ndec rfl (fun hg => ?_) (fun hg => ?_) <;> first | (exfalso; omega) | (exact absurd rfl hg) | skip))
      all_goals exact ex_mid () hearly' (.cons rfl (.cons rfl (.cons rfl (.cons rfl .nil)))) (fun w hO => hO)
    · have hng : ¬ lgood b s := by
        unfold lgood
        rw [hF, hN, hW]
        exact fun h => hearly ⟨h.1, h.2.1, h.2.2.1, h.2.2.2.1, h.2.2.2.2.1⟩
      have hand' : 3 < f ∨ (2 ≤ f ∧ and2 f = 2) ∨ (f < 2 ∧ and2 f = 0) := by
        by_cases h3 : f ≤ 3
        · have hand := hand h3
          split at hand <;> omega
        · omega
      clear hand
      repeat' (first | refine sg_wo ?_ | refine sg_ps (ps_move rfl) rfl ?_ | refine sg_ps (ps_assign rfl) rfl ?_ | refine sg_seq ?_ | refine sg_region ?_ | refine sg_nil ?_ | refine sg_then ?_ | refine sg_ps (ps_fieldAddr rfl) rfl ?_ | refine sg_load 1 rfl rfl rfl rfl ?_ | refine sg_ps (ps_bin rfl rfl inferInstance) rfl ?_ | refine sg_cond_t rfl ?_ | refine sg_guard_yes rfl rfl ?_ | refine sg_guard_nf rfl rfl rfl ?_ | refine sg_guard_nt rfl rfl rfl ?_ | refine sg_guard_nu rfl rfl rfl ?_ | refine sg_ps (ps_pick_t rfl rfl) rfl ?_ | refine sg_ps (ps_pick_f rfl rfl) rfl ?_ | refine sg_ps (ps_build rfl rfl) rfl ?_ | refine sg_store_whole [_, _, _, _] rfl rfl rfl rfl rfl ?_ | refine sg_ret ?_ | refine ex_then_ret ?_ | (refine sg_guard_dec rfl rfl (fun hg => ?_) (fun hg => ?_) <;> first | (exfalso; omega) | (exact absurd rfl hg) | skip) | (refine sg_guard_ndec rfl rfl (fun hg => ?_) (fun hg => ?_) <;> first | (exfalso; omega) | (exact absurd rfl hg) | skip) | (refine sg_cond_ndec rfl (fun hg => ?_) (fun hg => ?_) <;> first | (exfalso; omega) | (exact absurd rfl hg) | skip))
      all_goals exact ex_retct (s := 106) 4 rfl rfl rfl rfl rfl (none, 0) (by rw [hbad hng]; rfl) trivial (fun w hO => hfail hng _ w hO)
  · rintro _ ⟨q1, q2, q3, q4, q5⟩
    have hdl : 14 + k ≤ b.length := by omega
    skip
    refine sg_seq_mid (γ := Option Addr × Nat) (fun _ => True) (fun _ => [(4, dp r4), (8, dp j), (10, dp pp), (11, i64 k)]) (fun x => InRep j ⟨b.drop (14 + k), false⟩ :: blk pp [.int .u32 (mt : Int), .int .u8 (f : Int), .slice x.1 k x.2] :: sown x.1 k x.2 1 (((b.drop 14).take k).map bv) :: DiskRep d D :: blk l (lcells d S) :: blk r4 z0 :: R) ?_ ?_
    · skip
      repeat' (first | refine sg_wo ?_ | refine sg_ps (ps_move rfl) rfl ?_ | refine sg_seq ?_ | refine sg_region ?_ | refine sg_nil ?_ | refine sg_then ?_ | refine sg_block ?_)
      refine sg_own (fun w hO => (own_nil (sz := 1) hO).back2) ?_
      refine sg_loop (γ := Nat × Option Addr × Nat) (fun x => x.1 ≤ k) (fun x => [(4, dp r4), (8, dp j), (10, dp pp), (11, i64 k), (70, i64 k), (71, i64 x.1)])
        (fun x => InRep j ⟨b.drop (14 + x.1), false⟩ :: blk pp [.int .u32 (mt : Int), .int .u8 (f : Int), .slice x.2.1 x.1 x.2.2] :: sown x.2.1 x.1 x.2.2 1 (((b.drop 14).take x.1).map bv) :: DiskRep d D :: blk l (lcells d S) :: blk r4 z0 :: R) (fun x => k - x.1) (0, none, 0) (Nat.zero_le _)
        (.cons rfl (.cons rfl (.cons rfl (.cons rfl (.cons rfl (.cons rfl .nil)))))) (fun w hO => hO) ?_
      rintro ⟨i, a, c⟩ hi
      dsimp only at hi ⊢
      by_cases hik : i < k
      · skip
        repeat' (first | refine sg_wo ?_ | refine sg_seq ?_ | refine sg_region ?_ | refine sg_nil ?_ | refine sg_then ?_ | refine sg_ps (ps_bin rfl rfl inferInstance) rfl ?_ | refine sg_block ?_ | refine sg_skip ?_ | (refine sg_cond_dec rfl (fun hg => ?_) (fun hg => ?_) <;> first | (exfalso; omega) | (exact absurd rfl hg) | skip))
        refine sg_drawK [blk pp [.int .u32 (mt : Int), .int .u8 (f : Int), .slice a i c]] [0, 2, 1, 3, 4, 5, 6, 7] (by kernel_rfl) (by kernel_rfl) (fun w hO => hO.pick [1] (by decide)) ?_
        repeat' (first | refine sk_pure rfl rfl (ps_move rfl) rfl ?_ | refine sk_pure rfl rfl (ps_fieldAddr rfl) rfl ?_ | refine sk_load 0 rfl rfl rfl rfl rfl ?_ | refine sk_eff rfl rfl ?_)
        refine sg_call (inU8_tri j ⟨b.drop (14 + i), false⟩ _) rfl rfl (fun _ _ => ?_)
        refine sk_back (fun w hO => hO.pick [1] (by decide)) ?_
        rw [num_at2 (by omega), num_at1 (by omega)]
        repeat' (first | refine sk_eff rfl rfl ?_)
        refine sg_buildSlice1 (sz := 1) (vs := [bv b[14 + i]]) rfl (by decide) rfl rfl rfl (fun vb => ?_)
        refine sk_back (fun w hO => hO.pick [2] (by decide)) ?_
        refine sg_own (fun w hO => hO.front3) ?_
        repeat' (first | refine sk_eff rfl rfl ?_)
        refine sg_append (news := [bv b[14 + i]]) rfl rfl rfl rfl (by intro u hu; simp at hu; subst hu; rfl) (rd_blk 1 rfl (fun j u h => by rw [Nat.zero_add]; exact h)) (by simp only [maxLen]; omega) (by omega) (fun a' c' => ?_)
        refine sk_back (fun w hO => hO.pick [3] (by decide)) ?_
        repeat' (first | refine sk_pure rfl rfl (ps_fieldAddr rfl) rfl ?_ | refine sk_eff rfl rfl ?_ | refine sg_store [_, _, _] rfl rfl rfl (of_decide_eq_true rfl) ?_)
        refine sk_end (by kernel_rfl) ?_
        repeat' (first | refine sk_nil ?_)
        repeat' (first | refine sg_wo ?_ | refine sg_ps (ps_move rfl) rfl ?_ | refine sg_region ?_ | refine sg_nil ?_ | refine sg_then ?_ | refine sg_ps (ps_add64 rfl rfl (by omega)) rfl ?_ | refine ex_block_normal ?_)
        have etk : ((b.drop 14).take i).map bv ++ [bv b[14 + i]] = ((b.drop 14).take (i + 1)).map bv := by
          rw [List.take_add_one, List.getElem?_drop, List.getElem?_eq_getElem (by omega), List.map_append]; rfl
        rw [etk]
        exact ex_mid (i + 1, a', c') ⟨by show k - (i + 1) < k - i; omega, by show i + 1 ≤ k; omega⟩ (.cons rfl (.cons rfl (.cons rfl (.cons rfl (.cons rfl (.cons rfl .nil)))))) (fun w hO => hO.front2.front3.front3.tail.front1)
      · have hk : i = k := by omega
        subst hk
        repeat' (first | refine sg_wo ?_ | refine sg_seq ?_ | refine sg_region ?_ | refine sg_nil ?_ | refine sg_then ?_ | refine sg_ps (ps_bin rfl rfl inferInstance) rfl ?_ | refine sg_exit ?_ | refine ex_then_exit ?_ | refine ex_block_hit ?_ | (refine sg_cond_dec rfl (fun hg => ?_) (fun hg => ?_) <;> first | (exfalso; omega) | (exact absurd rfl hg) | skip))
        exact ex_mid (a, c) trivial (.cons rfl (.cons rfl (.cons rfl (.cons rfl .nil)))) (fun w hO => hO)
    · rintro ⟨a, c⟩ _
      dsimp only
      have hgood' : (∀ x ∈ b.drop (14 + k), x = 0) → lookA b s = ⟨mt, f, (b.drop 14).take k, true⟩ := fun h => hgood ⟨hW.trans q1, by omega, by omega, by omega, by omega, by rw [hN]; exact h⟩
      have hbad' : ¬ (∀ x ∈ b.drop (14 + k), x = 0) → lookA b s = ⟨0, 0, [], false⟩ := fun h => hbad fun hg => h (by rw [← hN]; exact hg.2.2.2.2.2)
      have hdk : ((b.drop 14).take k).length = k := by simp; omega
      repeat' (first | refine sg_seq ?_ | refine sg_block ?_)
      refine sg_loop (γ := IS) (fun T => T.bad = false ∧ ((∀ x ∈ b.drop (14 + k), x = 0) ↔ (∀ x ∈ T.bs, x = 0))) (fun _ => [(4, dp r4), (8, dp j), (10, dp pp)])
        (fun T => InRep j T :: blk pp [.int .u32 (mt : Int), .int .u8 (f : Int), .slice a k c] :: sown a k c 1 (((b.drop 14).take k).map bv) :: DiskRep d D :: blk l (lcells d S) :: blk r4 z0 :: R) (fun T => T.bs.length) ⟨b.drop (14 + k), false⟩ ⟨rfl, Iff.rfl⟩
        (.cons rfl (.cons rfl (.cons rfl .nil))) (fun w hO => hO) ?_
      rintro T ⟨hTb, hTz⟩
      repeat' (first | refine sg_wo ?_ | refine sg_ps (ps_move rfl) rfl ?_ | refine sg_seq ?_ | refine sg_region ?_)
      refine sg_call (inLeft_tri j T _) rfl rfl (fun _ _ => ?_)
      by_cases hl0 : 0 < T.bs.length
      · obtain ⟨tb, tf⟩ := T
        dsimp only at hTb hTz hl0 ⊢
        subst hTb
        have hcons : tb = tb[0] :: tb.drop 1 := by rw [List.getElem_cons_drop]; rfl
        repeat' (first | refine sg_wo ?_ | refine sg_ps (ps_move rfl) rfl ?_ | refine sg_seq ?_ | refine sg_region ?_ | refine sg_nil ?_ | refine sg_then ?_ | refine sg_ps (ps_bin rfl rfl inferInstance) rfl ?_ | refine sg_block ?_ | refine sg_skip ?_ | (refine sg_cond_dec rfl (fun hg => ?_) (fun hg => ?_) <;> first | (exfalso; omega) | (exact absurd rfl hg) | skip))
        refine sg_call (inU8_tri j ⟨tb, false⟩ _) rfl rfl (fun _ _ => ?_)
        rw [show (IS.num ⟨tb, false⟩ 1).2 = ⟨tb.drop 1, false⟩ by rw [num_one hl0], show (IS.num ⟨tb, false⟩ 1).1 = tb[0].toNat by rw [num_one hl0]]
        repeat' (first | refine sg_wo ?_ | refine sg_ps (ps_assign rfl) rfl ?_ | refine sg_seq ?_ | refine sg_region ?_ | refine sg_nil ?_ | refine sg_then ?_ | refine sg_ps (ps_bin rfl rfl inferInstance) rfl ?_ | refine sg_ps (ps_build rfl rfl) rfl ?_ | refine sg_store_whole [_, _, _, _, _] rfl rfl rfl rfl rfl ?_ | refine sg_skip ?_ | refine sg_ret ?_ | refine ex_then_ret ?_ | refine ex_block_ret ?_ | refine ex_block_normal ?_ | (refine sg_cond_ndec rfl (fun hg => ?_) (fun hg => ?_) <;> first | (exfalso; omega) | (exact absurd rfl hg) | skip))
        · have hng : ¬ (∀ x ∈ b.drop (14 + k), x = 0) := fun h => by
            have h0 := hTz.1 h tb[0] (List.getElem_mem hl0)
            have hgz : ¬ ((tb[0].toNat : Int) = 0) := by assumption
            rw [h0] at hgz; exact hgz rfl
          rw [hbad' hng]
          exact ex_retct (s := 106) 5 rfl rfl rfl rfl rfl (none, 0) rfl trivial (fun w hO => own_nil hO.tail.tail.tail.front1.front2.tail)
        · have hgz : (tb[0].toNat : Int) = 0 := by assumption
          have hz0 : tb[0] = 0 := by apply UInt8.toNat_inj.1; show tb[0].toNat = 0; omega
          refine ex_mid ⟨tb.drop 1, false⟩ ⟨by show (tb.drop 1).length < tb.length; rw [List.length_drop]; omega, rfl, hTz.trans ?_⟩ (.cons rfl (.cons rfl (.cons rfl .nil))) (fun w hO => hO)
          show (∀ x ∈ tb, x = 0) ↔ (∀ x ∈ tb.drop 1, x = 0)
          constructor
          · exact fun h x hx => h x (List.mem_of_mem_drop hx)
          · intro h x hx
            rw [hcons] at hx
            rcases List.mem_cons.1 hx with rfl | hx
            · exact hz0
            · exact h x hx
      · have hnil : T.bs = [] := List.eq_nil_of_length_eq_zero (by omega)
        have hz : ∀ x ∈ b.drop (14 + k), x = 0 := hTz.2 (by rw [hnil]; intro x hx; cases hx)
        rw [hgood' hz]
        dsimp only
        rw [hdk]
        repeat' (first | refine sg_wo ?_ | refine sg_ps (ps_assign rfl) rfl ?_ | refine sg_seq ?_ | refine sg_region ?_ | refine sg_nil ?_ | refine sg_then ?_ | refine sg_ps (ps_bin rfl rfl inferInstance) rfl ?_ | refine sg_load_whole 1 rfl rfl rfl rfl ?_ | refine sg_store_whole [_, _, _, _, _] rfl rfl rfl rfl rfl ?_ | refine sg_ret ?_ | refine sg_exit ?_ | refine ex_then_exit ?_ | refine ex_block_hit ?_ | (refine sg_cond_dec rfl (fun hg => ?_) (fun hg => ?_) <;> first | (exfalso; omega) | (exact absurd rfl hg) | skip))
        exact ex_retct (s := 106) 5 rfl rfl rfl rfl rfl (a, c) (by simp only [pcells]; rw [hdk]) trivial (fun w hO => hO.tail.tail.front2.front1.front3.tail)
end Go.Proofs.Ytdehkdmnddflhaa
