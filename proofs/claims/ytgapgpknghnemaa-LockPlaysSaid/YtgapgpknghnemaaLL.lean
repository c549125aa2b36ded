/- The statements on locks: 'awake', the readings. -/
import Derived.Test.YtgapgpknghnemaaLK3
namespace Go.Proofs.Ytgapgpknghnemaa
set_option linter.unusedVariables false
set_option linter.unusedSimpArgs false
set_option linter.unusedSectionVars false
set_option linter.unnecessarySimpa false
open Go Go.Proofs
theorem lock_of {W : World} {a : Int × (List UInt8 × List UInt8 × Bool × Unit) × Bool × Unit} {c : List Value} (h : ((RT.struct (tot := 5) Try.underlying26 (by kernel_rfl) (RF.cons 1 (RT.int .i64 Try.underlying3) rfl (by kernel_rfl) (RF.cons 3 (RT.struct (tot := 3) Try.underlying24 (by kernel_rfl) (RF.cons 1 (RT.str Try.underlying9) rfl (by kernel_rfl) (RF.cons 1 (RT.str Try.underlying9) rfl (by kernel_rfl) (RF.cons 1 (RT.bool Try.underlying4) rfl (by kernel_rfl) (RF.nil rfl))))) rfl (by kernel_rfl) (RF.cons 1 (RT.bool Try.underlying4) rfl (by kernel_rfl) (RF.nil rfl))))) : RT Try.prog 26 _).E W a c) : ∃ x : Lk, c = x.cells := by
  obtain ⟨_, c1, c2, rfl, ⟨rfl, w1⟩, c3, c4, rfl, ⟨_, c5, c6, rfl, ⟨rfl, w2⟩, c7, c8, rfl, ⟨rfl, w3⟩, c9, c10, rfl, rfl, rfl⟩, c11, c12, rfl, rfl, rfl⟩ := h
  obtain ⟨sp, ⟨lo, hi, op, _⟩, own, _⟩ := a
  exact ⟨⟨sp, lo, hi, op, own⟩, rfl⟩
theorem locks_of {W : World} {ts : List (Int × (List UInt8 × List UInt8 × Bool × Unit) × Bool × Unit)} {cs : List Value} (h : ((RT.slice 5 56 Try.underlying31 (by kernel_rfl) (by kernel_rfl) (RT.struct (tot := 5) Try.underlying26 (by kernel_rfl) (RF.cons 1 (RT.int .i64 Try.underlying3) rfl (by kernel_rfl) (RF.cons 3 (RT.struct (tot := 3) Try.underlying24 (by kernel_rfl) (RF.cons 1 (RT.str Try.underlying9) rfl (by kernel_rfl) (RF.cons 1 (RT.str Try.underlying9) rfl (by kernel_rfl) (RF.cons 1 (RT.bool Try.underlying4) rfl (by kernel_rfl) (RF.nil rfl))))) rfl (by kernel_rfl) (RF.cons 1 (RT.bool Try.underlying4) rfl (by kernel_rfl) (RF.nil rfl)))))) : RT Try.prog 31 (List _)).E W ts cs) :
    ∃ (l : List Lk) (la : Option Addr) (lc : Nat), cs = [.slice la l.length lc] ∧ l.length ≤ 9223372036854775807 ∧ RdO W la (lcells l) := by
  obtain ⟨ad, cap, vss, rfl, h2, _, h4, h5, _, h6, h7⟩ := h
  obtain ⟨l, hl, hp⟩ := exists_list (fun i (m : Lk) => ∀ vs, vss[i]? = some vs → vs = m.cells) ts.length (fun i hi => by
    obtain ⟨m, e⟩ := lock_of (h6 i ts[i] (vss[i]'(by omega)) (List.getElem?_eq_getElem hi) (List.getElem?_eq_getElem (by omega)))
    refine ⟨m, fun vs hv => ?_⟩
    rw [List.getElem?_eq_getElem (by omega)] at hv
    simp only [Option.some.injEq] at hv
    rw [← hv]
    exact e)
  have e : vss = l.map Lk.cells := by
    apply List.ext_getElem (by rw [List.length_map]; omega)
    intro i h1 h2
    rw [List.getElem_map]
    exact hp i (l[i]'(by rw [List.length_map] at h2; exact h2)) (List.getElem?_eq_getElem _) vss[i] (List.getElem?_eq_getElem h1)
  refine ⟨l, ad, cap, by rw [hl], by omega, ?_⟩
  rw [e, ← List.flatMap_def] at h7
  exact h7
theorem rd_tail_blk {W : World} {b : Nat} {cs : List Value} {R : List HP} : ∀ L, Rd W (L ++ blk b cs :: R) (some ⟨b, 0, none⟩) cs := fun L =>
  rd_blk L.length (by rw [List.getElem?_append_right (Nat.le_refl _), Nat.sub_self]; rfl) fun j u hj => by rw [Nat.zero_add]; exact hj
theorem rd_tail_sown {W : World} {a : Option Addr} {k c sz : Nat} {cs : List Value} {R : List HP} : ∀ L, Rd W (L ++ sown a k c sz cs :: R) a cs := fun L =>
  rd_sown L.length (by rw [List.getElem?_append_right (Nat.le_refl _), Nat.sub_self]; rfl) fun j u hj => hj
set_option maxRecDepth 20000
set_option maxHeartbeats 4000000
attribute [local irreducible] SG WC WO W1 WD WK PS Rd Tri Exit.then Exit.inBlock bodyPost calmQ Mid sadd
variable {W : World} {n : Nat} {F : Fr} {L : List HP} {G : Act → World → Prop}
theorem after_tri (p : List UInt8) (b : UInt8) (R : List HP) (hb : b.toNat ≠ 255) (hp : p.length ≤ 1000) :
    Tri Try.prog W 37 [str (p ++ [b])] R (X := Unit) (fun _ => .tuple #[str (p ++ [b + 1]), .bool true]) (fun _ => True) (fun _ => R) := by
  have hsz := strOf_size (p ++ [b])
  have hlen : (p ++ [b]).length = p.length + 1 := by simp
  have hb1 := b.toNat_lt
  refine tri_enter1 Try.func37 rfl Try.ntmps37 rfl ?_
  repeat' (first | refine sg_wo ?_ | refine sg_ps (ps_move rfl) rfl ?_ | refine sg_ps (ps_assign rfl) rfl ?_ | refine sg_seq ?_ | refine sg_region ?_ | refine sg_nil ?_ | refine sg_then ?_)
  refine sg_bytes_of_str (u := .bool) rfl rfl (by rw [hsz, hlen]; simp only [maxLen]; omega) (fun g0 c => ?_)
  rw [hsz, hlen]
  refine sg_open (fun w hO => own_block (by omega) hO) ?_
  rintro ⟨g, cur⟩ ⟨hg0, h3, h4, h5, h6⟩
  dsimp only at hg0 h3 h4 h5 h6 ⊢
  simp only [Option.some.injEq, Addr.mk.injEq, and_true] at hg0
  subst hg0
  obtain ⟨rest, rfl⟩ : ∃ rest, cur = (p ++ [b]).map bv ++ rest := ⟨cur.drop ((p.length + 1) * 1), by
    conv => lhs; rw [← List.take_append_drop ((p.length + 1) * 1) cur, h6]
    rfl⟩
  have hget : ((p ++ [b]).map bv ++ rest)[0 + p.length * 1]? = some (bv b) := by
    rw [List.getElem?_append_left (by simp)]; simp
  repeat' (first | refine sg_wo ?_ | refine sg_ps (ps_assign rfl) rfl ?_ | refine sg_seq ?_ | refine sg_nil ?_ | refine sg_then ?_ | refine sg_block ?_)
  refine sg_loop (γ := Unit) (fun _ => True) (fun _ => [(4, .slice (some ⟨g0, 0, none⟩) (p.length + 1) c)]) (fun _ => blk g0 ((p ++ [b]).map bv ++ rest) :: R) (fun _ => 0) () trivial (.cons rfl .nil) (fun w hO => hO) ?_
  rintro - -
  repeat' (first | refine sg_wo ?_ | refine sg_ps (ps_move rfl) rfl ?_ | refine sg_seq ?_ | refine sg_region ?_ | refine sg_ps (ps_sub64 rfl rfl (by omega)) rfl ?_ | refine sg_ps (ps_bin rfl rfl inferInstance) rfl ?_ | refine sg_guard_yes rfl rfl ?_ | refine sg_ps (ps_len rfl) rfl ?_ | (refine sg_guard_dec rfl rfl (fun hg => ?_) (fun hg => ?_) <;> first | (exfalso; omega) | (exact absurd rfl hg) | skip))
  refine sg_ps (ps_indexAddr (j := p.length) rfl rfl (by omega) (by omega)) rfl ?_
  repeat' (first | refine sg_wo ?_ | refine sg_guard_yes rfl rfl ?_)
  refine sg_load 0 rfl rfl hget rfl ?_
  repeat' (first | refine sg_wo ?_ | refine sg_ps (ps_move rfl) rfl ?_ | refine sg_seq ?_ | refine sg_region ?_ | refine sg_nil ?_ | refine sg_then ?_ | refine sg_ps (ps_sub64 rfl rfl (by omega)) rfl ?_ | refine sg_ps (ps_bin rfl rfl inferInstance) rfl ?_ | refine sg_cond_f rfl ?_ | refine sg_guard_yes rfl rfl ?_ | refine sg_ps (ps_pick_t rfl rfl) rfl ?_ | refine sg_ps (ps_len rfl) rfl ?_ | refine sg_skip ?_ | refine sg_exit ?_ | refine ex_then_exit ?_ | refine ex_block_hit ?_ | (refine sg_cond_dec rfl (fun hg => ?_) (fun hg => ?_) <;> first | (exfalso; omega) | (exact absurd rfl hg) | skip))
  refine sg_ps (ps_indexAddr (j := p.length) rfl rfl (by omega) (by omega)) rfl ?_
  repeat' (first | refine sg_wo ?_)
  refine sg_load 0 rfl rfl hget rfl ?_
  repeat' (first | refine sg_wo ?_ | refine sg_ps (ps_bin rfl rfl inferInstance) rfl ?_)
  refine sg_ps (ps_indexAddr (j := p.length) rfl rfl (by omega) (by omega)) rfl ?_
  repeat' (first | refine sg_wo ?_)
  refine sg_store [] rfl rfl rfl (by simp) ?_
  rw [List.nil_append]
  have hnew : (((p ++ [b]).map bv ++ rest).set (0 + p.length * 1) (Value.int .u8 (IntKind.u8.wrap ((b.toNat : Int) + 1)))) = (p ++ [b + 1]).map bv ++ rest := by
    have e1 : IntKind.u8.wrap ((b.toNat : Int) + 1) = ((b + 1).toNat : Int) := by
      rw [show ((b.toNat : Int) + 1) = ((b.toNat + 1 : Nat) : Int) by omega, wrap_u _ rfl]
      have : (b + 1).toNat = b.toNat + 1 := by
        rw [UInt8.toNat_add]; show (b.toNat + 1) % 256 = _; omega
      rw [this]; show (((b.toNat + 1) % 256 : Nat) : Int) = _; omega
    rw [e1, show 0 + p.length * 1 = (p.map bv).length by simp]
    simp [List.set_append]
  rw [hnew]
  repeat' (first | refine sg_wo ?_ | refine sg_ps (ps_move rfl) rfl ?_ | refine sg_seq ?_ | refine sg_region ?_ | refine sg_nil ?_ | refine sg_then ?_)
  refine sg_str_of_bytes (bs := p ++ [b + 1]) rfl rfl (by simp) (rd_blk 0 rfl fun j u hj => by rw [Nat.zero_add, List.getElem?_append_left (List.getElem?_eq_some_iff.1 hj).1]; exact hj) ?_
  repeat' (first | refine sg_wo ?_ | refine sg_ps (ps_assign rfl) rfl ?_ | refine sg_nil ?_ | refine sg_then ?_ | refine sg_ret ?_)
  exact ex_ret2 rfl rfl rfl () rfl trivial (fun w hO => hO.tail)
theorem under_tri (p : List UInt8) (b : UInt8) (R : List HP) (hb : b.toNat ≠ 255) (hp : p.length ≤ 1000) :
    Tri Try.prog W 30 [str (p ++ [b])] R (X := Unit) (fun _ => .agg #[str (p ++ [b]), str (p ++ [b + 1]), .bool false]) (fun _ => True) (fun _ => R) := by
  refine tri_enter1 Try.func30 rfl Try.ntmps30 rfl ?_
  repeat' (first | refine sg_wo ?_ | refine sg_ps (ps_move rfl) rfl ?_ | refine sg_seq ?_ | refine sg_region ?_ | refine sg_nil ?_ | refine sg_then ?_ | refine sg_alloc rfl (fun al => ?_))
  refine sg_call (after_tri p b _ hb hp) rfl rfl (fun _ _ => ?_)
  repeat' (first | refine sg_wo ?_ | refine sg_ps (ps_move rfl) rfl ?_ | refine sg_ps (ps_assign rfl) rfl ?_ | refine sg_seq ?_ | refine sg_region ?_ | refine sg_nil ?_ | refine sg_then ?_ | refine sg_ps (ps_not rfl) rfl ?_ | refine sg_ps (ps_extract rfl rfl) rfl ?_ | refine sg_ps (ps_build rfl rfl) rfl ?_ | refine sg_store_whole [] rfl rfl rfl rfl rfl ?_ | refine sg_ret ?_)
  exact ex_retc 0 rfl rfl rfl rfl () rfl trivial (fun w hO => hO.tail)
theorem span_tri (p : List UInt8) (b : UInt8) (R : List HP) (hb : b.toNat ≠ 255) (hp : p.length ≤ 1000) :
    Tri Try.prog W 22 [str (p ++ [b])] R (X := Unit) (fun _ => .agg #[str (p ++ [b]), str (p ++ [b + 1]), .bool false]) (fun _ => True) (fun _ => R) := by
  refine tri_enter1 Try.func22 rfl Try.ntmps22 rfl ?_
  repeat' (first | refine sg_wo ?_ | refine sg_ps (ps_move rfl) rfl ?_ | refine sg_seq ?_ | refine sg_region ?_ | refine sg_nil ?_ | refine sg_then ?_ | refine sg_alloc rfl (fun al => ?_))
  refine sg_call (under_tri p b _ hb hp) rfl rfl (fun _ _ => ?_)
  repeat' (first | refine sg_wo ?_ | refine sg_nil ?_ | refine sg_then ?_ | refine sg_store_whole [] rfl rfl rfl rfl rfl ?_ | refine sg_ret ?_)
  exact ex_retc 0 rfl rfl rfl rfl () rfl trivial (fun w hO => hO.tail)
theorem awake_tri (R : List HP) : Tri Try.prog W 7 [] R (X := Unit) (fun _ => .bool true) (fun _ => True) (fun _ => R) := by
  refine tri_enter0 Try.func7 rfl Try.ntmps7 ?_
  repeat' (first | refine sg_wo ?_ | refine sg_ps (ps_assign rfl) rfl ?_ | refine sg_seq ?_ | refine sg_region ?_ | refine sg_nil ?_ | refine sg_then ?_)
  refine sg_call (newt_tri _) rfl rfl (fun t _ => ?_)
  repeat' (first | refine sg_wo ?_ | refine sg_ps (ps_move rfl) rfl ?_ | refine sg_ps (ps_assign rfl) rfl ?_ | refine sg_seq ?_ | refine sg_region ?_ | refine sg_nil ?_ | refine sg_then ?_ | refine sg_ps (ps_bin rfl rfl inferInstance) rfl ?_ | refine sg_cond_f rfl ?_ | refine sg_skip ?_)
  refine sg_call (span_tri [] 97 _ (by decide) (by decide)) rfl rfl (fun _ _ => ?_)
  repeat' (first | refine sg_wo ?_ | refine sg_ps (ps_build rfl rfl) rfl ?_)
  refine sg_buildSlice1 (vs := lcells [⟨5, [97], [98], false, false⟩]) rfl (of_decide_eq_true rfl) rfl rfl rfl (fun b1 => ?_)
  refine sg_front1 ?_
  refine sg_wo ?_
  refine sg_call (try_tri t [] 1 [⟨5, [97], [98], false, false⟩] (some ⟨b1, 0, none⟩) 1 _ (by decide) (by intro e he; simp at he; done) rd_tail_blk) rfl rfl (fun _ _ => ?_)
  have h1 : tryS [] 1 [⟨5, [97], [98], false, false⟩] = (0, [(1, [⟨5, [97], [98], false, false⟩])]) := by rfl
  rw [h1]
  dsimp only
  repeat' (first | refine sg_wo ?_ | refine sg_ps (ps_move rfl) rfl ?_ | refine sg_ps (ps_assign rfl) rfl ?_ | refine sg_seq ?_ | refine sg_region ?_ | refine sg_nil ?_ | refine sg_then ?_)
  refine sg_call (span_tri [97] 98 _ (by decide) (by decide)) rfl rfl (fun _ _ => ?_)
  repeat' (first | refine sg_wo ?_ | refine sg_ps (ps_build rfl rfl) rfl ?_)
  refine sg_buildSlice1 (vs := lcells [⟨5, [97, 98], [97, 99], false, false⟩]) rfl (of_decide_eq_true rfl) rfl rfl rfl (fun b2 => ?_)
  refine sg_front1 ?_
  refine sg_wo ?_
  refine sg_call (try_tri t [(1, [⟨5, [97], [98], false, false⟩])] 2 [⟨5, [97, 98], [97, 99], false, false⟩] (some ⟨b2, 0, none⟩) 1 _ (by decide) (by intro e he; simp at he; subst he; decide) rd_tail_blk) rfl rfl (fun _ _ => ?_)
  have h2 : tryS [(1, [⟨5, [97], [98], false, false⟩])] 2 [⟨5, [97, 98], [97, 99], false, false⟩] = (0, [(1, [⟨5, [97], [98], false, false⟩]), (2, [⟨5, [97, 98], [97, 99], false, false⟩])]) := by rfl
  rw [h2]
  dsimp only
  repeat' (first | refine sg_wo ?_ | refine sg_ps (ps_move rfl) rfl ?_ | refine sg_ps (ps_assign rfl) rfl ?_ | refine sg_seq ?_ | refine sg_region ?_ | refine sg_nil ?_ | refine sg_then ?_)
  refine sg_call (span_tri [97] 98 _ (by decide) (by decide)) rfl rfl (fun _ _ => ?_)
  repeat' (first | refine sg_wo ?_ | refine sg_ps (ps_build rfl rfl) rfl ?_)
  refine sg_buildSlice1 (vs := lcells [⟨5, [97, 98], [97, 99], false, true⟩]) rfl (of_decide_eq_true rfl) rfl rfl rfl (fun b3 => ?_)
  refine sg_front1 ?_
  refine sg_wo ?_
  refine sg_call (try_tri t [(1, [⟨5, [97], [98], false, false⟩]), (2, [⟨5, [97, 98], [97, 99], false, false⟩])] 3 [⟨5, [97, 98], [97, 99], false, true⟩] (some ⟨b3, 0, none⟩) 1 _ (by decide) (by intro e he; simp at he; rcases he with rfl | rfl <;> decide) rd_tail_blk) rfl rfl (fun _ _ => ?_)
  have h3 : tryS [(1, [⟨5, [97], [98], false, false⟩]), (2, [⟨5, [97, 98], [97, 99], false, false⟩])] 3 [⟨5, [97, 98], [97, 99], false, true⟩] = (9, [(1, [⟨5, [97], [98], false, false⟩]), (2, [⟨5, [97, 98], [97, 99], false, false⟩])]) := by rfl
  rw [h3]
  dsimp only
  repeat' (first | refine sg_wo ?_ | refine sg_ps (ps_move rfl) rfl ?_ | refine sg_ps (ps_assign rfl) rfl ?_ | refine sg_seq ?_ | refine sg_region ?_ | refine sg_nil ?_ | refine sg_then ?_ | refine sg_ps (ps_bin rfl rfl inferInstance) rfl ?_ | refine sg_guard_yes rfl rfl ?_ | refine sg_ps (ps_pick_t rfl rfl) rfl ?_)
  refine sg_call (held_tri t [(1, [⟨5, [97], [98], false, false⟩]), (2, [⟨5, [97, 98], [97, 99], false, false⟩])] 2 _ (by intro e he; simp at he; rcases he with rfl | rfl <;> decide)) rfl rfl (fun y _ => ?_)
  obtain ⟨a', c'⟩ := y
  have hh : heldS [(1, [⟨5, [97], [98], false, false⟩]), (2, [⟨5, [97, 98], [97, 99], false, false⟩])] 2 = [⟨5, [97, 98], [97, 99], false, false⟩] := by rfl
  rw [hh]
  repeat' (first | refine sg_wo ?_ | refine sg_ps (ps_assign rfl) rfl ?_ | refine sg_nil ?_ | refine sg_then ?_ | refine sg_ps (ps_bin rfl rfl inferInstance) rfl ?_ | refine sg_guard_yes rfl rfl ?_ | refine sg_ps (ps_pick_t rfl rfl) rfl ?_ | refine sg_ps (ps_len rfl) rfl ?_ | refine sg_ret ?_)
  exact ex_ret1 rfl rfl () rfl trivial (fun w hO => hO.tail.tail.tail.tail.tail)
end Go.Proofs.Ytgapgpknghnemaa
