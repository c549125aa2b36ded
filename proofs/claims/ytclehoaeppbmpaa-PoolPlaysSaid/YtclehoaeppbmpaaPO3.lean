/- Package granaryref13: Save. -/
import Derived.Test.YtclehoaeppbmpaaPOA
namespace Go.Proofs.Ytclehoaeppbmpaa
set_option linter.unusedVariables false
set_option linter.unusedSimpArgs false
set_option linter.unusedSectionVars false
set_option linter.unnecessarySimpa false
open Go Go.Proofs
def ask1 (id : Int) : Int := IntKind.u64.wrap (IntKind.u64.wrap (2 * id) + 1)
def lessS (f : Int) : Int := if 0 < f then IntKind.i64.wrap (f - 1) else f
def fullS (S : BkS) (f : Int) : BkS := { S with full := f }
def putS (S : BkS) (id : Int) (bs : List UInt8) : BkS := { S with ent := setB S.ent id bs }
def saveS (S : BkS) (id : Int) (bs : List UInt8) : Int × BkS :=
  if S.full = 0 then (3, askS S (ask1 id)) else (0, putS (fullS (askS S (ask1 id)) (lessS S.full)) id bs)
set_option maxRecDepth 20000
set_option maxHeartbeats 4000000
attribute [local irreducible] SG WC WO W1 WD WK PS Rd Tri Exit.then Exit.inBlock bodyPost calmQ Mid sadd
variable {W : World} {n : Nat} {F : Fr} {L : List HP} {G : Act → World → Prop}
theorem bsave_tri (b : Nat) (S : BkS) (id : Int) (bs : List UInt8) (xa : Option Addr) (xc : Nat) (R : List HP) (hl : S.ent.length ≤ 1000000) (hq : S.asked.length ≤ 1000000) (hbl : bs.length ≤ 140737488355328) (hr : ∀ L, Rd W (L ++ R) xa (bs.map bv)) :
    Tri Try.prog W 19 [dp b, u64 id, .slice xa bs.length xc] (BackRep b S :: R) (X := Unit) (fun _ => i64 (saveS S id bs).1) (fun _ => True) (fun _ => BackRep b (saveS S id bs).2 :: R) := by
  refine tri_enter3 Try.func19 rfl Try.ntmps19 rfl ?_
  refine BackRep.open fun T ia ic ba bc aa ac hS => ?_
  repeat' (first | refine sg_wo ?_ | refine sg_ps (ps_move rfl) rfl ?_ | refine sg_ps (ps_assign rfl) rfl ?_ | refine sg_seq ?_ | refine sg_region ?_ | refine sg_nil ?_ | refine sg_then ?_ | refine sg_ps (ps_fieldAddr rfl) rfl ?_ | refine sg_ps (ps_nilCheck rfl) rfl ?_ | refine sg_load 0 rfl rfl rfl rfl ?_ | refine sg_ps (ps_bin rfl rfl inferInstance) rfl ?_)
  generalize hqq : IntKind.u64.wrap (IntKind.u64.wrap (2 * id) + 1) = q
  have hask : ask1 id = q := hqq
  refine sg_buildSlice1 (vs := [u64 q]) rfl (of_decide_eq_true rfl) rfl rfl rfl (fun b1 => ?_)
  refine sg_own (L' := sown aa S.asked.length ac 1 (S.asked.map u64) :: blk b1 [u64 q] :: blk b [.slice ia S.ent.length ic, .slice ba S.ent.length bc, .slice aa S.asked.length ac, i64 S.full] :: sown ia S.ent.length ic 1 (S.ent.map fun e => u64 e.1) :: sown ba S.ent.length bc 1 (T.map BE.sl) :: sepL (T.map BE.own) :: R) (fun w hO => hO.front4) ?_
  repeat' (first | refine sg_wo ?_)
  refine sg_append (news := [u64 q]) rfl rfl rfl rfl (u64_one [q]) (rd_blk 1 rfl fun j u hj => by rw [Nat.zero_add]; exact hj) (by simp only [maxLen]; omega) (by omega) fun a' c' => ?_
  repeat' (first | refine sg_wo ?_ | refine sg_nil ?_ | refine sg_then ?_ | refine sg_ps (ps_fieldAddr rfl) rfl ?_ | refine sg_ps (ps_nilCheck rfl) rfl ?_ | refine sg_store [_, _] rfl rfl rfl (of_decide_eq_true rfl) ?_)
  refine sg_own (L' := BackRep b (askS S q) :: R) (fun w hO => BackRep.shut (S := askS S q) hS (by rw [askS_len, askS_map]; exact hO.front1.tail.back3)) ?_
  refine sg_seq_mid (γ := Unit) (fun _ => ¬ S.full = 0) (fun _ => [(0, dp b), (1, u64 id), (2, .slice xa bs.length xc)]) (fun _ => BackRep b (askS S q) :: R) ?_ ?_
  · refine BackRep.open fun T ia ic ba bc aa ac hS => ?_
    by_cases h0 : S.full = 0
    · have hs : saveS S id bs = (3, askS S q) := by unfold saveS; rw [if_pos h0, hask]
      rw [hs]
      have h0' : (askS S q).full = 0 := h0
      rw [h0']
      repeat' (first | refine sg_wo ?_ | refine sg_ps (ps_move rfl) rfl ?_ | refine sg_ps (ps_assign rfl) rfl ?_ | refine sg_seq ?_ | refine sg_region ?_ | refine sg_nil ?_ | refine sg_then ?_ | refine sg_ps (ps_fieldAddr rfl) rfl ?_ | refine sg_ps (ps_nilCheck rfl) rfl ?_ | refine sg_load 0 rfl rfl rfl rfl ?_ | refine sg_ps (ps_bin rfl rfl inferInstance) rfl ?_ | refine sg_cond_t rfl ?_ | refine sg_ret ?_ | refine ex_then_ret ?_)
      exact ex_ret1 rfl rfl () rfl trivial (fun w hO => BackRep.shut hS (by rw [h0']; exact hO))
    · have h0' : ¬ (askS S q).full = 0 := h0
      repeat' (first | refine sg_wo ?_ | refine sg_ps (ps_move rfl) rfl ?_ | refine sg_seq ?_ | refine sg_region ?_ | refine sg_nil ?_ | refine sg_then ?_ | refine sg_ps (ps_fieldAddr rfl) rfl ?_ | refine sg_ps (ps_nilCheck rfl) rfl ?_ | refine sg_load 0 rfl rfl rfl rfl ?_ | refine sg_ps (ps_bin rfl rfl inferInstance) rfl ?_ | refine sg_skip ?_ | (refine sg_cond_dec rfl (fun hg => ?_) (fun hg => ?_) <;> first | (exfalso; omega) | (exact absurd rfl hg) | skip))
      exact ex_mid () h0 (.cons rfl (.cons rfl (.cons rfl .nil))) (fun w hO => BackRep.shut hS hO)
  rintro - h0
  have hs : saveS S id bs = (0, putS (fullS (askS S q) (lessS S.full)) id bs) := by unfold saveS; rw [if_neg h0, hask]
  rw [hs]
  refine sg_seq_mid (γ := Unit) (fun _ => True) (fun _ => [(0, dp b), (1, u64 id), (2, .slice xa bs.length xc)]) (fun _ => BackRep b (fullS (askS S q) (lessS S.full)) :: R) ?_ ?_
  · refine BackRep.open fun T ia ic ba bc aa ac hS => ?_
    have hfe : (askS S q).full = S.full := rfl
    rw [hfe]
    by_cases h1 : 0 < S.full
    · skip
      repeat' (first | refine sg_wo ?_ | refine sg_ps (ps_move rfl) rfl ?_ | refine sg_seq ?_ | refine sg_region ?_ | refine sg_nil ?_ | refine sg_then ?_ | refine sg_ps (ps_fieldAddr rfl) rfl ?_ | refine sg_ps (ps_nilCheck rfl) rfl ?_ | refine sg_load 0 rfl rfl rfl rfl ?_ | refine sg_ps (ps_bin rfl rfl inferInstance) rfl ?_ | refine sg_store [] rfl rfl rfl (of_decide_eq_true rfl) ?_ | (refine sg_cond_dec rfl (fun hg => ?_) (fun hg => ?_) <;> first | (exfalso; omega) | (exact absurd rfl hg) | skip))
      exact ex_mid () trivial (.cons rfl (.cons rfl (.cons rfl .nil))) (fun w hO => BackRep.shut (S := fullS (askS S q) (lessS S.full)) hS (by unfold lessS; rw [if_pos h1]; exact hO))
    · skip
      repeat' (first | refine sg_wo ?_ | refine sg_ps (ps_move rfl) rfl ?_ | refine sg_seq ?_ | refine sg_region ?_ | refine sg_nil ?_ | refine sg_then ?_ | refine sg_ps (ps_fieldAddr rfl) rfl ?_ | refine sg_ps (ps_nilCheck rfl) rfl ?_ | refine sg_load 0 rfl rfl rfl rfl ?_ | refine sg_ps (ps_bin rfl rfl inferInstance) rfl ?_ | refine sg_skip ?_ | (refine sg_cond_dec rfl (fun hg => ?_) (fun hg => ?_) <;> first | (exfalso; omega) | (exact absurd rfl hg) | skip))
      exact ex_mid () trivial (.cons rfl (.cons rfl (.cons rfl .nil))) (fun w hO => BackRep.shut (S := fullS (askS S q) (lessS S.full)) hS (by unfold lessS; rw [if_neg h1]; exact hO))
  rintro - -
  generalize hS1 : fullS (askS S q) (lessS S.full) = S1
  have hl1 : S1.ent.length ≤ 1000000 := by rw [← hS1]; exact hl
  repeat' (first | refine sg_wo ?_ | refine sg_ps (ps_move rfl) rfl ?_ | refine sg_seq ?_ | refine sg_region ?_)
  refine sg_call (bfind_tri b S1 id R hl1) rfl rfl (fun _ _ => ?_)
  rcases idx_cases id S1.ent 0 with ⟨A, bs0, B, h1, h2, h3, h4, h5⟩ | ⟨h1, h2, h3, h4⟩
  · rw [h3, optI_some]
    repeat' (first | refine sg_wo ?_ | refine sg_ps (ps_move rfl) rfl ?_ | refine sg_ps (ps_assign rfl) rfl ?_ | refine sg_seq ?_ | refine sg_region ?_ | refine sg_nil ?_ | refine sg_then ?_ | refine sg_ps (ps_bin rfl rfl inferInstance) rfl ?_ | refine sg_cond_f rfl ?_ | refine sg_skip ?_)
    refine BackRep.open fun T ia ic ba bc aa ac hS => ?_
    rw [h1] at hS
    obtain ⟨TA, e, TB, rfl, g1, g2, g3⟩ := split_map hS
    obtain rfl : e.id = id := congrArg Prod.fst g2
    have hAl : A.length = TA.length := by rw [← g1, List.length_map]
    have hlen : S1.ent.length = TA.length + (TB.length + 1) := by rw [h1, ← hAl, ← g3]; simp
    rw [hAl]
    refine sg_open (L' := fun (y : Nat × List Value) => blk y.1 y.2 :: blk b [.slice ia S1.ent.length ic, .slice ba S1.ent.length bc, .slice aa S1.asked.length ac, i64 S1.full] :: sown ia S1.ent.length ic 1 (S1.ent.map fun e => u64 e.1) :: sown aa S1.asked.length ac 1 (S1.asked.map u64) :: sepL ((TA ++ e :: TB).map BE.own) :: R) (fun w hO => own_block (by omega) hO.front2) ?_
    rintro ⟨g, cur⟩ ⟨rfl, hc1, hc2, hc3, hc4⟩
    dsimp only at hc3 hc4 ⊢
    refine sg_drawK [blk b [.slice ia S1.ent.length ic, .slice (some ⟨g, 0, none⟩) S1.ent.length bc, .slice aa S1.asked.length ac, i64 S1.full]] [0, 1, 2, 4, 5, 3, 6, 7, 8] (by kernel_rfl) (by kernel_rfl) (fun w hO => hO.pick [1] (by decide)) ?_
    repeat' (first | refine sk_pure rfl rfl (ps_move rfl) rfl ?_ | refine sk_pure rfl rfl (ps_nilCheck rfl) rfl ?_ | refine sk_pure rfl rfl (ps_fieldAddr rfl) rfl ?_ | refine sk_load 0 rfl rfl rfl rfl rfl ?_ | refine sk_eff rfl rfl ?_)
    refine sg_call (rawCopy_tri bs xa xc hbl _ (hr [_, _, _, _, _])) rfl rfl (fun x _ => ?_)
    refine sk_back (fun w hO => hO.pick [2] (by decide)) ?_
    repeat' (first | refine sk_pure rfl rfl (ps_indexAddr rfl rfl rfl (by omega)) rfl ?_ | refine sk_eff rfl rfl ?_)
    refine sg_store [_] rfl rfl rfl (by simp only [Nat.zero_add, Nat.mul_one]; omega) ?_
    rw [Nat.zero_add, Nat.mul_one]
    refine sk_back (fun w hO => hO.pick [2] (by decide)) ?_
    repeat' (first | refine sk_nil ?_)
    refine sg_then ?_
    repeat' (first | refine sg_wo ?_ | refine sg_ps (ps_assign rfl) rfl ?_ | refine sg_seq ?_ | refine sg_region ?_ | refine sg_nil ?_ | refine sg_then ?_ | refine sg_ret ?_)
    refine ex_ret1 rfl rfl () rfl trivial (fun w hO => ?_)
    have hE : (putS S1 e.id bs).ent = A ++ (e.id, bs) :: B := h5 bs
    have hn : (putS S1 e.id bs).ent.length = S1.ent.length := by rw [hE, h1]; simp
    have hi : ((putS S1 e.id bs).ent.map fun e => u64 e.1) = S1.ent.map fun e => u64 e.1 := by rw [hE, h1]; simp
    refine BackRep.shut (S := putS S1 e.id bs) (T := TA ++ ⟨e.id, x.1, x.2, bs⟩ :: TB) (ia := ia) (ic := ic) (ba := some ⟨g, 0, none⟩) (bc := bc) (aa := aa) (ac := ac) (by rw [hE, ← g1, ← g3]; simp [BE.st]) ?_
    rw [hn, hi]
    have k1 := hO.front5
    rw [List.map_append, List.map_cons] at k1
    have k2 := k1.sepOut.tail.front1
    have k3 : Own W w ((⟨e.id, x.1, x.2, bs⟩ : BE).own :: _) := k2
    have k4 := k3.sepIn.front1
    have k5 := own_mk (n := S1.ent.length) (c := bc) (sz := 1) (xs := (TA ++ ⟨e.id, x.1, x.2, bs⟩ :: TB).map BE.sl) k4 hc1 (by simpa [maxLen] using hc2) (by rw [List.length_set]; exact hc3) (by
      rw [List.take_set, hc4, List.map_append, List.map_cons, List.map_append, List.map_cons]
      rw [List.set_append_right _ _ (by simp)]
      simp [BE.sl])
    have k6 := k5.front1.front4.front2.front4.front4
    have hm : (TA ++ ⟨e.id, x.1, x.2, bs⟩ :: TB).map BE.own = TA.map BE.own ++ BE.own ⟨e.id, x.1, x.2, bs⟩ :: TB.map BE.own := by rw [List.map_append, List.map_cons]
    rw [hm]
    exact k6
  · rw [h2]
    repeat' (first | refine sg_wo ?_ | refine sg_ps (ps_move rfl) rfl ?_ | refine sg_ps (ps_assign rfl) rfl ?_ | refine sg_seq ?_ | refine sg_region ?_ | refine sg_nil ?_ | refine sg_then ?_ | refine sg_ps (ps_fieldAddr rfl) rfl ?_ | refine sg_ps (ps_nilCheck rfl) rfl ?_ | refine sg_ps (ps_bin rfl rfl inferInstance) rfl ?_ | refine sg_cond_t rfl ?_)
    refine BackRep.open fun T ia ic ba bc aa ac hS => ?_
    have hTl : T.length = S1.ent.length := by rw [← hS, List.length_map]
    repeat' (first | refine sg_wo ?_ | refine sg_ps (ps_move rfl) rfl ?_ | refine sg_load 0 rfl rfl rfl rfl ?_)
    refine sg_buildSlice1 (vs := [u64 id]) rfl (of_decide_eq_true rfl) rfl rfl rfl (fun b1 => ?_)
    refine sg_own (L' := sown ia S1.ent.length ic 1 (S1.ent.map fun e => u64 e.1) :: blk b1 [u64 id] :: blk b [.slice ia S1.ent.length ic, .slice ba S1.ent.length bc, .slice aa S1.asked.length ac, i64 S1.full] :: sown ba S1.ent.length bc 1 (T.map BE.sl) :: sown aa S1.asked.length ac 1 (S1.asked.map u64) :: sepL (T.map BE.own) :: R) (fun w hO => hO.front2) ?_
    repeat' (first | refine sg_wo ?_)
    refine sg_append (news := [u64 id]) rfl rfl rfl rfl (u64_one [id]) (rd_blk 1 rfl fun j u hj => by rw [Nat.zero_add]; exact hj) (by simp only [maxLen]; omega) (by omega) fun a' c' => ?_
    repeat' (first | refine sg_wo ?_ | refine sg_seq ?_ | refine sg_nil ?_ | refine sg_then ?_ | refine sg_ps (ps_fieldAddr rfl) rfl ?_ | refine sg_ps (ps_nilCheck rfl) rfl ?_ | refine sg_store [_, _] rfl rfl rfl (of_decide_eq_true rfl) ?_)
    refine sg_drop1 ?_
    refine sg_drawK [blk b [.slice a' (S1.ent.length + 1) c', .slice ba S1.ent.length bc, .slice aa S1.asked.length ac, i64 S1.full]] [0, 1, 2, 3, 5, 4, 6, 7, 8, 9, 10, 11] (by kernel_rfl) (by kernel_rfl) (fun w hO => hO.pick [1] (by decide)) ?_
    repeat' (first | refine sk_pure rfl rfl (ps_move rfl) rfl ?_ | refine sk_pure rfl rfl (ps_nilCheck rfl) rfl ?_ | refine sk_pure rfl rfl (ps_fieldAddr rfl) rfl ?_ | refine sk_load 0 rfl rfl rfl rfl rfl ?_ | refine sk_eff rfl rfl ?_)
    refine sg_call (rawCopy_tri bs xa xc hbl _ (hr [_, _, _, _, _])) rfl rfl (fun x _ => ?_)
    refine sk_back (fun w hO => hO.pick [2] (by decide)) ?_
    repeat' (first | refine sk_eff rfl rfl ?_)
    refine sg_buildSlice1 (vs := [.slice x.1 bs.length x.2]) rfl (of_decide_eq_true rfl) rfl rfl rfl (fun b2 => ?_)
    refine sk_back (fun w hO => hO.pick [3] (by decide)) ?_
    repeat' (first | refine sk_eff rfl rfl ?_)
    refine sg_own (L' := sown ba S1.ent.length bc 1 (T.map BE.sl) :: blk b2 [.slice x.1 bs.length x.2] :: sown x.1 bs.length x.2 1 (bs.map bv) :: sown a' (S1.ent.length + 1) c' 1 ((S1.ent.map fun e => u64 e.1) ++ [u64 id]) :: blk b [.slice a' (S1.ent.length + 1) c', .slice ba S1.ent.length bc, .slice aa S1.asked.length ac, i64 S1.full] :: sown aa S1.asked.length ac 1 (S1.asked.map u64) :: sepL (T.map BE.own) :: R) (fun w hO => hO.front4) ?_
    refine sg_append (news := [.slice x.1 bs.length x.2]) rfl rfl rfl rfl (by intro u hu; simp at hu; subst hu; rfl) (rd_blk 1 rfl fun j u hj => by rw [Nat.zero_add]; exact hj) (by simp only [maxLen]; omega) (by omega) fun a2 c2 => ?_
    refine sk_back (fun w hO => hO.pick [4] (by decide)) ?_
    repeat' (first | refine sk_pure rfl rfl (ps_nilCheck rfl) rfl ?_ | refine sk_pure rfl rfl (ps_fieldAddr rfl) rfl ?_ | refine sk_eff rfl rfl ?_ | refine sg_store [_, _, _, _] rfl rfl rfl (of_decide_eq_true rfl) ?_)
    refine sk_end (by kernel_rfl) ?_
    repeat' (first | refine sk_nil ?_)
    refine sg_then ?_
    repeat' (first | refine sg_wo ?_ | refine sg_ps (ps_assign rfl) rfl ?_ | refine sg_seq ?_ | refine sg_region ?_ | refine sg_nil ?_ | refine sg_then ?_ | refine sg_ret ?_ | refine ex_then_ret ?_)
    refine ex_ret1 rfl rfl () rfl trivial (fun w hO => ?_)
    have hE : (putS S1 id bs).ent = S1.ent ++ [(id, bs)] := h4 bs
    have hn : (putS S1 id bs).ent.length = S1.ent.length + 1 := by rw [hE]; simp
    have hi : ((putS S1 id bs).ent.map fun e => u64 e.1) = (S1.ent.map fun e => u64 e.1) ++ [u64 id] := by rw [hE]; simp
    refine BackRep.shut (S := putS S1 id bs) (T := T ++ [⟨id, x.1, x.2, bs⟩]) (ia := a') (ic := c') (ba := a2) (bc := c2) (aa := aa) (ac := ac) (by rw [hE, ← hS]; simp [BE.st]) ?_
    rw [hn, hi]
    have k0 : Own W w (_ :: _ :: _ :: _ :: _ :: _ :: _ :: R) := hO
    have k1 := k0.front1.tail.front5.front2
    rw [← List.append_nil (T.map BE.own)] at k1
    have k4 := (Own.sepIn (p := BE.own ⟨id, x.1, x.2, bs⟩) (A := T.map BE.own) (B := []) k1).front4.front2.front3.front4
    have hm : (T ++ [(⟨id, x.1, x.2, bs⟩ : BE)]).map BE.own = T.map BE.own ++ [BE.own ⟨id, x.1, x.2, bs⟩] := by rw [List.map_append]; rfl
    have hm2 : (T ++ [(⟨id, x.1, x.2, bs⟩ : BE)]).map BE.sl = T.map BE.sl ++ [.slice x.1 bs.length x.2] := by rw [List.map_append]; rfl
    rw [hm, hm2]
    exact k4
end Go.Proofs.Ytclehoaeppbmpaa
