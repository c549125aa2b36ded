/- Package granaryref13: the back and its contracts. | Package granaryref13: Load and Save. -/
import Derived.Test.YtclehoaeppbmpaaPO0
import Derived.Test.YtclehoaeppbmpaaRWC
import Derived.Test.YtclehoaeppbmpaaDR5
import Derived.Test.YtclehoaeppbmpaaSEP
namespace Go.Proofs.Ytclehoaeppbmpaa
set_option linter.unusedVariables false
set_option linter.unusedSimpArgs false
set_option linter.unusedSectionVars false
set_option linter.unnecessarySimpa false
open Go Go.Proofs
abbrev u64 (i : Int) : Value := .int .u64 i
abbrev EL := List (Int × List UInt8)
structure BE where
  id : Int
  a : Option Addr
  c : Nat
  bs : List UInt8
def BE.st (e : BE) : Int × List UInt8 := (e.id, e.bs)
def BE.sl (e : BE) : Value := .slice e.a e.bs.length e.c
def BE.own (e : BE) : HP := sown e.a e.bs.length e.c 1 (e.bs.map bv)
/-- what lies in a back, what it was asked, and how much it takes yet -/
structure BkS where
  ent : EL
  asked : List Int
  full : Int
structure BX where
  T : List BE
  ia : Option Addr
  ic : Nat
  ba : Option Addr
  bc : Nat
  aa : Option Addr
  ac : Nat
def bparts (b : Nat) (S : BkS) (x : BX) : List HP :=
  [blk b [.slice x.ia S.ent.length x.ic, .slice x.ba S.ent.length x.bc, .slice x.aa S.asked.length x.ac, i64 S.full], sown x.ia S.ent.length x.ic 1 (S.ent.map fun e => u64 e.1), sown x.ba S.ent.length x.bc 1 (x.T.map BE.sl), sown x.aa S.asked.length x.ac 1 (S.asked.map u64), sepL (x.T.map BE.own)]
def BackRep (b : Nat) (S : BkS) : HP := fun h => ∃ x : BX, x.T.map BE.st = S.ent ∧ sepL (bparts b S x) h
def idxOf : EL → Int → Nat → Option Nat
  | [], _, _ => none
  | e :: l, id, k => if e.1 = id then some k else idxOf l id (k + 1)
theorem idxOf_lt {id : Int} : ∀ {l : EL} {k i : Nat}, idxOf l id k = some i → k ≤ i ∧ i < k + l.length
  | [], _, _, h => by cases h
  | e :: l, k, i, h => by
    unfold idxOf at h
    split at h
    · simp only [Option.some.injEq] at h; subst h; simp
    · have := idxOf_lt h; simp only [List.length_cons]; omega
def optI : Option Nat → Int
  | none => -1
  | some i => i
section
variable {W : World} {n : Nat} {F : Fr} {L : List HP} {G : Act → World → Prop}
theorem BackRep.open {b : Nat} {S : BkS} (h : ∀ (T : List BE) ia ic ba bc aa ac, T.map BE.st = S.ent → SG W n F (blk b [.slice ia S.ent.length ic, .slice ba S.ent.length bc, .slice aa S.asked.length ac, i64 S.full] :: sown ia S.ent.length ic 1 (S.ent.map fun e => u64 e.1) :: sown ba S.ent.length bc 1 (T.map BE.sl) :: sown aa S.asked.length ac 1 (S.asked.map u64) :: sepL (T.map BE.own) :: L) G) : SG W n F (BackRep b S :: L) G := by
  refine sg_ex (p := fun (x : BX) h => x.T.map BE.st = S.ent ∧ sepL (bparts b S x) h) ?_
  rintro ⟨T, ia, ic, ba, bc, aa, ac⟩
  refine sg_and fun hx => sg_split (h T ia ic ba bc aa ac hx)
theorem BackRep.shut {w : World} {b : Nat} {S : BkS} {T : List BE} {ia ba aa : Option Addr} {ic bc ac : Nat} (hS : T.map BE.st = S.ent) (hO : Own W w (blk b [.slice ia S.ent.length ic, .slice ba S.ent.length bc, .slice aa S.asked.length ac, i64 S.full] :: sown ia S.ent.length ic 1 (S.ent.map fun e => u64 e.1) :: sown ba S.ent.length bc 1 (T.map BE.sl) :: sown aa S.asked.length ac 1 (S.asked.map u64) :: sepL (T.map BE.own) :: L)) : Own W w (BackRep b S :: L) :=
  (Own.join (L1 := bparts b S ⟨T, ia, ic, ba, bc, aa, ac⟩) hO).imp fun k hk => ⟨⟨T, ia, ic, ba, bc, aa, ac⟩, hS, hk⟩
end
set_option maxRecDepth 20000
set_option maxHeartbeats 4000000
attribute [local irreducible] SG WC WO W1 WD WK PS Rd Tri Exit.then Exit.inBlock bodyPost calmQ Mid sadd
variable {W : World} {n : Nat} {F : Fr} {L : List HP} {G : Act → World → Prop}
theorem bfind_tri (b : Nat) (S : BkS) (id : Int) (R : List HP) (hl : S.ent.length ≤ 1000000) :
    Tri Try.prog W 39 [dp b, u64 id] (BackRep b S :: R) (X := Unit) (fun _ => i64 (optI (idxOf S.ent id 0))) (fun _ => True) (fun _ => BackRep b S :: R) := by
  refine tri_enter2 Try.func39 rfl Try.ntmps39 rfl ?_
  refine BackRep.open fun T ia ic ba bc aa ac hS => ?_
  obtain ⟨LL, hLL⟩ : ∃ LL, LL = blk b [.slice ia S.ent.length ic, .slice ba S.ent.length bc, .slice aa S.asked.length ac, i64 S.full] :: sown ia S.ent.length ic 1 (S.ent.map fun e => u64 e.1) :: sown ba S.ent.length bc 1 (T.map BE.sl) :: sown aa S.asked.length ac 1 (S.asked.map u64) :: sepL (T.map BE.own) :: R := ⟨_, rfl⟩
  have hrd : Rd W LL ia (S.ent.map fun e => u64 e.1) := by rw [hLL]; exact rd_sown 1 rfl fun _ _ h => h
  repeat' (first | refine sg_wo ?_ | refine sg_ps (ps_assign rfl) rfl ?_ | refine sg_seq ?_ | refine sg_region ?_ | refine sg_nil ?_ | refine sg_then ?_ | refine sg_block ?_)
  refine sg_loop (γ := Nat) (fun i => i ≤ S.ent.length ∧ idxOf (S.ent.drop i) id i = idxOf S.ent id 0) (fun i => [(0, dp b), (1, u64 id), (5, i64 i)]) (fun _ => blk b [.slice ia S.ent.length ic, .slice ba S.ent.length bc, .slice aa S.asked.length ac, i64 S.full] :: sown ia S.ent.length ic 1 (S.ent.map fun e => u64 e.1) :: sown ba S.ent.length bc 1 (T.map BE.sl) :: sown aa S.asked.length ac 1 (S.asked.map u64) :: sepL (T.map BE.own) :: R) (fun i => S.ent.length - i) 0 ⟨Nat.zero_le _, rfl⟩
    (.cons rfl (.cons rfl (.cons rfl .nil))) (fun w hO => hO) ?_
  rintro i ⟨hi, hx⟩
  by_cases hil : i < S.ent.length
  · rw [← hLL]
    refine sg_rd_some hrd (by intro e; have := congrArg List.length e; rw [List.length_map, List.length_nil] at this; omega) fun b0 o0 ha => ?_
    rw [hLL] at hrd ⊢
    subst ha
    have hra := hrd.at (ws := [u64 S.ent[i].1]) (i * 1) (fun q u hq => by
      match q, hq with
      | 0, hq => simp at hq; subst hq; rw [Nat.mul_one]; simp [hil])
    rw [List.drop_eq_getElem_cons hil, idxOf] at hx
    repeat' (first | refine sg_wo ?_ | refine sg_ps (ps_move rfl) rfl ?_ | refine sg_seq ?_ | refine sg_region ?_ | refine sg_nil ?_ | refine sg_then ?_ | refine sg_ps (ps_fieldAddr rfl) rfl ?_ | refine sg_ps (ps_nilCheck rfl) rfl ?_ | refine sg_load 0 rfl rfl rfl rfl ?_ | refine sg_ps (ps_bin rfl rfl inferInstance) rfl ?_ | refine sg_ps (ps_len rfl) rfl ?_ | refine sg_ps (ps_indexAddr rfl rfl rfl (by omega)) rfl ?_ | refine sg_block ?_ | refine sg_skip ?_ | (refine sg_cond_dec rfl (fun hg => ?_) (fun hg => ?_) <;> first | (exfalso; omega) | (exact absurd rfl hg) | skip))
    refine sg_load_rd rfl hra rfl ?_
    by_cases he : S.ent[i].1 = id
    · rw [if_pos he] at hx
      rw [he, ← hx]
      repeat' (first | refine sg_wo ?_ | refine sg_ps (ps_move rfl) rfl ?_ | refine sg_ps (ps_assign rfl) rfl ?_ | refine sg_seq ?_ | refine sg_region ?_ | refine sg_nil ?_ | refine sg_then ?_ | refine sg_ps (ps_bin rfl rfl inferInstance) rfl ?_ | refine sg_ret ?_ | refine ex_then_ret ?_ | refine ex_block_ret ?_ | (refine sg_cond_dec rfl (fun hg => ?_) (fun hg => ?_) <;> first | (exfalso; omega) | (exact absurd rfl hg) | skip))
      exact ex_ret1 rfl rfl () rfl trivial (fun w hO => BackRep.shut hS hO)
    · rw [if_neg he] at hx
      repeat' (first | refine sg_wo ?_ | refine sg_ps (ps_move rfl) rfl ?_ | refine sg_ps (ps_assign rfl) rfl ?_ | refine sg_region ?_ | refine sg_nil ?_ | refine sg_then ?_ | refine sg_ps (ps_add64 rfl rfl (by omega)) rfl ?_ | refine sg_ps (ps_bin rfl rfl inferInstance) rfl ?_ | refine sg_skip ?_ | refine ex_block_normal ?_ | (refine sg_cond_dec rfl (fun hg => ?_) (fun hg => ?_) <;> first | (exfalso; omega) | (exact absurd rfl hg) | skip))
      exact ex_mid (i + 1) ⟨by omega, by omega, hx⟩ (.cons rfl (.cons rfl (.cons rfl .nil))) (fun w hO => hO)
  · obtain rfl : i = S.ent.length := by omega
    rw [List.drop_length] at hx
    rw [← hx]
    repeat' (first | refine sg_wo ?_ | refine sg_ps (ps_move rfl) rfl ?_ | refine sg_ps (ps_assign rfl) rfl ?_ | refine sg_seq ?_ | refine sg_region ?_ | refine sg_nil ?_ | refine sg_then ?_ | refine sg_ps (ps_fieldAddr rfl) rfl ?_ | refine sg_ps (ps_nilCheck rfl) rfl ?_ | refine sg_load 0 rfl rfl rfl rfl ?_ | refine sg_ps (ps_bin rfl rfl inferInstance) rfl ?_ | refine sg_ps (ps_len rfl) rfl ?_ | refine sg_ret ?_ | refine sg_exit ?_ | refine ex_then_exit ?_ | refine ex_block_hit ?_ | (refine sg_cond_dec rfl (fun hg => ?_) (fun hg => ?_) <;> first | (exfalso; omega) | (exact absurd rfl hg) | skip))
    exact ex_ret1 rfl rfl () rfl trivial (fun w hO => BackRep.shut hS hO)
end Go.Proofs.Ytclehoaeppbmpaa
namespace Go.Proofs.Ytclehoaeppbmpaa
set_option linter.unusedVariables false
set_option linter.unusedSimpArgs false
set_option linter.unusedSectionVars false
set_option linter.unnecessarySimpa false
open Go Go.Proofs
def getB : EL → Int → Option (List UInt8)
  | [], _ => none
  | e :: l, id => if e.1 = id then some e.2 else getB l id
def setB : EL → Int → List UInt8 → EL
  | [], id, v => [(id, v)]
  | e :: l, id, v => if e.1 = id then (id, v) :: l else e :: setB l id v
theorem idx_cases (id : Int) : ∀ (l : EL) (k : Nat), (∃ A bs B, l = A ++ (id, bs) :: B ∧ (∀ x ∈ A, x.1 ≠ id) ∧ idxOf l id k = some (k + A.length) ∧ getB l id = some bs ∧ ∀ v, setB l id v = A ++ (id, v) :: B) ∨
    ((∀ x ∈ l, x.1 ≠ id) ∧ idxOf l id k = none ∧ getB l id = none ∧ ∀ v, setB l id v = l ++ [(id, v)])
  | [], _ => .inr ⟨by simp, rfl, rfl, fun _ => rfl⟩
  | e :: l, k => by
    by_cases h : e.1 = id
    · subst h
      exact .inl ⟨[], e.2, l, rfl, by simp, by simp [idxOf], by simp [getB], fun v => by simp [setB]⟩
    · rcases idx_cases id l (k + 1) with ⟨A, bs, B, h1, h2, h3, h4, h5⟩ | ⟨h1, h2, h3, h4⟩
      · refine .inl ⟨e :: A, bs, B, by rw [h1]; rfl, ?_, ?_, ?_, fun v => ?_⟩
        · intro x hx
          rcases List.mem_cons.1 hx with rfl | hx
          · exact h
          · exact h2 x hx
        · rw [idxOf, if_neg h, h3, List.length_cons]; congr 1; omega
        · rw [getB, if_neg h, h4]
        · rw [setB, if_neg h, h5]; rfl
      · refine .inr ⟨?_, ?_, ?_, fun v => ?_⟩
        · intro x hx
          rcases List.mem_cons.1 hx with rfl | hx
          · exact h
          · exact h1 x hx
        · rw [idxOf, if_neg h, h2]
        · rw [getB, if_neg h, h3]
        · rw [setB, if_neg h, h4]; rfl
theorem optI_some (k : Nat) : optI (some (0 + k)) = (k : Int) := by rw [Nat.zero_add]; rfl
def askS (S : BkS) (q : Int) : BkS := { S with asked := S.asked ++ [q] }
theorem askS_len (S : BkS) (q : Int) : (askS S q).asked.length = S.asked.length + 1 := by simp [askS]
theorem askS_map (S : BkS) (q : Int) : (askS S q).asked.map u64 = S.asked.map u64 ++ [u64 q] := by simp [askS]
theorem u64_one (l : List Int) : ∀ u ∈ l.map u64, u.oneCell' = true := by
  intro u hu
  obtain ⟨x, _, rfl⟩ := List.mem_map.1 hu
  rfl
theorem split_map {α β : Type} {f : α → β} {T : List α} {A B : List β} {x : β} (h : T.map f = A ++ x :: B) : ∃ A' e B', T = A' ++ e :: B' ∧ A'.map f = A ∧ f e = x ∧ B'.map f = B := by
  obtain ⟨A', T', rfl, h1, h2⟩ := List.map_eq_append_iff.1 h
  obtain ⟨e, B', rfl, h3, h4⟩ := List.map_eq_cons_iff.1 h2
  exact ⟨A', e, B', rfl, h1, h3, h4⟩
set_option maxRecDepth 20000
set_option maxHeartbeats 4000000
attribute [local irreducible] SG WC WO W1 WD WK PS Rd Tri Exit.then Exit.inBlock bodyPost calmQ Mid sadd
variable {W : World} {n : Nat} {F : Fr} {L : List HP} {G : Act → World → Prop}
theorem bload_tri (b : Nat) (S : BkS) (id : Int) (R : List HP) (hl : S.ent.length ≤ 1000000) (hq : S.asked.length ≤ 1000000) (hb : ∀ e ∈ S.ent, e.2.length ≤ 140737488355328) :
    Tri Try.prog W 17 [dp b, u64 id] (BackRep b S :: R) (X := Option Addr × Nat) (fun x => .tuple #[.slice x.1 ((getB S.ent id).getD []).length x.2, i64 (if (getB S.ent id).isSome then 0 else 2)])
      (fun x => getB S.ent id = none → x = (none, 0)) (fun x => sown x.1 ((getB S.ent id).getD []).length x.2 1 (((getB S.ent id).getD []).map bv) :: BackRep b (askS S (IntKind.u64.wrap (2 * id))) :: R) := by
  refine tri_enter2 Try.func17 rfl Try.ntmps17 rfl ?_
  refine BackRep.open fun T ia ic ba bc aa ac hS => ?_
  repeat' (first | refine sg_wo ?_ | refine sg_ps (ps_move rfl) rfl ?_ | refine sg_ps (ps_assign rfl) rfl ?_ | refine sg_seq ?_ | refine sg_region ?_ | refine sg_nil ?_ | refine sg_then ?_ | refine sg_ps (ps_fieldAddr rfl) rfl ?_ | refine sg_ps (ps_nilCheck rfl) rfl ?_ | refine sg_load 0 rfl rfl rfl rfl ?_ | refine sg_ps (ps_bin rfl rfl inferInstance) rfl ?_)
  generalize hqq : IntKind.u64.wrap (2 * id) = q
  refine sg_buildSlice1 (vs := [u64 q]) rfl (of_decide_eq_true rfl) rfl rfl rfl (fun b1 => ?_)
  refine sg_own (L' := sown aa S.asked.length ac 1 (S.asked.map u64) :: blk b1 [u64 q] :: blk b [.slice ia S.ent.length ic, .slice ba S.ent.length bc, .slice aa S.asked.length ac, i64 S.full] :: sown ia S.ent.length ic 1 (S.ent.map fun e => u64 e.1) :: sown ba S.ent.length bc 1 (T.map BE.sl) :: sepL (T.map BE.own) :: R) (fun w hO => hO.front4) ?_
  repeat' (first | refine sg_wo ?_)
  refine sg_append (news := [u64 q]) rfl rfl rfl rfl (u64_one [q]) (rd_blk 1 rfl fun j u hj => by rw [Nat.zero_add]; exact hj) (by simp only [maxLen]; omega) (by omega) fun a' c' => ?_
  repeat' (first | refine sg_wo ?_ | refine sg_ps (ps_move rfl) rfl ?_ | refine sg_seq ?_ | refine sg_region ?_ | refine sg_nil ?_ | refine sg_then ?_ | refine sg_ps (ps_fieldAddr rfl) rfl ?_ | refine sg_ps (ps_nilCheck rfl) rfl ?_ | refine sg_store [_, _] rfl rfl rfl (of_decide_eq_true rfl) ?_)
  refine sg_own (L' := BackRep b (askS S q) :: R) (fun w hO => BackRep.shut (S := askS S q) hS (by rw [askS_len, askS_map]; exact hO.front1.tail.back3)) ?_
  refine sg_call (bfind_tri b (askS S q) id R hl) rfl rfl (fun _ _ => ?_)
  rcases idx_cases id S.ent 0 with ⟨A, bs, B, h1, h2, h3, h4, h5⟩ | ⟨h1, h2, h3, h4⟩
  · have h3' : idxOf (askS S q).ent id 0 = some (0 + A.length) := h3
    rw [h3', h4, optI_some]
    repeat' (first | refine sg_wo ?_ | refine sg_ps (ps_move rfl) rfl ?_ | refine sg_ps (ps_assign rfl) rfl ?_ | refine sg_seq ?_ | refine sg_region ?_ | refine sg_nil ?_ | refine sg_then ?_ | refine sg_ps (ps_fieldAddr rfl) rfl ?_ | refine sg_ps (ps_nilCheck rfl) rfl ?_ | refine sg_ps (ps_bin rfl rfl inferInstance) rfl ?_ | refine sg_cond_f rfl ?_ | refine sg_skip ?_)
    refine BackRep.open fun T ia ic ba bc aa ac hS => ?_
    have hS0 : T.map BE.st = S.ent := hS
    rw [h1] at hS0
    obtain ⟨TA, e, TB, rfl, g1, g2, g3⟩ := split_map hS0
    have hAl : A.length = TA.length := by rw [← g1, List.length_map]
    have hel : (askS S q).ent.length = TA.length + (TB.length + 1) := by
      show S.ent.length = _
      have := congrArg List.length hS
      rw [List.length_map, List.length_append, List.length_cons] at this
      exact this.symm
    obtain rfl : e.id = id := congrArg Prod.fst g2
    obtain rfl : e.bs = bs := congrArg Prod.snd g2
    rw [hAl]
    repeat' (first | refine sg_wo ?_ | refine sg_ps (ps_move rfl) rfl ?_ | refine sg_load 0 rfl rfl rfl rfl ?_)
    have hrd : Rd W (blk b [.slice ia (askS S q).ent.length ic, .slice ba (askS S q).ent.length bc, .slice aa (askS S q).asked.length ac, i64 (askS S q).full] :: sown ia (askS S q).ent.length ic 1 ((askS S q).ent.map fun e => u64 e.1) :: sown ba (askS S q).ent.length bc 1 ((TA ++ e :: TB).map BE.sl) :: sown aa (askS S q).asked.length ac 1 ((askS S q).asked.map u64) :: sepL ((TA ++ e :: TB).map BE.own) :: R) ba ((TA ++ e :: TB).map BE.sl) := rd_sown 2 rfl fun _ _ h => h
    refine sg_rd_some hrd (by simp) fun b0 o0 ha => ?_
    subst ha
    have hra := hrd.at (ws := [e.sl]) (TA.length * 1) (fun q u hq => by
      match q, hq with
      | 0, hq => simp at hq; subst hq; simp)
    repeat' (first | refine sg_wo ?_ | refine sg_ps (ps_indexAddr rfl rfl rfl (by omega)) rfl ?_)
    refine sg_load_rd rfl hra rfl ?_
    have hown : ((TA ++ e :: TB).map BE.own)[TA.length]? = some (sown e.a e.bs.length e.c 1 (e.bs.map bv)) := by simp [BE.own]
    unfold BE.sl
    repeat' (first | refine sg_wo ?_)
    refine sg_call (rawCopy_tri e.bs e.a e.c (hb (e.id, e.bs) (by rw [h1]; simp)) _ (rd_sep 4 TA.length rfl hown)) rfl rfl (fun x _ => ?_)
    repeat' (first | refine sg_wo ?_ | refine sg_ps (ps_assign rfl) rfl ?_ | refine sg_nil ?_ | refine sg_then ?_ | refine sg_ret ?_)
    exact ex_ret2 rfl rfl rfl x rfl (fun h => by cases h) (fun w hO => (BackRep.shut (S := askS S q) hS hO.back5).front1)
  · have h2' : idxOf (askS S q).ent id 0 = none := h2
    rw [h2', h3]
    repeat' (first | refine sg_wo ?_ | refine sg_ps (ps_move rfl) rfl ?_ | refine sg_ps (ps_assign rfl) rfl ?_ | refine sg_seq ?_ | refine sg_region ?_ | refine sg_nil ?_ | refine sg_then ?_ | refine sg_ps (ps_bin rfl rfl inferInstance) rfl ?_ | refine sg_cond_t rfl ?_ | refine sg_ret ?_ | refine ex_then_ret ?_)
    exact ex_ret2 rfl rfl rfl ((none, 0) : Option Addr × Nat) rfl (fun _ => rfl) (fun w hO => own_nil hO)
end Go.Proofs.Ytclehoaeppbmpaa
