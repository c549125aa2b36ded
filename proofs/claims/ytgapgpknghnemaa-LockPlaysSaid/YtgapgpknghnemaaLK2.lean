/- Package lock: the table and its contracts. -/
import Derived.Test.YtgapgpknghnemaaLK
import Derived.Test.YtgapgpknghnemaaSEP
namespace Go.Proofs.Ytgapgpknghnemaa
set_option linter.unusedVariables false
set_option linter.unusedSimpArgs false
set_option linter.unusedSectionVars false
set_option linter.unnecessarySimpa false
open Go Go.Proofs
structure TE where
  owner : Int
  a : Option Addr
  c : Nat
  l : List Lk
  born : Nat
def TE.me (e : TE) : ME := (e.owner, .slice e.a e.l.length e.c, e.born)
def TE.own (e : TE) : HP := sown e.a e.l.length e.c 5 (lcells e.l)
def TE.st (e : TE) : Int × List Lk := (e.owner, e.l)
abbrev TS := List (Int × List Lk)
structure TInv (T : List TE) (clk : Nat) : Prop where
  old : ∀ e ∈ T, e.born < clk
  nb : (T.map (·.born)).Nodup
  no : (T.map (·.owner)).Nodup
def tparts (t : Nat) (x : List TE × Nat × Nat) : List HP := [blk t [.map (some x.2.1)], mapc .u64 x.2.1 (x.1.map TE.me) x.2.2, sepL (x.1.map TE.own)]
def TableRep (t : Nat) (S : TS) : HP := fun h => ∃ x : List TE × Nat × Nat, (x.1.map TE.st = S ∧ TInv x.1 x.2.2) ∧ sepL (tparts t x) h
section
variable {W : World} {n : Nat} {F : Fr} {L : List HP} {G : Act → World → Prop}
theorem TableRep.open {t : Nat} {S : TS} (h : ∀ T m clk, T.map TE.st = S → TInv T clk → SG W n F (blk t [.map (some m)] :: mapc .u64 m (T.map TE.me) clk :: sepL (T.map TE.own) :: L) G) : SG W n F (TableRep t S :: L) G := by
  refine sg_ex (p := fun (x : List TE × Nat × Nat) h => (x.1.map TE.st = S ∧ TInv x.1 x.2.2) ∧ sepL (tparts t x) h) ?_
  rintro ⟨T, m, clk⟩
  refine sg_and fun hx => sg_split (h T m clk hx.1 hx.2)
theorem TableRep.shut {w : World} {t m clk : Nat} {S : TS} {T : List TE} (hS : T.map TE.st = S) (hI : TInv T clk) (hO : Own W w (blk t [.map (some m)] :: mapc .u64 m (T.map TE.me) clk :: sepL (T.map TE.own) :: L)) : Own W w (TableRep t S :: L) :=
  (Own.join (L1 := tparts t (T, m, clk)) hO).imp fun k hk => ⟨(T, m, clk), ⟨hS, hI⟩, hk⟩
end
/- plain -/
def okS (e : Int × List Lk) (o : Int) (l : List Lk) : Bool := decide (e.1 = o) || l.all fun a => !(e.2.any (cl a))
def freeS (S : TS) (o : Int) (l : List Lk) : Bool := S.all fun e => okS e o l
def addS : TS → Int → List Lk → TS
  | [], o, l => [(o, l)]
  | e :: S, o, l => if e.1 = o then (o, e.2 ++ l) :: S else e :: addS S o l
def relS : TS → Int → TS
  | [], _ => []
  | e :: S, o => if e.1 = o then S else e :: relS S o
def heldS : TS → Int → List Lk
  | [], _ => []
  | e :: S, o => if e.1 = o then e.2 else heldS S o
def tryS (S : TS) (o : Int) (l : List Lk) : Int × TS := if o = 0 then (1, S) else if freeS S o l = true then (0, if l = [] then S else addS S o l) else (9, S)
theorem addS_at {o : Int} {l x : List Lk} {B : TS} : ∀ {A : TS}, (∀ e ∈ A, e.1 ≠ o) → addS (A ++ (o, x) :: B) o l = A ++ (o, x ++ l) :: B
  | [], _ => by simp [addS]
  | e :: A, h => by
    rw [List.cons_append, addS, if_neg (h e (by simp)), addS_at (fun y hy => h y (by simp [hy]))]; rfl
theorem addS_new {o : Int} {l : List Lk} : ∀ {A : TS}, (∀ e ∈ A, e.1 ≠ o) → addS A o l = A ++ [(o, l)]
  | [], _ => rfl
  | e :: A, h => by
    rw [addS, if_neg (h e (by simp)), addS_new (fun y hy => h y (by simp [hy]))]; rfl
theorem relS_at {o : Int} {x : List Lk} {B : TS} : ∀ {A : TS}, (∀ e ∈ A, e.1 ≠ o) → relS (A ++ (o, x) :: B) o = A ++ B
  | [], _ => by simp [relS]
  | e :: A, h => by
    rw [List.cons_append, relS, if_neg (h e (by simp)), relS_at (fun y hy => h y (by simp [hy]))]; rfl
theorem heldS_at {o : Int} {x : List Lk} {B : TS} : ∀ {A : TS}, (∀ e ∈ A, e.1 ≠ o) → heldS (A ++ (o, x) :: B) o = x
  | [], _ => by simp [heldS]
  | e :: A, h => by
    rw [List.cons_append, heldS, if_neg (h e (by simp)), heldS_at (fun y hy => h y (by simp [hy]))]
theorem heldS_no {o : Int} : ∀ {A : TS}, (∀ e ∈ A, e.1 ≠ o) → heldS A o = []
  | [], _ => rfl
  | e :: A, h => by rw [heldS, if_neg (h e (by simp)), heldS_no (fun y hy => h y (by simp [hy]))]
theorem filter_less {T : List TE} {seen : List Nat} {x : TE} (hx : x ∈ T) (hns : x.born ∉ seen) : (T.filter fun e => !(seen ++ [x.born]).contains e.born).length < (T.filter fun e => !seen.contains e.born).length := by
  have h1 : (T.filter fun e => !(seen ++ [x.born]).contains e.born) = (T.filter fun e => !seen.contains e.born).filter fun e => decide (e.born ≠ x.born) := by
    rw [List.filter_filter]
    congr 1
    funext e
    simp [List.contains_eq_mem, Bool.and_comm]
  rw [h1]
  have hmem : x ∈ T.filter fun e => !seen.contains e.born := by
    rw [List.mem_filter]; exact ⟨hx, by simpa [List.contains_eq_mem] using hns⟩
  rcases Nat.lt_or_ge ((T.filter fun e => !seen.contains e.born).filter fun e => decide (e.born ≠ x.born)).length (T.filter fun e => !seen.contains e.born).length with h | h
  · exact h
  · exfalso
    have hle := List.length_filter_le (fun e : TE => decide (e.born ≠ x.born)) (T.filter fun e => !seen.contains e.born)
    have := List.length_filter_eq_length_iff.1 (Nat.le_antisymm hle h) x hmem
    simp at this
theorem T_cases (T : List TE) (o : Int) : (∃ A e B, T = A ++ e :: B ∧ e.owner = o ∧ (∀ x ∈ A, x.owner ≠ o) ∧ getE (T.map TE.me) o = some (.slice e.a e.l.length e.c) ∧ (∀ v c, setE (T.map TE.me) o v c = (A.map TE.me ++ (o, v, e.born) :: B.map TE.me, c)) ∧ delE (T.map TE.me) o = (A ++ B).map TE.me) ∨
    ((∀ x ∈ T, x.owner ≠ o) ∧ getE (T.map TE.me) o = none ∧ (∀ v c, setE (T.map TE.me) o v c = (T.map TE.me ++ [(o, v, c)], c + 1)) ∧ delE (T.map TE.me) o = T.map TE.me) := by
  rcases map_cases (T.map TE.me) o with ⟨A', e', B', h1, h2, h3, h4, h5, h6⟩ | ⟨h1, h2, h3, h4⟩
  · obtain ⟨A, B0, rfl, hA, hB0⟩ := map_append_inv _ _ _ _ h1
    match B0, hB0 with
    | e :: B, hB0 =>
      simp only [List.map_cons, List.cons.injEq] at hB0
      obtain ⟨rfl, rfl⟩ := hB0
      subst hA
      refine .inl ⟨A, e, B, rfl, h2, fun x hx => h3 x.me (List.mem_map_of_mem hx), h4, h5, by rw [h6, List.map_append]⟩
  · exact .inr ⟨fun x hx => h1 x.me (List.mem_map_of_mem hx), h2, h3, h4⟩
set_option maxRecDepth 20000
set_option maxHeartbeats 4000000
attribute [local irreducible] SG WC WO W1 WD WK PS Rd Tri Exit.then Exit.inBlock bodyPost calmQ Mid sadd
variable {W : World} {n : Nat} {F : Fr} {L : List HP} {G : Act → World → Prop}
theorem newt_tri (R : List HP) : Tri Try.prog W 8 [] R (X := Nat) (fun t => dp t) (fun _ => True) (fun t => TableRep t [] :: R) := by
  refine tri_enter0 Try.func8 rfl Try.ntmps8 ?_
  repeat' (first | refine sg_wo ?_ | refine sg_ps (ps_assign rfl) rfl ?_ | refine sg_seq ?_ | refine sg_region ?_ | refine sg_nil ?_ | refine sg_then ?_)
  refine sg_makeMap .u64 rfl (fun m => ?_)
  repeat' (first | refine sg_wo ?_ | refine sg_ps (ps_assign rfl) rfl ?_ | refine sg_nil ?_ | refine sg_then ?_ | refine sg_ps (ps_build rfl rfl) rfl ?_ | refine sg_box rfl rfl (fun bx => ?_) | refine sg_ret ?_)
  refine ex_ret1 rfl rfl bx rfl trivial (fun w hO => TableRep.shut (T := []) (m := m) (clk := 0) rfl ⟨by simp, by simp, by simp⟩ ?_)
  exact (Own.join (L1 := []) hO).front2.front2
theorem free_tri (t : Nat) (S : TS) (o : Int) (l : List Lk) (la : Option Addr) (lc : Nat) (R : List HP) (hll : l.length ≤ 1000000) (hr : ∀ L, Rd W (L ++ R) la (lcells l)) :
    Tri Try.prog W 10 [dp t, u64 o, .slice la l.length lc] (TableRep t S :: R) (X := Unit) (fun _ => i64 (if freeS S o l = true then 0 else 9)) (fun _ => True) (fun _ => TableRep t S :: R) := by
  refine tri_enter3 Try.func10 rfl Try.ntmps10 rfl ?_
  refine TableRep.open fun T m clk hS hI => ?_
  repeat' (first | refine sg_wo ?_ | refine sg_ps (ps_move rfl) rfl ?_ | refine sg_ps (ps_assign rfl) rfl ?_ | refine sg_seq ?_ | refine sg_region ?_ | refine sg_nil ?_ | refine sg_then ?_ | refine sg_ps (ps_fieldAddr rfl) rfl ?_ | refine sg_ps (ps_nilCheck rfl) rfl ?_ | refine sg_load 0 rfl rfl rfl rfl ?_ | refine sg_ps (ps_bin rfl rfl inferInstance) rfl ?_ | refine sg_cond_f rfl ?_ | refine sg_skip ?_)
  refine sg_range (k := .u64) 1 Try.underlying52 rfl rfl rfl (fun it => ?_)
  repeat' (first | refine sg_nil ?_ | refine sg_then ?_ | refine sg_block ?_)
  refine sg_loop (γ := List Nat) (fun seen => ∀ e ∈ T, e.born ∈ seen → okS e.st o l = true) (fun seen => [(1, u64 o), (2, .slice la l.length lc), (17, dp it)])
    (fun seen => iterc it m clk seen clk :: blk t [.map (some m)] :: mapc .u64 m (T.map TE.me) clk :: sepL (T.map TE.own) :: R) (fun seen => (T.filter fun e => !seen.contains e.born).length) [] (fun e _ h => by simp at h)
    (.cons rfl (.cons rfl (.cons rfl .nil))) (fun w hO => hO) ?_
  intro seen hseen
  repeat' (first | refine sg_wo ?_ | refine sg_seq ?_ | refine sg_region ?_)
  refine sg_next 1 rfl rfl rfl (fun e he => by obtain ⟨x, hx, rfl⟩ := List.mem_map.1 he; exact hI.old x hx) (Nat.le_refl _) (fun h0 => ?_) (fun e he hns => ?_)
  · skip
    repeat' (first | refine sg_wo ?_ | refine sg_ps (ps_assign rfl) rfl ?_ | refine sg_seq ?_ | refine sg_region ?_ | refine sg_nil ?_ | refine sg_then ?_ | refine sg_cond_f rfl ?_ | refine sg_ps (ps_extract rfl rfl) rfl ?_ | refine sg_ret ?_ | refine sg_exit ?_ | refine ex_then_exit ?_ | refine ex_block_hit ?_)
    refine ex_ret1 rfl rfl () ?_ trivial (fun w hO => TableRep.shut hS hI hO.tail)
    have : freeS S o l = true := by
      rw [← hS]
      unfold freeS
      rw [List.all_eq_true]
      intro y hy
      obtain ⟨x, hx, rfl⟩ := List.mem_map.1 hy
      exact hseen x hx (h0 x.me (List.mem_map_of_mem hx))
    rw [this]; rfl
  · obtain ⟨x, hx, rfl⟩ := List.mem_map.1 he
    have hns' : x.born ∉ seen := hns
    have hmu : (T.filter fun e => !(seen ++ [x.born]).contains e.born).length < (T.filter fun e => !seen.contains e.born).length := filter_less hx hns'
    obtain ⟨j, hj, hjx⟩ := List.mem_iff_getElem.1 hx
    have hmej : (T.map TE.own)[j]? = some (sown x.a x.l.length x.c 5 (lcells x.l)) := by
      rw [List.getElem?_map, List.getElem?_eq_getElem hj, hjx]; rfl
    have hnb : ((T.map TE.me).map (·.2.2)).Nodup := by
      rw [List.map_map]; exact hI.nb
    have hnext : okS x.st o l = true → ∀ e ∈ T, e.born ∈ seen ++ [x.born] → okS e.st o l = true := by
      intro hok e heT hin
      rcases List.mem_append.1 hin with h | h
      · exact hseen e heT h
      · simp at h
        have : e = x := by
          have hinj := List.pairwise_iff_getElem.1 hI.nb
          obtain ⟨q, hq, rfl⟩ := List.mem_iff_getElem.1 heT
          subst hjx
          rcases Nat.lt_trichotomy q j with h1 | h1 | h1
          · exact absurd (by rw [List.getElem_map, List.getElem_map]; exact h) (hinj q j (by simpa using hq) (by simpa using hj) h1)
          · subst h1; rfl
          · exact absurd (by rw [List.getElem_map, List.getElem_map]; exact h.symm) (hinj j q (by simpa using hj) (by simpa using hq) h1)
        rw [this]; exact hok
    have hxm : x.me = (x.owner, Value.slice x.a x.l.length x.c, x.born) := rfl
    rw [hxm]
    dsimp only
    repeat' (first | refine sg_wo ?_ | refine sg_seq ?_ | refine sg_region ?_ | refine sg_nil ?_ | refine sg_then ?_ | refine sg_cond_t rfl ?_ | refine sg_ps (ps_extract rfl rfl) rfl ?_ | refine sg_block ?_ | refine sg_skip ?_)
    refine sg_entry (e := x.me) 0 2 rfl rfl rfl rfl (List.mem_map_of_mem hx) hnb ?_
    rw [hxm]
    dsimp only
    repeat' (first | refine sg_wo ?_ | refine sg_ps (ps_move rfl) rfl ?_ | refine sg_ps (ps_assign rfl) rfl ?_ | refine sg_seq ?_ | refine sg_region ?_ | refine sg_nil ?_ | refine sg_then ?_ | refine sg_ps (ps_bin rfl rfl inferInstance) rfl ?_ | refine sg_ps (ps_len rfl) rfl ?_ | refine sg_ps (ps_extract rfl rfl) rfl ?_ | refine sg_block ?_ | refine sg_skip ?_ | refine sg_exit ?_ | refine ex_then_exit ?_ | refine ex_block_hit ?_ | (refine sg_cond_dec rfl (fun hg => ?_) (fun hg => ?_) <;> first | (exfalso; omega) | (exact absurd rfl hg) | skip))
    · refine ex_mid (seen ++ [x.born]) ⟨hmu, hnext (by unfold okS TE.st; simp [hg])⟩ (.cons rfl (.cons rfl (.cons rfl .nil))) (fun w hO => hO)
    · have hox : ¬ x.owner = o := hg
      refine sg_sepcap 3 j rfl hmej fun hxl _ => ?_
      obtain ⟨LL, hLL⟩ : ∃ LL, LL = iterc it m clk (seen ++ [x.born]) clk :: blk t [.map (some m)] :: mapc .u64 m (T.map TE.me) clk :: sepL (T.map TE.own) :: R := ⟨_, rfl⟩
      have hrl : ∀ L, Rd W (L ++ LL) la (lcells l) := fun L => by
        rw [hLL]
        have := hr (L ++ [iterc it m clk (seen ++ [x.born]) clk, blk t [.map (some m)], mapc .u64 m (T.map TE.me) clk, sepL (T.map TE.own)])
        rw [List.append_assoc] at this; exact this
      have hrx : ∀ al cs, Rd W (blk al cs :: LL) x.a (lcells x.l) := fun al cs => rd_sep 4 j (by rw [hLL]; rfl) hmej
      refine sg_own (L' := LL) (fun w hO => by rw [hLL]; exact hO) ?_
      refine sg_loop (γ := Nat) (fun j => j ≤ l.length ∧ ∀ a ∈ l.take j, x.l.any (cl a) = false) (fun j => [(1, u64 o), (2, .slice la l.length lc), (17, dp it), (8, .slice x.a x.l.length x.c), (26, .slice la l.length lc), (27, i64 l.length), (28, i64 j)])
        (fun _ => LL) (fun j => l.length - j) 0 ⟨Nat.zero_le _, by simp⟩ (.cons rfl (.cons rfl (.cons rfl (.cons rfl (.cons rfl (.cons rfl (.cons rfl .nil))))))) (fun w hO => hO) ?_
      rintro q ⟨hq, hpq⟩
      by_cases hql : q < l.length
      · have hl0 := hrl []
        rw [List.nil_append] at hl0
        refine sg_rd_some hl0 (lcells_ne (by omega)) fun lb lo hla => ?_
        have hra := Rd.at5 hl0 hla q hql
        have hmem := List.getElem_mem hql
        subst hla
        generalize hlq : l[q] = y at hra hmem
        repeat' (first | refine sg_wo ?_ | refine sg_seq ?_ | refine sg_region ?_ | refine sg_nil ?_ | refine sg_then ?_ | refine sg_ps (ps_bin rfl rfl inferInstance) rfl ?_ | refine sg_ps (ps_indexAddr rfl rfl rfl (by omega)) rfl ?_ | refine sg_block ?_ | refine sg_skip ?_ | (refine sg_cond_dec rfl (fun hg => ?_) (fun hg => ?_) <;> first | (exfalso; omega) | (exact absurd rfl hg) | skip))
        refine sg_load_agg_rd rfl rfl hra rfl ?_
        repeat' (first | refine sg_wo ?_ | refine sg_ps (ps_move rfl) rfl ?_ | refine sg_seq ?_ | refine sg_region ?_ | refine sg_nil ?_ | refine sg_then ?_ | refine sg_store_whole [] rfl rfl rfl rfl rfl ?_ | refine sg_alloc rfl (fun al => ?_))
        refine sg_ps (ps_makeFunc (xs := [.tmp 10]) (vs := [dp al]) rfl) rfl ?_
        refine sg_wo ?_
        refine sg_call (contains_tri 24 [dp al] (cl y) x.l x.a x.c (blk al y.cells :: LL) hxl (hrx al _) (fun h _ => free1_tri y h al LL)) rfl rfl (fun _ _ => ?_)
        cases hany : x.l.any (cl y) with
        | true =>
          repeat' (first | refine sg_wo ?_ | refine sg_ps (ps_assign rfl) rfl ?_ | refine sg_seq ?_ | refine sg_region ?_ | refine sg_nil ?_ | refine sg_then ?_ | refine sg_cond_t rfl ?_ | refine sg_ret ?_ | refine ex_then_ret ?_ | refine ex_block_ret ?_)
          refine ex_ret1 rfl rfl () ?_ trivial (fun w hO => by
            have h2 := hO.tail
            rw [hLL] at h2
            exact TableRep.shut hS hI h2.tail)
          have : freeS S o l = false := by
            rw [← hS]
            unfold freeS
            rw [List.all_eq_false]
            refine ⟨x.st, List.mem_map_of_mem hx, ?_⟩
            unfold okS TE.st
            simp only [Bool.or_eq_true, decide_eq_true_eq, not_or, List.all_eq_true]
            exact ⟨hox, fun h => by have := h y hmem; rw [hany] at this; simp at this⟩
          rw [this]; rfl
        | false =>
          repeat' (first | refine sg_wo ?_ | refine sg_ps (ps_move rfl) rfl ?_ | refine sg_region ?_ | refine sg_nil ?_ | refine sg_then ?_ | refine sg_ps (ps_add64 rfl rfl (by omega)) rfl ?_ | refine sg_cond_f rfl ?_ | refine sg_skip ?_ | refine ex_block_normal ?_)
          refine ex_mid (q + 1) ⟨by omega, by omega, fun a ha => ?_⟩ (.cons rfl (.cons rfl (.cons rfl (.cons rfl (.cons rfl (.cons rfl (.cons rfl .nil))))))) (fun w hO => hO.tail)
          rw [List.take_add_one, List.mem_append, List.getElem?_eq_getElem hql, hlq] at ha
          rcases ha with ha | ha
          · exact hpq a ha
          · simp at ha; subst ha; exact hany
      · have hqe : q = l.length := by omega
        subst hqe
        rw [List.take_length] at hpq
        repeat' (first | refine sg_wo ?_ | refine sg_seq ?_ | refine sg_region ?_ | refine sg_nil ?_ | refine sg_then ?_ | refine sg_ps (ps_bin rfl rfl inferInstance) rfl ?_ | refine sg_exit ?_ | refine ex_then_exit ?_ | refine ex_block_normal ?_ | refine ex_block_hit ?_ | (refine sg_cond_dec rfl (fun hg => ?_) (fun hg => ?_) <;> first | (exfalso; omega) | (exact absurd rfl hg) | skip))
        refine ex_mid (seen ++ [x.born]) ⟨hmu, hnext ?_⟩ (.cons rfl (.cons rfl (.cons rfl .nil))) (fun w hO => by rw [hLL] at hO; exact hO)
        unfold okS TE.st
        simp only [Bool.or_eq_true, List.all_eq_true]
        exact .inr fun a ha => by rw [hpq a ha]; rfl
end Go.Proofs.Ytgapgpknghnemaa
