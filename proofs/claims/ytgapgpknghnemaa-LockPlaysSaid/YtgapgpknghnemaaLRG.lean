/- LockPlays: the plain law, the readings. -/
import Derived.Test.YtgapgpknghnemaaLRF
namespace Go.Proofs.Ytgapgpknghnemaa
set_option linter.unusedVariables false
set_option linter.unusedSimpArgs false
set_option linter.unusedSectionVars false
set_option linter.unnecessarySimpa false
open Go Go.Proofs
structure P15 (k : Nat) (S : TS) (R : RL) : Prop where
  rel : LRel S R
  len : S.length ≤ k
  rl : R.length ≤ k * 50
  ll : ∀ e ∈ S, e.2.length ≤ k * 50
  ok : ∀ e ∈ S, ∀ x ∈ e.2, x.ok
theorem P15.nil : P15 0 [] [] := ⟨.nil, Nat.le_refl _, Nat.le_refl _, by simp, by simp⟩
theorem P15.up {k m : Nat} {S : TS} {R : RL} (h : P15 k S R) (hm : k ≤ m) : P15 m S R :=
  ⟨h.rel, by have := h.len; omega, by have := h.rl; omega, fun e he => by have := h.ll e he; omega, h.ok⟩
theorem P15.tri {k : Nat} {S : TS} {R : RL} (h : P15 k S R) {o : Int} {l : List Lk} (ho : 0 ≤ o) (hl : l.length ≤ 50) (hok : ∀ x ∈ l, x.ok) :
    (rtryS R o l).1 = (tryS S o l).1 ∧ P15 (k + 1) (tryS S o l).2 (rtryS R o l).2 := by
  unfold rtryS tryS
  rw [h.rel.free]
  by_cases h0 : o = 0
  · rw [if_pos h0, if_pos h0]
    exact ⟨rfl, h.up (by omega)⟩
  rw [if_neg h0, if_neg h0]
  by_cases hf : freeS S o l = true
  case neg =>
    rw [if_neg hf, if_neg hf]
    exact ⟨rfl, h.up (by omega)⟩
  rw [if_pos hf, if_pos hf]
  refine ⟨rfl, ?_⟩
  dsimp only
  by_cases hn : l = []
  · subst hn
    rw [if_pos rfl, List.map_nil, List.append_nil]
    exact h.up (by omega)
  rw [if_neg hn]
  refine ⟨h.rel.add (by omega) hn, ?_, ?_, ?_, fun e he x hx => ?_⟩
  · have h0 := h.len
    have h1 : (addS S o l).length = ((addS S o l).map (·.1)).length := (List.length_map _).symm
    rcases addS_owners (o := o) (l := l) S with h2 | ⟨_, h2⟩
    · rw [h1, h2, List.length_map]; omega
    · rw [h1, h2, List.length_append, List.length_map]; simp only [List.length_singleton]; omega
  · have := h.rl
    rw [List.length_append, List.length_map]; omega
  · intro e he
    have := addS_len (S := S) (o := o) h.ll hl e he
    omega
  · rcases addS_mem he with he | ⟨_, old, h2, h3⟩
    · exact h.ok e he x hx
    · rw [h2, List.mem_append] at hx
      rcases hx with hx | hx
      · rcases h3 with rfl | h3
        · simp at hx
        · exact h.ok _ h3 x hx
      · exact hok x hx
theorem P15.rel' {k : Nat} {S : TS} {R : RL} (h : P15 k S R) (o : Int) : P15 k (relS S o) (rrelS R o) :=
  have hs := relS_sub S o
  ⟨h.rel.rel o, Nat.le_trans hs.length_le h.len, Nat.le_trans (rrel_len R o) h.rl, fun e he => h.ll e (hs.mem he), fun e he => h.ok e (hs.mem he)⟩
theorem P15.heldOk {k : Nat} {S : TS} {R : RL} (h : P15 k S R) (o : Int) : ∀ x ∈ heldS S o, x.ok := by
  intro x hx
  obtain ⟨e, he, _, hx⟩ := heldS_mem hx
  exact h.ok e he x hx
theorem P15.heldLen {k : Nat} {S : TS} {R : RL} (h : P15 k S R) (o : Int) : (heldS S o).length ≤ k * 50 := heldS_len h.ll
theorem P15.owners {k : Nat} {S : TS} {R : RL} (h : P15 k S R) : (sortL (S.map (·.1))).Pairwise (· < ·) ∧ (∀ o ∈ sortL (S.map (·.1)), 0 < o) ∧ ∀ o, o ∈ sortL (S.map (·.1)) ↔ o ∈ ro R := by
  have hp := sortL_perm_self (S.map (·.1))
  refine ⟨?_, fun o ho => ?_, fun o => ?_⟩
  · have h1 : (sortL (S.map (·.1))).Pairwise (fun a b => decide (a ≤ b) = true) := List.pairwise_mergeSort (fun a b c h1 h2 => by simp only [decide_eq_true_eq] at *; omega) (fun a b => by simp only [Bool.or_eq_true, decide_eq_true_eq]; omega) _
    have h2 := hp.nodup_iff.2 h.rel.no
    rw [List.nodup_iff_pairwise_ne] at h2
    exact (h1.and h2).imp fun ⟨h3, h4⟩ => by simp only [decide_eq_true_eq] at h3; omega
  · obtain ⟨e, he, rfl⟩ := List.mem_map.1 (hp.mem_iff.1 ho)
    exact h.rel.pos e he
  · rw [hp.mem_iff, h.rel.owner]
    constructor
    · rintro ⟨x, hx⟩; exact List.mem_map_of_mem (f := fun x : Int × Lk => x.1) hx
    · intro h1
      obtain ⟨⟨o', x⟩, hx, rfl⟩ := List.mem_map.1 h1
      exact ⟨x, hx⟩
theorem lock_okof {W : World} {a : Int × (List UInt8 × List UInt8 × Bool × Unit) × Bool × Unit} {c : List Value} (h : ((RT.struct (tot := 5) Try.underlying26 (by kernel_rfl) (RF.cons 1 (RT.int .i64 Try.underlying3) rfl (by kernel_rfl) (RF.cons 3 (RT.struct (tot := 3) Try.underlying24 (by kernel_rfl) (RF.cons 1 (RT.str Try.underlying9) rfl (by kernel_rfl) (RF.cons 1 (RT.str Try.underlying9) rfl (by kernel_rfl) (RF.cons 1 (RT.bool Try.underlying4) rfl (by kernel_rfl) (RF.nil rfl))))) rfl (by kernel_rfl) (RF.cons 1 (RT.bool Try.underlying4) rfl (by kernel_rfl) (RF.nil rfl))))) : RT Try.prog 26 _).E W a c) : ∃ x : Lk, c = x.cells ∧ x.ok := by
  obtain ⟨_, c1, c2, rfl, ⟨rfl, w1⟩, c3, c4, rfl, ⟨_, c5, c6, rfl, ⟨rfl, w2⟩, c7, c8, rfl, ⟨rfl, w3⟩, c9, c10, rfl, rfl, rfl⟩, c11, c12, rfl, rfl, rfl⟩ := h
  obtain ⟨sp, ⟨lo, hi, op, _⟩, own, _⟩ := a
  exact ⟨⟨sp, lo, hi, op, own⟩, rfl, by show lo.length ≤ _; have : lo.length ≤ 140737488351232 := w2; omega, by show hi.length ≤ _; have : hi.length ≤ 140737488351232 := w3; omega, wf_i64 w1⟩
theorem locks_okof {W : World} {ts : List (Int × (List UInt8 × List UInt8 × Bool × Unit) × Bool × Unit)} {cs : List Value} (h : ((RT.slice 5 56 Try.underlying31 (by kernel_rfl) (by kernel_rfl) (RT.struct (tot := 5) Try.underlying26 (by kernel_rfl) (RF.cons 1 (RT.int .i64 Try.underlying3) rfl (by kernel_rfl) (RF.cons 3 (RT.struct (tot := 3) Try.underlying24 (by kernel_rfl) (RF.cons 1 (RT.str Try.underlying9) rfl (by kernel_rfl) (RF.cons 1 (RT.str Try.underlying9) rfl (by kernel_rfl) (RF.cons 1 (RT.bool Try.underlying4) rfl (by kernel_rfl) (RF.nil rfl))))) rfl (by kernel_rfl) (RF.cons 1 (RT.bool Try.underlying4) rfl (by kernel_rfl) (RF.nil rfl)))))) : RT Try.prog 31 (List _)).E W ts cs) :
    ∃ (l : List Lk) (la : Option Addr) (lc : Nat), cs = [.slice la l.length lc] ∧ l.length ≤ 9223372036854775807 ∧ RdO W la (lcells l) ∧ ∀ x ∈ l, x.ok := by
  obtain ⟨ad, cap, vss, rfl, h2, _, h4, h5, _, h6, h7⟩ := h
  obtain ⟨l, hl, hp⟩ := exists_list (fun i (m : Lk) => (∀ vs, vss[i]? = some vs → vs = m.cells) ∧ m.ok) ts.length (fun i hi => by
    obtain ⟨m, e, ok⟩ := lock_okof (h6 i ts[i] (vss[i]'(by omega)) (List.getElem?_eq_getElem hi) (List.getElem?_eq_getElem (by omega)))
    refine ⟨m, fun vs hv => ?_, ok⟩
    rw [List.getElem?_eq_getElem (by omega)] at hv
    simp only [Option.some.injEq] at hv
    rw [← hv]
    exact e)
  have e : vss = l.map Lk.cells := by
    apply List.ext_getElem (by rw [List.length_map]; omega)
    intro i h1 h2
    rw [List.getElem_map]
    exact (hp i (l[i]'(by rw [List.length_map] at h2; exact h2)) (List.getElem?_eq_getElem _)).1 vss[i] (List.getElem?_eq_getElem h1)
  refine ⟨l, ad, cap, by rw [hl], by omega, ?_, fun x hx => ?_⟩
  · rw [e, ← List.flatMap_def] at h7
    exact h7
  · obtain ⟨i, hi, rfl⟩ := List.getElem_of_mem hx
    exact (hp i l[i] (List.getElem?_eq_getElem hi)).2
def LOpsK (W : World) (l : List LO) (la : Option Addr) : Prop :=
  (0 < l.length → ∃ b o, la = some ⟨b, o, none⟩) ∧ l.length ≤ 9223372036854775807 ∧ ∀ (i : Nat) (h : i < l.length) (b o : Nat), la = some ⟨b, o, none⟩ →
    ∃ (ka : Option Addr) (kc : Nat), RdO W (some ⟨b, o + i * 3, none⟩) [i64 l[i].1, u64 l[i].2.1, .slice ka l[i].2.2.length kc] ∧ l[i].2.2.length ≤ 9223372036854775807 ∧ RdO W ka (lcells l[i].2.2) ∧ 0 ≤ l[i].2.1 ∧ ∀ x ∈ l[i].2.2, x.ok
theorem lopsK_of {W : World} {cs : List Value} {ts : List (Int × Int × List (Int × (List UInt8 × List UInt8 × Bool × Unit) × Bool × Unit) × Unit)} (h : ((RT.slice 3 40 Try.underlying22 (by kernel_rfl) (by kernel_rfl) (RT.struct (tot := 3) Try.underlying33 (by kernel_rfl) (RF.cons 1 (RT.int .i64 Try.underlying3) rfl (by kernel_rfl) (RF.cons 1 (RT.int .u64 Try.underlying27) rfl (by kernel_rfl) (RF.cons 1 (RT.slice 5 56 Try.underlying31 (by kernel_rfl) (by kernel_rfl) (RT.struct (tot := 5) Try.underlying26 (by kernel_rfl) (RF.cons 1 (RT.int .i64 Try.underlying3) rfl (by kernel_rfl) (RF.cons 3 (RT.struct (tot := 3) Try.underlying24 (by kernel_rfl) (RF.cons 1 (RT.str Try.underlying9) rfl (by kernel_rfl) (RF.cons 1 (RT.str Try.underlying9) rfl (by kernel_rfl) (RF.cons 1 (RT.bool Try.underlying4) rfl (by kernel_rfl) (RF.nil rfl))))) rfl (by kernel_rfl) (RF.cons 1 (RT.bool Try.underlying4) rfl (by kernel_rfl) (RF.nil rfl)))))) rfl (by kernel_rfl) (RF.nil rfl)))))) : RT Try.prog 22 (List _)).E W ts cs) :
    ∃ (l : List LO) (la : Option Addr) (lc : Nat), cs = [.slice la l.length lc] ∧ LOpsK W l la := by
  obtain ⟨ad, cap, rfl, _, _, h1, hp, r1⟩ := SliceE.at (by decide) h
  obtain ⟨l, hl, hpl⟩ := exists_list (fun i (m : LO) => ∀ b o, ad = some ⟨b, o, none⟩ → ∃ (ka : Option Addr) (kc : Nat), RdO W (some ⟨b, o + i * 3, none⟩) [i64 m.1, u64 m.2.1, .slice ka m.2.2.length kc] ∧ m.2.2.length ≤ 9223372036854775807 ∧ RdO W ka (lcells m.2.2) ∧ 0 ≤ m.2.1 ∧ ∀ x ∈ m.2.2, x.ok) ts.length (fun i hi => by
    obtain ⟨b0, o0, e0⟩ := hp (by omega)
    obtain ⟨vs, _, ⟨_, c1, c2, rfl, ⟨rfl, w1⟩, c3, c4, rfl, ⟨rfl, w2⟩, c5, c6, rfl, e3, rfl⟩, hR⟩ := r1 i hi b0 o0 e0
    obtain ⟨ls, ka, kc, rfl, g1, g2, g3⟩ := locks_okof e3
    refine ⟨(ts[i].1, ts[i].2.1, ls), fun b o e => ?_⟩
    rw [e0] at e
    simp only [Option.some.injEq, Addr.mk.injEq, and_true] at e
    obtain ⟨rfl, rfl⟩ := e
    exact ⟨ka, kc, hR, g1, g2, (wf_u64 w2).1, g3⟩)
  refine ⟨l, ad, cap, by rw [hl], fun h => hp (by omega), by omega, fun i hi b o e => ?_⟩
  exact hpl i l[i] (List.getElem?_eq_getElem hi) b o e
end Go.Proofs.Ytgapgpknghnemaa
