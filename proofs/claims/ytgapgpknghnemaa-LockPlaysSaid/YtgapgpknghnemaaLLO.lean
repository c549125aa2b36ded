/- The script of calls of a lock table. -/
import Derived.Test.YtgapgpknghnemaaLL
namespace Go.Proofs.Ytgapgpknghnemaa
set_option linter.unusedVariables false
set_option linter.unusedSimpArgs false
set_option linter.unusedSectionVars false
set_option linter.unnecessarySimpa false
open Go Go.Proofs
theorem freeS_nil (S : TS) (o : Int) : freeS S o [] = true := by
  unfold freeS
  rw [List.all_eq_true]
  intro e _
  simp [okS]
theorem okS_cons (e : Int × List Lk) (o : Int) (a : Lk) (l : List Lk) : okS e o (a :: l) = (okS e o [a] && okS e o l) := by
  unfold okS
  by_cases h : e.1 = o
  · simp [h]
  · simp [h]
theorem freeS_cons (S : TS) (o : Int) (a : Lk) (l : List Lk) : freeS S o (a :: l) = (freeS S o [a] && freeS S o l) := by
  induction S with
  | nil => rfl
  | cons e S ih =>
    have h1 : ∀ l, freeS (e :: S) o l = (okS e o l && freeS S o l) := fun l => rfl
    rw [h1, h1, h1, ih, okS_cons]
    cases okS e o [a] <;> cases okS e o l <;> cases freeS S o [a] <;> cases freeS S o l <;> rfl
theorem addS_len {S : TS} {o : Int} {l : List Lk} {k m : Nat} (hS : ∀ e ∈ S, e.2.length ≤ k) (hl : l.length ≤ m) : ∀ e ∈ addS S o l, e.2.length ≤ k + m := by
  induction S with
  | nil =>
    intro e he
    simp [addS] at he
    subst he; simp only; omega
  | cons x S ih =>
    intro e he
    unfold addS at he
    split at he
    · rcases List.mem_cons.1 he with rfl | he
      · have := hS x (by simp)
        rw [List.length_append]; omega
      · have := hS e (by simp [he]); omega
    · rcases List.mem_cons.1 he with rfl | he
      · have := hS e (by simp); omega
      · exact ih (fun e he => hS e (by simp [he])) e he
theorem tryS_len {S : TS} {o : Int} {l : List Lk} {k m : Nat} (hS : ∀ e ∈ S, e.2.length ≤ k) (hl : l.length ≤ m) : ∀ e ∈ (tryS S o l).2, e.2.length ≤ k + m := by
  unfold tryS
  split
  · intro e he; have := hS e he; omega
  · split
    · dsimp only
      split
      · intro e he; have := hS e he; omega
      · exact addS_len hS hl
    · intro e he; have := hS e he; omega
abbrev LO := Int × Int × List Lk
def LOpsAt (W : World) (l : List LO) (la : Option Addr) : Prop :=
  (0 < l.length → ∃ b o, la = some ⟨b, o, none⟩) ∧ l.length ≤ 9223372036854775807 ∧ ∀ (i : Nat) (h : i < l.length) (b o : Nat), la = some ⟨b, o, none⟩ →
    ∃ (ka : Option Addr) (kc : Nat), RdO W (some ⟨b, o + i * 3, none⟩) [i64 l[i].1, u64 l[i].2.1, .slice ka l[i].2.2.length kc] ∧ l[i].2.2.length ≤ 9223372036854775807 ∧ RdO W ka (lcells l[i].2.2)
theorem lopsAt_of {W : World} {cs : List Value} {ts : List (Int × Int × List (Int × (List UInt8 × List UInt8 × Bool × Unit) × Bool × Unit) × Unit)} (h : ((RT.slice 3 40 Try.underlying22 (by kernel_rfl) (by kernel_rfl) (RT.struct (tot := 3) Try.underlying33 (by kernel_rfl) (RF.cons 1 (RT.int .i64 Try.underlying3) rfl (by kernel_rfl) (RF.cons 1 (RT.int .u64 Try.underlying27) rfl (by kernel_rfl) (RF.cons 1 (RT.slice 5 56 Try.underlying31 (by kernel_rfl) (by kernel_rfl) (RT.struct (tot := 5) Try.underlying26 (by kernel_rfl) (RF.cons 1 (RT.int .i64 Try.underlying3) rfl (by kernel_rfl) (RF.cons 3 (RT.struct (tot := 3) Try.underlying24 (by kernel_rfl) (RF.cons 1 (RT.str Try.underlying9) rfl (by kernel_rfl) (RF.cons 1 (RT.str Try.underlying9) rfl (by kernel_rfl) (RF.cons 1 (RT.bool Try.underlying4) rfl (by kernel_rfl) (RF.nil rfl))))) rfl (by kernel_rfl) (RF.cons 1 (RT.bool Try.underlying4) rfl (by kernel_rfl) (RF.nil rfl)))))) rfl (by kernel_rfl) (RF.nil rfl)))))) : RT Try.prog 22 (List _)).E W ts cs) :
    ∃ (l : List LO) (la : Option Addr) (lc : Nat), cs = [.slice la l.length lc] ∧ LOpsAt W l la := by
  obtain ⟨ad, cap, rfl, _, _, h1, hp, r1⟩ := SliceE.at (by decide) h
  obtain ⟨l, hl, hpl⟩ := exists_list (fun i (m : LO) => ∀ b o, ad = some ⟨b, o, none⟩ → ∃ (ka : Option Addr) (kc : Nat), RdO W (some ⟨b, o + i * 3, none⟩) [i64 m.1, u64 m.2.1, .slice ka m.2.2.length kc] ∧ m.2.2.length ≤ 9223372036854775807 ∧ RdO W ka (lcells m.2.2)) ts.length (fun i hi => by
    obtain ⟨b0, o0, e0⟩ := hp (by omega)
    obtain ⟨vs, _, ⟨_, c1, c2, rfl, ⟨rfl, w1⟩, c3, c4, rfl, ⟨rfl, w2⟩, c5, c6, rfl, e3, rfl⟩, hR⟩ := r1 i hi b0 o0 e0
    obtain ⟨ls, ka, kc, rfl, g1, g2⟩ := locks_of e3
    refine ⟨(ts[i].1, ts[i].2.1, ls), fun b o e => ?_⟩
    rw [e0] at e
    simp only [Option.some.injEq, Addr.mk.injEq, and_true] at e
    obtain ⟨rfl, rfl⟩ := e
    exact ⟨ka, kc, hR, g1, g2⟩)
  refine ⟨l, ad, cap, by rw [hl], fun h => hp (by omega), by omega, fun i hi b o e => ?_⟩
  exact hpl i l[i] (List.getElem?_eq_getElem hi) b o e
end Go.Proofs.Ytgapgpknghnemaa
