/- WalPrefix, WalTrims: what holds between two calls. -/
import Derived.Test.YtdehkdmnddflhaaLX5A
import Derived.Test.YtdehkdmnddflhaaWBA
namespace Go.Proofs.Ytdehkdmnddflhaa
set_option linter.unusedVariables false
set_option linter.unusedSimpArgs false
set_option linter.unusedSectionVars false
set_option linter.unnecessarySimpa false
open Go Go.Proofs
theorem wappend_sizes (S : LS) (D : DS) (data : List UInt8) : (wappend S D data).D.writes ≤ D.writes + cnt data.length ∧ (wappend S D data).D.wait.length ≤ D.wait.length + cnt data.length := by
  obtain ⟨h1, h2⟩ := wrs_sizes S (cnt data.length) data (cnt data.length) 0 D
  unfold wappend
  split
  · exact ⟨Nat.le_add_right _ _, Nat.le_add_right _ _⟩
  split
  · exact ⟨Nat.le_add_right _ _, Nat.le_add_right _ _⟩
  split
  · exact ⟨h1, h2⟩
  · exact ⟨h1, h2⟩
theorem wappend_other (S : LS) (D : DS) (data : List UInt8) : (wappend S D data).D.syncs = D.syncs ∧ (wappend S D data).D.seen.length = D.seen.length := by
  have key : ∀ (k i : Nat) (D : DS), (wrs S (cnt data.length) data D i k).2.syncs = D.syncs ∧ (wrs S (cnt data.length) data D i k).2.seen.length = D.seen.length := by
    intro k
    induction k with
    | zero => intro i D; exact ⟨rfl, rfl⟩
    | succ k ih =>
      intro i D
      have hw : (D.write ((S.pos (S.next + i) : Nat) : Int) (wpiece S.mount (S.next + i) i (cnt data.length) (partAt data i))).2.syncs = D.syncs := by
        unfold DS.write
        repeat' split
        all_goals rfl
      obtain ⟨hw2, _⟩ := write_sizes D ((S.pos (S.next + i) : Nat) : Int) (wpiece S.mount (S.next + i) i (cnt data.length) (partAt data i))
      simp only [wrs]
      split
      · obtain ⟨g1, g2⟩ := ih (i + 1) (D.write ((S.pos (S.next + i) : Nat) : Int) (wpiece S.mount (S.next + i) i (cnt data.length) (partAt data i))).2
        exact ⟨g1.trans hw, g2.trans hw2⟩
      · exact ⟨hw, hw2⟩
  obtain ⟨h1, h2⟩ := key (cnt data.length) 0 D
  unfold wappend
  split
  · exact ⟨rfl, rfl⟩
  split
  · exact ⟨rfl, rfl⟩
  split
  · exact ⟨h1, h2⟩
  · exact ⟨h1, h2⟩
structure WS where
  nx : Nat
  mt : Nat
  ls : Nat
  hd : Nat
  safe : Nat
  D : DS
  cs : List CB
/-- pf: the power may have failed. -/
structure WInv (pf : Bool) (sz i : Nat) (g : WS) : Prop where
  pi : ∃ bt l ys part sf a e, PI ⟨0, sz, g.mt, g.hd, g.nx⟩ g.ls bt l ys part sf a e g.D ∧ g.cs.map CB.data = (l ++ byM g.mt ys).map (·.2) ∧ g.safe = l.length + sf
  mt : 1 ≤ g.mt ∧ g.mt ≤ i + 1
  ls : 1 ≤ g.ls ∧ g.ls ≤ g.mt
  hd : 1 ≤ g.hd ∧ g.hd ≤ 1 + sz * i
  writes : g.D.writes ≤ 7 * i
  wait : g.D.wait.length ≤ 7 * i
  syncs : g.D.syncs ≤ i
  cs : g.cs.length ≤ i
  fine : pf = false → g.D.down = false ∧ g.D.fuse < 0
theorem WInv.nx {pf : Bool} {sz i : Nat} {g : WS} (h : WInv pf sz i g) : g.hd ≤ g.nx ∧ g.nx ≤ g.hd + sz ∧ g.safe ≤ g.cs.length ∧ sz ≤ g.D.seen.length := by
  obtain ⟨bt, l, ys, part, sf, a, e, hp, hc, hs⟩ := h.pi
  have h1 := hp.next
  have h2 := hp.room
  have h3 := hp.safe
  have h4 := hp.fits
  have hc2 := congrArg List.length hc
  simp [byM] at hc2
  have h1' : g.hd + total l + total (byM g.mt ys) = g.nx := h1
  have h2' : g.nx ≤ g.hd + sz := h2
  have h4' : 0 + sz ≤ g.D.seen.length := h4
  exact ⟨by omega, h2', by omega, by omega⟩
theorem WInv.mono {pf : Bool} {sz i : Nat} {g : WS} (h : WInv pf sz i g) : WInv pf sz (i + 1) g :=
  ⟨h.pi, ⟨h.mt.1, by have := h.mt.2; omega⟩, h.ls, ⟨h.hd.1, by have := h.hd.2; rw [Nat.mul_add]; omega⟩, by have := h.writes; omega, by have := h.wait; omega, by have := h.syncs; omega, by have := h.cs; omega, h.fine⟩
theorem WInv.new {pf : Bool} {sz k : Nat} (hs : 0 < sz) (hk : sz ≤ k) (hk2 : k ≤ 4096) : WInv pf sz 0 ⟨1, 1, 1, 1, 0, DS.new k, []⟩ :=
  ⟨⟨_, [], [], none, 0, 1, 1, PI.new hs hk hk2 rfl, rfl, rfl⟩, ⟨Nat.le_refl _, Nat.le_refl _⟩, ⟨Nat.le_refl _, Nat.le_refl _⟩, ⟨Nat.le_refl _, Nat.le_add_right _ _⟩, by simp [DS.new], by simp [DS.new], by simp [DS.new], Nat.le_refl _, fun _ => ⟨rfl, by simp [DS.new]⟩⟩
theorem WInv.append {pf : Bool} {sz i : Nat} {g : WS} (h : WInv pf sz i g) {data : List UInt8} (hd : data.length ≤ 300) :
    (wappend ⟨0, sz, g.mt, g.hd, g.nx⟩ g.D data = ⟨0, 3, ⟨0, sz, g.mt, g.hd, g.nx⟩, g.D⟩) ∨
    (∃ E nx, wappend ⟨0, sz, g.mt, g.hd, g.nx⟩ g.D data = ⟨g.nx, 0, ⟨0, sz, g.mt, g.hd, nx⟩, E⟩ ∧ ∀ r : CB, r.data = data → WInv pf sz (i + 1) ⟨nx, g.mt, g.ls, g.hd, g.safe, E, g.cs ++ [r]⟩) ∨
    (pf = true ∧ ∃ E, wappend ⟨0, sz, g.mt, g.hd, g.nx⟩ g.D data = ⟨0, 4, ⟨0, sz, g.mt, g.hd, g.nx⟩, E⟩ ∧ WInv pf sz (i + 1) ⟨g.nx, g.mt, g.ls, g.hd, g.safe, E, g.cs⟩) := by
  obtain ⟨bt, l, ys, part, sf, a, e, hp, hc, hs⟩ := h.pi
  have hcn := cnt_spec (k := data.length) (by omega)
  obtain ⟨z1, z2⟩ := wappend_sizes ⟨0, sz, g.mt, g.hd, g.nx⟩ g.D data
  obtain ⟨z3, z4⟩ := wappend_other ⟨0, sz, g.mt, g.hd, g.nx⟩ g.D data
  have q1 := h.writes
  have q2 := h.wait
  have q3 := h.syncs
  have q4 := h.cs
  have q5 := h.mt
  have q6 := h.hd
  have hc7 : cnt data.length ≤ 7 := by omega
  have hhd : g.hd ≤ 1 + sz * (i + 1) := by rw [Nat.mul_add]; omega
  rcases hp.append (data := data) (by omega) with h1 | ⟨E, e2, h1, h2, h3⟩ | ⟨E, part2, e2, h1, h2, h3⟩
  · exact .inl h1
  · refine .inr (.inl ⟨E, _, h1, fun r hr => ?_⟩)
    rw [h1] at z1 z2 z3 z4
    dsimp only at z1 z2 z3 z4
    refine ⟨⟨bt, l, ys ++ [data], none, sf, a, e2, h2, ?_, hs⟩, ⟨q5.1, by show g.mt ≤ _; omega⟩, h.ls, ⟨q6.1, hhd⟩, by show E.writes ≤ _; omega, by show E.wait.length ≤ _; omega, by show E.syncs ≤ _; omega, by show (g.cs ++ [r]).length ≤ _; rw [List.length_append]; show g.cs.length + 1 ≤ _; omega, fun hpf => ?_⟩
    · show (g.cs ++ [r]).map CB.data = (l ++ byM g.mt (ys ++ [data])).map (·.2)
      have eb : byM g.mt (ys ++ [data]) = byM g.mt ys ++ [(g.mt, data)] := by simp [byM]
      rw [eb, ← List.append_assoc, List.map_append, List.map_append, hc]
      simp [hr]
    · obtain ⟨f1, f2⟩ := h.fine hpf
      refine ⟨by show E.down = false; rw [h3]; exact f1, ?_⟩
      have hsz := hp.size
      have hfit := hp.fits
      have hrm : g.nx - g.hd + cnt data.length ≤ sz := by
        have := h2.room
        have r1 : g.nx + cnt data.length ≤ g.hd + sz := this
        have := hp.next
        have r2 : g.hd + total l + total (byM g.mt ys) = g.nx := this
        omega
      obtain ⟨w1, w2⟩ := wrs_wrote (S := ⟨0, sz, g.mt, g.hd, g.nx⟩) (n := cnt data.length) (data := data) hsz (cnt data.length) 0 g.D f2 f1 hfit (by show cnt data.length ≤ sz; omega)
      have eE : E = (wrs ⟨0, sz, g.mt, g.hd, g.nx⟩ (cnt data.length) data g.D 0 (cnt data.length)).2 := by
        have := congrArg WR.D h1
        unfold wappend at this
        rw [if_neg (by omega)] at this
        split at this
        · rename_i hgt
          exfalso
          have : ¬ ((cnt data.length : Int) > (sz : Int) - ((g.nx - g.hd : Nat) : Int)) := by omega
          exact this hgt
        · first
            | exact this.symm
            | (rw [if_pos w1] at this; exact this.symm)
      show E.fuse < 0
      rw [eE, w2.fuse]
      exact f2
  · have hpf : pf = true := by
      cases hpb : pf with
      | true => rfl
      | false =>
        exfalso
        obtain ⟨f1, f2⟩ := h.fine hpb
        have hsz := hp.size
        have hfit := hp.fits
        have hE := congrArg WR.e h1
        unfold wappend at hE
        rw [if_neg (by omega)] at hE
        split at hE
        · exact absurd hE (show ¬ ((3 : Int) = 4) by decide)
        · rename_i hgt
          have hle : cnt data.length ≤ sz := by
            have : ¬ ((cnt data.length : Int) > (sz : Int) - ((g.nx - g.hd : Nat) : Int)) := hgt
            omega
          obtain ⟨w1, w2⟩ := wrs_wrote (S := ⟨0, sz, g.mt, g.hd, g.nx⟩) (n := cnt data.length) (data := data) hsz (cnt data.length) 0 g.D f2 f1 hfit hle
          rw [if_pos w1] at hE
          exact absurd hE (show ¬ ((0 : Int) = 4) by decide)
    refine .inr (.inr ⟨hpf, E, h1, ?_⟩)
    rw [h1] at z1 z2 z3 z4
    dsimp only at z1 z2 z3 z4
    exact ⟨⟨bt, l, ys, part2, sf, a, e2, h2, hc, hs⟩, ⟨q5.1, by show g.mt ≤ _; omega⟩, h.ls, ⟨q6.1, hhd⟩, by show E.writes ≤ _; omega, by show E.wait.length ≤ _; omega, by show E.syncs ≤ _; omega, by show g.cs.length ≤ _; omega, fun hpb => by rw [hpf] at hpb; cases hpb⟩
theorem WInv.sync {pf : Bool} {sz i : Nat} {g : WS} (h : WInv pf sz i g) : (g.D.sync.1 = 0 ∧ WInv pf sz (i + 1) ⟨g.nx, g.mt, g.ls, g.hd, g.cs.length, g.D.sync.2, g.cs⟩) ∨ (pf = true ∧ g.D.sync = (4, g.D)) := by
  by_cases hd : g.D.down = true
  · right
    refine ⟨?_, by unfold DS.sync; rw [if_pos hd]⟩
    cases hpb : pf with
    | true => rfl
    | false => have := (h.fine hpb).1; rw [this] at hd; cases hd
  · left
    obtain ⟨bt, l, ys, part, sf, a, e, hp, hc, hs⟩ := h.pi
    have hm := h.mono
    have eS : g.D.sync = (0, { g.D with wait := [], syncs := g.D.syncs + 1 }) := by unfold DS.sync; rw [if_neg hd]
    have hcl := congrArg List.length hc
    simp [byM] at hcl
    rw [eS]
    have q3 := h.syncs
    exact ⟨rfl, ⟨⟨bt, l, ys, part, ys.length, e, e, hp.sync hd, hc, hcl⟩, hm.mt, hm.ls, hm.hd, hm.writes, Nat.zero_le _, by show g.D.syncs + 1 ≤ _; omega, hm.cs, h.fine⟩⟩
theorem WInv.fuse {pf : Bool} {sz i : Nat} {g : WS} (h : WInv pf sz i g) (hpf : pf = true) (n : Int) : WInv pf sz (i + 1) ⟨g.nx, g.mt, g.ls, g.hd, g.safe, g.D.setFuse n, g.cs⟩ := by
  obtain ⟨bt, l, ys, part, sf, a, e, hp, hc, hs⟩ := h.pi
  have hm := h.mono
  have key : (g.D.setFuse n).writes = g.D.writes ∧ (g.D.setFuse n).wait = g.D.wait ∧ (g.D.setFuse n).syncs = g.D.syncs := by
    unfold DS.setFuse
    split <;> exact ⟨rfl, rfl, rfl⟩
  exact ⟨⟨bt, l, ys, part, sf, a, e, hp.fuse n, hc, hs⟩, hm.mt, hm.ls, hm.hd, by show (g.D.setFuse n).writes ≤ _; rw [key.1]; exact hm.writes, by show (g.D.setFuse n).wait.length ≤ _; rw [key.2.1]; exact hm.wait, by show (g.D.setFuse n).syncs ≤ _; rw [key.2.2]; exact hm.syncs, hm.cs, fun hpb => by rw [hpf] at hpb; cases hpb⟩
theorem WInv.crash {pf : Bool} {sz i : Nat} {g : WS} (h : WInv pf sz i g) (keep : List Int) (hi : i ≤ 1000) : ∃ rs nx, wfound (g.D.crash keep) 0 sz (g.mt + 1) g.hd g.ls = (rs, nx) ∧ g.safe ≤ rs.length ∧ rs.length ≤ g.cs.length ∧ rs.map (·.2.2) = (g.cs.take rs.length).map CB.data ∧
    (∀ k x y, rs[k]? = some x → rs[k + 1]? = some y → y.1 = x.2.1) ∧ WInv pf sz (i + 1) ⟨nx, g.mt + 1, g.ls, g.hd, rs.length, g.D.crash keep, g.cs.take rs.length⟩ := by
  obtain ⟨bt, l, ys, part, sf, a, e, hp, hc, hs⟩ := h.pi
  have hm := h.mono
  have q5 := h.mt
  obtain ⟨j, nx, j1, j2, j3, j4, j5, j6⟩ := hp.crash keep (g.mt + 1) (Nat.lt_succ_self _) (by omega)
  have hcl := congrArg List.length hc
  simp [byM] at hcl
  have hlen : (l ++ byM g.mt (ys.take j)).length = l.length + j := by simp [byM]; omega
  have htk : (l ++ byM g.mt (ys.take j)).map (·.2) = (g.cs.take (l.length + j)).map CB.data := by
    rw [List.map_take, hc, show byM g.mt (ys.take j) = (byM g.mt ys).take j by simp [byM, List.map_take], ← List.map_take, List.take_length_add_append]
  refine ⟨_, nx, j3, ?_⟩
  rw [recsOf_len]
  have hlen' : (l ++ byM g.mt (ys.take j)).length = l.length + j := hlen
  refine ⟨by show g.safe ≤ (l ++ byM g.mt (ys.take j)).length; omega, by show (l ++ byM g.mt (ys.take j)).length ≤ _; omega, ?_, recsOf_next _ _, ?_⟩
  · show (recsOf g.hd (l ++ byM g.mt (ys.take j))).map (·.2.2) = (g.cs.take (l ++ byM g.mt (ys.take j)).length).map CB.data
    rw [recsOf_dat, hlen', htk]
  · show WInv pf sz (i + 1) ⟨nx, g.mt + 1, g.ls, g.hd, (l ++ byM g.mt (ys.take j)).length, g.D.crash keep, g.cs.take (l ++ byM g.mt (ys.take j)).length⟩
    refine ⟨⟨_, l ++ byM g.mt (ys.take j), [], none, 0, nx, nx, j6, ?_, rfl⟩, ⟨by show 1 ≤ g.mt + 1; omega, by show g.mt + 1 ≤ _; omega⟩, ⟨h.ls.1, by show g.ls ≤ g.mt + 1; have := h.ls.2; omega⟩, hm.hd, hm.writes, Nat.zero_le _, hm.syncs, ?_, fun hpb => ⟨rfl, by show (-1 : Int) < 0; decide⟩⟩
    · show (g.cs.take _).map CB.data = _
      rw [hlen', ← htk]
      simp [byM]
    · show (g.cs.take _).length ≤ _
      rw [List.length_take]
      have := h.cs
      omega
/-- Synced: the next piece as the head, the mount as the least one. -/
theorem WInv.trim {pf : Bool} {sz i : Nat} {g : WS} (h : WInv pf sz i g) (hpf : pf = false) (hi : i ≤ 1000) (hsz : sz ≤ 1000) : g.D.sync.1 = 0 ∧ WInv pf sz (i + 1) ⟨g.nx, g.mt, g.mt, g.nx, 0, g.D.sync.2, []⟩ := by
  obtain ⟨f1, f2⟩ := h.fine hpf
  have hd : ¬ g.D.down = true := by rw [f1]; decide
  obtain ⟨bt, l, ys, part, sf, a, e, hp, hc, hs⟩ := h.pi
  obtain ⟨n1, n2, n3, _⟩ := h.nx
  have hm := h.mono
  have eS : g.D.sync = (0, { g.D with wait := [], syncs := g.D.syncs + 1 }) := by unfold DS.sync; rw [if_neg hd]
  have q3 := h.syncs
  have q5 := h.mt
  have q6 := h.hd
  have hb : g.nx + sz + 3000 < 9223372036854775808 := by
    have : sz * i ≤ 1000 * 1000 := Nat.mul_le_mul hsz hi
    omega
  rw [eS]
  cases part with
  | some x => exact absurd (hp.cut x rfl).2.2.2 hd
  | none =>
    have ht := hp.trim (E := { g.D with wait := [], syncs := g.D.syncs + 1 }) hb rfl rfl q5.1
    refine ⟨rfl, ⟨⟨_, [], [], none, 0, g.nx, g.nx, ht, rfl, rfl⟩, hm.mt, ⟨q5.1, Nat.le_refl _⟩, ⟨by show 1 ≤ g.nx; omega, ?_⟩, hm.writes, Nat.zero_le _, by show g.D.syncs + 1 ≤ _; omega, Nat.zero_le _, h.fine⟩⟩
    show g.nx ≤ 1 + sz * (i + 1)
    rw [Nat.mul_add]; omega
end Go.Proofs.Ytdehkdmnddflhaa
