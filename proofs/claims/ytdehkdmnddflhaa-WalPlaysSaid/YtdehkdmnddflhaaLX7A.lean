/- WalPlays: what holds between two calls; two lists of records compared. -/
import Derived.Test.YtdehkdmnddflhaaLX5A
import Derived.Test.YtdehkdmnddflhaaWRC
namespace Go.Proofs.Ytdehkdmnddflhaa
set_option linter.unusedVariables false
set_option linter.unusedSimpArgs false
set_option linter.unusedSectionVars false
set_option linter.unnecessarySimpa false
open Go Go.Proofs
set_option maxRecDepth 20000
set_option maxHeartbeats 4000000
theorem wrs_sizes (S : LS) (n : Nat) (data : List UInt8) : ∀ (k i : Nat) (D : DS), (wrs S n data D i k).2.writes ≤ D.writes + k ∧ (wrs S n data D i k).2.wait.length ≤ D.wait.length + k
  | 0, _, _ => ⟨Nat.le_refl _, Nat.le_refl _⟩
  | k + 1, i, D => by
    obtain ⟨_, g2, g3⟩ := write_sizes D ((S.pos (S.next + i) : Nat) : Int) (wpiece S.mount (S.next + i) i n (partAt data i))
    simp only [wrs]
    split
    · obtain ⟨q1, q2⟩ := wrs_sizes S n data k (i + 1) (D.write ((S.pos (S.next + i) : Nat) : Int) (wpiece S.mount (S.next + i) i n (partAt data i))).2
      exact ⟨by omega, by omega⟩
    · exact ⟨by omega, by omega⟩
theorem wappend_sizes (S : LS) (D : DS) (data : List UInt8) : (wappend S D data).D.writes ≤ D.writes + cnt data.length ∧ (wappend S D data).D.wait.length ≤ D.wait.length + cnt data.length := by
  obtain ⟨h1, h2⟩ := wrs_sizes S (cnt data.length) data (cnt data.length) 0 D
  unfold wappend
  split
  · exact ⟨Nat.le_add_right _ _, Nat.le_add_right _ _⟩
  split
  · exact ⟨Nat.le_add_right _ _, Nat.le_add_right _ _⟩
  split
  · exact ⟨h1, h2⟩
  · exact ⟨h1, h2⟩
theorem wappend_other (S : LS) (D : DS) (data : List UInt8) : (wappend S D data).D.syncs = D.syncs ∧ (wappend S D data).D.seen.length = D.seen.length := by
  have key : ∀ (k i : Nat) (D : DS), (wrs S (cnt data.length) data D i k).2.syncs = D.syncs ∧ (wrs S (cnt data.length) data D i k).2.seen.length = D.seen.length := by
    intro k
    induction k with
    | zero => intro i D; exact ⟨rfl, rfl⟩
    | succ k ih =>
      intro i D
      have hw : (D.write ((S.pos (S.next + i) : Nat) : Int) (wpiece S.mount (S.next + i) i (cnt data.length) (partAt data i))).2.syncs = D.syncs := by
        unfold DS.write
        repeat' split
        all_goals rfl
      obtain ⟨hw2, _⟩ := write_sizes D ((S.pos (S.next + i) : Nat) : Int) (wpiece S.mount (S.next + i) i (cnt data.length) (partAt data i))
      simp only [wrs]
      split
      · obtain ⟨g1, g2⟩ := ih (i + 1) (D.write ((S.pos (S.next + i) : Nat) : Int) (wpiece S.mount (S.next + i) i (cnt data.length) (partAt data i))).2
        exact ⟨g1.trans hw, g2.trans hw2⟩
      · exact ⟨hw, hw2⟩
  obtain ⟨h1, h2⟩ := key (cnt data.length) 0 D
  unfold wappend
  split
  · exact ⟨rfl, rfl⟩
  split
  · exact ⟨rfl, rfl⟩
  split
  · exact ⟨h1, h2⟩
  · exact ⟨h1, h2⟩
theorem wfind_bounds {at_ : Nat → List UInt8} {top lo hi : Nat} : ∀ (k s m next : Nat) (data : List UInt8) (recs : List (Nat × Nat × List UInt8)), lo ≤ next → next ≤ hi → lo ≤ s → s + k ≤ hi →
    (lo ≤ (wfind at_ top k s m data next recs).2 ∧ (wfind at_ top k s m data next recs).2 ≤ hi) ∧ (wfind at_ top k s m data next recs).1.length ≤ recs.length + k
  | 0, _, _, _, _, _, h1, h2, _, _ => ⟨⟨h1, h2⟩, Nat.le_refl _⟩
  | k + 1, s, m, next, data, recs, h1, h2, h3, h4 => by
    rw [wfind_succ]
    split
    · split
      · obtain ⟨g1, g2⟩ := wfind_bounds (at_ := at_) (top := top) k (s + 1) (lookA (at_ s) s).mount (s + 1) [] (recs ++ [(next, s + 1, data ++ (lookA (at_ s) s).data)]) (show lo ≤ s + 1 by omega) (show s + 1 ≤ hi by omega) (by omega) (by omega)
        refine ⟨g1, ?_⟩
        rw [List.length_append, List.length_singleton] at g2
        omega
      · obtain ⟨g1, g2⟩ := wfind_bounds (at_ := at_) (top := top) k (s + 1) (lookA (at_ s) s).mount next (data ++ (lookA (at_ s) s).data) recs h1 h2 (by omega) (by omega)
        exact ⟨g1, by omega⟩
    · exact ⟨⟨h1, h2⟩, by show recs.length ≤ _; omega⟩
theorem wfound_bounds (D : DS) (base size mount head least : Nat) : (head ≤ (wfound D base size mount head least).2 ∧ (wfound D base size mount head least).2 ≤ head + size) ∧ (wfound D base size mount head least).1.length ≤ size := by
  obtain ⟨h1, h2⟩ := wfind_bounds (at_ := wat D ⟨base, size, mount, head, head⟩) (top := mount) (lo := head) (hi := head + size) size head least head [] [] (Nat.le_refl _) (by omega) (Nat.le_refl _) (Nat.le_refl _)
  exact ⟨h1, by rw [List.length_nil, Nat.zero_add] at h2; exact h2⟩
theorem u32_any (z : Int) : ∃ v : Nat, v < 4294967296 ∧ IntKind.u32.wrap z = (v : Int) := by
  refine ⟨(IntKind.u32.wrap z).toNat, ?_, ?_⟩ <;> rw [IntKind.wrap_u32] <;> omega
theorem u64_any (z : Int) : ∃ v : Nat, v < 18446744073709551616 ∧ IntKind.u64.wrap z = (v : Int) := by
  refine ⟨(IntKind.u64.wrap z).toNat, ?_, ?_⟩ <;> rw [IntKind.wrap_u64] <;> omega
theorem good_of {base size : Int} {least mount head : Nat} (h : ¬ badOpen 40 base size least mount head) : ∃ b s : Nat, base = (b : Int) ∧ size = (s : Int) ∧ 4 ≤ s ∧ b + s ≤ 40 ∧ 0 < least ∧ least ≤ mount ∧ 0 < head ∧ head ≤ 4611686018427387904 := by
  unfold badOpen at h
  simp only [not_or] at h
  obtain ⟨a1, a2, a3, a4, a5, a6, a7, a8⟩ := h
  exact ⟨base.toNat, size.toNat, by omega, by omega, by omega, by omega, by omega, by omega, by omega, by omega⟩
structure P7 (size i mt hd nx : Nat) (D : DS) : Prop where
  len : D.seen.length = 40
  writes : D.writes ≤ 656 * i
  wait : D.wait.length ≤ 656 * i
  syncs : D.syncs ≤ i
  mtl : mt < 4294967296
  hdl : hd ≤ 4611686018427387904 + 40 * i
  nxb : hd ≤ nx ∧ nx ≤ hd + size
section
variable {size i mt hd nx : Nat} {D : DS}
theorem P7.append (h : P7 size i mt hd nx D) (base : Nat) (bs : List UInt8) : ∃ a e nx2 E, wappend ⟨base, size, mt, hd, nx⟩ D bs = ⟨a, e, ⟨base, size, mt, hd, nx2⟩, E⟩ ∧ P7 size (i + 1) mt hd nx2 E := by
  obtain ⟨s1, s2⟩ := wappend_sizes ⟨base, size, mt, hd, nx⟩ D bs
  obtain ⟨s3, s4⟩ := wappend_other ⟨base, size, mt, hd, nx⟩ D bs
  have hc := cnt_le bs.length
  have h2 := h.writes
  have h3 := h.wait
  have h4 := h.syncs
  have h5 := h.hdl
  obtain ⟨h6, h7⟩ := h.nxb
  have key : ∃ nx2, (wappend ⟨base, size, mt, hd, nx⟩ D bs).S = ⟨base, size, mt, hd, nx2⟩ ∧ hd ≤ nx2 ∧ nx2 ≤ hd + size := by
    unfold wappend
    split
    · exact ⟨nx, rfl, h6, h7⟩
    split
    · exact ⟨nx, rfl, h6, h7⟩
    rename_i hroom
    split
    · refine ⟨nx + cnt bs.length, rfl, by omega, ?_⟩
      have hroom : ¬ (cnt bs.length : Int) > (size : Int) - ((nx - hd : Nat) : Int) := hroom
      omega
    · exact ⟨nx, rfl, h6, h7⟩
  obtain ⟨nx2, k1, k2, k3⟩ := key
  generalize wappend ⟨base, size, mt, hd, nx⟩ D bs = r at *
  obtain ⟨a, e, S, E⟩ := r
  dsimp only at s1 s2 s3 s4 k1
  subst k1
  exact ⟨a, e, nx2, E, rfl, s4.trans h.len, by omega, by omega, by omega, h.mtl, by omega, k2, k3⟩
theorem P7.write (h : P7 size i mt hd nx D) (j : Int) (bs : List UInt8) : P7 size (i + 1) mt hd nx (D.write j bs).2 := by
  obtain ⟨g1, g2, g3⟩ := write_sizes D j bs
  have g4 : (D.write j bs).2.syncs = D.syncs := by
    unfold DS.write
    repeat' split
    all_goals rfl
  exact ⟨g1.trans h.len, by have := h.writes; omega, by have := h.wait; omega, by have := h.syncs; omega, h.mtl, by have := h.hdl; omega, h.nxb⟩
theorem P7.sync (h : P7 size i mt hd nx D) : P7 size (i + 1) mt hd nx D.sync.2 := by
  have g : D.sync.2.seen.length = D.seen.length ∧ D.sync.2.writes = D.writes ∧ D.sync.2.wait.length ≤ D.wait.length ∧ D.sync.2.syncs ≤ D.syncs + 1 := by
    unfold DS.sync
    repeat' split
    all_goals exact ⟨rfl, rfl, by simp, by simp⟩
  obtain ⟨g1, g2, g3, g4⟩ := g
  exact ⟨g1.trans h.len, by have := h.writes; omega, by have := h.wait; omega, by have := h.syncs; omega, h.mtl, by have := h.hdl; omega, h.nxb⟩
theorem P7.fuse (h : P7 size i mt hd nx D) (j : Int) : P7 size (i + 1) mt hd nx (D.setFuse j) := by
  have g : (D.setFuse j).seen.length = D.seen.length ∧ (D.setFuse j).writes = D.writes ∧ (D.setFuse j).wait.length = D.wait.length ∧ (D.setFuse j).syncs = D.syncs := by
    unfold DS.setFuse
    repeat' split
    all_goals exact ⟨rfl, rfl, rfl, rfl⟩
  obtain ⟨g1, g2, g3, g4⟩ := g
  exact ⟨g1.trans h.len, by have := h.writes; omega, by have := h.wait; omega, by have := h.syncs; omega, h.mtl, by have := h.hdl; omega, h.nxb⟩
theorem P7.crash (h : P7 size i mt hd nx D) (keep : List Int) : P7 size (i + 1) mt hd nx (D.crash keep) :=
  ⟨(crash_len D keep).trans h.len, by show D.writes ≤ _; have := h.writes; omega, Nat.zero_le _, by show D.syncs ≤ _; have := h.syncs; omega, h.mtl, by have := h.hdl; omega, h.nxb⟩
theorem P7.opened (h : P7 size i mt hd nx D) (base least : Nat) {mt2 hd2 : Nat} (h1 : mt2 < 4294967296) (h2 : hd2 ≤ 4611686018427387904) : P7 size i mt2 hd2 (wfound D base size mt2 hd2 least).2 D :=
  ⟨h.len, h.writes, h.wait, h.syncs, h1, by omega, (wfound_bounds D base size mt2 hd2 least).1⟩
theorem P7.new {base size mt hd least : Nat} (h1 : mt < 4294967296) (h2 : hd ≤ 4611686018427387904) : P7 size 0 mt hd (wfound (DS.new 40) base size mt hd least).2 (DS.new 40) :=
  ⟨new_seen 40, Nat.le_refl _, Nat.le_refl _, Nat.le_refl _, h1, by omega, (wfound_bounds _ base size mt hd least).1⟩
theorem P7.trimmed (h : P7 size i mt hd nx D) {hd2 : Nat} (h1 : hd2 = hd ∨ (hd ≤ hd2 ∧ hd2 ≤ nx)) (hs : size ≤ 40) : P7 size (i + 1) mt hd2 nx D := by
  have h5 := h.hdl
  obtain ⟨h6, h7⟩ := h.nxb
  exact ⟨h.len, by have := h.writes; omega, by have := h.wait; omega, by have := h.syncs; omega, h.mtl, by omega, by omega⟩
end
attribute [local irreducible] SG WC WO W1 WD WK PS Rd Tri Exit.then Exit.inBlock bodyPost calmQ Mid sadd
variable {W : World} {n : Nat} {F : Fr} {L : List HP} {G : Act → World → Prop}
theorem counts5 (m : Int) (hm : -9223372036854775808 ≤ m ∧ m ≤ 9223372036854775807) : ∃ k : Nat, (∀ R, Tri Try.prog W 16 [i64 m] R (X := Unit) (fun _ => i64 k) (fun _ => True) (fun _ => R)) ∧ ∀ R, Tri Try.prog W 25 [i64 m] R (X := Unit) (fun _ => i64 k) (fun _ => True) (fun _ => R) := by
  by_cases h : m < 0
  · exact ⟨0, fun R => wcount_bad m h R, fun R => r3count_neg m h R⟩
  · obtain ⟨k, rfl⟩ : ∃ k : Nat, m = (k : Int) := ⟨m.toNat, by omega⟩
    exact ⟨cnt k, fun R => wcount_tri k (by omega) R, fun R => r3count_tri k (by omega) R⟩
theorem trims5 (base size mt hd nx to : Nat) : ∃ (e : Int) (hd2 : Nat), (hd2 = hd ∨ (hd ≤ hd2 ∧ hd2 ≤ nx)) ∧
    (∀ l d R, Tri Try.prog W 15 [dp l, u64v to] (blk l (lcells d ⟨base, size, mt, hd, nx⟩) :: R) (X := Unit) (fun _ => i64 e) (fun _ => True) (fun _ => blk l (lcells d ⟨base, size, mt, hd2, nx⟩) :: R)) ∧
    ∀ l d R, Tri Try.prog W 32 [dp l, u64v to] (blk l (lcells d ⟨base, size, mt, hd, nx⟩) :: R) (X := Unit) (fun _ => i64 e) (fun _ => True) (fun _ => blk l (lcells d ⟨base, size, mt, hd2, nx⟩) :: R) := by
  by_cases h : to < hd ∨ nx < to
  · refine ⟨1, hd, .inl rfl, fun l d R => ?_, fun l d R => ?_⟩
    · have h9 := trim_tri (W := W) l d to ⟨base, size, mt, hd, nx⟩ R
      rw [if_pos h, if_pos h] at h9; exact h9
    · have h9 := r5trim_tri (W := W) l d to ⟨base, size, mt, hd, nx⟩ R
      rw [if_pos h, if_pos h] at h9; exact h9
  · refine ⟨0, to, .inr (by omega), fun l d R => ?_, fun l d R => ?_⟩
    · have h9 := trim_tri (W := W) l d to ⟨base, size, mt, hd, nx⟩ R
      rw [if_neg h, if_neg h] at h9; exact h9
    · have h9 := r5trim_tri (W := W) l d to ⟨base, size, mt, hd, nx⟩ R
      rw [if_neg h, if_neg h] at h9; exact h9
theorem same_tri (p q : List RR) (oa ob : Option Addr) (oc obc : Nat) (h : p.map RR.val = q.map RR.val) (hl : p.length ≤ 4096) (R : List HP) :
    Tri Try.prog W 28 [.slice oa p.length oc, .slice ob q.length obc] (RecsRep oa oc p :: RecsRep ob obc q :: R) (X := Unit) (fun _ => .bool true) (fun _ => True) (fun _ => RecsRep oa oc p :: RecsRep ob obc q :: R) := by
  have hlen : q.length = p.length := by have := congrArg List.length h; simpa using this.symm
  refine tri_enter2 Try.func28 rfl Try.ntmps28 rfl ?_
  repeat' (first | refine sg_wo ?_ | refine sg_ps (ps_move rfl) rfl ?_ | refine sg_ps (ps_assign rfl) rfl ?_ | refine sg_seq ?_ | refine sg_region ?_ | refine sg_nil ?_ | refine sg_then ?_ | refine sg_ps (ps_bin rfl rfl inferInstance) rfl ?_ | refine sg_ps (ps_len rfl) rfl ?_ | refine sg_block ?_ | refine sg_skip ?_ | (refine sg_cond_ndec rfl (fun hg => ?_) (fun hg => ?_) <;> first | (exfalso; omega) | (exact absurd rfl hg) | skip))
  refine sg_loop (γ := Nat) (fun k => k ≤ p.length) (fun k => [(0, .slice oa p.length oc), (1, .slice ob q.length obc), (5, i64 k)]) (fun _ => RecsRep oa oc p :: RecsRep ob obc q :: R) (fun k => p.length - k) 0 (Nat.zero_le _) (.cons rfl (.cons rfl (.cons rfl .nil))) (fun w hO => hO) ?_
  intro k hk
  by_cases hkp : k < p.length
  · have hy : p[k]? = some p[k] := List.getElem?_eq_getElem hkp
    have hz : q[k]? = some (q[k]'(by omega)) := List.getElem?_eq_getElem (by omega)
    have hv : (p[k]).val = (q[k]'(by omega)).val := by
      have h9 := congrArg (fun l => l[k]?) h
      simp only [List.getElem?_map, hy, hz, Option.map_some, Option.some.injEq] at h9
      exact h9
    generalize p[k] = y at hy hv
    generalize q[k]'(by omega) = z at hz hv
    obtain ⟨yf, yt, yd, ya, yc⟩ := y
    obtain ⟨zf, zt, zd, za, zc⟩ := z
    simp only [RR.val, Prod.mk.injEq] at hv
    obtain ⟨rfl, rfl, rfl⟩ := hv
    refine sg_recs_some 0 rfl (by omega) ?_
    rintro pb rfl
    refine sg_recs_some 1 rfl (by omega) ?_
    rintro qb rfl
    repeat' (first | refine sg_wo ?_ | refine sg_ps (ps_move rfl) rfl ?_ | refine sg_seq ?_ | refine sg_region ?_ | refine sg_nil ?_ | refine sg_then ?_ | refine sg_ps (ps_bin rfl rfl inferInstance) rfl ?_ | refine sg_ps (ps_len rfl) rfl ?_ | refine sg_block ?_ | refine sg_skip ?_ | (refine sg_cond_dec rfl (fun hg => ?_) (fun hg => ?_) <;> first | (exfalso; omega) | (exact absurd rfl hg) | skip))
    refine sg_drawK (RecsRep (some ⟨pb, 0, none⟩) oc p :: RecsRep (some ⟨qb, 0, none⟩) obc q :: R) [0, 1, 2, 3, 5, 6, 7, 8, 4, 9, 10, 11, 12, 13, 14, 15, 17, 18, 19, 20, 16, 21, 22, 23, 24, 25, 26, 27, 28, 30, 31, 32, 33, 29, 34, 35, 36, 37] (by kernel_rfl) (by kernel_rfl) (fun w hO => hO) ?_
    repeat' (first | refine sk_pure rfl rfl (ps_move rfl) rfl ?_ | refine sk_pure rfl rfl (ps_fieldAddr rfl) rfl ?_ | refine sk_pure rfl rfl (ps_indexAddr rfl rfl rfl (by omega)) rfl ?_)
    refine sk_load_rd rfl rfl (rd_rcell (i := k) (j := 0) 0 rfl hy (by decide) rfl) rfl ?_
    skip
    refine sk_load_rd rfl rfl (rd_rcell (i := k) (j := 0) 1 rfl hz (by decide) rfl) rfl ?_
    repeat' (first | refine sk_pure rfl rfl (ps_move rfl) rfl ?_ | refine sk_pure rfl rfl (ps_bin rfl rfl inferInstance) rfl ?_ | refine sk_pure_g rfl rfl rfl rfl (ps_move rfl) rfl ?_ | refine sk_pure_g rfl rfl rfl rfl (ps_fieldAddr rfl) rfl ?_ | refine sk_pure_g rfl rfl rfl rfl (ps_indexAddr rfl rfl rfl (by omega)) rfl ?_ | (refine sk_ndec rfl rfl rfl rfl (fun hg => ?_) (fun hg => ?_) <;> first | (exfalso; omega) | (exact absurd rfl hg) | skip))
    refine sk_load_rd_g rfl rfl rfl rfl (rd_rcell (i := k) (j := 1) 0 rfl hy (by decide) rfl) rfl ?_
    skip
    refine sk_load_rd_g rfl rfl rfl rfl (rd_rcell (i := k) (j := 1) 1 rfl hz (by decide) rfl) rfl ?_
    repeat' (first | refine sk_pure rfl rfl (ps_move rfl) rfl ?_ | refine sk_pure rfl rfl (ps_pick_f rfl rfl) rfl ?_ | refine sk_pure_g rfl rfl rfl rfl (ps_move rfl) rfl ?_ | refine sk_pure_g rfl rfl rfl rfl (ps_fieldAddr rfl) rfl ?_ | refine sk_pure_g rfl rfl rfl rfl (ps_bin rfl rfl inferInstance) rfl ?_ | refine sk_pure_g rfl rfl rfl rfl (ps_indexAddr rfl rfl rfl (by omega)) rfl ?_ | (refine sk_ndec rfl rfl rfl rfl (fun hg => ?_) (fun hg => ?_) <;> first | (exfalso; omega) | (exact absurd rfl hg) | skip))
    refine sk_load_rd_g rfl rfl rfl rfl (rd_rcell (i := k) (j := 2) 0 rfl hy (by decide) rfl) rfl ?_
    skip
    refine sk_load_rd_g rfl rfl rfl rfl (rd_rcell (i := k) (j := 2) 1 rfl hz (by decide) rfl) rfl ?_
    repeat' (first | refine sk_eff rfl rfl ?_ | refine sg_guard_yes rfl rfl ?_)
    dsimp only
    have hby := rawBytes_tri (W := W) yd yd ya za yc zc (RecsRep (some ⟨pb, 0, none⟩) oc p :: RecsRep (some ⟨qb, 0, none⟩) obc q :: R) (rd_rdata (i := k) 0 rfl hy) (rd_rdata (i := k) 1 rfl hz)
    rw [decide_eq_true rfl] at hby
    refine sg_call hby rfl rfl (fun _ _ => ?_)
    refine sk_back (fun w hO => hO) ?_
    repeat' (first | refine sk_nil ?_ | refine sk_pure rfl rfl (ps_pick_f rfl rfl) rfl ?_ | refine sk_pure_g rfl rfl rfl rfl (ps_not rfl) rfl ?_)
    repeat' (first | refine sg_wo ?_ | refine sg_ps (ps_move rfl) rfl ?_ | refine sg_ps (ps_assign rfl) rfl ?_ | refine sg_region ?_ | refine sg_nil ?_ | refine sg_then ?_ | refine sg_ps (ps_add64 rfl rfl (by omega)) rfl ?_ | refine sg_cond_f rfl ?_ | refine sg_skip ?_ | refine ex_block_normal ?_)
    exact ex_mid (k + 1) ⟨by omega, by omega⟩ (.cons rfl (.cons rfl (.cons rfl .nil))) (fun w hO => hO)
  · skip
    repeat' (first | refine sg_wo ?_ | refine sg_ps (ps_move rfl) rfl ?_ | refine sg_ps (ps_assign rfl) rfl ?_ | refine sg_seq ?_ | refine sg_region ?_ | refine sg_nil ?_ | refine sg_then ?_ | refine sg_ps (ps_bin rfl rfl inferInstance) rfl ?_ | refine sg_ps (ps_len rfl) rfl ?_ | refine sg_ret ?_ | refine sg_exit ?_ | refine ex_then_exit ?_ | refine ex_block_hit ?_ | (refine sg_cond_dec rfl (fun hg => ?_) (fun hg => ?_) <;> first | (exfalso; omega) | (exact absurd rfl hg) | skip))
    exact ex_ret1 rfl rfl () rfl trivial (fun w hO => hO)
end Go.Proofs.Ytdehkdmnddflhaa
