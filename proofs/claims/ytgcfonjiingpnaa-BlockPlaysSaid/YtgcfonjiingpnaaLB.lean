/- The block laws' 'awake'. -/
import Derived.Test.YtgcfonjiingpnaaBKP
namespace Go.Proofs.Ytgcfonjiingpnaa
set_option linter.unusedVariables false
set_option linter.unusedSimpArgs false
set_option linter.unusedSectionVars false
set_option linter.unnecessarySimpa false
open Go Go.Proofs
set_option maxRecDepth 20000
set_option maxHeartbeats 4000000
attribute [local irreducible] SG WC WO W1 WD WK PS Rd Tri Exit.then Exit.inBlock bodyPost calmQ Mid sadd
variable {W : World} {n : Nat} {F : Fr} {L : List HP} {G : Act → World → Prop}
def bdata : List UInt8 := [49, 50, 51, 52, 53, 54, 55, 56, 57, 32, 49, 50, 51, 52, 53, 54, 55, 56, 57, 32, 49, 50, 51, 52, 53, 54, 55, 56, 57, 32, 49, 50, 51, 52, 53, 54, 55, 56, 57, 32, 49, 50, 51, 52, 53, 54, 55, 56, 57, 32, 49]
theorem bdata_len : bdata.length = 51 := by decide
theorem fresh_write {k st id : Nat} {data : List UInt8} (hd : data.length ≤ 32768) (h0 : id ≠ 0) (hl : st + cnt data.length ≤ k) : (bwrite (DS.new k) (st : Int) id data).1 = 0 ∧ Wrote (DS.new k) (bwrite (DS.new k) (st : Int) id data).2 st id (cnt data.length) data 0 (cnt data.length) :=
  bwrite_ok hd h0 (by simp [DS.new]) rfl (by rw [new_seen]; exact hl)
theorem wrote_read {S T : DS} {st id : Nat} {data : List UInt8} (hd : data.length ≤ 32768) (h0 : id ≠ 0) (hid : id < 18446744073709551616) (hl : st < T.seen.length)
    (h : ∀ j, j < cnt data.length → T.seen[st + j]? = some (pad (sect id j (cnt data.length) (partAt data j)))) : bread T (st : Int) id = (data, 0) := by
  rw [bread_in h0 hl]; exact brd_all hd hid h
/-- The sector at st is no first one of the block id. -/
theorem read_none {T : DS} {st id : Nat} (h0 : id ≠ 0) (hl : st < T.seen.length) (h : ∀ s, T.seen[st]? = some s → (parts s).own ≠ id ∨ (parts s).place ≠ 0) : bread T (st : Int) id = ([], 2) := by
  rw [bread_in h0 hl]
  refine brd_first fun s hs => ?_
  rcases h s hs with h | h
  · rw [piece_own h]
  · rw [piece_place h]
def Has (T : DS) (st id : Nat) (data : List UInt8) : Prop := ∀ j, j < cnt data.length → T.seen[st + j]? = some (pad (sect id j (cnt data.length) (partAt data j)))
theorem Wrote.has {S T : DS} {st id : Nat} {data : List UInt8} (h : Wrote S T st id (cnt data.length) data 0 (cnt data.length)) : Has T st id data := fun j hj => h.get j (Nat.zero_le _) (by omega)
theorem Wrote.keep {S T : DS} {st id n k : Nat} {data : List UInt8} {st2 id2 : Nat} {data2 : List UInt8} (h : Wrote S T st id n data 0 k) (h2 : Has S st2 id2 data2) (hd : st2 + cnt data2.length ≤ st ∨ st + k ≤ st2) : Has T st2 id2 data2 := fun j hj => by
  rw [h.other _ (by omega)]; exact h2 j hj
theorem Has.read {T : DS} {st id : Nat} {data : List UInt8} (h : Has T st id data) (hd : data.length ≤ 32768) (h0 : id ≠ 0) (hid : id < 18446744073709551616) : bread T (st : Int) id = (data, 0) := by
  have hc := cnt_spec hd
  have hl := (List.getElem?_eq_some_iff.1 (h 0 (by omega))).1
  rw [bread_in h0 (by omega)]
  exact brd_all hd hid h
theorem Has.other {T : DS} {st id id2 : Nat} {data : List UInt8} (h : Has T st id data) (hd : data.length ≤ 32768) (h0 : id2 ≠ 0) (hid : id < 18446744073709551616) (hne : id ≠ id2) : bread T (st : Int) id2 = ([], 2) := by
  have hc := cnt_spec hd
  have hl := (List.getElem?_eq_some_iff.1 (h 0 (by omega))).1
  refine read_none h0 (by omega) (fun s hs => .inl ?_)
  rw [show st = st + 0 from rfl, h 0 (by omega)] at hs
  simp only [Option.some.injEq] at hs
  rw [← hs, parts_sect id 0 _ _ hid (by omega) (by omega) (by rw [partAt_length]; omega)]
  exact hne
/-- A disk that takes writes. -/
structure Fine (T : DS) (n k : Nat) : Prop where
  fuse : T.fuse < 0
  down : T.down = false
  len : T.seen.length = n
  writes : T.writes ≤ k
  wait : T.wait.length ≤ k
theorem Wrote.fine {S T : DS} {st id n k : Nat} {data : List UInt8} {m q : Nat} (h : Wrote S T st id n data 0 k) (hf : Fine S m q) : Fine T m (q + k) :=
  ⟨by rw [h.fuse]; exact hf.fuse, by rw [h.down]; exact hf.down, by rw [h.len]; exact hf.len, by rw [h.writes]; have := hf.writes; omega, by
    obtain ⟨w, h1, h2, _⟩ := h.wait
    rw [h1, List.length_append, h2]; have := hf.wait; omega⟩
theorem Fine.new (n : Nat) : Fine (DS.new n) n 0 := ⟨by simp [DS.new], rfl, new_seen n, by simp [DS.new], by simp [DS.new]⟩
theorem Fine.put {S : DS} {n k st id : Nat} {data : List UInt8} (hf : Fine S n k) (hd : data.length ≤ 32768) (h0 : id ≠ 0) (hl : st + cnt data.length ≤ n) :
    (bwrite S (st : Int) id data).1 = 0 ∧ Wrote S (bwrite S (st : Int) id data).2 st id (cnt data.length) data 0 (cnt data.length) ∧ Fine (bwrite S (st : Int) id data).2 n (k + cnt data.length) := by
  obtain ⟨h1, h2⟩ := bwrite_ok (st := st) hd h0 hf.fuse hf.down (by rw [hf.len]; exact hl)
  exact ⟨h1, h2, h2.fine hf⟩
theorem awake_tri (R : List HP) : Tri Try.prog W 8 [] R (X := Unit) (fun _ => .bool true) (fun _ => True) (fun _ => R) := by
  refine tri_enter0 Try.func8 rfl Try.ntmps8 ?_
  repeat' (first | refine sg_wo ?_ | refine sg_ps (ps_assign rfl) rfl ?_ | refine sg_seq ?_ | refine sg_region ?_ | refine sg_nil ?_ | refine sg_then ?_)
  refine sg_call (new_tri 8 _ (by omega) (by omega)) rfl rfl (fun d _ => ?_)
  repeat' (first | refine sg_wo ?_ | refine sg_ps (ps_move rfl) rfl ?_ | refine sg_ps (ps_assign rfl) rfl ?_ | refine sg_seq ?_ | refine sg_region ?_ | refine sg_nil ?_ | refine sg_then ?_ | refine sg_ps (ps_extract rfl rfl) rfl ?_)
  refine sg_buildSlice (cells := bdata.map bv) rfl (by decide) rfl rfl (fun vb => ?_)
  repeat' (first | refine sg_wo ?_)
  refine sg_conv_same [] rfl rfl ?_
  refine sg_front1 ?_
  have hrd : ∀ T, Rd W (DiskRep d T :: blk vb (bdata.map bv) :: R) (some ⟨vb, 0, none⟩) (bdata.map bv) := fun T => rd_blk 1 rfl (fun j u h => by rw [Nat.zero_add]; exact h)
  have hc : cnt bdata.length = 2 := by decide
  obtain ⟨hw1, hw2⟩ := fresh_write (k := 8) (st := 2) (id := 7) (data := bdata) (by decide) (by decide) (by rw [hc]; decide)
  rw [hc] at hw2
  have hlen : (bwrite (DS.new 8) ((2 : Nat) : Int) 7 bdata).2.seen.length = 8 := by rw [hw2.len, new_seen]
  have hr1 : bread (bwrite (DS.new 8) ((2 : Nat) : Int) 7 bdata).2 ((2 : Nat) : Int) 7 = (bdata, 0) := by
    refine wrote_read (S := DS.new 8) (by decide) (by decide) (by decide) (by rw [hlen]; decide) (fun j hj => ?_)
    rw [hc] at hj ⊢
    exact hw2.get j (Nat.zero_le _) (by omega)
  have hr2 : bread (bwrite (DS.new 8) ((2 : Nat) : Int) 7 bdata).2 ((3 : Nat) : Int) 7 = ([], 2) := by
    refine read_none (by decide) (by rw [hlen]; decide) (fun s hs => .inr ?_)
    rw [hw2.get 1 (Nat.zero_le _) (by decide)] at hs
    simp only [Option.some.injEq] at hs
    rw [← hs, parts_sect 7 1 2 _ (by decide) (by decide) (by decide) (by rw [partAt_length]; omega)]
    decide
  repeat' (first | refine sg_wo ?_ | refine sg_ps (ps_move rfl) rfl ?_ | refine sg_ps (ps_assign rfl) rfl ?_ | refine sg_seq ?_ | refine sg_region ?_ | refine sg_nil ?_ | refine sg_then ?_)
  refine sg_call ((bwrite_tri d (DS.new 8) ((2 : Nat) : Int) 7 bdata (some ⟨vb, 0, none⟩) 51 (blk vb (bdata.map bv) :: R) (by decide) (by rw [new_seen]; decide) (by decide) (by decide) (rd_blk 0 rfl (fun j u h => by rw [Nat.zero_add]; exact h)) (by simp [DS.new]) (by simp [DS.new]))) rfl rfl (fun _ _ => ?_)
  rw [hw1]
  generalize (bwrite (DS.new 8) ((2 : Nat) : Int) 7 bdata).2 = T at *
  repeat' (first | refine sg_wo ?_ | refine sg_ps (ps_move rfl) rfl ?_ | refine sg_ps (ps_assign rfl) rfl ?_ | refine sg_seq ?_ | refine sg_region ?_ | refine sg_nil ?_ | refine sg_then ?_)
  refine sg_call (bread_tri d T ((2 : Nat) : Int) 7 _ (by decide) (by omega)) rfl rfl (fun x _ => ?_)
  rw [hr1]
  repeat' (first | refine sg_wo ?_ | refine sg_ps (ps_move rfl) rfl ?_ | refine sg_ps (ps_assign rfl) rfl ?_ | refine sg_seq ?_ | refine sg_region ?_ | refine sg_nil ?_ | refine sg_then ?_ | refine sg_ps (ps_extract rfl rfl) rfl ?_)
  refine sg_front1 ?_
  refine sg_call (bread_tri d T ((3 : Nat) : Int) 7 _ (by decide) (by omega)) rfl rfl (fun y _ => ?_)
  rw [hr2]
  repeat' (first | refine sg_wo ?_ | refine sg_ps (ps_move rfl) rfl ?_ | refine sg_ps (ps_assign rfl) rfl ?_ | refine sg_seq ?_ | refine sg_region ?_ | refine sg_nil ?_ | refine sg_then ?_ | refine sg_ps (ps_bin rfl rfl inferInstance) rfl ?_ | refine sg_guard_yes rfl rfl ?_ | refine sg_ps (ps_pick_t rfl rfl) rfl ?_ | refine sg_ps (ps_extract rfl rfl) rfl ?_)
  refine sg_str_of_bytes (bs := bdata) rfl rfl rfl (rd_sown 2 rfl (fun _ _ h => h)) ?_
  repeat' (first | refine sg_wo ?_ | refine sg_ps (ps_move rfl) rfl ?_ | refine sg_guard_yes rfl rfl ?_)
  refine sg_str_of_bytes (bs := bdata) rfl rfl rfl (rd_blk 3 rfl (fun j u h => by rw [Nat.zero_add]; exact h)) ?_
  repeat' (first | refine sg_wo ?_ | refine sg_ps (ps_move rfl) rfl ?_ | refine sg_ps (ps_bin rfl rfl inferInstance) rfl ?_ | refine sg_guard_yes rfl rfl ?_ | refine sg_ps (ps_pick_t rfl rfl) rfl ?_ | (refine sg_guard_dec rfl rfl (fun hg => ?_) (fun hg => ?_) <;> first | (exfalso; omega) | (exact absurd rfl hg) | skip))
  refine sg_call (count_tri 51 (by decide) _) rfl rfl (fun _ _ => ?_)
  repeat' (first | refine sg_wo ?_ | refine sg_ps (ps_assign rfl) rfl ?_ | refine sg_nil ?_ | refine sg_then ?_ | refine sg_ps (ps_bin rfl rfl inferInstance) rfl ?_ | refine sg_guard_yes rfl rfl ?_ | refine sg_ps (ps_pick_t rfl rfl) rfl ?_ | refine sg_ret ?_)
  exact ex_ret1 rfl rfl () rfl trivial (fun w hO => hO.tail.tail.tail.tail)
end Go.Proofs.Ytgcfonjiingpnaa
