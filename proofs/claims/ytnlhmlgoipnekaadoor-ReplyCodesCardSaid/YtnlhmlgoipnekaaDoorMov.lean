/- The three movers: cleaner, writer, reader: each method by its contract. -/
import Derived.Test.YtnlhmlgoipnekaaDoorCmd
import Derived.Test.YtnlhmlgoipnekaaDoorOut
import Derived.Test.YtnlhmlgoipnekaaDoorIn3
import Derived.Deep.RegionWith
namespace Go.Proofs.YtnlhmlgoipnekaaDoor
open Go.RowKit

/-! ### cleaner -/
theorem cleanNum (cb o : Nat) (c : Cmd) (w : World) (h : Blk w cb 27 c.cells) (h1 : 1 ≤ o) (h2 : o ≤ 9) :
    Calls Tryd.prog 162 #[.agg #[], .pointer (some ⟨cb, o, none⟩)] w fun e w' => e = .returned (.tuple #[]) ∧ Blk w' cb 27 (c.put o 0).cells ∧ Keeps [cb] w w' := by
  have hc : w.cell? ⟨cb, o, none⟩ = some (.int .i64 (c.get o)) := by rw [h.cell]; exact c.cells_get o h1 h2
  have hf := h.frz o
  have hl := h.lt
  have H2 : Hid (Blk (w.setCell ⟨cb, o, none⟩ (.int .i64 0)) cb 27 (c.put o 0).cells) := by
    apply Lib.hid; rw [← c.cells_put o 0 h1 h2]; exact h.set o _
  go_enter Tryd.func162, Tryd.ntmps162
  go_wp2_with fail
  go_end0
  exact ⟨rfl, H2.out.alloc _, ((Keeps.refl [cb] w).setCell (p := ⟨cb, o, none⟩) (by simp) _).alloc _⟩

theorem cleanVec (cb : Nat) (c : Cmd) (w : World) (h : Blk w cb 27 c.cells) :
    Calls Tryd.prog 163 #[.agg #[], .pointer (some ⟨cb, 10, none⟩)] w fun e w' => e = .returned (.tuple #[]) ∧ Blk w' cb 27 (c.putV (0, 0, 0, 0)).cells ∧ Keeps [cb] w w' := by
  have hc := h.cell
  unfold Cmd.cells at hc
  have hf := h.frz
  have hl := h.lt
  go_enter Tryd.func163, Tryd.ntmps163
  go_wp2_with fail
  go_end0
  exact ⟨rfl, ((((h.set 10 (.int .i64 0)).set 11 (.int .i64 0)).set 12 (.int .i64 0)).set 13 (.int .i64 0)).alloc _, (((((Keeps.refl [cb] w).setCell (p := ⟨cb, 10, none⟩) (by simp) _).setCell (p := ⟨cb, 11, none⟩) (by simp) _).setCell (p := ⟨cb, 12, none⟩) (by simp) _).setCell (p := ⟨cb, 13, none⟩) (by simp) _).alloc _⟩

theorem cleanFlag (cb : Nat) (c : Cmd) (w : World) (h : Blk w cb 27 c.cells) :
    Calls Tryd.prog 161 #[.agg #[], .pointer (some ⟨cb, 14, none⟩)] w fun e w' => e = .returned (.tuple #[]) ∧ Blk w' cb 27 (c.putF false).cells ∧ Keeps [cb] w w' := by
  have hc := h.cell
  unfold Cmd.cells at hc
  have hf := h.frz
  have hl := h.lt
  go_enter Tryd.func161, Tryd.ntmps161
  go_wp2_with fail
  go_end0
  exact ⟨rfl, (h.set 14 (.bool false)).alloc _, ((Keeps.refl [cb] w).setCell (p := ⟨cb, 14, none⟩) (by simp) _).alloc _⟩

/-! ### writer -/
set_option maxRecDepth 100000 in
theorem writeNum (cb ob g o : Nat) (c : Cmd) (bs : List UInt8) (w : World) (h : Blk w cb 27 c.cells) (hb : Bld 125 ob g bs w) (h1 : 1 ≤ o) (h2 : o ≤ 9) (hn : I64 (c.get o)) (hR : Room (bs.length + 40)) :
    Calls Tryd.prog 158 #[.agg #[.pointer (some ⟨ob, 0, none⟩)], .pointer (some ⟨cb, o, none⟩)] w fun e w' => e = .returned (.tuple #[]) ∧ Wrote 125 ob g (bs ++ enc (zig (c.get o))) w w' := by
  have hc : w.cell? ⟨cb, o, none⟩ = some (.int .i64 (c.get o)) := by rw [h.cell]; exact c.cells_get o h1 h2
  have hl := h.lt
  have hR2 : Room (bs.length + 10) := by unfold Room at hR ⊢; omega
  go_enter Tryd.func158, Tryd.ntmps158
  go_wp2_with fail
  obtain ⟨w1, hw1⟩ : ∃ w1, w1 = w.alloc (.cells #[.pointer (some ⟨ob, 0, none⟩)] 171) := ⟨_, rfl⟩
  rw [← hw1]
  have k1 : Keeps [] w w1 := by rw [hw1]; exact (Keeps.refl _ _).alloc _
  have d1 : w1.cell? ⟨w.heap.size, 0, none⟩ = some (.pointer (some ⟨ob, 0, none⟩)) := by rw [hw1, (Blk.new _ _ _).cell]; rfl
  have d2 := k1.cellAt hc (by simp)
  have sc := still_cell w1
  clear hw1
  go_still_tail 5, (by kernel_rfl)
  change wpList _ _ _ _ _ w1.drew
  go_wp2_with fail
  refine (outInt_any ob g bs _ _ ((hb.keep k1 (by simp) (by simp)).drew) hn hR2).mono ?_
  rintro e w2 ⟨rfl, hW⟩
  go_wp2_with fail
  go_end0
  exact ⟨rfl, Wrote.trans ((k1.mono (by simp)).drew) (.inl rfl) hW⟩

set_option maxRecDepth 100000 in
theorem writeVec (cb ob g : Nat) (c : Cmd) (bs : List UInt8) (w : World) (h : Blk w cb 27 c.cells) (hb : Bld 125 ob g bs w) (hn : c.Ok) (hR : Room (bs.length + 40)) :
    Calls Tryd.prog 159 #[.agg #[.pointer (some ⟨ob, 0, none⟩)], .pointer (some ⟨cb, 10, none⟩)] w fun e w' => e = .returned (.tuple #[]) ∧ Wrote 125 ob g (bs ++ enc (zig c.v0) ++ enc (zig c.v1) ++ enc (zig c.v2) ++ enc (zig c.v3)) w w' := by
  obtain ⟨_, _, n0, n1, n2, n3⟩ := hn
  have hl := h.lt
  go_enter Tryd.func159, Tryd.ntmps159
  go_wp2_with fail
  obtain ⟨w1, hw1⟩ : ∃ w1, w1 = w.alloc (.cells #[.pointer (some ⟨ob, 0, none⟩)] 171) := ⟨_, rfl⟩
  rw [← hw1]
  have k1 : Keeps [] w w1 := by rw [hw1]; exact (Keeps.refl _ _).alloc _
  have d1 : w1.cell? ⟨w.heap.size, 0, none⟩ = some (.pointer (some ⟨ob, 0, none⟩)) := by rw [hw1, (Blk.new _ _ _).cell]; rfl
  have d2 := (h.keep k1 (by simp)).cell
  unfold Cmd.cells at d2
  have sc := still_cell w1
  clear hw1
  go_still_tail 5, (by kernel_rfl)
  change wpList _ _ _ _ _ w1.drew
  go_wp2_with fail
  refine (outVec_any ob g bs _ _ _ _ _ ((hb.keep k1 (by simp) (by simp)).drew) n0 n1 n2 n3 hR).mono ?_
  rintro e w2 ⟨rfl, hW⟩
  go_wp2_with fail
  go_end0
  exact ⟨rfl, Wrote.trans ((k1.mono (by simp)).drew) (.inl rfl) hW⟩

set_option maxRecDepth 100000 in
theorem writeFlag (cb ob g : Nat) (c : Cmd) (bs : List UInt8) (w : World) (h : Blk w cb 27 c.cells) (hb : Bld 125 ob g bs w) (hR : Room (bs.length + 40)) :
    Calls Tryd.prog 157 #[.agg #[.pointer (some ⟨ob, 0, none⟩)], .pointer (some ⟨cb, 14, none⟩)] w fun e w' => e = .returned (.tuple #[]) ∧ Wrote 125 ob g (bs ++ enc (zig (if c.flag then 1 else 0))) w w' := by
  have hl := h.lt
  have hR2 : Room (bs.length + 10) := by unfold Room at hR ⊢; omega
  obtain ⟨r, hr⟩ : ∃ r, r = bs ++ enc (zig (if c.flag then 1 else 0)) := ⟨_, rfl⟩
  rw [← hr]
  have HX := Lib.hid hr
  clear hr
  go_enter Tryd.func157, Tryd.ntmps157
  go_wp2_with fail
  obtain ⟨w1, hw1⟩ : ∃ w1, w1 = w.alloc (.cells #[.pointer (some ⟨ob, 0, none⟩)] 171) := ⟨_, rfl⟩
  rw [← hw1]
  have k1 : Keeps [] w w1 := by rw [hw1]; exact (Keeps.refl _ _).alloc _
  have d1 : w1.cell? ⟨w.heap.size, 0, none⟩ = some (.pointer (some ⟨ob, 0, none⟩)) := by rw [hw1, (Blk.new _ _ _).cell]; rfl
  have d2 := (h.keep k1 (by simp)).cell
  unfold Cmd.cells at d2
  have sc := still_cell w1
  clear hw1
  go_still_tail 5, (by kernel_rfl)
  change wpList _ _ _ _ _ w1.drew
  go_wp2_with fail
  refine (outBool_any ob g bs _ _ ((hb.keep k1 (by simp) (by simp)).drew) hR2).mono ?_
  rintro e w2 ⟨rfl, hW⟩
  rw [← HX.out] at hW
  go_wp2_with fail
  go_end0
  exact ⟨rfl, Wrote.trans ((k1.mono (by simp)).drew) (.inl rfl) hW⟩

/-! ### reader -/
set_option maxRecDepth 100000 in
theorem readNum (cb ib o : Nat) (c : Cmd) (S : ByteArray) (st : RS) (ev : Addr) (w : World) (h : Blk w cb 27 c.cells) (hI : InAt ib S st ev w) (hS : Room S.size) (hE : w.cell? ⟨1, 0, none⟩ = some (errv ev)) (hg : 1 < ib) (h1 : 1 ≤ o) (h2 : o ≤ 9) :
    Calls Tryd.prog 148 #[.agg #[.pointer (some ⟨ib, 0, none⟩)], .pointer (some ⟨cb, o, none⟩)] w fun e w' => e = .returned (.tuple #[]) ∧ Blk w' cb 27 (c.put o (rdInt S st).1).cells ∧ InAt ib S (rdInt S st).2 ev w' ∧ Keeps [cb, ib] w w' := by
  have hl := h.lt
  have hne : cb ≠ ib := by
    obtain ⟨_, x, hb, _⟩ := hI
    exact h.ne hb (by decide)
  go_enter Tryd.func148, Tryd.ntmps148
  go_wp2_with fail
  refine (int_any ib S st ev _ (hI.alloc _) hS (((Keeps.refl [] w).alloc _).cellAt hE (by simp)) hg).mono ?_
  rintro e w2 ⟨rfl, hI2, hk⟩
  have hb2 := (h.alloc (.cells #[.pointer (some ⟨ib, 0, none⟩)] 107)).keep hk (nmem1 hne)
  have c2 : w2.cell? ⟨cb, o, none⟩ = some (.int .i64 (c.get o)) := by rw [hb2.cell]; exact c.cells_get o h1 h2
  have f2 := hb2.frz o
  have H2 : Hid (Blk (w2.setCell ⟨cb, o, none⟩ (.int .i64 (rdInt S st).1)) cb 27 (c.put o (rdInt S st).1).cells) := by
    apply Lib.hid; rw [← c.cells_put o _ h1 h2]; exact hb2.set o _
  have H3 := Lib.hid (hI2.set o (.int .i64 (rdInt S st).1) hb2 (by decide) (Ne.symm hne))
  go_wp2_with fail
  go_end0
  refine ⟨rfl, H2.out, H3.out, ?_⟩
  have hk0 := ((Keeps.refl [cb, ib] w).alloc (.cells #[.pointer (some ⟨ib, 0, none⟩)] 107)).trans (hk.mono (by simp))
  exact hk0.setCell (p := ⟨cb, o, none⟩) (by simp) _

set_option maxRecDepth 100000 in
theorem readFlag (cb ib : Nat) (c : Cmd) (S : ByteArray) (st : RS) (ev : Addr) (w : World) (h : Blk w cb 27 c.cells) (hI : InAt ib S st ev w) (hS : Room S.size) (hE : w.cell? ⟨1, 0, none⟩ = some (errv ev)) (hg : 1 < ib) :
    Calls Tryd.prog 147 #[.agg #[.pointer (some ⟨ib, 0, none⟩)], .pointer (some ⟨cb, 14, none⟩)] w fun e w' => e = .returned (.tuple #[]) ∧ Blk w' cb 27 (c.putF (rdBool S st).1).cells ∧ InAt ib S (rdBool S st).2 ev w' ∧ Keeps [cb, ib] w w' := by
  have hl := h.lt
  have hne : cb ≠ ib := by
    obtain ⟨_, x, hb, _⟩ := hI
    exact h.ne hb (by decide)
  go_enter Tryd.func147, Tryd.ntmps147
  go_wp2_with fail
  refine (bool_any ib S st ev _ (hI.alloc _) hS (((Keeps.refl [] w).alloc _).cellAt hE (by simp)) hg).mono ?_
  rintro e w2 ⟨rfl, hI2, hk⟩
  have hb2 := (h.alloc (.cells #[.pointer (some ⟨ib, 0, none⟩)] 107)).keep hk (nmem1 hne)
  have c2 : w2.cell? ⟨cb, 14, none⟩ = some (.bool c.flag) := by rw [hb2.cell]; rfl
  have f2 := hb2.frz 14
  have H2 : Hid (Blk (w2.setCell ⟨cb, 14, none⟩ (.bool (rdBool S st).1)) cb 27 (c.putF (rdBool S st).1).cells) := Lib.hid (hb2.set 14 _)
  have H3 := Lib.hid (hI2.set 14 (.bool (rdBool S st).1) hb2 (by decide) (Ne.symm hne))
  go_wp2_with fail
  go_end0
  refine ⟨rfl, H2.out, H3.out, ?_⟩
  have hk0 := ((Keeps.refl [cb, ib] w).alloc (.cells #[.pointer (some ⟨ib, 0, none⟩)] 107)).trans (hk.mono (by simp))
  exact hk0.setCell (p := ⟨cb, 14, none⟩) (by simp) _

set_option maxRecDepth 100000 in
theorem readVec (cb ib : Nat) (c : Cmd) (S : ByteArray) (st : RS) (ev : Addr) (w : World) (h : Blk w cb 27 c.cells) (hI : InAt ib S st ev w) (hS : Room S.size) (hE : w.cell? ⟨1, 0, none⟩ = some (errv ev)) (hg : 1 < ib) :
    Calls Tryd.prog 149 #[.agg #[.pointer (some ⟨ib, 0, none⟩)], .pointer (some ⟨cb, 10, none⟩)] w fun e w' => e = .returned (.tuple #[]) ∧ Blk w' cb 27 (c.putV (rdVec S st).1).cells ∧ InAt ib S (rdVec S st).2 ev w' ∧ Keeps [cb, ib] w w' := by
  have hl := h.lt
  have hne : cb ≠ ib := by
    obtain ⟨_, x, hb, _⟩ := hI
    exact h.ne hb (by decide)
  obtain ⟨v, hv⟩ : ∃ v, v = (rdVec S st).1 := ⟨_, rfl⟩
  rw [← hv]
  have HV := Lib.hid hv
  clear hv
  go_enter Tryd.func149, Tryd.ntmps149
  go_wp2_with fail
  refine (vec_any ib S st ev _ (hI.alloc _) hS (((Keeps.refl [] w).alloc _).cellAt hE (by simp)) hg).mono ?_
  rintro e w2 ⟨rfl, hI2, hk⟩
  have hb2 := (h.alloc (.cells #[.pointer (some ⟨ib, 0, none⟩)] 107)).keep hk (nmem1 hne)
  rw [← HV.out]
  clear HV
  obtain ⟨a0, a1, a2, a3⟩ := v
  have c2 := hb2.cell
  unfold Cmd.cells at c2
  have f2 := hb2.frz
  have hne' : ib ≠ cb := Ne.symm hne
  have H2 : Hid (Blk ((((w2.setCell ⟨cb, 10, none⟩ (.int .i64 a0)).setCell ⟨cb, 11, none⟩ (.int .i64 a1)).setCell ⟨cb, 12, none⟩ (.int .i64 a2)).setCell ⟨cb, 13, none⟩ (.int .i64 a3)) cb 27 (c.putV (a0, a1, a2, a3)).cells) :=
    Lib.hid ((((hb2.set 10 (.int .i64 a0)).set 11 (.int .i64 a1)).set 12 (.int .i64 a2)).set 13 (.int .i64 a3))
  have H3 := Lib.hid ((((hI2.set 10 (.int .i64 a0) hb2 (by decide) hne').set 11 (.int .i64 a1) (hb2.set 10 _) (by decide) hne').set 12 (.int .i64 a2) ((hb2.set 10 _).set 11 _) (by decide) hne').set 13 (.int .i64 a3) (((hb2.set 10 _).set 11 _).set 12 _) (by decide) hne')
  unfold vecV
  go_wp2_with fail
  go_end0
  refine ⟨rfl, H2.out, H3.out, ?_⟩
  have hk0 := ((Keeps.refl [cb, ib] w).alloc (.cells #[.pointer (some ⟨ib, 0, none⟩)] 107)).trans (hk.mono (by simp))
  exact (((hk0.setCell (p := ⟨cb, 10, none⟩) (by simp) _).setCell (p := ⟨cb, 11, none⟩) (by simp) _).setCell (p := ⟨cb, 12, none⟩) (by simp) _).setCell (p := ⟨cb, 13, none⟩) (by simp) _

end Go.Proofs.YtnlhmlgoipnekaaDoor
