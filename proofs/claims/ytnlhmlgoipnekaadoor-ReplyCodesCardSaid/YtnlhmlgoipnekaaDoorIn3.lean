/- wire.In.Vec and End, walked. -/
import Derived.Test.YtnlhmlgoipnekaaDoorIn2
namespace Go.Proofs.YtnlhmlgoipnekaaDoor
open Go.RowKit

set_option maxRecDepth 100000 in
set_option maxHeartbeats 2000000 in
theorem vec_any (ib : Nat) (S : ByteArray) (st : RS) (ev : Addr) (w : World) (h : InAt ib S st ev w) (hS : Room S.size) (hE : w.cell? ⟨1, 0, none⟩ = some (errv ev)) (hg : 1 < ib) :
    Calls Tryd.prog 150 #[.pointer (some ⟨ib, 0, none⟩)] w fun e w' => e = .returned (vecV (rdVec S st).1) ∧ InAt ib S (rdVec S st).2 ev w' ∧ Keeps [ib] w w' := by
  have HI := Lib.hid h
  have hl := h.lt
  clear h
  obtain ⟨a, ha⟩ : ∃ a, a = rdInt S st := ⟨_, rfl⟩
  obtain ⟨b, hb⟩ : ∃ b, b = rdInt S a.2 := ⟨_, rfl⟩
  obtain ⟨c, hc⟩ : ∃ c, c = rdInt S b.2 := ⟨_, rfl⟩
  obtain ⟨d, hd⟩ : ∃ d, d = rdInt S c.2 := ⟨_, rfl⟩
  have HV : Hid (rdVec S st = (match d.2.bad with | none => (a.1, b.1, c.1, d.1) | some _ => (0, 0, 0, 0), d.2)) := by
    apply Lib.hid
    subst hd hc hb ha
    rfl
  have A := Lib.hid ha
  have B := Lib.hid hb
  have C := Lib.hid hc
  have D := Lib.hid hd
  clear ha hb hc hd
  go_enter Tryd.func150, Tryd.ntmps150
  go_wp2_with fail
  obtain ⟨w0, hw0⟩ : ∃ w0, w0 = ((w.alloc (.cells #[.int .i64 0, .int .i64 0, .int .i64 0, .int .i64 0] 25)).alloc (.cells #[.int .i64 0, .int .i64 0, .int .i64 0, .int .i64 0] 25)) := ⟨_, rfl⟩
  rw [← hw0]
  have hk0 : Keeps [] w w0 := by rw [hw0]; exact ((Keeps.refl _ _).alloc _).alloc _
  have hB1 : Blk w0 w.heap.size 25 #[.int .i64 0, .int .i64 0, .int .i64 0, .int .i64 0] := by rw [hw0]; exact (Blk.new _ _ _).alloc _
  have hB2 : Blk w0 (w.heap.size + 1) 25 #[.int .i64 0, .int .i64 0, .int .i64 0, .int .i64 0] := by rw [hw0]; exact Blk.newAt _ _ (by simp)
  have hI0 : InAt ib S st ev w0 := HI.out.keep hk0 (by simp) (by simp)
  have hE0 : w0.cell? ⟨1, 0, none⟩ = some (errv ev) := by rw [hk0.cell (by omega) (by simp)]; exact hE
  clear hw0 HI
  refine wp_loop_rounds 5 ?_
  rw [rounds_succ]
  go_wp2_with fail
  have hne : ib ≠ w.heap.size + 1 := by omega
  have hne0 : ib ≠ w.heap.size := by omega
  have hbig : w.heap.size + 1 ≠ 1 := by omega
  refine (int_any ib S st ev _ hI0 hS hE0 hg).mono ?_
  rintro e w1 ⟨rfl, hI1, hk1⟩
  rw [← A.out] at hI1
  rw [← A.out]
  have hP1 := hB2.keep hk1 (by simp; omega)
  have hE1 : w1.cell? ⟨1, 0, none⟩ = some (errv ev) := hk1.cellAt hE0 (nmem1 (by omega))
  have c1 := hP1.cell
  have f1 := hP1.frz
  go_wp2_with fail
  rw [rounds_succ]
  go_wp2_with fail
  have hs1 := (Keeps.refl [w.heap.size + 1] w1).setCell (p := ⟨w.heap.size + 1, 0, none⟩) (by simp) (.int .i64 a.1)
  have hJ1 : InAt ib S a.2 ev (w1.setCell ⟨w.heap.size + 1, 0, none⟩ (.int .i64 a.1)) := hI1.keep hs1 (nmem1 hne) (fun fb cs hfb => nmem1 (hfb.ne hP1 (by decide)))
  have hF1 : (w1.setCell ⟨w.heap.size + 1, 0, none⟩ (.int .i64 a.1)).cell? ⟨1, 0, none⟩ = some (errv ev) := hs1.cellAt hE1 (nmem1 (Ne.symm hbig))
  clear c1 f1
  refine (int_any ib S a.2 ev _ hJ1 hS hF1 hg).mono ?_
  rintro e w2 ⟨rfl, hI2, hk2⟩
  rw [← B.out] at hI2
  rw [← B.out]
  have hP2 := (hP1.set 0 (.int .i64 a.1)).keep hk2 (by simp; omega)
  have hE2 : w2.cell? ⟨1, 0, none⟩ = some (errv ev) := hk2.cellAt hF1 (nmem1 (by omega))
  have c2 := hP2.cell
  have f2 := hP2.frz
  go_wp2_with fail
  rw [rounds_succ]
  go_wp2_with fail
  have hs2 := (Keeps.refl [w.heap.size + 1] w2).setCell (p := ⟨w.heap.size + 1, 1, none⟩) (by simp) (.int .i64 b.1)
  have hJ2 : InAt ib S b.2 ev (w2.setCell ⟨w.heap.size + 1, 1, none⟩ (.int .i64 b.1)) := hI2.keep hs2 (nmem1 hne) (fun fb cs hfb => nmem1 (hfb.ne hP2 (by decide)))
  have hF2 : (w2.setCell ⟨w.heap.size + 1, 1, none⟩ (.int .i64 b.1)).cell? ⟨1, 0, none⟩ = some (errv ev) := hs2.cellAt hE2 (nmem1 (Ne.symm hbig))
  clear c2 f2
  refine (int_any ib S b.2 ev _ hJ2 hS hF2 hg).mono ?_
  rintro e w3 ⟨rfl, hI3, hk3⟩
  rw [← C.out] at hI3
  rw [← C.out]
  have hP3 := (hP2.set 1 (.int .i64 b.1)).keep hk3 (by simp; omega)
  have hE3 : w3.cell? ⟨1, 0, none⟩ = some (errv ev) := hk3.cellAt hF2 (nmem1 (by omega))
  have c3 := hP3.cell
  have f3 := hP3.frz
  go_wp2_with fail
  rw [rounds_succ]
  go_wp2_with fail
  have hs3 := (Keeps.refl [w.heap.size + 1] w3).setCell (p := ⟨w.heap.size + 1, 2, none⟩) (by simp) (.int .i64 c.1)
  have hJ3 : InAt ib S c.2 ev (w3.setCell ⟨w.heap.size + 1, 2, none⟩ (.int .i64 c.1)) := hI3.keep hs3 (nmem1 hne) (fun fb cs hfb => nmem1 (hfb.ne hP3 (by decide)))
  have hF3 : (w3.setCell ⟨w.heap.size + 1, 2, none⟩ (.int .i64 c.1)).cell? ⟨1, 0, none⟩ = some (errv ev) := hs3.cellAt hE3 (nmem1 (Ne.symm hbig))
  clear c3 f3
  refine (int_any ib S c.2 ev _ hJ3 hS hF3 hg).mono ?_
  rintro e w4 ⟨rfl, hI4, hk4⟩
  rw [← D.out] at hI4
  rw [← D.out]
  have hP4 := (hP3.set 2 (.int .i64 c.1)).keep hk4 (by simp; omega)
  have hE4 : w4.cell? ⟨1, 0, none⟩ = some (errv ev) := hk4.cellAt hF3 (nmem1 (by omega))
  have c4 := hP4.cell
  have f4 := hP4.frz
  go_wp2_with fail
  rw [rounds_succ]
  go_wp2_with fail
  have hs4 := (Keeps.refl [w.heap.size + 1] w4).setCell (p := ⟨w.heap.size + 1, 3, none⟩) (by simp) (.int .i64 d.1)
  have hJ4 : InAt ib S d.2 ev (w4.setCell ⟨w.heap.size + 1, 3, none⟩ (.int .i64 d.1)) := hI4.keep hs4 (nmem1 hne) (fun fb cs hfb => nmem1 (hfb.ne hP4 (by decide)))
  have hF4 : (w4.setCell ⟨w.heap.size + 1, 3, none⟩ (.int .i64 d.1)).cell? ⟨1, 0, none⟩ = some (errv ev) := hs4.cellAt hE4 (nmem1 (Ne.symm hbig))
  clear c4 f4
  refine (err_any ib S d.2 ev _ hJ4).mono ?_
  rintro e w5 ⟨⟨x, rfl, hx⟩, rfl⟩
  have hkk : Keeps [ib] w (w4.setCell ⟨w.heap.size + 1, 3, none⟩ (.int .i64 d.1)) := by
    have hz0 := hk0.size
    have hz1 := hk1.size
    have q1 : Keeps [ib] w w1 := (hk0.mono (by simp)).trans hk1
    have q2 := q1.trans' hs1 (by simp; omega)
    have q3 := (q2.trans hk2).trans' hs2 (by simp; omega)
    have q4 := (q3.trans hk3).trans' hs3 (by simp; omega)
    exact (q4.trans hk4).trans' hs4 (by simp; omega)
  have hK0 : Keeps [ib, w.heap.size + 1] w0 (w4.setCell ⟨w.heap.size + 1, 3, none⟩ (.int .i64 d.1)) := by
    have q2 := (hk1.mono (Y := [ib, w.heap.size + 1]) (by simp)).trans (hs1.mono (by simp))
    have q3 := (q2.trans (hk2.mono (by simp))).trans (hs2.mono (by simp))
    have q4 := (q3.trans (hk3.mono (by simp))).trans (hs3.mono (by simp))
    exact (q4.trans (hk4.mono (by simp))).trans (hs4.mono (by simp))
  have hP5 : Blk _ _ _ #[.int .i64 a.1, .int .i64 b.1, .int .i64 c.1, .int .i64 d.1] := hP4.set 3 (.int .i64 d.1)
  have hR5 := hB1.keep hK0 (nmem2 (Ne.symm hne0) (by omega))
  generalize w4.setCell ⟨w.heap.size + 1, 3, none⟩ (.int .i64 d.1) = w5 at *
  have c5 := hP5.cell
  have r5 := hR5.cell
  have g5 := hR5.frz
  clear hE1 hE2 hE3 hE4 hF1 hF2 hF3 hF4 hE0 hE hI0 hI1 hI2 hI3 hI4 hJ1 hJ2 hJ3 hs1 hs2 hs3 hs4 hk0 hk1 hk2 hk3 hk4 hP1 hP2 hP3 hP4 hK0 hB1 hB2
  rcases hx with ⟨hbad, rfl⟩ | ⟨p, fb, hbad, rfl, hfb⟩
  · have HR : Hid (rdVec S st = ((a.1, b.1, c.1, d.1), d.2)) := by apply Lib.hid; rw [HV.out, hbad]
    clear hbad
    go_wp2_with fail
    refine bodyPost_ret (v := vecV (a.1, b.1, c.1, d.1)) (by simp [results, Tryd.results150, go_sem, r5, vecV]) rfl ?_
    rw [HR.out]
    refine ⟨rfl, ?_, ?_⟩
    · exact (((hJ4.set 0 _ hR5 (by decide) hne0).set 1 _ (hR5.set 0 _) (by decide) hne0).set 2 _ ((hR5.set 0 _).set 1 _) (by decide) hne0).set 3 _ (((hR5.set 0 _).set 1 _).set 2 _) (by decide) hne0
    · exact (((hkk.setCell (p := ⟨w.heap.size, 0, none⟩) (by simp) _).setCell (p := ⟨w.heap.size, 1, none⟩) (by simp) _).setCell (p := ⟨w.heap.size, 2, none⟩) (by simp) _).setCell (p := ⟨w.heap.size, 3, none⟩) (by simp) _
  · have HR : Hid (rdVec S st = ((0, 0, 0, 0), d.2)) := by apply Lib.hid; rw [HV.out, hbad]
    clear hbad
    unfold faultV
    go_wp2_with fail
    refine bodyPost_ret (v := vecV (0, 0, 0, 0)) (by simp [results, Tryd.results150, go_sem, r5, vecV]) rfl ?_
    rw [HR.out]
    refine ⟨rfl, ?_, ?_⟩
    · exact (((hJ4.set 0 _ hR5 (by decide) hne0).set 1 _ (hR5.set 0 _) (by decide) hne0).set 2 _ ((hR5.set 0 _).set 1 _) (by decide) hne0).set 3 _ (((hR5.set 0 _).set 1 _).set 2 _) (by decide) hne0
    · exact (((hkk.setCell (p := ⟨w.heap.size, 0, none⟩) (by simp) _).setCell (p := ⟨w.heap.size, 1, none⟩) (by simp) _).setCell (p := ⟨w.heap.size, 2, none⟩) (by simp) _).setCell (p := ⟨w.heap.size, 3, none⟩) (by simp) _

/-- What End hands back: nil, or a Fault. -/
def EndIs (S : ByteArray) (st : RS) (ev : Addr) (w : World) (x : Value) : Prop :=
  st.bad = none ∧ st.pos = S.size ∧ x = .nilIface ∨ ∃ p fb op, (st.bad = some p ∨ st.bad = none ∧ st.pos < S.size ∧ p = st.pos) ∧ x = faultV fb ∧ Blk w fb 53 #[.string op, .int .i64 (p : Nat), errv ev]

set_option maxRecDepth 100000 in
set_option maxHeartbeats 1000000 in
theorem end_any (ib : Nat) (S : ByteArray) (st : RS) (ev : Addr) (w : World) (h : InAt ib S st ev w) (hS : Room S.size) (hE : w.cell? ⟨1, 0, none⟩ = some (errv ev)) :
    Calls Tryd.prog 63 #[.pointer (some ⟨ib, 0, none⟩)] w fun e w' => (∃ x, e = .returned x ∧ EndIs S st ev w' x) ∧ Keeps [] w w' := by
  have HI := Lib.hid h
  obtain ⟨ha, y, hb, hy⟩ := h
  have c := hb.cell
  clear hy
  go_enter Tryd.func63, Tryd.ntmps63
  go_wp2_with fail
  refine (err_any ib S st ev _ HI.out).mono ?_
  rintro e w1 ⟨⟨x, rfl, hx⟩, rfl⟩
  rcases hx with ⟨hbad, rfl⟩ | ⟨p, fb, hbad, rfl, hfb⟩
  · have HB := Lib.hid hbad
    clear hbad
    obtain ⟨m, hm⟩ : ∃ m, m = S.size - st.pos := ⟨_, rfl⟩
    have HM := Lib.hid hm
    clear hm
    by_cases h0 : m = 0
    · go_wp2_with fail
      refine (left_any ib S st ev _ HI.out hS).mono ?_
      rintro e w1 ⟨rfl, rfl⟩
      rw [← HM.out]
      obtain rfl := h0
      go_wp2_with fail
      go_ret
      exact ⟨⟨_, rfl, .inl ⟨HB.out, by have := HM.out; omega, rfl⟩⟩, (Keeps.refl _ _).drew⟩
    · go_wp2_with fail
      refine (left_any ib S st ev _ HI.out hS).mono ?_
      rintro e w1 ⟨rfl, rfl⟩
      rw [← HM.out]
      go_wp2_with fail
      go_region
      go_wp2_with fail
      go_ret
      exact ⟨⟨_, rfl, .inr ⟨st.pos, w.heap.size, _, .inr ⟨HB.out, by have := HM.out; omega, rfl⟩, rfl, Blk.newAt _ _ (by simp)⟩⟩, (((Keeps.refl _ _).drew).drew).alloc _⟩
  · have HB := Lib.hid hbad
    clear hbad
    unfold faultV
    go_wp2_with fail
    go_ret
    exact ⟨⟨_, rfl, .inr ⟨p, fb, _, .inl HB.out, rfl, hfb⟩⟩, Keeps.refl _ _⟩

end Go.Proofs.YtnlhmlgoipnekaaDoor
