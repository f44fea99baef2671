/- package order: Read. -/
import Derived.Test.YtnlhmlgoipnekaaDoorBytes
namespace Go.Proofs.YtnlhmlgoipnekaaDoor
open Go.RowKit

def rdF (S : ByteArray) (s : Cmd × RS) : Fld → Cmd × RS
  | .num o => (s.1.put o (rdInt S s.2).1, (rdInt S s.2).2)
  | .vec => (s.1.putV (rdVec S s.2).1, (rdVec S s.2).2)
  | .flag => (s.1.putF (rdBool S s.2).1, (rdBool S s.2).2)

theorem rdrM_run (cb ib : Nat) (k : Int) (S : ByteArray) (ev : Addr) (ws : World) (hS : Room S.size) (hg : 1 < ib) (hg2 : 1 < cb) (l : List Fld) :
    ∀ (s : Cmd × RS) (n : Nat), ((rdrM cb ib k S ev ws hS hg hg2).run l (s, n)).1 = l.foldl (rdF S) s := by
  induction l with
  | nil => intro s n; rfl
  | cons f r ih =>
    intro s n
    cases f <;> exact ih _ _

/-- Where End says that bytes are wrong. -/
def endP (S : ByteArray) (st : RS) : Option Nat :=
  match st.bad with
  | some p => some p
  | none => if st.pos < S.size then some st.pos else none

def readK (S : ByteArray) : Int × RS := rdInt S ⟨0, none⟩

/-- The command of bytes, or where they are wrong. -/
def readC (S : ByteArray) : Cmd × Option Nat :=
  if (readK S).2.bad = none ∧ 1 ≤ (readK S).1 ∧ (readK S).1 ≤ 21 then
    match endP S ((overF (readK S).1).foldl (rdF S) (Cmd.zero (readK S).1, (readK S).2)).2 with
    | some p => (Cmd.zero 0, some p)
    | none => (((overF (readK S).1).foldl (rdF S) (Cmd.zero (readK S).1, (readK S).2)).1, none)
  else (Cmd.zero 0, some 0)

/-- What Read's error is. -/
def ReadErr (bad : Option Nat) (ef : Addr) (w : World) (x : Value) : Prop :=
  match bad with
  | none => x = .nilIface
  | some p => ∃ fb, x = faultV fb ∧ Blk w fb 53 #[.string ⟨#[99, 111, 109, 109, 97, 110, 100]⟩, .int .i64 p, errv ef]

set_option maxRecDepth 100000 in
set_option maxHeartbeats 2000000 in
theorem read_any {B : Nat} {ea ef : Addr} (S : ByteArray) (w : World) (hG : Glob B ea ef w) (hS : Room S.size) :
    Calls Tryd.prog 21 #[.string S] w fun e w' => (∃ x, e = .returned (.tuple #[.agg (readC S).1.cells, x]) ∧ ReadErr (readC S).2 ef w' x) ∧ Keeps [] w w' := by
  obtain ⟨R, hR⟩ : ∃ R, R = readC S := ⟨_, rfl⟩
  rw [← hR]
  have HR := Lib.hid hR
  clear hR
  obtain ⟨K, hK⟩ : ∃ K, K = readK S := ⟨_, rfl⟩
  have HK := Lib.hid hK
  clear hK
  have hbase := hG.base
  have hsize := hG.size
  have hz0 : Blk (w.alloc (.cells (Cmd.zero 0).cells 27)) w.heap.size 27 (Cmd.zero 0).cells := Blk.new _ _ _
  have hk0 : Keeps [] w (w.alloc (.cells (Cmd.zero 0).cells 27)) := (Keeps.refl _ _).alloc _
  obtain ⟨w0, hw0⟩ : ∃ w0, w.alloc (.cells (Cmd.zero 0).cells 27) = w0 := ⟨_, rfl⟩
  rw [hw0] at hz0 hk0
  unfold Cmd.zero Cmd.cells at hw0
  go_enter Tryd.func21, Tryd.ntmps21
  go_wp2_with fail
  clear hw0
  refine (of_any S ef _).mono ?_
  rintro e w1 ⟨rfl, hI1, hk1⟩
  go_wp2_with fail
  have hG1 := (hG.keep0 hk0).keep0 hk1
  have hib : w.heap.size < w0.heap.size := hz0.lt
  refine (int_any _ S _ ef _ hI1 hS hG1.form (by omega)).mono ?_
  rintro e w2 ⟨rfl, hI2, hk2⟩
  rw [show rdInt S ⟨0, none⟩ = K from HK.out.symm] at hI2
  rw [show rdInt S ⟨0, none⟩ = K from HK.out.symm]
  obtain ⟨k, st⟩ := K
  have hz2 := (hz0.keep hk1 (by simp)).keep hk2 (nmem1 (by omega))
  have hG2 := hG1.keep hk2 (by simp; omega)
  have hkk2 : Keeps [] w w2 := (hk0.trans hk1).trans' hk2 (by simp; omega)
  obtain ⟨w3, hw3⟩ : ∃ w3, w2.alloc (.cells (Cmd.zero 0).cells 27) = w3 := ⟨_, rfl⟩
  have hb3 : Blk w3 w2.heap.size 27 (Cmd.zero 0).cells := by rw [← hw3]; exact Blk.new _ _ _
  have hk3 : Keeps [] w2 w3 := by rw [← hw3]; exact (Keeps.refl _ _).alloc _
  have c3 := hb3.cell
  have f3 := hb3.frz
  unfold Cmd.zero Cmd.cells at hw3 c3
  go_wp2_with fail
  change Calls _ _ _ (setFrom w3 w2.heap.size 0 (Cmd.zero k).cells.toList) _
  have hb4 := setFrom_whole (ds := (Cmd.zero k).cells) hb3 rfl
  have hk4 := (setFrom_keeps (b := w2.heap.size) (Cmd.zero k).cells.toList 0 w2 w3 hk3 (by simp))
  clear hw3 c3 f3 hb3 hk3
  generalize setFrom w3 w2.heap.size 0 (Cmd.zero k).cells.toList = w4 at *
  have hI4 : InAt w0.heap.size S st ef w4 := hI2.keep hk4 (by simp) (by simp)
  have hG4 := hG2.keep0 hk4
  have hz4 := hz2.keep hk4 (by simp)
  have hkk4 := hkk2.trans hk4
  have hI2lt := hI2.lt
  clear hz2 hG2 hkk2 hk4 hI2 hG1 hI1 hk1 hk2 hk0 hz0
  have hs2 := hz4.lt
  refine (err_any _ S st ef _ hI4).mono ?_
  rintro e w5 ⟨⟨x, rfl, hx⟩, rfl⟩
  rcases hx with ⟨hbad, rfl⟩ | ⟨p, fb, hbad, rfl, hfb⟩
  · have ck : w4.cell? ⟨w2.heap.size, 0, none⟩ = some (.int .i64 k) := by rw [hb4.cell]; rfl
    by_cases hkd : 1 ≤ k ∧ k ≤ 21
    · obtain ⟨h1, h2⟩ := hkd
      have HB := Lib.hid hbad
      clear hbad
      go_wp2_with fail
      refine (isKind_yes k _ h1 h2).mono ?_
      rintro e w5 ⟨rfl, rfl⟩
      go_wp2_with fail
      have hib2 : w0.heap.size < w2.heap.size := hI2lt
      refine (over_any (rdrM w2.heap.size w0.heap.size k S ef w4 hS (by omega) (by omega)) ((Cmd.zero k, st), 0) w4 ⟨rfl, hb4, hI4, hG4.form, Keeps.refl _ _⟩ h1 h2 (Nat.zero_le _)).mono ?_
      rintro e w6 ⟨rfl, hi6⟩
      have hrun := rdrM_run w2.heap.size w0.heap.size k S ef w4 hS (by omega) (by omega) (overF k) (Cmd.zero k, st) 0
      obtain ⟨_, hb6, hI6, _, hk6⟩ := hi6
      change Blk w6 w2.heap.size 27 (((rdrM w2.heap.size w0.heap.size k S ef w4 hS (by omega) (by omega)).run (overF k) ((Cmd.zero k, st), 0)).1).1.cells at hb6
      change InAt w0.heap.size S (((rdrM w2.heap.size w0.heap.size k S ef w4 hS (by omega) (by omega)).run (overF k) ((Cmd.zero k, st), 0)).1).2 ef w6 at hI6
      rw [hrun] at hb6 hI6
      clear hrun
      obtain ⟨cs, hcs⟩ : ∃ cs, cs = (overF k).foldl (rdF S) (Cmd.zero k, st) := ⟨_, rfl⟩
      rw [← hcs] at hb6 hI6
      have HC := Lib.hid hcs
      clear hcs
      obtain ⟨c, st2⟩ := cs
      have hz6 := hz4.keep hk6 (nmem2 (by omega) (by omega))
      have hG6 := hG4.keep hk6 (by simp; omega)
      have hkk6 : Keeps [] w w6 := hkk4.trans' hk6 (by simp; omega)
      clear hk6 hz4 hG4 hkk4 hb4 hI4 ck
      have hR : Hid (R = match endP S st2 with | some p => (Cmd.zero 0, some p) | none => (c, none)) := by
        apply Lib.hid
        rw [HR.out]; unfold readC
        rw [← HK.out, if_pos ⟨HB.out, h1, h2⟩, ← HC.out]
      go_wp2_with fail
      obtain ⟨w7, hw7⟩ : ∃ w7, w7 = w6.alloc (.cells #[.pointer none] 51) := ⟨_, rfl⟩
      rw [← hw7]
      have hk7 : Keeps [] w6 w7 := by rw [hw7]; exact (Keeps.refl _ _).alloc _
      have hf7 : Blk w7 w6.heap.size 51 #[.pointer none] := by rw [hw7]; exact Blk.new _ _ _
      clear hw7
      have hs6 := hz6.lt
      refine (end_any _ S st2 ef _ (hI6.keep hk7 (by simp) (by simp)) hS (hG6.keep0 hk7).form).mono ?_
      rintro e w8 ⟨⟨x, rfl, hx⟩, hk8⟩
      have hz8 := (hz6.keep hk7 (by simp)).keep hk8 (by simp)
      have hb8 := (hb6.keep hk7 (by simp)).keep hk8 (by simp)
      have hf8 := hf7.keep hk8 (by simp)
      have hG8 := (hG6.keep0 hk7).keep0 hk8
      have hkk8 := (hkk6.trans hk7).trans hk8
      clear hz6 hb6 hf7 hG6 hkk6 hk7 hk8 hI6
      rcases hx with ⟨hbad2, hpos, rfl⟩ | ⟨p, fb, op, hp, rfl, hfb⟩
      · have HF : Hid (R = (c, none)) := by
          apply Lib.hid; rw [hR.out]; unfold endP; rw [hbad2]; simp only []; rw [if_neg (by omega)]
        clear hbad2 hpos
        go_wp2_with fail
        refine (as_nil _ _).mono ?_
        rintro e w9 ⟨rfl, rfl⟩
        have c8 := hb8.cell
        have z8 := hz8.cell
        have g8 := hz8.frz
        unfold Cmd.cells at c8
        unfold Cmd.zero Cmd.cells at z8
        go_wp2_with fail
        change bodyPost _ _ _ _ _ (setFrom _ w.heap.size 0 c.cells.toList)
        have q1 := setFrom_whole (ds := c.cells) hz8 rfl
        have q2 := setFrom_keeps (b := w.heap.size) c.cells.toList 0 w _ hkk8 (by simp)
        clear c8 z8 g8
        generalize setFrom _ w.heap.size 0 c.cells.toList = wz at *
        have rz := q1.cell
        unfold Cmd.cells at rz
        refine bodyPost_ret (v := .tuple #[.agg c.cells, .nilIface]) (by simp [results, Tryd.results21, go_sem, rz, Cmd.cells]) rfl ?_
        rw [HF.out]
        exact ⟨⟨_, rfl, rfl⟩, q2⟩
      · have HF : Hid (R = (Cmd.zero 0, some p)) := by
          apply Lib.hid; rw [hR.out]; unfold endP
          rcases hp with hp | ⟨hp, hl, rfl⟩
          · rw [hp]
          · rw [hp]; simp only []; rw [if_pos hl]
        clear hp
        go_wp2_with fail
        refine (as_fault fb w6.heap.size (.pointer none) _ hG8.etype hf8).mono ?_
        rintro e w9 ⟨rfl, hf9, hk9⟩
        have hne9 : w.heap.size ≠ w6.heap.size := by omega
        have hz9 := hz8.keep hk9 (nmem1 hne9)
        have hG9 := hG8.keep hk9 (by simp; omega)
        have hkk9 : Keeps [] w w9 := hkk8.trans' hk9 (by simp; omega)
        have hfb9 := hfb.keep hk9 (nmem1 (hfb.ne hf8 (by decide)))
        have p9 := hf9.cell
        have r9 := hfb9.cell
        clear hk9 hz8 hG8 hkk8 hb8 hf8 hfb
        go_wp2_with fail
        have hfw9 := hG9.form
        go_wp2_with fail
        refine (wrong_any p ef w9 hfw9).mono ?_
        rintro e wa ⟨rfl, hfba, hka⟩
        have hza := hz9.keep hka (by simp)
        have ca := hza.cell
        have fa := hza.frz
        unfold Cmd.zero Cmd.cells at ca
        go_wp2_with fail
        change bodyPost _ _ _ _ _ (setFrom wa w.heap.size 0 (Cmd.zero 0).cells.toList)
        have q1 := setFrom_whole (ds := (Cmd.zero 0).cells) hza rfl
        have q2 := setFrom_keeps (b := w.heap.size) (Cmd.zero 0).cells.toList 0 w wa (hkk9.trans hka) (by simp)
        have q3 := setFrom_keeps (X := [w.heap.size]) (b := w.heap.size) (Cmd.zero 0).cells.toList 0 wa wa (Keeps.refl _ _) (by simp)
        have q4 := hfba.keep q3 (nmem1 (by have := hz9.lt; omega))
        clear q3 ca fa
        generalize setFrom wa w.heap.size 0 (Cmd.zero 0).cells.toList = wz at *
        have rz := q1.cell
        unfold Cmd.zero Cmd.cells at rz
        refine bodyPost_ret (v := .tuple #[.agg (Cmd.zero 0).cells, faultV w9.heap.size]) (by simp [results, Tryd.results21, go_sem, rz, Cmd.cells, Cmd.zero]) rfl ?_
        rw [HF.out]
        exact ⟨⟨_, rfl, _, rfl, q4⟩, q2⟩
    · have HF : Hid (R = (Cmd.zero 0, some 0)) := by
        apply Lib.hid; rw [HR.out]; unfold readC; rw [← HK.out, if_neg (fun h => hkd h.2)]
      have HN := Lib.hid hkd
      clear hkd hbad
      go_wp2_with fail
      refine (isKind_no k _ HN.out).mono ?_
      rintro e w5 ⟨rfl, rfl⟩
      have hfw4 := hG4.form
      go_wp2_with fail
      refine (wrong_any 0 ef w4 hfw4).mono ?_
      rintro e wa ⟨rfl, hfba, hka⟩
      have hza := hz4.keep hka (by simp)
      have ca := hza.cell
      have fa := hza.frz
      unfold Cmd.zero Cmd.cells at ca
      go_wp2_with fail
      change bodyPost _ _ _ _ _ (setFrom wa w.heap.size 0 (Cmd.zero 0).cells.toList)
      have q1 := setFrom_whole (ds := (Cmd.zero 0).cells) hza rfl
      have q2 := setFrom_keeps (b := w.heap.size) (Cmd.zero 0).cells.toList 0 w wa (hkk4.trans hka) (by simp)
      have q3 := setFrom_keeps (X := [w.heap.size]) (b := w.heap.size) (Cmd.zero 0).cells.toList 0 wa wa (Keeps.refl _ _) (by simp)
      have q4 := hfba.keep q3 (nmem1 (by have := hz4.lt; omega))
      clear q3 ca fa
      generalize setFrom wa w.heap.size 0 (Cmd.zero 0).cells.toList = wz at *
      have rz := q1.cell
      unfold Cmd.zero Cmd.cells at rz
      refine bodyPost_ret (v := .tuple #[.agg (Cmd.zero 0).cells, faultV w4.heap.size]) (by simp [results, Tryd.results21, go_sem, rz, Cmd.cells, Cmd.zero]) rfl ?_
      rw [HF.out]
      exact ⟨⟨_, rfl, _, rfl, q4⟩, q2⟩
  · have HF : Hid (R = (Cmd.zero 0, some 0)) := by
      apply Lib.hid; rw [HR.out]; unfold readC; rw [← HK.out, if_neg (by rw [hbad]; simp)]
    clear hbad
    unfold faultV
    have hfw4 := hG4.form
    go_wp2_with fail
    refine (wrong_any 0 ef w4 hfw4).mono ?_
    rintro e wa ⟨rfl, hfba, hka⟩
    have hza := hz4.keep hka (by simp)
    have ca := hza.cell
    have fa := hza.frz
    unfold Cmd.zero Cmd.cells at ca
    go_wp2_with fail
    change bodyPost _ _ _ _ _ (setFrom wa w.heap.size 0 (Cmd.zero 0).cells.toList)
    have q1 := setFrom_whole (ds := (Cmd.zero 0).cells) hza rfl
    have q2 := setFrom_keeps (b := w.heap.size) (Cmd.zero 0).cells.toList 0 w wa (hkk4.trans hka) (by simp)
    have q3 := setFrom_keeps (X := [w.heap.size]) (b := w.heap.size) (Cmd.zero 0).cells.toList 0 wa wa (Keeps.refl _ _) (by simp)
    have q4 := hfba.keep q3 (nmem1 (by have := hz4.lt; omega))
    clear q3 ca fa
    generalize setFrom wa w.heap.size 0 (Cmd.zero 0).cells.toList = wz at *
    have rz := q1.cell
    unfold Cmd.zero Cmd.cells at rz
    refine bodyPost_ret (v := .tuple #[.agg (Cmd.zero 0).cells, faultV w4.heap.size]) (by simp [results, Tryd.results21, go_sem, rz, Cmd.cells, Cmd.zero]) rfl ?_
    rw [HF.out]
    exact ⟨⟨_, rfl, _, rfl, q4⟩, q2⟩

end Go.Proofs.YtnlhmlgoipnekaaDoor
