/- package reply: tasks, walked. -/
import Derived.Test.YtnlhmlgoipnekaaDoorOut
import Derived.Test.YtnlhmlgoipnekaaDoorIr
import Derived.IntWalk
namespace Go.Proofs.YtnlhmlgoipnekaaDoor
open Go.RowKit

theorem Wrote.same {T : TypeId} {b g : Nat} {bs bs' : List UInt8} {w w' : World} (h : Wrote T b g bs w w') (e : bs = bs') : Wrote T b g bs' w w' := e ▸ h

/-- Behind a writing call one more. -/
theorem Wrote.more {T : TypeId} {b g : Nat} {bs bs' : List UInt8} {w w1 w2 : World} (h : Wrote T b g bs w w1) (h2 : ∀ g', Bld T b g' bs w1 → Wrote T b g' bs' w1 w2) : Wrote T b g bs' w w2 := by
  obtain ⟨⟨g', hb, hg⟩, hk⟩ := h
  exact Wrote.trans hk hg (h2 g' hb)

theorem Wrote.alloc {T : TypeId} {b g : Nat} {bs : List UInt8} {w w1 : World} (h : Wrote T b g bs w w1) (o : Obj) : Wrote T b g bs w (w1.alloc o) := by
  obtain ⟨⟨g', hb, hg⟩, hk⟩ := h
  exact ⟨⟨g', hb.alloc o, hg⟩, hk.alloc o⟩

theorem Wrote.keep {T : TypeId} {b g : Nat} {bs : List UInt8} {w w1 w2 : World} (h : Wrote T b g bs w w1) (k : Keeps [] w1 w2) : Wrote T b g bs w w2 := by
  obtain ⟨⟨g', hb, hg⟩, hk⟩ := h
  exact ⟨⟨g', hb.keep k (by simp) (by simp), hg⟩, hk.trans (k.mono (by simp))⟩

set_option maxRecDepth 100000 in
set_option maxHeartbeats 2000000 in
theorem rTasks_any (ob g : Nat) (bs : List UInt8) (v : Value) (xs : List Int) (w : World) (hB : Bld 125 ob g bs w) (hR : IntRow w v 2 xs) (ha : xs ≠ [] → Apart v [ob, g]) (hn : xs.length ≤ 200) (hRm : Room (bs.length + 3000)) :
    Calls Tryd.prog 70 #[.pointer (some ⟨ob, 0, none⟩), v] w fun e w' => e = .returned (.tuple #[]) ∧ Wrote 125 ob g (bs ++ sec 2 xs) w w' := by
  have hrm : bs.length + 3000 < 140737488355328 := hRm
  have hi64 := hR.1
  have HR := Lib.hid hR
  obtain ⟨b, off, n, hl, hlen, hidx, hcell, hown⟩ := hR.form (P := Tryd.prog) 57 128 Tryd.underlying57 (fun w' => by kernel_rfl) (by omega)
  have HIX := Lib.hid hidx
  have HOW := Lib.hid hown
  clear hidx hown
  have hnn : n ≤ 100 := by omega
  have HC := Lib.hid hcell
  have hdiv : xs.length / 2 = n := by omega
  have HI := Lib.hid hi64
  have HA := Lib.hid ha
  clear hcell hi64 ha hRm
  go_enter Tryd.func70, Tryd.ntmps70
  go_wp2_with fail
  refine (outInt_any ob g bs n w hB (by unfold I64; omega) (by unfold Room; omega)).mono ?_
  rintro e w1 ⟨rfl, hW⟩
  have HW := Lib.hid hW
  clear hW
  go_wp2_with fail
  go_loopw [12] (fun i wr => ∃ k : Nat, i = .int .i64 k ∧ k ≤ n ∧ Wrote 125 ob g (bs ++ (eb n ++ ebK xs (2 * k))) w wr) (fun i _ => n - (intOf i).toNat)
  case atStart => exact ⟨0, rfl, by omega, HW.out.same (by simp [ebK_zero, eb])⟩
  case round =>
    obtain ⟨k, rfl, hk, hW⟩ := hrel
    by_cases hlt : k < n
    · have hne : xs ≠ [] := by rintro rfl; simp at hl; omega
      have hcr : ∀ j, j < xs.length → wr.cell? ⟨b, off + j, none⟩ = some (.int .i64 (xs.getD j 0)) := fun j hj => hW.2.cellAt (HC.out j hj) (HA.out hne b (HOW.out hne))
      have hix : ∀ w' : World, (Instr.indexAt 57 v (.int .i64 k)).run Tryd.prog w' = .ok (.pointer (some ⟨b, off + k * 2, none⟩)) w' := fun w' => HIX.out k w' hlt
      clear hne
      have c0 := hcr (2 * k) (by omega)
      have c1 := hcr (2 * k + 1) (by omega)
      have i0 := HR.out.i64 (2 * k) (by omega)
      have i1 := HR.out.i64 (2 * k + 1) (by omega)
      have l0 := eb_len _ i0
      have l1 := eb_len _ i1
      have l2 := ebK_len xs (2 * k) HI.out
      have l3 := eb_len (n : Int) (by unfold I64; omega)
      have s1 := ebK_succ xs (2 * k) (by omega)
      have s2 := ebK_succ xs (2 * k + 1) (by omega)
      rw [s1] at s2
      have HS := Lib.hid s2
      generalize xs.getD (2 * k) 0 = x0 at *
      generalize xs.getD (2 * k + 1) 0 = x1 at *
      have HI0 := Lib.hid i0
      have HI1 := Lib.hid i1
      have HW2 := Lib.hid hW
      clear s1 s2 i0 i1 hW hcr
      have c0' : wr.cell? ⟨b, off + k * 2, none⟩ = some (.int .i64 x0) := by rw [show off + k * 2 = off + 2 * k by omega]; exact c0
      have c1' : wr.cell? ⟨b, off + k * 2 + 1, none⟩ = some (.int .i64 x1) := by rw [show off + k * 2 + 1 = off + (2 * k + 1) by omega]; exact c1
      clear c0 c1
      obtain ⟨wt, hwt⟩ : ∃ wt, wr.alloc (.cells #[.int .i64 x0, .int .i64 x1] 128) = wt := ⟨_, rfl⟩
      have hbt : Blk wt wr.heap.size 128 #[.int .i64 x0, .int .i64 x1] := by rw [← hwt]; exact Blk.new _ _ _
      have hWt : Wrote 125 ob g (bs ++ (eb n ++ ebK xs (2 * k))) w wt := by rw [← hwt]; exact HW2.out.alloc _
      obtain ⟨⟨g1, hB1, hg1⟩, hk1⟩ := hWt
      have e0 : wt.cell? ⟨wr.heap.size, 0, none⟩ = some (.int .i64 x0) := by rw [hbt.cell]; rfl
      have hne1 : wr.heap.size ≠ ob := by
        obtain ⟨⟨g2, hB2, _⟩, _⟩ := HW2.out
        exact Nat.ne_of_gt hB2.lt
      have HW3 := Lib.hid hk1
      clear hk1
      go_wp2_with fail
      clear hwt
      refine (outInt_any ob g1 _ x0 wt hB1 HI0.out (by unfold Room; simp only [List.length_append]; omega)).mono ?_
      rintro e w2 ⟨rfl, hW2⟩
      have hbt2 := hbt.keep hW2.2 (nmem2 hne1 (hB1.gneT hbt (by decide) hne1))
      have e1 : w2.cell? ⟨wr.heap.size, 1, none⟩ = some (.int .i64 x1) := by rw [hbt2.cell]; rfl
      obtain ⟨⟨g3, hB3, hg3⟩, hk3⟩ := hW2
      have HW4 := Lib.hid hk3
      clear hk3 e0 hbt hbt2
      go_wp2_with fail
      refine (outInt_any ob g3 _ x1 w2 hB3 HI1.out (by unfold Room; simp only [List.length_append]; unfold eb at l0; omega)).mono ?_
      rintro e w3 ⟨rfl, hW5⟩
      have hN : Wrote 125 ob g (bs ++ (eb n ++ ebK xs (2 * (k + 1)))) w w3 := by
        have q1 := Wrote.trans HW4.out hg3 hW5
        have q2 := Wrote.trans HW3.out hg1 q1
        refine q2.same ?_
        rw [show 2 * (k + 1) = 2 * k + 1 + 1 by omega, HS.out]
        simp [eb]
      have HN := Lib.hid hN
      clear hN hW5 HW3 HW4 hB1 hB3 e1
      go_wp2_with fail
      go_roundw
      case rel => exact ⟨k + 1, by go_num, by omega, HN.out⟩
      case measure => simp [intOf]; omega
    · obtain rfl : k = n := by omega
      go_wp2_with fail
      go_end0
      exact ⟨rfl, hW.same (by rw [ebK_all _ _ (by omega)]; unfold sec; rw [hdiv])⟩

end Go.Proofs.YtnlhmlgoipnekaaDoor
