/- package reply: fills, walked. -/
import Derived.Test.YtnlhmlgoipnekaaDoorRpT
namespace Go.Proofs.YtnlhmlgoipnekaaDoor
open Go.RowKit

set_option maxRecDepth 100000 in
set_option maxHeartbeats 4000000 in
theorem rFills_any (ob g : Nat) (bs : List UInt8) (v : Value) (xs : List Int) (w : World) (hB : Bld 125 ob g bs w) (hR : IntRow w v 6 xs) (ha : xs ≠ [] → Apart v [ob, g]) (hn : xs.length ≤ 200) (hRm : Room (bs.length + 3000)) :
    Calls Tryd.prog 71 #[.pointer (some ⟨ob, 0, none⟩), v] w fun e w' => e = .returned (.tuple #[]) ∧ Wrote 125 ob g (bs ++ sec 6 xs) w w' := by
  have hrm : bs.length + 3000 < 140737488355328 := hRm
  have hi64 := hR.1
  have HR := Lib.hid hR
  obtain ⟨b, off, n, hl, hlen, hidx, hcell, hown⟩ := hR.form (P := Tryd.prog) 58 138 Tryd.underlying58 (fun w' => by kernel_rfl) (by omega)
  have HIX := Lib.hid hidx
  have HOW := Lib.hid hown
  clear hidx hown
  have hnn : n ≤ 33 := by omega
  have HC := Lib.hid hcell
  have hdiv : xs.length / 6 = n := by omega
  have HI := Lib.hid hi64
  have HA := Lib.hid ha
  clear hcell hi64 ha hRm
  go_enter Tryd.func71, Tryd.ntmps71
  go_wp2_with fail
  refine (outInt_any ob g bs n w hB (by unfold I64; omega) (by unfold Room; omega)).mono ?_
  rintro e w1 ⟨rfl, hW⟩
  have HW := Lib.hid hW
  clear hW
  go_wp2_with fail
  go_loopw [14] (fun i wr => ∃ k : Nat, i = .int .i64 k ∧ k ≤ n ∧ Wrote 125 ob g (bs ++ (eb n ++ ebK xs (6 * k))) w wr) (fun i _ => n - (intOf i).toNat)
  case atStart => exact ⟨0, rfl, by omega, HW.out.same (by simp [ebK_zero, eb])⟩
  case round =>
    obtain ⟨k, rfl, hk, hW⟩ := hrel
    obtain ⟨wo, rfl⟩ : ∃ wo : World, wo = wr := ⟨_, rfl⟩
    by_cases hlt : k < n
    · have hne : xs ≠ [] := by rintro rfl; simp at hl; omega
      have hcr : ∀ j, j < xs.length → wo.cell? ⟨b, off + j, none⟩ = some (.int .i64 (xs.getD j 0)) := fun j hj => hW.2.cellAt (HC.out j hj) (HA.out hne b (HOW.out hne))
      have hix : ∀ w' : World, (Instr.indexAt 58 v (.int .i64 k)).run Tryd.prog w' = .ok (.pointer (some ⟨b, off + k * 6, none⟩)) w' := fun w' => HIX.out k w' hlt
      clear hne
      have c0 : wo.cell? ⟨b, off + k * 6, none⟩ = some (.int .i64 (xs.getD (6 * k) 0)) := by rw [show off + k * 6 = off + (6 * k) by omega]; exact hcr _ (by omega)
      have c1 : wo.cell? ⟨b, off + k * 6 + 1, none⟩ = some (.int .i64 (xs.getD (6 * k + 1) 0)) := by rw [show off + k * 6 + 1 = off + (6 * k + 1) by omega]; exact hcr _ (by omega)
      have c2 : wo.cell? ⟨b, off + k * 6 + 2, none⟩ = some (.int .i64 (xs.getD (6 * k + 2) 0)) := by rw [show off + k * 6 + 2 = off + (6 * k + 2) by omega]; exact hcr _ (by omega)
      have c3 : wo.cell? ⟨b, off + k * 6 + 3, none⟩ = some (.int .i64 (xs.getD (6 * k + 3) 0)) := by rw [show off + k * 6 + 3 = off + (6 * k + 3) by omega]; exact hcr _ (by omega)
      have c4 : wo.cell? ⟨b, off + k * 6 + 4, none⟩ = some (.int .i64 (xs.getD (6 * k + 4) 0)) := by rw [show off + k * 6 + 4 = off + (6 * k + 4) by omega]; exact hcr _ (by omega)
      have c5 : wo.cell? ⟨b, off + k * 6 + 5, none⟩ = some (.int .i64 (xs.getD (6 * k + 5) 0)) := by rw [show off + k * 6 + 5 = off + (6 * k + 5) by omega]; exact hcr _ (by omega)
      obtain ⟨cs, hcs⟩ : ∃ cs : Array Value, cs = #[.int .i64 (xs.getD (6 * k) 0), .int .i64 (xs.getD (6 * k + 1) 0), .int .i64 (xs.getD (6 * k + 2) 0), .int .i64 (xs.getD (6 * k + 3) 0), .int .i64 (xs.getD (6 * k + 4) 0), .int .i64 (xs.getD (6 * k + 5) 0)] := ⟨_, rfl⟩
      have hcat : ∀ j, j < 6 → cs[j]? = some (.int .i64 (xs.getD (6 * k + j) 0)) := by
        intro j hj
        rw [hcs]
        have h : j = 0 ∨ j = 1 ∨ j = 2 ∨ j = 3 ∨ j = 4 ∨ j = 5 := by omega
        rcases h with rfl | rfl | rfl | rfl | rfl | rfl <;> rfl
      have HCA := Lib.hid hcat
      clear hcat
      generalize xs.getD (6 * k) 0 = x0 at c0 hcs
      generalize xs.getD (6 * k + 1) 0 = x1 at c1 hcs
      generalize xs.getD (6 * k + 2) 0 = x2 at c2 hcs
      generalize xs.getD (6 * k + 3) 0 = x3 at c3 hcs
      generalize xs.getD (6 * k + 4) 0 = x4 at c4 hcs
      generalize xs.getD (6 * k + 5) 0 = x5 at c5 hcs
      obtain ⟨wt, hwt⟩ : ∃ wt, wo.alloc (.cells cs 138) = wt := ⟨_, rfl⟩
      have hst : wt.heap.size = wo.heap.size + 1 := by rw [← hwt]; simp
      have hbt : Blk wt wo.heap.size 138 cs := by rw [← hwt]; exact Blk.new _ _ _
      have et := hbt.cell
      rw [hcs] at et
      have hWt : Wrote 125 ob g (bs ++ (eb n ++ ebK xs (6 * k))) w wt := by rw [← hwt]; exact hW.alloc _
      obtain ⟨wu, hwu⟩ : ∃ wu, wt.alloc (.cells cs 3) = wu := ⟨_, rfl⟩
      have hbu : Blk wu (wo.heap.size + 1) 3 cs := by rw [← hwu, ← hst]; exact Blk.new _ _ _
      have hWu : Wrote 125 ob g (bs ++ (eb n ++ ebK xs (6 * k))) w wu := by rw [← hwu]; exact hWt.alloc _
      have HW2 := Lib.hid hWu
      have HB2 := Lib.hid hbu
      have hob : wo.heap.size + 1 ≠ ob := by
        obtain ⟨⟨g2, hB2, _⟩, _⟩ := hW
        have := hB2.lt
        omega
      rw [hcs] at hwt hwu
      clear hcs hbt hWt hWu hbu hcr hW
      go_wp2_with fail
      clear hwt hwu c0 c1 c2 c3 c4 c5 et hst
      go_loopw [32] (fun i wr => ∃ j : Nat, i = .int .i64 j ∧ j ≤ 6 ∧ Wrote 125 ob g (bs ++ (eb n ++ ebK xs (6 * k + j))) w wr ∧ Blk wr (wo.heap.size + 1) 3 cs) (fun i _ => 6 - (intOf i).toNat)
      case atStart => exact ⟨0, rfl, by omega, HW2.out, HB2.out⟩
      case round =>
        obtain ⟨j, rfl, hj, hW, hbr⟩ := hrel
        by_cases hj6 : j < 6
        · have hjl : 6 * k + j < xs.length := by omega
          have i0 := HR.out.i64 (6 * k + j) hjl
          have l0 := eb_len _ i0
          have l2 := ebK_len xs (6 * k + j) HI.out
          have l3 := eb_len (n : Int) (by unfold I64; omega)
          have HS := Lib.hid (ebK_succ xs (6 * k + j) hjl)
          have e0 : wr.cell? ⟨wo.heap.size + 1, j, none⟩ = some (.int .i64 (xs.getD (6 * k + j) 0)) := by rw [hbr.cell]; exact HCA.out j hj6
          generalize xs.getD (6 * k + j) 0 = x0 at *
          have HI0 := Lib.hid i0
          obtain ⟨⟨g1, hB1, hg1⟩, hk1⟩ := hW
          have HK1 := Lib.hid hk1
          clear hk1 i0
          go_wp2_with fail
          refine (outInt_any ob g1 _ x0 wr hB1 HI0.out (by unfold Room; simp only [List.length_append]; omega)).mono ?_
          rintro e w2 ⟨rfl, hW2⟩
          have hbr2 := hbr.keep hW2.2 (nmem2 hob (hB1.gneT hbr (by decide) hob))
          have HN : Hid (Wrote 125 ob g (bs ++ (eb n ++ ebK xs (6 * k + (j + 1)))) w w2) := Lib.hid ((Wrote.trans HK1.out hg1 hW2).same (by rw [show 6 * k + (j + 1) = 6 * k + j + 1 by omega, HS.out]; simp [eb]))
          have HB3 := Lib.hid hbr2
          clear hbr hbr2 hW2 hB1 HK1 e0
          go_wp2_with fail
          go_roundw
          case rel => exact ⟨j + 1, by go_num, by omega, HN.out, HB3.out⟩
          case measure => simp [intOf]; omega
        · obtain rfl : j = 6 := by omega
          have HN : Hid (Wrote 125 ob g (bs ++ (eb n ++ ebK xs (6 * (k + 1)))) w wr) := Lib.hid (hW.same (by rw [show 6 * (k + 1) = 6 * k + 6 by omega]))
          clear hW hbr
          go_wp2_with fail
          go_roundw
          case rel => exact ⟨k + 1, by go_num, by omega, HN.out⟩
          case measure => simp [intOf]; omega
    · obtain rfl : k = n := by omega
      go_wp2_with fail
      go_end0
      exact ⟨rfl, hW.same (by rw [ebK_all _ _ (by omega)]; unfold sec; rw [hdiv])⟩

end Go.Proofs.YtnlhmlgoipnekaaDoor
