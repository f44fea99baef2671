/- quitrentlaw23.at. -/
import Derived.Test.YtnlhmlgoipnekaaDoorWr
namespace Go.Proofs.YtnlhmlgoipnekaaDoor
open Go.RowKit

theorem at_nil (w : World) :
    Calls Tryd.prog 23 #[.nilIface] w fun e w' => e = .returned (.int .i64 (-1)) ∧ w = w' := by
  go_enter Tryd.func23, Tryd.ntmps23
  go_wp2_with fail
  go_ret
  exact ⟨rfl, rfl⟩

set_option maxRecDepth 100000 in
set_option maxHeartbeats 1000000 in
theorem at_fault {B : Nat} {ea ef : Addr} (fb p : Nat) (w : World) (hG : Glob B ea ef w) (hF : Blk w fb 53 #[.string ⟨#[99, 111, 109, 109, 97, 110, 100]⟩, .int .i64 p, errv ef]) :
    Calls Tryd.prog 23 #[faultV fb] w fun e w' => e = .returned (.int .i64 p) ∧ Keeps [] w w' := by
  unfold faultV
  obtain ⟨w0, hw0⟩ : ∃ w0, w.alloc (.cells #[.pointer none] 51) = w0 := ⟨_, rfl⟩
  have hb0 : Blk w0 w.heap.size 51 #[.pointer none] := by rw [← hw0]; exact Blk.new _ _ _
  have hk0 : Keeps [] w w0 := by rw [← hw0]; exact (Keeps.refl _ _).alloc _
  have hG0 := hG.keep0 hk0
  have hF0 := hF.keep hk0 (by simp)
  have hne : fb ≠ w.heap.size := by have := hF.lt; omega
  have hBs := hG.size
  have hp0 : ¬ ((p : Int) < 0) := by omega
  go_enter Tryd.func23, Tryd.ntmps23
  go_wp2_with fail
  refine (as_fault fb w.heap.size (.pointer none) w0 hG0.etype hb0).mono ?_
  rintro e w1 ⟨rfl, hb1, hk1⟩
  have hG1 := hG0.keep hk1 (by simp; omega)
  have hF1 := hF0.keep hk1 (nmem1 hne)
  have hc1 := hG1.form
  have ht1 := hb1.cell
  have hf1 := hF1.cell
  have hK1 : Keeps [] w w1 := hk0.trans' hk1 (by simp)
  clear hw0 hb0 hk0 hG0 hF0 hk1 hb1
  go_wp2_with fail
  refine (is_any ef w1 hG1.oform true [(⟨#[99, 111, 109, 109, 97, 110, 100]⟩, p)] _ (some ef) ⟨fb, errv ef, rfl, hF1, rfl⟩ (by simp) (by rintro a ⟨⟩; exact hG1.oform)).mono ?_
  rintro e w2 ⟨rfl, rfl⟩
  go_wp2_with fail
  go_ret
  exact ⟨rfl, hK1⟩

end Go.Proofs.YtnlhmlgoipnekaaDoor
