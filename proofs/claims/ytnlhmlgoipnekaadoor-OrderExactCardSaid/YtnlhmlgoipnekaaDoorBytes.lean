/- package order: Bytes, Name. -/
import Derived.Test.YtnlhmlgoipnekaaDoorWr
namespace Go.Proofs.YtnlhmlgoipnekaaDoor
open Go.RowKit

set_option maxRecDepth 100000 in
set_option maxHeartbeats 1000000 in
theorem bytes_bad {B : Nat} {ea ef : Addr} (c : Cmd) (w : World) (hG : Glob B ea ef w) (h : c.good = false) :
    Calls Tryd.prog 13 #[.agg c.cells] w fun e w' => e = .returned (.tuple #[.string ⟨#[]⟩, errv ea]) ∧ Keeps [] w w' := by
  have HG := Lib.hid h
  clear h
  go_enter Tryd.func13, Tryd.ntmps13
  have hB : Blk (w.alloc (.cells c.cells 27)) w.heap.size 27 c.cells := Blk.new _ _ _
  have hk0 : Keeps [] w (w.alloc (.cells c.cells 27)) := (Keeps.refl _ _).alloc _
  generalize hw0 : w.alloc (.cells c.cells 27) = w0 at *
  have cc := hB.cell
  unfold Cmd.cells at cc
  go_wp2_with fail
  clear hw0
  refine (good_any c w0).mono ?_
  rintro e w1 ⟨rfl, hk1⟩
  rw [HG.out]
  have hK := hk0.trans hk1
  have ha := (hG.keep0 hK).arg
  clear hk0 hk1 cc hB
  go_wp2_with fail
  go_quiet (fail)
  go_wp2_with fail
  go_ret2
  exact ⟨rfl, hK.drewN _⟩

set_option maxRecDepth 100000 in
set_option maxHeartbeats 1000000 in
theorem bytes_good (c : Cmd) (w : World) (hc : c.Ok) (h : c.good = true) :
    Calls Tryd.prog 13 #[.agg c.cells] w fun e w' => e = .returned (.tuple #[.string ⟨c.bytes.toArray⟩, .nilIface]) ∧ Keeps [] w w' := by
  have HG := Lib.hid h
  clear h
  go_enter Tryd.func13, Tryd.ntmps13
  have hB : Blk (w.alloc (.cells c.cells 27)) w.heap.size 27 c.cells := Blk.new _ _ _
  have hk0 : Keeps [] w (w.alloc (.cells c.cells 27)) := (Keeps.refl _ _).alloc _
  generalize hw0 : w.alloc (.cells c.cells 27) = w0 at *
  have cc := hB.cell
  unfold Cmd.cells at cc
  go_wp2_with fail
  clear hw0
  refine (good_any c w0).mono ?_
  rintro e w1 ⟨rfl, hk1⟩
  rw [HG.out]
  have hK := hk0.trans hk1
  have cc1 := (hB.keep hk1 (by simp)).cell
  unfold Cmd.cells at cc1
  have hkind : 1 ≤ c.kind ∧ c.kind ≤ 21 := by
    have := HG.out
    unfold Cmd.good at this
    have := of_decide_eq_true this
    exact ⟨this.1, this.2.1⟩
  have HKD := Lib.hid hkind
  clear hk0 hk1 cc hB hkind
  go_wp2_with fail
  refine (written_any c w1 hc HKD.out.1 HKD.out.2).mono ?_
  rintro e w2 ⟨rfl, hk2⟩
  go_wp2_with fail
  go_ret2
  exact ⟨rfl, hK.trans hk2⟩

end Go.Proofs.YtnlhmlgoipnekaaDoor
