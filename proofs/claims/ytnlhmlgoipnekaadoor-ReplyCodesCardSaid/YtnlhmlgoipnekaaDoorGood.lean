/- package order: isKind, Good. -/
import Derived.Test.YtnlhmlgoipnekaaDoorOrd
import Derived.Test.YtnlhmlgoipnekaaDoorQuiet
import Derived.Test.YtnlhmlgoipnekaaDoorEq
namespace Go.Proofs.YtnlhmlgoipnekaaDoor
open Go.RowKit

theorem isKind_yes (n : Int) (w : World) (h1 : 1 ≤ n) (h2 : n ≤ 21) :
    Calls Tryd.prog 48 #[.int .i64 n] w fun e w' => e = .returned (.bool true) ∧ w = w' := by
  go_enter Tryd.func48, Tryd.ntmps48
  go_wp2
  go_ret
  exact ⟨by simp, rfl⟩

theorem isKind_no (n : Int) (w : World) (h : ¬ (1 ≤ n ∧ n ≤ 21)) :
    Calls Tryd.prog 48 #[.int .i64 n] w fun e w' => e = .returned (.bool false) ∧ w = w' := by
  by_cases h1 : 1 ≤ n
  · have h2 : ¬ n ≤ 21 := fun h2 => h ⟨h1, h2⟩
    clear h
    go_enter Tryd.func48, Tryd.ntmps48
    go_wp2
    go_ret
    exact ⟨by simp, rfl⟩
  · clear h
    go_enter Tryd.func48, Tryd.ntmps48
    go_wp2
    go_ret
    exact ⟨by simp, rfl⟩

set_option maxRecDepth 100000 in
set_option maxHeartbeats 1000000 in
theorem good_no (c : Cmd) (w : World) (h : ¬ (1 ≤ c.kind ∧ c.kind ≤ 21)) :
    Calls Tryd.prog 14 #[.agg c.cells] w fun e w' => e = .returned (.bool false) ∧ Keeps [] w w' := by
  have HN := Lib.hid h
  clear h
  go_enter Tryd.func14, Tryd.ntmps14
  go_wp2_with fail
  obtain ⟨w1, hw1⟩ : ∃ w1, w1 = w.alloc (.cells c.cells 27) := ⟨_, rfl⟩
  rw [← hw1]
  have hk1 : Keeps [] w w1 := by rw [hw1]; exact (Keeps.refl _ _).alloc _
  have hb : Blk w1 w.heap.size 27 c.cells := by rw [hw1]; exact Blk.new _ _ _
  have c0 := fun p => kw_cellAt (w := w1) (b := w.heap.size) (o := 0) (v := .int .i64 c.kind) (by rw [hb.cell]; rfl) p
  clear hw1 hb
  refine wp_region_kw (by kernel_rfl) (by kernel_rfl) ?_
  repeat (go_big_quiet_step ((go_at_call 48; refine calls_kw_same (isKind_no _ _ HN.out))))
  refine wpQuiet_nil ?_
  intro w2 hw2
  obtain ⟨p, rfl⟩ := hw2
  go_wp2_with fail
  go_ret
  exact ⟨rfl, hk1.trans (kw_keeps w1 p)⟩

set_option maxRecDepth 100000 in
set_option maxHeartbeats 1000000 in
theorem good_yes (c : Cmd) (w : World) (h1 : 1 ≤ c.kind) (h2 : c.kind ≤ 21) :
    Calls Tryd.prog 14 #[.agg c.cells] w fun e w' => e = .returned (.bool (decide (c.clean = Cmd.zero c.kind))) ∧ Keeps [] w w' := by
  obtain ⟨r, hr⟩ : ∃ r, r = decide (c.clean = Cmd.zero c.kind) := ⟨_, rfl⟩
  rw [← hr]
  have HR := Lib.hid hr
  clear hr
  go_enter Tryd.func14, Tryd.ntmps14
  go_wp2_with fail
  obtain ⟨w1, hw1⟩ : ∃ w1, w1 = w.alloc (.cells c.cells 27) := ⟨_, rfl⟩
  rw [← hw1]
  have hk1 : Keeps [] w w1 := by rw [hw1]; exact (Keeps.refl _ _).alloc _
  have hb : Blk w1 w.heap.size 27 c.cells := by rw [hw1]; exact Blk.new _ _ _
  have c0 := fun p => kw_cell hb p
  unfold Cmd.cells at c0
  have he : ∀ w : World, (binOp .eql 27 (.agg c.clean.cells) (.agg #[.int .i64 c.kind, .int .i64 0, .int .i64 0, .int .i64 0, .int .i64 0, .int .i64 0, .int .i64 0, .int .i64 0, .int .i64 0, .int .i64 0, .int .i64 0, .int .i64 0, .int .i64 0, .int .i64 0, .bool false])).run Tryd.prog w = .ok (.bool r) w := fun w => by rw [HR.out]; exact eql_cmd c.clean (Cmd.zero c.kind) w
  clear hw1 hb
  refine wp_region_kw (by kernel_rfl) (by kernel_rfl) ?_
  repeat (go_big_quiet_step ((first | (go_at_call 48; refine calls_kw_same (isKind_yes _ _ h1 h2)) | (go_at_call 49; refine calls_kw (rest_any c _ h1 h2)))))
  refine wpQuiet_nil ?_
  intro w2 hw2
  obtain ⟨p, rfl⟩ := hw2
  clear he c0
  go_wp2_with fail
  go_ret
  exact ⟨rfl, hk1.trans (kw_keeps w1 p)⟩

/-- Whether a command can be. -/
def Cmd.good (c : Cmd) : Bool := decide (1 ≤ c.kind ∧ c.kind ≤ 21 ∧ c.clean = Cmd.zero c.kind)

theorem good_any (c : Cmd) (w : World) :
    Calls Tryd.prog 14 #[.agg c.cells] w fun e w' => e = .returned (.bool c.good) ∧ Keeps [] w w' := by
  by_cases h : 1 ≤ c.kind ∧ c.kind ≤ 21
  · refine (good_yes c w h.1 h.2).mono ?_
    rintro e w' ⟨rfl, hk⟩
    refine ⟨?_, hk⟩
    unfold Cmd.good
    simp [h.1, h.2]
  · refine (good_no c w h).mono ?_
    rintro e w' ⟨rfl, hk⟩
    refine ⟨?_, hk⟩
    unfold Cmd.good
    have : ¬ (1 ≤ c.kind ∧ c.kind ≤ 21 ∧ c.clean = Cmd.zero c.kind) := fun h' => h ⟨h'.1, h'.2.1⟩
    rw [decide_eq_false this]

end Go.Proofs.YtnlhmlgoipnekaaDoor
