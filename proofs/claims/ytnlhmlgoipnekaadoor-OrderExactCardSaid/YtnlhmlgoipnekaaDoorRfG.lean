/- The reference's commands: put, get, walked. -/
import Derived.Test.YtnlhmlgoipnekaaDoorRfP
import Derived.Test.YtnlhmlgoipnekaaDoorQuiet
import Derived.WalkSpells
import Derived.WalkLawsBesides
namespace Go.Proofs.YtnlhmlgoipnekaaDoor
open Go.RowKit

/-- A number's letter's place. -/
def letO (b : UInt8) : Nat :=
  if b = 105 then 1 else if b = 111 then 2 else if b = 99 then 3 else if b = 98 then 4 else if b = 119 then 5 else if b = 110 then 6 else if b = 109 then 7 else if b = 112 then 8 else 9

theorem letO_in (b : UInt8) : 1 ≤ letO b ∧ letO b ≤ 9 := by
  unfold letO
  repeat' split
  all_goals omega

theorem letF_num (b : UInt8) (h1 : b ≠ 118) (h2 : b ≠ 102) : letF b = .num (letO b) := by
  unfold letF letO
  rw [if_neg h1, if_neg h2]
  repeat' split
  all_goals rfl

def numL : List UInt8 := [105, 111, 99, 98, 119, 110, 109, 112, 113]

theorem numL_of (b : UInt8) (h : b ∈ letters) (h1 : b ≠ 118) (h2 : b ≠ 102) : b ∈ numL := by
  unfold letters at h
  unfold numL
  simp at h
  rcases h with rfl | rfl | rfl | rfl | rfl | rfl | rfl | rfl | rfl | rfl | rfl
  all_goals (first | exact absurd rfl h1 | exact absurd rfl h2 | simp)

theorem rfPut_1 (cb : Nat) (c : Cmd) (n : Int) (w : World) (h : Blk w cb 29 c.cells) :
    Calls Tryd.prog 51 #[.pointer (some ⟨cb, 0, none⟩), .int .u8 105, .int .i64 n] w fun e w' => e = .returned (.tuple #[]) ∧ Blk w' cb 29 (c.put 1 n).cells ∧ Keeps [cb] w w' := by
  have hc : w.cell? ⟨cb, 1, none⟩ = some (.int .i64 (c.get 1)) := by rw [h.cell]; exact c.cells_get 1 (by omega) (by omega)
  have hf := h.frz 1
  have hl := h.lt
  have H2 : Hid (Blk (w.setCell ⟨cb, 1, none⟩ (.int .i64 n)) cb 29 (c.put 1 n).cells) := by
    apply Lib.hid; rw [← c.cells_put 1 n (by omega) (by omega)]; exact h.set 1 _
  go_enter Tryd.func51, Tryd.ntmps51
  go_wp2_with fail
  go_end0
  exact ⟨rfl, H2.out, (Keeps.refl [cb] w).setCell (p := ⟨cb, 1, none⟩) (by simp) _⟩

set_option maxRecDepth 100000 in
theorem rfGet_1 (c : Cmd) (w : World) :
    Calls Tryd.prog 52 #[.agg c.cells, .int .u8 105] w fun e w' => e = .returned (.int .i64 (c.get 1)) ∧ Keeps [] w w' := by
  obtain ⟨w0, hw0⟩ : ∃ w0, w.alloc (.cells c.cells 29) = w0 := ⟨_, rfl⟩
  have hb0 : Blk w0 w.heap.size 29 c.cells := by rw [← hw0]; exact Blk.new _ _ _
  have hk0 : Keeps [] w w0 := by rw [← hw0]; exact (Keeps.refl _ _).alloc _
  have hc : w0.cell? ⟨w.heap.size, 1, none⟩ = some (.int .i64 (c.get 1)) := by rw [hb0.cell]; exact c.cells_get 1 (by omega) (by omega)
  clear hb0
  go_enter Tryd.func52, Tryd.ntmps52
  go_wp2_with fail
  go_ret
  exact ⟨rfl, hk0⟩

theorem rfPut_2 (cb : Nat) (c : Cmd) (n : Int) (w : World) (h : Blk w cb 29 c.cells) :
    Calls Tryd.prog 51 #[.pointer (some ⟨cb, 0, none⟩), .int .u8 111, .int .i64 n] w fun e w' => e = .returned (.tuple #[]) ∧ Blk w' cb 29 (c.put 2 n).cells ∧ Keeps [cb] w w' := by
  have hc : w.cell? ⟨cb, 2, none⟩ = some (.int .i64 (c.get 2)) := by rw [h.cell]; exact c.cells_get 2 (by omega) (by omega)
  have hf := h.frz 2
  have hl := h.lt
  have H2 : Hid (Blk (w.setCell ⟨cb, 2, none⟩ (.int .i64 n)) cb 29 (c.put 2 n).cells) := by
    apply Lib.hid; rw [← c.cells_put 2 n (by omega) (by omega)]; exact h.set 2 _
  go_enter Tryd.func51, Tryd.ntmps51
  go_wp2_with fail
  go_end0
  exact ⟨rfl, H2.out, (Keeps.refl [cb] w).setCell (p := ⟨cb, 2, none⟩) (by simp) _⟩

set_option maxRecDepth 100000 in
theorem rfGet_2 (c : Cmd) (w : World) :
    Calls Tryd.prog 52 #[.agg c.cells, .int .u8 111] w fun e w' => e = .returned (.int .i64 (c.get 2)) ∧ Keeps [] w w' := by
  obtain ⟨w0, hw0⟩ : ∃ w0, w.alloc (.cells c.cells 29) = w0 := ⟨_, rfl⟩
  have hb0 : Blk w0 w.heap.size 29 c.cells := by rw [← hw0]; exact Blk.new _ _ _
  have hk0 : Keeps [] w w0 := by rw [← hw0]; exact (Keeps.refl _ _).alloc _
  have hc : w0.cell? ⟨w.heap.size, 2, none⟩ = some (.int .i64 (c.get 2)) := by rw [hb0.cell]; exact c.cells_get 2 (by omega) (by omega)
  clear hb0
  go_enter Tryd.func52, Tryd.ntmps52
  go_wp2_with fail
  go_ret
  exact ⟨rfl, hk0⟩

theorem rfPut_3 (cb : Nat) (c : Cmd) (n : Int) (w : World) (h : Blk w cb 29 c.cells) :
    Calls Tryd.prog 51 #[.pointer (some ⟨cb, 0, none⟩), .int .u8 99, .int .i64 n] w fun e w' => e = .returned (.tuple #[]) ∧ Blk w' cb 29 (c.put 3 n).cells ∧ Keeps [cb] w w' := by
  have hc : w.cell? ⟨cb, 3, none⟩ = some (.int .i64 (c.get 3)) := by rw [h.cell]; exact c.cells_get 3 (by omega) (by omega)
  have hf := h.frz 3
  have hl := h.lt
  have H2 : Hid (Blk (w.setCell ⟨cb, 3, none⟩ (.int .i64 n)) cb 29 (c.put 3 n).cells) := by
    apply Lib.hid; rw [← c.cells_put 3 n (by omega) (by omega)]; exact h.set 3 _
  go_enter Tryd.func51, Tryd.ntmps51
  go_wp2_with fail
  go_end0
  exact ⟨rfl, H2.out, (Keeps.refl [cb] w).setCell (p := ⟨cb, 3, none⟩) (by simp) _⟩

set_option maxRecDepth 100000 in
theorem rfGet_3 (c : Cmd) (w : World) :
    Calls Tryd.prog 52 #[.agg c.cells, .int .u8 99] w fun e w' => e = .returned (.int .i64 (c.get 3)) ∧ Keeps [] w w' := by
  obtain ⟨w0, hw0⟩ : ∃ w0, w.alloc (.cells c.cells 29) = w0 := ⟨_, rfl⟩
  have hb0 : Blk w0 w.heap.size 29 c.cells := by rw [← hw0]; exact Blk.new _ _ _
  have hk0 : Keeps [] w w0 := by rw [← hw0]; exact (Keeps.refl _ _).alloc _
  have hc : w0.cell? ⟨w.heap.size, 3, none⟩ = some (.int .i64 (c.get 3)) := by rw [hb0.cell]; exact c.cells_get 3 (by omega) (by omega)
  clear hb0
  go_enter Tryd.func52, Tryd.ntmps52
  go_wp2_with fail
  go_ret
  exact ⟨rfl, hk0⟩

theorem rfPut_4 (cb : Nat) (c : Cmd) (n : Int) (w : World) (h : Blk w cb 29 c.cells) :
    Calls Tryd.prog 51 #[.pointer (some ⟨cb, 0, none⟩), .int .u8 98, .int .i64 n] w fun e w' => e = .returned (.tuple #[]) ∧ Blk w' cb 29 (c.put 4 n).cells ∧ Keeps [cb] w w' := by
  have hc : w.cell? ⟨cb, 4, none⟩ = some (.int .i64 (c.get 4)) := by rw [h.cell]; exact c.cells_get 4 (by omega) (by omega)
  have hf := h.frz 4
  have hl := h.lt
  have H2 : Hid (Blk (w.setCell ⟨cb, 4, none⟩ (.int .i64 n)) cb 29 (c.put 4 n).cells) := by
    apply Lib.hid; rw [← c.cells_put 4 n (by omega) (by omega)]; exact h.set 4 _
  go_enter Tryd.func51, Tryd.ntmps51
  go_wp2_with fail
  go_end0
  exact ⟨rfl, H2.out, (Keeps.refl [cb] w).setCell (p := ⟨cb, 4, none⟩) (by simp) _⟩

set_option maxRecDepth 100000 in
theorem rfGet_4 (c : Cmd) (w : World) :
    Calls Tryd.prog 52 #[.agg c.cells, .int .u8 98] w fun e w' => e = .returned (.int .i64 (c.get 4)) ∧ Keeps [] w w' := by
  obtain ⟨w0, hw0⟩ : ∃ w0, w.alloc (.cells c.cells 29) = w0 := ⟨_, rfl⟩
  have hb0 : Blk w0 w.heap.size 29 c.cells := by rw [← hw0]; exact Blk.new _ _ _
  have hk0 : Keeps [] w w0 := by rw [← hw0]; exact (Keeps.refl _ _).alloc _
  have hc : w0.cell? ⟨w.heap.size, 4, none⟩ = some (.int .i64 (c.get 4)) := by rw [hb0.cell]; exact c.cells_get 4 (by omega) (by omega)
  clear hb0
  go_enter Tryd.func52, Tryd.ntmps52
  go_wp2_with fail
  go_ret
  exact ⟨rfl, hk0⟩

theorem rfPut_5 (cb : Nat) (c : Cmd) (n : Int) (w : World) (h : Blk w cb 29 c.cells) :
    Calls Tryd.prog 51 #[.pointer (some ⟨cb, 0, none⟩), .int .u8 119, .int .i64 n] w fun e w' => e = .returned (.tuple #[]) ∧ Blk w' cb 29 (c.put 5 n).cells ∧ Keeps [cb] w w' := by
  have hc : w.cell? ⟨cb, 5, none⟩ = some (.int .i64 (c.get 5)) := by rw [h.cell]; exact c.cells_get 5 (by omega) (by omega)
  have hf := h.frz 5
  have hl := h.lt
  have H2 : Hid (Blk (w.setCell ⟨cb, 5, none⟩ (.int .i64 n)) cb 29 (c.put 5 n).cells) := by
    apply Lib.hid; rw [← c.cells_put 5 n (by omega) (by omega)]; exact h.set 5 _
  go_enter Tryd.func51, Tryd.ntmps51
  go_wp2_with fail
  go_end0
  exact ⟨rfl, H2.out, (Keeps.refl [cb] w).setCell (p := ⟨cb, 5, none⟩) (by simp) _⟩

set_option maxRecDepth 100000 in
theorem rfGet_5 (c : Cmd) (w : World) :
    Calls Tryd.prog 52 #[.agg c.cells, .int .u8 119] w fun e w' => e = .returned (.int .i64 (c.get 5)) ∧ Keeps [] w w' := by
  obtain ⟨w0, hw0⟩ : ∃ w0, w.alloc (.cells c.cells 29) = w0 := ⟨_, rfl⟩
  have hb0 : Blk w0 w.heap.size 29 c.cells := by rw [← hw0]; exact Blk.new _ _ _
  have hk0 : Keeps [] w w0 := by rw [← hw0]; exact (Keeps.refl _ _).alloc _
  have hc : w0.cell? ⟨w.heap.size, 5, none⟩ = some (.int .i64 (c.get 5)) := by rw [hb0.cell]; exact c.cells_get 5 (by omega) (by omega)
  clear hb0
  go_enter Tryd.func52, Tryd.ntmps52
  go_wp2_with fail
  go_ret
  exact ⟨rfl, hk0⟩

theorem rfPut_6 (cb : Nat) (c : Cmd) (n : Int) (w : World) (h : Blk w cb 29 c.cells) :
    Calls Tryd.prog 51 #[.pointer (some ⟨cb, 0, none⟩), .int .u8 110, .int .i64 n] w fun e w' => e = .returned (.tuple #[]) ∧ Blk w' cb 29 (c.put 6 n).cells ∧ Keeps [cb] w w' := by
  have hc : w.cell? ⟨cb, 6, none⟩ = some (.int .i64 (c.get 6)) := by rw [h.cell]; exact c.cells_get 6 (by omega) (by omega)
  have hf := h.frz 6
  have hl := h.lt
  have H2 : Hid (Blk (w.setCell ⟨cb, 6, none⟩ (.int .i64 n)) cb 29 (c.put 6 n).cells) := by
    apply Lib.hid; rw [← c.cells_put 6 n (by omega) (by omega)]; exact h.set 6 _
  go_enter Tryd.func51, Tryd.ntmps51
  go_wp2_with fail
  go_end0
  exact ⟨rfl, H2.out, (Keeps.refl [cb] w).setCell (p := ⟨cb, 6, none⟩) (by simp) _⟩

set_option maxRecDepth 100000 in
theorem rfGet_6 (c : Cmd) (w : World) :
    Calls Tryd.prog 52 #[.agg c.cells, .int .u8 110] w fun e w' => e = .returned (.int .i64 (c.get 6)) ∧ Keeps [] w w' := by
  obtain ⟨w0, hw0⟩ : ∃ w0, w.alloc (.cells c.cells 29) = w0 := ⟨_, rfl⟩
  have hb0 : Blk w0 w.heap.size 29 c.cells := by rw [← hw0]; exact Blk.new _ _ _
  have hk0 : Keeps [] w w0 := by rw [← hw0]; exact (Keeps.refl _ _).alloc _
  have hc : w0.cell? ⟨w.heap.size, 6, none⟩ = some (.int .i64 (c.get 6)) := by rw [hb0.cell]; exact c.cells_get 6 (by omega) (by omega)
  clear hb0
  go_enter Tryd.func52, Tryd.ntmps52
  go_wp2_with fail
  go_ret
  exact ⟨rfl, hk0⟩

theorem rfPut_7 (cb : Nat) (c : Cmd) (n : Int) (w : World) (h : Blk w cb 29 c.cells) :
    Calls Tryd.prog 51 #[.pointer (some ⟨cb, 0, none⟩), .int .u8 109, .int .i64 n] w fun e w' => e = .returned (.tuple #[]) ∧ Blk w' cb 29 (c.put 7 n).cells ∧ Keeps [cb] w w' := by
  have hc : w.cell? ⟨cb, 7, none⟩ = some (.int .i64 (c.get 7)) := by rw [h.cell]; exact c.cells_get 7 (by omega) (by omega)
  have hf := h.frz 7
  have hl := h.lt
  have H2 : Hid (Blk (w.setCell ⟨cb, 7, none⟩ (.int .i64 n)) cb 29 (c.put 7 n).cells) := by
    apply Lib.hid; rw [← c.cells_put 7 n (by omega) (by omega)]; exact h.set 7 _
  go_enter Tryd.func51, Tryd.ntmps51
  go_wp2_with fail
  go_end0
  exact ⟨rfl, H2.out, (Keeps.refl [cb] w).setCell (p := ⟨cb, 7, none⟩) (by simp) _⟩

set_option maxRecDepth 100000 in
theorem rfGet_7 (c : Cmd) (w : World) :
    Calls Tryd.prog 52 #[.agg c.cells, .int .u8 109] w fun e w' => e = .returned (.int .i64 (c.get 7)) ∧ Keeps [] w w' := by
  obtain ⟨w0, hw0⟩ : ∃ w0, w.alloc (.cells c.cells 29) = w0 := ⟨_, rfl⟩
  have hb0 : Blk w0 w.heap.size 29 c.cells := by rw [← hw0]; exact Blk.new _ _ _
  have hk0 : Keeps [] w w0 := by rw [← hw0]; exact (Keeps.refl _ _).alloc _
  have hc : w0.cell? ⟨w.heap.size, 7, none⟩ = some (.int .i64 (c.get 7)) := by rw [hb0.cell]; exact c.cells_get 7 (by omega) (by omega)
  clear hb0
  go_enter Tryd.func52, Tryd.ntmps52
  go_wp2_with fail
  go_ret
  exact ⟨rfl, hk0⟩

theorem rfPut_8 (cb : Nat) (c : Cmd) (n : Int) (w : World) (h : Blk w cb 29 c.cells) :
    Calls Tryd.prog 51 #[.pointer (some ⟨cb, 0, none⟩), .int .u8 112, .int .i64 n] w fun e w' => e = .returned (.tuple #[]) ∧ Blk w' cb 29 (c.put 8 n).cells ∧ Keeps [cb] w w' := by
  have hc : w.cell? ⟨cb, 8, none⟩ = some (.int .i64 (c.get 8)) := by rw [h.cell]; exact c.cells_get 8 (by omega) (by omega)
  have hf := h.frz 8
  have hl := h.lt
  have H2 : Hid (Blk (w.setCell ⟨cb, 8, none⟩ (.int .i64 n)) cb 29 (c.put 8 n).cells) := by
    apply Lib.hid; rw [← c.cells_put 8 n (by omega) (by omega)]; exact h.set 8 _
  go_enter Tryd.func51, Tryd.ntmps51
  go_wp2_with fail
  go_end0
  exact ⟨rfl, H2.out, (Keeps.refl [cb] w).setCell (p := ⟨cb, 8, none⟩) (by simp) _⟩

set_option maxRecDepth 100000 in
theorem rfGet_8 (c : Cmd) (w : World) :
    Calls Tryd.prog 52 #[.agg c.cells, .int .u8 112] w fun e w' => e = .returned (.int .i64 (c.get 8)) ∧ Keeps [] w w' := by
  obtain ⟨w0, hw0⟩ : ∃ w0, w.alloc (.cells c.cells 29) = w0 := ⟨_, rfl⟩
  have hb0 : Blk w0 w.heap.size 29 c.cells := by rw [← hw0]; exact Blk.new _ _ _
  have hk0 : Keeps [] w w0 := by rw [← hw0]; exact (Keeps.refl _ _).alloc _
  have hc : w0.cell? ⟨w.heap.size, 8, none⟩ = some (.int .i64 (c.get 8)) := by rw [hb0.cell]; exact c.cells_get 8 (by omega) (by omega)
  clear hb0
  go_enter Tryd.func52, Tryd.ntmps52
  go_wp2_with fail
  go_ret
  exact ⟨rfl, hk0⟩

theorem rfPut_9 (cb : Nat) (c : Cmd) (n : Int) (w : World) (h : Blk w cb 29 c.cells) :
    Calls Tryd.prog 51 #[.pointer (some ⟨cb, 0, none⟩), .int .u8 113, .int .i64 n] w fun e w' => e = .returned (.tuple #[]) ∧ Blk w' cb 29 (c.put 9 n).cells ∧ Keeps [cb] w w' := by
  have hc : w.cell? ⟨cb, 9, none⟩ = some (.int .i64 (c.get 9)) := by rw [h.cell]; exact c.cells_get 9 (by omega) (by omega)
  have hf := h.frz 9
  have hl := h.lt
  have H2 : Hid (Blk (w.setCell ⟨cb, 9, none⟩ (.int .i64 n)) cb 29 (c.put 9 n).cells) := by
    apply Lib.hid; rw [← c.cells_put 9 n (by omega) (by omega)]; exact h.set 9 _
  go_enter Tryd.func51, Tryd.ntmps51
  go_wp2_with fail
  go_end0
  exact ⟨rfl, H2.out, (Keeps.refl [cb] w).setCell (p := ⟨cb, 9, none⟩) (by simp) _⟩

set_option maxRecDepth 100000 in
theorem rfGet_9 (c : Cmd) (w : World) :
    Calls Tryd.prog 52 #[.agg c.cells, .int .u8 113] w fun e w' => e = .returned (.int .i64 (c.get 9)) ∧ Keeps [] w w' := by
  obtain ⟨w0, hw0⟩ : ∃ w0, w.alloc (.cells c.cells 29) = w0 := ⟨_, rfl⟩
  have hb0 : Blk w0 w.heap.size 29 c.cells := by rw [← hw0]; exact Blk.new _ _ _
  have hk0 : Keeps [] w w0 := by rw [← hw0]; exact (Keeps.refl _ _).alloc _
  have hc : w0.cell? ⟨w.heap.size, 9, none⟩ = some (.int .i64 (c.get 9)) := by rw [hb0.cell]; exact c.cells_get 9 (by omega) (by omega)
  clear hb0
  go_enter Tryd.func52, Tryd.ntmps52
  go_wp2_with fail
  go_ret
  exact ⟨rfl, hk0⟩

theorem rfPut_any (cb : Nat) (c : Cmd) (b : UInt8) (n : Int) (w : World) (h : Blk w cb 29 c.cells) (hb : b ∈ numL) :
    Calls Tryd.prog 51 #[.pointer (some ⟨cb, 0, none⟩), .int .u8 b.toNat, .int .i64 n] w fun e w' => e = .returned (.tuple #[]) ∧ Blk w' cb 29 (c.put (letO b) n).cells ∧ Keeps [cb] w w' := by
  unfold numL at hb
  simp at hb
  rcases hb with rfl | rfl | rfl | rfl | rfl | rfl | rfl | rfl | rfl
  · exact rfPut_1 cb c n w h
  · exact rfPut_2 cb c n w h
  · exact rfPut_3 cb c n w h
  · exact rfPut_4 cb c n w h
  · exact rfPut_5 cb c n w h
  · exact rfPut_6 cb c n w h
  · exact rfPut_7 cb c n w h
  · exact rfPut_8 cb c n w h
  · exact rfPut_9 cb c n w h

theorem rfGet_any (c : Cmd) (b : UInt8) (w : World) (hb : b ∈ numL) :
    Calls Tryd.prog 52 #[.agg c.cells, .int .u8 b.toNat] w fun e w' => e = .returned (.int .i64 (c.get (letO b))) ∧ Keeps [] w w' := by
  unfold numL at hb
  simp at hb
  rcases hb with rfl | rfl | rfl | rfl | rfl | rfl | rfl | rfl | rfl
  · exact rfGet_1 c w
  · exact rfGet_2 c w
  · exact rfGet_3 c w
  · exact rfGet_4 c w
  · exact rfGet_5 c w
  · exact rfGet_6 c w
  · exact rfGet_7 c w
  · exact rfGet_8 c w
  · exact rfGet_9 c w

end Go.Proofs.YtnlhmlgoipnekaaDoor
