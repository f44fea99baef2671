/- quitrentlaw23.OrderBack: the walk at long bytes and at kinds that are none. -/
import Derived.Test.YtnlhmlgoipnekaaDoorAwake
import Derived.Test.YtnlhmlgoipnekaaDoorPln
namespace Go.Proofs.YtnlhmlgoipnekaaDoor
open Go.RowKit

set_option maxRecDepth 100000 in
set_option maxHeartbeats 2000000 in
theorem back_long {B : Nat} {ea ef : Addr} (c c' : Cmd) (s : ByteArray) (w : World) (hG : Glob B ea ef w) (hs : 512 < s.size) :
    Calls Tryd.prog 4 #[.agg c.cells, .agg c'.cells, .string s] w fun e w' => e = .returned (.bool true) ∧ Keeps [] w w' := by
  have hsz : (512 : Int) < (s.size : Int) := by omega
  obtain ⟨wa, hwa⟩ : ∃ wa, w.alloc (.cells c.cells 27) = wa := ⟨_, rfl⟩
  have hba : Blk wa w.heap.size 27 c.cells := by rw [← hwa]; exact Blk.new _ _ _
  have hka : Keeps [] w wa := by rw [← hwa]; exact (Keeps.refl _ _).alloc _
  have hsa : wa.heap.size = w.heap.size + 1 := by rw [← hwa]; simp
  obtain ⟨w0, hw0⟩ : ∃ w0, wa.alloc (.cells c'.cells 27) = w0 := ⟨_, rfl⟩
  have hc0 : Blk w0 (w.heap.size + 1) 27 c'.cells := by rw [← hw0, ← hsa]; exact Blk.new _ _ _
  have hb0 : Blk w0 w.heap.size 27 c.cells := by rw [← hw0]; exact hba.alloc _
  have hk0 : Keeps [] w w0 := by rw [← hw0]; exact hka.alloc _
  clear hba hka
  go_enter Tryd.func4, Tryd.ntmps4
  go_wp2_with fail
  clear hwa hw0
  refine (awake_any w0 (hG.keep0 hk0)).mono ?_
  rintro e w1 ⟨rfl, hk1⟩
  have hb1 := hb0.keep hk1 (by simp)
  have hc1 := hc0.keep hk1 (by simp)
  have hK1 := hk0.trans hk1
  clear hk0 hk1 hb0 hc0
  clear hb1 hc1
  go_wp2_with fail
  go_ret
  exact ⟨rfl, hK1⟩

set_option maxRecDepth 100000 in
set_option maxHeartbeats 2000000 in
theorem back_out1 {B : Nat} {ea ef : Addr} (c c' : Cmd) (s : ByteArray) (w : World) (hG : Glob B ea ef w) (hc : c.Ok) (hc' : c'.Ok) (hs : s.size ≤ 512) (h : ¬ (1 ≤ c.kind ∧ c.kind ≤ 21)) :
    Calls Tryd.prog 4 #[.agg c.cells, .agg c'.cells, .string s] w fun e w' => e = .returned (.bool true) ∧ Keeps [] w w' := by
  have hsz : (s.size : Int) ≤ 512 := by omega
  obtain ⟨x, hx⟩ : ∃ x, x = c.trim := ⟨_, rfl⟩
  obtain ⟨y, hy⟩ : ∃ y, y = c'.trim := ⟨_, rfl⟩
  have hxb : (x.kind == 0) = true := by rw [hx, trim_out c h]; rfl
  have HX := Lib.hid hx
  have HY := Lib.hid hy
  clear hx hy h
  obtain ⟨wa, hwa⟩ : ∃ wa, w.alloc (.cells c.cells 27) = wa := ⟨_, rfl⟩
  have hba : Blk wa w.heap.size 27 c.cells := by rw [← hwa]; exact Blk.new _ _ _
  have hka : Keeps [] w wa := by rw [← hwa]; exact (Keeps.refl _ _).alloc _
  have hsa : wa.heap.size = w.heap.size + 1 := by rw [← hwa]; simp
  obtain ⟨w0, hw0⟩ : ∃ w0, wa.alloc (.cells c'.cells 27) = w0 := ⟨_, rfl⟩
  have hc0 : Blk w0 (w.heap.size + 1) 27 c'.cells := by rw [← hw0, ← hsa]; exact Blk.new _ _ _
  have hb0 : Blk w0 w.heap.size 27 c.cells := by rw [← hw0]; exact hba.alloc _
  have hk0 : Keeps [] w w0 := by rw [← hw0]; exact hka.alloc _
  clear hba hka
  go_enter Tryd.func4, Tryd.ntmps4
  go_wp2_with fail
  clear hwa hw0
  refine (awake_any w0 (hG.keep0 hk0)).mono ?_
  rintro e w1 ⟨rfl, hk1⟩
  have hb1 := hb0.keep hk1 (by simp)
  have hc1 := hc0.keep hk1 (by simp)
  have hK1 := hk0.trans hk1
  clear hk0 hk1 hb0 hc0
  go_wp2_with (refine wpList_load_blk rfl 27 _ rfl w.heap.size 27 c.cells rfl hb1 _ Tryd.underlying27 rfl (by kernel_rfl) ?_)
  refine (trim_any c w1 (hG.keep0 hK1) hc).mono ?_
  rintro e w2 ⟨rfl, hk2⟩
  rw [← HX.out]
  have hc2 := hc1.keep hk2 (by simp)
  have hK2 := hK1.trans hk2
  have hs2 := hc2.lt
  clear hk2 hb1 hc1 hK1
  obtain ⟨w3, hw3⟩ : ∃ w3, w2.alloc (.cells (Cmd.zero 0).cells 27) = w3 := ⟨_, rfl⟩
  have hn3 : Blk w3 w2.heap.size 27 (Cmd.zero 0).cells := by rw [← hw3]; exact Blk.new _ _ _
  have hk3 : Keeps [] w2 w3 := by rw [← hw3]; exact (Keeps.refl _ _).alloc _
  unfold Cmd.zero Cmd.cells at hw3
  go_wp2_with (refine wpList_store_blk rfl 27 _ _ rfl w2.heap.size 27 (Cmd.zero 0).cells x.cells rfl rfl hn3 rfl (by kernel_rfl) (Cmd.one _) ?_)
  intro w4 hx4 hk4
  have hc4 := (hc2.keep hk3 (by simp)).keep hk4 (nmem1 (by omega))
  have hK4 : Keeps [] w w4 := (hK2.trans hk3).trans' hk4 (by have := hK2.size; simp; omega)
  clear hw3 hn3 hk3 hk4 hK2 hc2
  go_wp2_with (refine wpList_load_blk rfl 27 _ rfl (w.heap.size + 1) 27 c'.cells rfl hc4 _ Tryd.underlying27 rfl (by kernel_rfl) ?_)
  refine (trim_any c' w4 (hG.keep0 hK4) hc').mono ?_
  rintro e w5 ⟨rfl, hk5⟩
  rw [← HY.out]
  have hx5 := hx4.keep hk5 (by simp)
  have hK5 := hK4.trans hk5
  have hs5 := hx5.lt
  clear hk5 hx4 hK4
  obtain ⟨w6, hw6⟩ : ∃ w6, w5.alloc (.cells (Cmd.zero 0).cells 27) = w6 := ⟨_, rfl⟩
  have hn6 : Blk w6 w5.heap.size 27 (Cmd.zero 0).cells := by rw [← hw6]; exact Blk.new _ _ _
  have hk6 : Keeps [] w5 w6 := by rw [← hw6]; exact (Keeps.refl _ _).alloc _
  unfold Cmd.zero Cmd.cells at hw6
  go_wp2_with (refine wpList_store_blk rfl 27 _ _ rfl w5.heap.size 27 (Cmd.zero 0).cells y.cells rfl rfl hn6 rfl (by kernel_rfl) (Cmd.one _) ?_)
  intro w7 hy7 hk7
  have hx7 := (hx5.keep hk6 (by simp)).keep hk7 (nmem1 (by omega))
  have hK7 : Keeps [] w w7 := (hK5.trans hk6).trans' hk7 (by have := hK5.size; simp; omega)
  clear hw6 hn6 hk6 hk7 hK5 hx5
  have cx7 : w7.cell? ⟨w2.heap.size, 0, none⟩ = some (.int .i64 x.kind) := by rw [hx7.cell]; rfl
  have cy7 : w7.cell? ⟨w5.heap.size, 0, none⟩ = some (.int .i64 y.kind) := by rw [hy7.cell]; rfl
  go_wp2_with fail
  go_ret
  exact ⟨rfl, hK7⟩

set_option maxRecDepth 100000 in
set_option maxHeartbeats 2000000 in
theorem back_out2 {B : Nat} {ea ef : Addr} (c c' : Cmd) (s : ByteArray) (w : World) (hG : Glob B ea ef w) (hc : c.Ok) (hc' : c'.Ok) (hs : s.size ≤ 512) (h1 : 1 ≤ c.kind) (h2 : c.kind ≤ 21) (h : ¬ (1 ≤ c'.kind ∧ c'.kind ≤ 21)) :
    Calls Tryd.prog 4 #[.agg c.cells, .agg c'.cells, .string s] w fun e w' => e = .returned (.bool true) ∧ Keeps [] w w' := by
  have hsz : (s.size : Int) ≤ 512 := by omega
  obtain ⟨x, hx⟩ : ∃ x, x = c.trim := ⟨_, rfl⟩
  obtain ⟨y, hy⟩ : ∃ y, y = c'.trim := ⟨_, rfl⟩
  have hxb : (x.kind == 0) = false := by
    rw [hx, trim_in c h1 h2, proj_kind c h1 h2]
    exact beq_eq_false_iff_ne.2 (by omega)
  have hyb : (y.kind == 0) = true := by rw [hy, trim_out c' h]; rfl
  have HX := Lib.hid hx
  have HY := Lib.hid hy
  clear hx hy h h1 h2
  obtain ⟨wa, hwa⟩ : ∃ wa, w.alloc (.cells c.cells 27) = wa := ⟨_, rfl⟩
  have hba : Blk wa w.heap.size 27 c.cells := by rw [← hwa]; exact Blk.new _ _ _
  have hka : Keeps [] w wa := by rw [← hwa]; exact (Keeps.refl _ _).alloc _
  have hsa : wa.heap.size = w.heap.size + 1 := by rw [← hwa]; simp
  obtain ⟨w0, hw0⟩ : ∃ w0, wa.alloc (.cells c'.cells 27) = w0 := ⟨_, rfl⟩
  have hc0 : Blk w0 (w.heap.size + 1) 27 c'.cells := by rw [← hw0, ← hsa]; exact Blk.new _ _ _
  have hb0 : Blk w0 w.heap.size 27 c.cells := by rw [← hw0]; exact hba.alloc _
  have hk0 : Keeps [] w w0 := by rw [← hw0]; exact hka.alloc _
  clear hba hka
  go_enter Tryd.func4, Tryd.ntmps4
  go_wp2_with fail
  clear hwa hw0
  refine (awake_any w0 (hG.keep0 hk0)).mono ?_
  rintro e w1 ⟨rfl, hk1⟩
  have hb1 := hb0.keep hk1 (by simp)
  have hc1 := hc0.keep hk1 (by simp)
  have hK1 := hk0.trans hk1
  clear hk0 hk1 hb0 hc0
  go_wp2_with (refine wpList_load_blk rfl 27 _ rfl w.heap.size 27 c.cells rfl hb1 _ Tryd.underlying27 rfl (by kernel_rfl) ?_)
  refine (trim_any c w1 (hG.keep0 hK1) hc).mono ?_
  rintro e w2 ⟨rfl, hk2⟩
  rw [← HX.out]
  have hc2 := hc1.keep hk2 (by simp)
  have hK2 := hK1.trans hk2
  have hs2 := hc2.lt
  clear hk2 hb1 hc1 hK1
  obtain ⟨w3, hw3⟩ : ∃ w3, w2.alloc (.cells (Cmd.zero 0).cells 27) = w3 := ⟨_, rfl⟩
  have hn3 : Blk w3 w2.heap.size 27 (Cmd.zero 0).cells := by rw [← hw3]; exact Blk.new _ _ _
  have hk3 : Keeps [] w2 w3 := by rw [← hw3]; exact (Keeps.refl _ _).alloc _
  unfold Cmd.zero Cmd.cells at hw3
  go_wp2_with (refine wpList_store_blk rfl 27 _ _ rfl w2.heap.size 27 (Cmd.zero 0).cells x.cells rfl rfl hn3 rfl (by kernel_rfl) (Cmd.one _) ?_)
  intro w4 hx4 hk4
  have hc4 := (hc2.keep hk3 (by simp)).keep hk4 (nmem1 (by omega))
  have hK4 : Keeps [] w w4 := (hK2.trans hk3).trans' hk4 (by have := hK2.size; simp; omega)
  clear hw3 hn3 hk3 hk4 hK2 hc2
  go_wp2_with (refine wpList_load_blk rfl 27 _ rfl (w.heap.size + 1) 27 c'.cells rfl hc4 _ Tryd.underlying27 rfl (by kernel_rfl) ?_)
  refine (trim_any c' w4 (hG.keep0 hK4) hc').mono ?_
  rintro e w5 ⟨rfl, hk5⟩
  rw [← HY.out]
  have hx5 := hx4.keep hk5 (by simp)
  have hK5 := hK4.trans hk5
  have hs5 := hx5.lt
  clear hk5 hx4 hK4
  obtain ⟨w6, hw6⟩ : ∃ w6, w5.alloc (.cells (Cmd.zero 0).cells 27) = w6 := ⟨_, rfl⟩
  have hn6 : Blk w6 w5.heap.size 27 (Cmd.zero 0).cells := by rw [← hw6]; exact Blk.new _ _ _
  have hk6 : Keeps [] w5 w6 := by rw [← hw6]; exact (Keeps.refl _ _).alloc _
  unfold Cmd.zero Cmd.cells at hw6
  go_wp2_with (refine wpList_store_blk rfl 27 _ _ rfl w5.heap.size 27 (Cmd.zero 0).cells y.cells rfl rfl hn6 rfl (by kernel_rfl) (Cmd.one _) ?_)
  intro w7 hy7 hk7
  have hx7 := (hx5.keep hk6 (by simp)).keep hk7 (nmem1 (by omega))
  have hK7 : Keeps [] w w7 := (hK5.trans hk6).trans' hk7 (by have := hK5.size; simp; omega)
  clear hw6 hn6 hk6 hk7 hK5 hx5
  have cx7 : w7.cell? ⟨w2.heap.size, 0, none⟩ = some (.int .i64 x.kind) := by rw [hx7.cell]; rfl
  have cy7 : w7.cell? ⟨w5.heap.size, 0, none⟩ = some (.int .i64 y.kind) := by rw [hy7.cell]; rfl
  go_wp2_with fail
  go_ret
  exact ⟨rfl, hK7⟩

end Go.Proofs.YtnlhmlgoipnekaaDoor
