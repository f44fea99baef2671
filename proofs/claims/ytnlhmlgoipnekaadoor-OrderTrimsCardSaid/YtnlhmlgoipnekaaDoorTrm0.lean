/- quitrentlaw23.OrderTrims: the walk. -/
import Derived.Test.YtnlhmlgoipnekaaDoorAwake
import Derived.Test.YtnlhmlgoipnekaaDoorPln
import Derived.Test.YtnlhmlgoipnekaaDoorStr
namespace Go.Proofs.YtnlhmlgoipnekaaDoor
open Go.RowKit

set_option maxRecDepth 100000 in
set_option maxHeartbeats 2000000 in
theorem trims_out {B : Nat} {ea ef : Addr} (c : Cmd) (w : World) (hG : Glob B ea ef w) (hc : c.Ok) (hkd : ¬ (1 ≤ c.kind ∧ c.kind ≤ 21)) :
    Calls Tryd.prog 5 #[.agg c.cells] w fun e w' => e = .returned (.bool true) ∧ Keeps [] w w' := by
  have HN := Lib.hid hkd
  clear hkd
  obtain ⟨w0, hw0⟩ : ∃ w0, w.alloc (.cells c.cells 27) = w0 := ⟨_, rfl⟩
  have hb0 : Blk w0 w.heap.size 27 c.cells := by rw [← hw0]; exact Blk.new _ _ _
  have hk0 : Keeps [] w w0 := by rw [← hw0]; exact (Keeps.refl _ _).alloc _
  go_enter Tryd.func5, Tryd.ntmps5
  go_wp2_with fail
  clear hw0
  refine (awake_any w0 (hG.keep0 hk0)).mono ?_
  rintro e w1 ⟨rfl, hk1⟩
  have hb1 := hb0.keep hk1 (by simp)
  have hK1 := hk0.trans hk1
  clear hk0 hk1 hb0
  go_wp2_with (refine wpList_load_blk rfl 27 _ rfl w.heap.size 27 c.cells rfl hb1 _ Tryd.underlying27 rfl (by kernel_rfl) ?_)
  refine (trim_any c w1 (hG.keep0 hK1) hc).mono ?_
  rintro e w2 ⟨rfl, hk2⟩
  rw [trim_out c HN.out]
  have hb2 := hb1.keep hk2 (by simp)
  have hK2 := hK1.trans hk2
  have hs2 := hb2.lt
  clear hk2 hb1 hK1
  obtain ⟨d, hd⟩ : ∃ d, d = Cmd.zero 0 := ⟨_, rfl⟩
  rw [← hd]
  have hdt : d.trim = d := by rw [hd]; rfl
  have hdo : d.Ok := by rw [hd]; exact Cmd.zero_ok 0 I64.zero
  have HD := Lib.hid hd
  clear hd
  obtain ⟨w3, hw3⟩ : ∃ w3, w2.alloc (.cells (Cmd.zero 0).cells 27) = w3 := ⟨_, rfl⟩
  have hb3 : Blk w3 w2.heap.size 27 (Cmd.zero 0).cells := by rw [← hw3]; exact Blk.new _ _ _
  have hk3 : Keeps [] w2 w3 := by rw [← hw3]; exact (Keeps.refl _ _).alloc _
  unfold Cmd.zero Cmd.cells at hw3
  go_wp2_with (refine wpList_store_blk rfl 27 _ _ rfl w2.heap.size 27 (Cmd.zero 0).cells d.cells rfl rfl hb3 rfl (by kernel_rfl) (Cmd.one _) ?_)
  intro w4 hx4 hk4
  have hb4 := (hb2.keep hk3 (by simp)).keep hk4 (nmem1 (by omega))
  have hK4 : Keeps [] w w4 := (hK2.trans hk3).trans' hk4 (by have := hK2.size; simp; omega)
  clear hw3 hb3 hk3 hk4 hK2 hb2
  have hG4 := hG.keep0 hK4
  have HGp : ∀ p, Glob B ea ef (kw w4 p) := fun p => hG4.keep0 (kw_keeps w4 p)
  have ca := fun p => kw_cell hb4 p
  have cx := fun p => kw_cell hx4 p
  unfold Cmd.cells at ca cx
  have hgd : c.good = false := good_out c HN.out
  have hne : ∀ w : World, (binOp .neq 27 (.agg d.cells) (.agg #[.int .i64 d.kind, .int .i64 d.id, .int .i64 d.other, .int .i64 d.cell, .int .i64 d.band, .int .i64 d.window, .int .i64 d.n, .int .i64 d.m, .int .i64 d.p, .int .i64 d.q, .int .i64 d.v0, .int .i64 d.v1, .int .i64 d.v2, .int .i64 d.v3, .bool d.flag])).run Tryd.prog w = .ok (.bool false) w := fun w => (neq_cmd d d w).trans (by simp)
  have HT : ∀ w, Glob B ea ef w → Calls Tryd.prog 15 #[.agg d.cells] w fun e w' => e = .returned (.agg d.cells) ∧ Keeps [] w w' := fun w g => by
    have := trim_any d w g hdo
    rw [hdt] at this
    exact this
  have HGd : ∀ w, Calls Tryd.prog 14 #[.agg c.cells] w fun e w' => e = .returned (.bool false) ∧ Keeps [] w w' := fun w => by
    have := good_any c w
    rw [hgd] at this
    exact this
  go_wp2_with fail
  refine wp_region_kw (by kernel_rfl) (by kernel_rfl) ?_
  repeat (go_big_quiet_step ((first | (go_at_call 15; refine calls_kw (HT _ (HGp _))) | (go_at_call 14; refine calls_kw (HGd _)))))
  refine wpQuiet_nil ?_
  intro w5 hw5
  obtain ⟨p, rfl⟩ := hw5
  have hb5 := hb4.keep (kw_keeps w4 p) (by simp)
  have hx5 := hx4.keep (kw_keeps w4 p) (by simp)
  have hK5 := hK4.trans (kw_keeps w4 p)
  obtain ⟨w5, hw5⟩ : ∃ w5, kw w4 p = w5 := ⟨_, rfl⟩
  rw [hw5] at hb5 hx5 hK5 ⊢
  clear hw5 ca cx hne HGp hG4 hb4 hx4 hK4
  have ck : w5.cell? ⟨w.heap.size, 0, none⟩ = some (.int .i64 c.kind) := by rw [hb5.cell]; rfl
  go_wp2_with fail
  refine (name_any c.kind w5).mono ?_
  rintro e w6 ⟨rfl, hk6⟩
  rw [nameOf_none _ HN.out]
  have hb6 := hb5.keep hk6 (by simp)
  have hx6 := hx5.keep hk6 (by simp)
  have hK6 := hK5.trans hk6
  have heq : ∀ w : World, (binOp .eql 27 (.agg d.cells) (.agg #[.int .i64 0, .int .i64 0, .int .i64 0, .int .i64 0, .int .i64 0, .int .i64 0, .int .i64 0, .int .i64 0, .int .i64 0, .int .i64 0, .int .i64 0, .int .i64 0, .int .i64 0, .int .i64 0, .bool false])).run Tryd.prog w = .ok (.bool true) w := fun w => (eql_cmd d (Cmd.zero 0) w).trans (by rw [HD.out]; simp)
  clear hb5 hx5 hK5 hk6 ck
  go_wp2_with (first | (refine wpList_load_blk rfl 27 _ rfl w2.heap.size 27 d.cells rfl hx6 _ Tryd.underlying27 rfl (by kernel_rfl) ?_) | (refine wpList_load_blk_g rfl 27 _ rfl w.heap.size 27 c.cells rfl hb6 _ Tryd.underlying27 rfl (by kernel_rfl) ?_))
  refine (HGd w6).mono ?_
  rintro e w7 ⟨rfl, hk7⟩
  go_wp2_with fail
  go_ret
  exact ⟨rfl, hK6.trans hk7⟩

end Go.Proofs.YtnlhmlgoipnekaaDoor
