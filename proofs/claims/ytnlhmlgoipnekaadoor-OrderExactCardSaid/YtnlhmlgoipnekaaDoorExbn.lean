/- quitrentlaw23.OrderExact: the walk where the command is not good and the bytes are a command's. -/
import Derived.Test.YtnlhmlgoipnekaaDoorRfR
import Derived.Test.YtnlhmlgoipnekaaDoorAwake
import Derived.Test.YtnlhmlgoipnekaaDoorStr
namespace Go.Proofs.YtnlhmlgoipnekaaDoor
open Go.RowKit

set_option maxRecDepth 100000 in
set_option maxHeartbeats 4000000 in
theorem exact_bn {B : Nat} {ea ef : Addr} (c : Cmd) (s : ByteArray) (w : World) (hG : Glob B ea ef w) (hc : c.Ok) (hs : s.size ≤ 512) (hg : c.good = false) (hr : (readC s).2 = none) :
    Calls Tryd.prog 3 #[.agg c.cells, .string s] w fun e w' => e = .returned (.bool true) ∧ Keeps [] w w' := by
  have hsz : (s.size : Int) ≤ 512 := by omega
  have hRoom : Room s.size := by unfold Room; omega
  have HGD := Lib.hid hg
  have HRD := Lib.hid hr
  have HRM := Lib.hid hRoom
  clear hg hr hRoom hs
  obtain ⟨w0, hw0⟩ : ∃ w0, w.alloc (.cells c.cells 27) = w0 := ⟨_, rfl⟩
  have hb0 : Blk w0 w.heap.size 27 c.cells := by rw [← hw0]; exact Blk.new _ _ _
  have hk0 : Keeps [] w w0 := by rw [← hw0]; exact (Keeps.refl _ _).alloc _
  go_enter Tryd.func3, Tryd.ntmps3
  go_wp2_with fail
  clear hw0
  refine (awake_any w0 (hG.keep0 hk0)).mono ?_
  rintro e w1 ⟨rfl, hk1⟩
  have hb1 := hb0.keep hk1 (by simp)
  have hK1 := hk0.trans hk1
  clear hk0 hk1 hb0
  go_wp2_with (refine wpList_load_blk rfl 27 _ rfl w.heap.size 27 c.cells rfl hb1 _ Tryd.underlying27 rfl (by kernel_rfl) ?_)
  refine (form_any c w1).mono ?_
  rintro e w2 ⟨rfl, hk2⟩
  have hb2 := hb1.keep hk2 (by simp)
  have hK2 := hK1.trans hk2
  have hs2 := hb2.lt
  clear hk2 hb1 hK1
  obtain ⟨w3, hw3⟩ : ∃ w3, w2.alloc (.cells (Cmd.zero 0).cells 29) = w3 := ⟨_, rfl⟩
  have hb3 : Blk w3 w2.heap.size 29 (Cmd.zero 0).cells := by rw [← hw3]; exact Blk.new _ _ _
  have hk3 : Keeps [] w2 w3 := by rw [← hw3]; exact (Keeps.refl _ _).alloc _
  unfold Cmd.zero Cmd.cells at hw3
  go_wp2_with (refine wpList_store_blk rfl 29 _ _ rfl w2.heap.size 29 (Cmd.zero 0).cells c.cells rfl rfl hb3 rfl (by kernel_rfl) (Cmd.one _) ?_)
  intro w4 hu4 hk4
  have hb4 := (hb2.keep hk3 (by simp)).keep hk4 (nmem1 (by omega))
  have hK4 : Keeps [] w w4 := (hK2.trans hk3).trans' hk4 (by have := hK2.size; simp; omega)
  obtain ⟨ub, hub⟩ : ∃ ub, ub = w2.heap.size := ⟨_, rfl⟩
  rw [← hub] at hu4 hs2 ⊢
  clear hw3 hb3 hk3 hk4 hK2 hb2 hub
  go_wp2_with (refine wpList_load_blk rfl 29 _ rfl ub 29 c.cells rfl hu4 _ Tryd.underlying29 rfl (by kernel_rfl) ?_)
  refine (rfGood_any c w4).mono ?_
  rintro e w5 ⟨rfl, hk5⟩
  rw [HGD.out]
  have hb5 := hb4.keep hk5 (by simp)
  have hu5 := hu4.keep hk5 (by simp)
  have hK5 := hK4.trans hk5
  clear hk5 hb4 hu4 hK4
  go_wp2_with (refine wpList_load_blk rfl 27 _ rfl w.heap.size 27 c.cells rfl hb5 _ Tryd.underlying27 rfl (by kernel_rfl) ?_)
  refine (bytes_bad c w5 (hG.keep0 hK5) HGD.out).mono ?_
  rintro e w6 ⟨rfl, hk6⟩
  have hb6 := hb5.keep hk6 (by simp)
  have hu6 := hu5.keep hk6 (by simp)
  have hK6 := hK5.trans hk6
  clear hk6 hb5 hu5 hK5
  have hG6 := hG.keep0 hK6
  have HGp : ∀ p, Glob B ea ef (kw w6 p) := fun p => hG6.keep0 (kw_keeps w6 p)
  have hgd : ∀ w, Calls Tryd.prog 14 #[.agg c.cells] w fun e w' => e = .returned (.bool false) ∧ Keeps [] w w' := fun w => by
    have := good_any c w
    rw [HGD.out] at this
    exact this
  obtain ⟨d, hd⟩ : ∃ d, d = c.trim := ⟨_, rfl⟩
  have hotr : ∀ w, Glob B ea ef w → Calls Tryd.prog 15 #[.agg c.cells] w fun e w' => e = .returned (.agg d.cells) ∧ Keeps [] w w' := fun w g => by
    rw [hd]; exact trim_any c w g hc
  have hrtr : ∀ w, Calls Tryd.prog 16 #[.agg c.cells] w fun e w' => e = .returned (.agg d.cells) ∧ Keeps [] w w' := fun w => by
    rw [hd]; exact rfTrim_any c w
  have hfm := fun w => form_any d w
  have hne : ∀ w : World, (binOp .neq 29 (.agg d.cells) (.agg d.cells)).run Tryd.prog w = .ok (.bool false) w := fun w => (neq_ref d d w).trans (by simp)
  clear hd
  obtain ⟨nm, hnm⟩ : ∃ nm, nm = (nameOf c.kind).toArray := ⟨_, rfl⟩
  have hon : ∀ w, Calls Tryd.prog 17 #[.int .i64 c.kind] w fun e w' => e = .returned (.string ⟨nm⟩) ∧ Keeps [] w w' := fun w => by
    rw [hnm]; exact name_any c.kind w
  have hrn : ∀ w, Calls Tryd.prog 18 #[.int .i64 c.kind] w fun e w' => e = .returned (.string ⟨nm⟩) ∧ Keeps [] w w' := fun w => by
    rw [hnm]; exact rfName_any c.kind w
  clear hnm
  have ck := fun p => kw_cellAt (w := w6) (b := w.heap.size) (o := 0) (v := .int .i64 c.kind) (by rw [hb6.cell]; rfl) p
  go_wp2_with fail
  refine wp_region_kw (by kernel_rfl) (by kernel_rfl) ?_
  repeat (first | (refine wpQuiet_load_blk rfl 27 _ rfl w.heap.size 27 c.cells rfl (blk_kw hb6) _ Tryd.underlying27 rfl (by kernel_rfl) ?_; go_simp) | (refine wpQuiet_load_blk rfl 29 _ rfl ub 29 c.cells rfl (blk_kw hu6) _ Tryd.underlying29 rfl (by kernel_rfl) ?_; go_simp) | (go_big_quiet_step ((first | (go_at_call 14; refine calls_kw (hgd _)) | (go_at_call 15; refine calls_kw (hotr _ (HGp _))) | (go_at_call 11; refine calls_kw (hfm _)) | (go_at_call 16; refine calls_kw (hrtr _)) | (go_at_call 17; refine calls_kw (hon _)) | (go_at_call 18; refine calls_kw (hrn _))))))
  refine wpQuiet_nil ?_
  intro p7
  have hb7 := hb6.keep (kw_keeps w6 p7) (by simp)
  have hu7 := hu6.keep (kw_keeps w6 p7) (by simp)
  have hK7 := hK6.trans (kw_keeps w6 p7)
  clear HGp hgd hotr hrtr hfm hne hon hrn ck hG6
  generalize kw w6 p7 = w7 at *
  clear hb6 hu6 hK6
  have hG7 := hG.keep0 hK7
  have ha7 := hG7.arg
  go_wp2_with fail
  refine (is_any ea w7 hG7.oarg true [] _ (some ea) rfl (by simp) (by rintro a ⟨⟩; exact hG7.oarg)).mono ?_
  rintro e w8 ⟨rfl, rfl⟩
  have hK8 := hK7
  clear hb7 hu7 hK7 ha7 hG7
  go_wp2_with fail
  refine (read_any s w7 (hG.keep0 hK8) HRM.out).mono ?_
  rintro e w9 ⟨⟨x, rfl, hx⟩, hk9⟩
  rw [HRD.out] at hx
  have hK9 := hK8.trans hk9
  clear hk9 hK8
  obtain ⟨y, hy⟩ : ∃ y, y = (readC s).1 := ⟨_, rfl⟩
  rw [← hy]
  have HY := Lib.hid hy
  clear hy
  simp only [ReadErr] at hx
  subst hx
  obtain ⟨w10, hw10⟩ : ∃ w10, w9.alloc (.cells (Cmd.zero 0).cells 27) = w10 := ⟨_, rfl⟩
  have hb10 : Blk w10 w9.heap.size 27 (Cmd.zero 0).cells := by rw [← hw10]; exact Blk.new _ _ _
  have hk10 : Keeps [] w9 w10 := by rw [← hw10]; exact (Keeps.refl _ _).alloc _
  unfold Cmd.zero Cmd.cells at hw10
  go_wp2_with (refine wpList_store_blk rfl 27 _ _ rfl w9.heap.size 27 (Cmd.zero 0).cells y.cells rfl rfl hb10 rfl (by kernel_rfl) (Cmd.one _) ?_)
  intro w11 hx11 hk11
  have hs9 := hK9.size
  have hK11 : Keeps [] w w11 := (hK9.trans hk10).trans' hk11 (by simp; omega)
  obtain ⟨xb, hxb⟩ : ∃ xb, xb = w9.heap.size := ⟨_, rfl⟩
  rw [← hxb] at hx11 ⊢
  clear hw10 hb10 hk10 hk11 hK9 hxb
  go_wp2_with fail
  refine (rfRead_any s w11 HRM.out).mono ?_
  rintro e w12 ⟨rfl, hk12⟩
  rw [HRD.out, ← HY.out]
  have hx12 := hx11.keep hk12 (by simp)
  have hK12 := hK11.trans hk12
  have hl12 := hx12.lt
  clear hk12 hx11 hK11
  unfold badV badI
  obtain ⟨w13, hw13⟩ : ∃ w13, w12.alloc (.cells (Cmd.zero 0).cells 29) = w13 := ⟨_, rfl⟩
  have hb13 : Blk w13 w12.heap.size 29 (Cmd.zero 0).cells := by rw [← hw13]; exact Blk.new _ _ _
  have hk13 : Keeps [] w12 w13 := by rw [← hw13]; exact (Keeps.refl _ _).alloc _
  unfold Cmd.zero Cmd.cells at hw13
  go_wp2_with (refine wpList_store_blk rfl 29 _ _ rfl w12.heap.size 29 (Cmd.zero 0).cells y.cells rfl rfl hb13 rfl (by kernel_rfl) (Cmd.one _) ?_)
  intro w14 hy14 hk14
  have hx14 := (hx12.keep hk13 (by simp)).keep hk14 (nmem1 (by omega))
  have hs12 := hK12.size
  have hK14 : Keeps [] w w14 := (hK12.trans hk13).trans' hk14 (by simp; omega)
  obtain ⟨yb, hyb⟩ : ∃ yb, yb = w12.heap.size := ⟨_, rfl⟩
  rw [← hyb] at hy14 ⊢
  clear hw13 hb13 hk13 hk14 hK12 hyb hl12 hx12 hs12
  have hG14 := hG.keep0 hK14
  have hfm := fun w => form_any y w
  have heq : ∀ w : World, (binOp .eql 29 (.agg y.cells) (.agg y.cells)).run Tryd.prog w = .ok (.bool true) w := fun w => (eql_ref y y w).trans (by simp)
  have hat : ∀ p, Calls Tryd.prog 23 #[.nilIface] (kw w14 p) fun e w' => e = .returned (.int .i64 (-1)) ∧ Keeps [] (kw w14 p) w' := fun p => (at_nil _).mono (by rintro e w' ⟨rfl, rfl⟩; exact ⟨rfl, Keeps.refl _ _⟩)
  go_wp2_with fail
  refine wp_region_kw (by kernel_rfl) (by kernel_rfl) ?_
  repeat (first | (refine wpQuiet_load_blk rfl 27 _ rfl xb 27 y.cells rfl (blk_kw hx14) _ Tryd.underlying27 rfl (by kernel_rfl) ?_; go_simp) | (refine wpQuiet_load_blk rfl 29 _ rfl yb 29 y.cells rfl (blk_kw hy14) _ Tryd.underlying29 rfl (by kernel_rfl) ?_; go_simp) | (go_big_quiet_step ((first | (go_at_call 11; refine calls_kw (hfm _)) | (go_at_call 23; refine calls_kw (hat _))))))
  refine wpQuiet_nil ?_
  intro p15
  go_wp2_with fail
  go_ret
  exact ⟨rfl, hK14.trans (kw_keeps w14 p15)⟩

end Go.Proofs.YtnlhmlgoipnekaaDoor
