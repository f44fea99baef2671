/- quitrentlaw23.OrderBack: the walk at two kinds that are kinds, case sg. -/
import Derived.Test.YtnlhmlgoipnekaaDoorAwake
import Derived.Test.YtnlhmlgoipnekaaDoorBackP
import Derived.Test.YtnlhmlgoipnekaaDoorStr
namespace Go.Proofs.YtnlhmlgoipnekaaDoor
open Go.RowKit

set_option maxRecDepth 100000 in
set_option maxHeartbeats 2000000 in
theorem back_sg {B : Nat} {ea ef : Addr} (c c' : Cmd) (s : ByteArray) (w : World) (hG : Glob B ea ef w) (hc : c.Ok) (hc' : c'.Ok) (hs : s.size ≤ 512) (h1 : 1 ≤ c.kind) (h2 : c.kind ≤ 21) (h1' : 1 ≤ c'.kind) (h2' : c'.kind ≤ 21)
    (hxy : c.trim ≠ c'.trim) (hl : c'.trim.bytes.length < c.trim.bytes.length) (hr : (readC s).2 = none) :
    Calls Tryd.prog 4 #[.agg c.cells, .agg c'.cells, .string s] w fun e w' => e = .returned (.bool true) ∧ Keeps [] w w' := by
  have hsz : (s.size : Int) ≤ 512 := by omega
  have hroom : Room s.size := by unfold Room; omega
  -- the first
  obtain ⟨x, hx⟩ : ∃ x, x = c.trim := ⟨_, rfl⟩
  obtain ⟨y, hy⟩ : ∃ y, y = c'.trim := ⟨_, rfl⟩
  have hxo : x.Ok := by rw [hx]; exact trim_ok c hc
  have hyo : y.Ok := by rw [hy]; exact trim_ok c' hc'
  have hxg : x.good = true := by rw [hx, trim_in c h1 h2]; exact proj_good c h1 h2
  have hyg : y.good = true := by rw [hy, trim_in c' h1' h2']; exact proj_good c' h1' h2'
  have hxk : x.kind = c.kind := by rw [hx, trim_in c h1 h2]; exact proj_kind c h1 h2
  have hyk : y.kind = c'.kind := by rw [hy, trim_in c' h1' h2']; exact proj_kind c' h1' h2'
  have hxk0 : ¬ (x.kind = 0) := by omega
  have hyk0 : ¬ (y.kind = 0) := by omega
  have hxb : (x.kind == 0) = false := beq_eq_false_iff_ne.2 hxk0
  have hyb : (y.kind == 0) = false := beq_eq_false_iff_ne.2 hyk0
  have hx1 : 1 ≤ x.kind := by omega
  have hx2 : x.kind ≤ 21 := by omega
  rw [← hx, ← hy] at hxy
  rw [← hx, ← hy] at hl
  have HX := Lib.hid hx
  have HY := Lib.hid hy
  have hheq : ∀ w : World, (binOp .eql 27 (.agg x.cells) (.agg y.cells)).run Tryd.prog w = .ok (.bool false) w := fun w => (eql_cmd x y w).trans (by simp [hxy])
  have hhne : ∀ w : World, (binOp .neq 27 (.agg x.cells) (.agg y.cells)).run Tryd.prog w = .ok (.bool true) w := fun w => (neq_cmd x y w).trans (by simp [hxy])
  have hhxx : ∀ w : World, (binOp .neq 27 (.agg x.cells) (.agg x.cells)).run Tryd.prog w = .ok (.bool false) w := fun w => (neq_cmd x x w).trans (by simp)
  obtain ⟨t, ht⟩ : ∃ t : ByteArray, t = ⟨x.bytes.toArray⟩ := ⟨_, rfl⟩
  obtain ⟨u, hu⟩ : ∃ u : ByteArray, u = ⟨y.bytes.toArray⟩ := ⟨_, rfl⟩
  have htl : t.toList = x.bytes := by rw [ht, ByteArray.toList_eq]
  have hul : u.toList = y.bytes := by rw [hu, ByteArray.toList_eq]
  have htu : (t.toList == u.toList) = false := by
    rw [htl, hul]
    exact beq_eq_false_iff_ne.2 fun h => hxy (bytes_inj' x y hxo hyo hxg hyg h)
  have hts : t.size = x.bytes.length := by rw [ht]; simp [ByteArray.size]
  have hus : u.size = y.bytes.length := by rw [hu]; simp [ByteArray.size]
  have htr : Room t.size := by have := bytes_len x hxo; unfold Room; omega
  have hrd : readC t = (x, none) := by rw [ht, readC_bytes x hxo hx1 hx2, good_proj x hxg]
  have hle : ¬ ((t.size : Int) ≤ (u.size : Int)) := by omega
  have HRD := Lib.hid hrd
  have HT := Lib.hid ht
  have HU := Lib.hid hu
  obtain ⟨d, hd⟩ : ∃ d, d = (readC s).1 := ⟨_, rfl⟩
  have hdo : d.Ok := by rw [hd]; exact (readC_back s hr).1
  have hdg : d.good = true := by rw [hd]; exact (readC_back s hr).2.1
  have hdb : s = ⟨d.bytes.toArray⟩ := by rw [hd, ← (readC_back s hr).2.2]
  have HDB := Lib.hid hdb
  clear hdb
  have HD := Lib.hid hd
  have HR := Lib.hid hr
  clear hx hy ht hu hd hr hrd hxy htl hul hts hus hl h1 h2 h1' h2' hx1 hx2 hxk hyk
  obtain ⟨wa, hwa⟩ : ∃ wa, w.alloc (.cells c.cells 27) = wa := ⟨_, rfl⟩
  have hba : Blk wa w.heap.size 27 c.cells := by rw [← hwa]; exact Blk.new _ _ _
  have hka : Keeps [] w wa := by rw [← hwa]; exact (Keeps.refl _ _).alloc _
  have hsa : wa.heap.size = w.heap.size + 1 := by rw [← hwa]; simp
  obtain ⟨w0, hw0⟩ : ∃ w0, wa.alloc (.cells c'.cells 27) = w0 := ⟨_, rfl⟩
  have hc0 : Blk w0 (w.heap.size + 1) 27 c'.cells := by rw [← hw0, ← hsa]; exact Blk.new _ _ _
  have hb0 : Blk w0 w.heap.size 27 c.cells := by rw [← hw0]; exact hba.alloc _
  have hk0 : Keeps [] w w0 := by rw [← hw0]; exact hka.alloc _
  clear hba hka
  go_enter Tryd.func4, Tryd.ntmps4
  go_wp2_with fail
  clear hwa hw0
  refine (awake_any w0 (hG.keep0 hk0)).mono ?_
  rintro e w1 ⟨rfl, hk1⟩
  have hb1 := hb0.keep hk1 (by simp)
  have hc1 := hc0.keep hk1 (by simp)
  have hK1 := hk0.trans hk1
  clear hk0 hk1 hb0 hc0
  go_wp2_with (first | (refine wpList_load_blk rfl 27 _ rfl w.heap.size 27 c.cells rfl hb1 _ Tryd.underlying27 rfl (by kernel_rfl) ?_) | (refine wpList_load_blk_g rfl 27 _ rfl w.heap.size 27 c.cells rfl hb1 _ Tryd.underlying27 rfl (by kernel_rfl) ?_))
  refine (trim_any c w1 (hG.keep0 hK1) hc).mono ?_
  rintro e w2 ⟨rfl, hk2⟩
  rw [← HX.out]
  have hc2 := hc1.keep hk2 (by simp)
  have hK2 := hK1.trans hk2
  have hs2 := hc2.lt
  clear hk2 hb1 hc1 hK1
  obtain ⟨w3, hw3⟩ : ∃ w3, w2.alloc (.cells (Cmd.zero 0).cells 27) = w3 := ⟨_, rfl⟩
  have hn3 : Blk w3 w2.heap.size 27 (Cmd.zero 0).cells := by rw [← hw3]; exact Blk.new _ _ _
  have hk3 : Keeps [] w2 w3 := by rw [← hw3]; exact (Keeps.refl _ _).alloc _
  unfold Cmd.zero Cmd.cells at hw3
  go_wp2_with (refine wpList_store_blk rfl 27 _ _ rfl w2.heap.size 27 (Cmd.zero 0).cells x.cells rfl rfl hn3 rfl (by kernel_rfl) (Cmd.one _) ?_)
  intro w4 hx4 hk4
  have hc4 := (hc2.keep hk3 (by simp)).keep hk4 (nmem1 (by omega))
  have hK4 : Keeps [] w w4 := (hK2.trans hk3).trans' hk4 (by have := hK2.size; simp; omega)
  clear hw3 hn3 hk3 hk4 hK2 hc2
  go_wp2_with (first | (refine wpList_load_blk rfl 27 _ rfl (w.heap.size + 1) 27 c'.cells rfl hc4 _ Tryd.underlying27 rfl (by kernel_rfl) ?_) | (refine wpList_load_blk_g rfl 27 _ rfl (w.heap.size + 1) 27 c'.cells rfl hc4 _ Tryd.underlying27 rfl (by kernel_rfl) ?_))
  refine (trim_any c' w4 (hG.keep0 hK4) hc').mono ?_
  rintro e w5 ⟨rfl, hk5⟩
  rw [← HY.out]
  have hx5 := hx4.keep hk5 (by simp)
  have hK5 := hK4.trans hk5
  have hs5 := hx5.lt
  clear hk5 hx4 hK4
  obtain ⟨w6, hw6⟩ : ∃ w6, w5.alloc (.cells (Cmd.zero 0).cells 27) = w6 := ⟨_, rfl⟩
  have hn6 : Blk w6 w5.heap.size 27 (Cmd.zero 0).cells := by rw [← hw6]; exact Blk.new _ _ _
  have hk6 : Keeps [] w5 w6 := by rw [← hw6]; exact (Keeps.refl _ _).alloc _
  unfold Cmd.zero Cmd.cells at hw6
  go_wp2_with (refine wpList_store_blk rfl 27 _ _ rfl w5.heap.size 27 (Cmd.zero 0).cells y.cells rfl rfl hn6 rfl (by kernel_rfl) (Cmd.one _) ?_)
  intro w7 hy7 hk7
  have hx7 := (hx5.keep hk6 (by simp)).keep hk7 (nmem1 (by omega))
  have hK7 : Keeps [] w w7 := (hK5.trans hk6).trans' hk7 (by have := hK5.size; simp; omega)
  clear hw6 hn6 hk6 hk7 hK5 hx5
  have cx7 : w7.cell? ⟨w2.heap.size, 0, none⟩ = some (.int .i64 x.kind) := by rw [hx7.cell]; rfl
  have cy7 : w7.cell? ⟨w5.heap.size, 0, none⟩ = some (.int .i64 y.kind) := by rw [hy7.cell]; rfl
  go_wp2_with (first | (refine wpList_load_blk rfl 27 _ rfl w2.heap.size 27 x.cells rfl hx7 _ Tryd.underlying27 rfl (by kernel_rfl) ?_) | (refine wpList_load_blk_g rfl 27 _ rfl w2.heap.size 27 x.cells rfl hx7 _ Tryd.underlying27 rfl (by kernel_rfl) ?_))
  refine (bytes_good x w7 hxo hxg).mono ?_
  rintro e w8 ⟨rfl, hk8⟩
  rw [← HT.out]
  have hx8 := hx7.keep hk8 (by simp)
  have hy8 := hy7.keep hk8 (by simp)
  have hK8 := hK7.trans hk8
  clear hk8 hx7 hy7 hK7 cx7 cy7
  go_wp2_with (first | (refine wpList_load_blk rfl 27 _ rfl w5.heap.size 27 y.cells rfl hy8 _ Tryd.underlying27 rfl (by kernel_rfl) ?_) | (refine wpList_load_blk_g rfl 27 _ rfl w5.heap.size 27 y.cells rfl hy8 _ Tryd.underlying27 rfl (by kernel_rfl) ?_))
  refine (bytes_good y w8 hyo hyg).mono ?_
  rintro e w9 ⟨rfl, hk9⟩
  rw [← HU.out]
  have hx9 := hx8.keep hk9 (by simp)
  have hy9 := hy8.keep hk9 (by simp)
  have hK9 := hK8.trans hk9
  clear hk9 hx8 hy8 hK8
  go_wp2_with (first | (refine wpList_load_blk rfl 27 _ rfl w2.heap.size 27 x.cells rfl hx9 _ Tryd.underlying27 rfl (by kernel_rfl) ?_) | (refine wpList_load_blk_g rfl 27 _ rfl w2.heap.size 27 x.cells rfl hx9 _ Tryd.underlying27 rfl (by kernel_rfl) ?_) | (refine wpList_load_blk rfl 27 _ rfl w5.heap.size 27 y.cells rfl hy9 _ Tryd.underlying27 rfl (by kernel_rfl) ?_) | (refine wpList_load_blk_g rfl 27 _ rfl w5.heap.size 27 y.cells rfl hy9 _ Tryd.underlying27 rfl (by kernel_rfl) ?_))
  refine (read_any t w9 (hG.keep0 hK9) htr).mono ?_
  rintro e w10 ⟨⟨v, rfl, hv⟩, hk10⟩
  rw [HRD.out] at hv ⊢
  simp only [ReadErr] at hv
  subst hv
  have hx10 := hx9.keep hk10 (by simp)
  have hy10 := hy9.keep hk10 (by simp)
  have hK10 := hK9.trans hk10
  have hs10 := hx10.lt
  have hs10' := hy10.lt
  clear hk10 hx9 hy9 hK9
  obtain ⟨w11, hw11⟩ : ∃ w11, w10.alloc (.cells (Cmd.zero 0).cells 27) = w11 := ⟨_, rfl⟩
  have hn11 : Blk w11 w10.heap.size 27 (Cmd.zero 0).cells := by rw [← hw11]; exact Blk.new _ _ _
  have hk11 : Keeps [] w10 w11 := by rw [← hw11]; exact (Keeps.refl _ _).alloc _
  unfold Cmd.zero Cmd.cells at hw11
  go_wp2_with (refine wpList_store_blk rfl 27 _ _ rfl w10.heap.size 27 (Cmd.zero 0).cells x.cells rfl rfl hn11 rfl (by kernel_rfl) (Cmd.one _) ?_)
  intro w12 hz12 hk12
  have hx12 := (hx10.keep hk11 (by simp)).keep hk12 (nmem1 (by omega))
  have hy12 := (hy10.keep hk11 (by simp)).keep hk12 (nmem1 (by omega))
  have hK12 : Keeps [] w w12 := (hK10.trans hk11).trans' hk12 (by have := hK10.size; simp; omega)
  clear hw11 hn11 hk11 hk12 hK10 hx10 hy10
  go_wp2_with (first | (refine wpList_load_blk rfl 27 _ rfl w2.heap.size 27 x.cells rfl hx12 _ Tryd.underlying27 rfl (by kernel_rfl) ?_) | (refine wpList_load_blk_g rfl 27 _ rfl w2.heap.size 27 x.cells rfl hx12 _ Tryd.underlying27 rfl (by kernel_rfl) ?_) | (refine wpList_load_blk rfl 27 _ rfl w5.heap.size 27 y.cells rfl hy12 _ Tryd.underlying27 rfl (by kernel_rfl) ?_) | (refine wpList_load_blk_g rfl 27 _ rfl w5.heap.size 27 y.cells rfl hy12 _ Tryd.underlying27 rfl (by kernel_rfl) ?_) | (refine wpList_load_blk rfl 27 _ rfl w10.heap.size 27 x.cells rfl hz12 _ Tryd.underlying27 rfl (by kernel_rfl) ?_) | (refine wpList_load_blk_g rfl 27 _ rfl w10.heap.size 27 x.cells rfl hz12 _ Tryd.underlying27 rfl (by kernel_rfl) ?_))
  refine (read_any s w12 (hG.keep0 hK12) hroom).mono ?_
  rintro e w13 ⟨⟨v, rfl, hv⟩, hk13⟩
  rw [HR.out] at hv
  rw [← HD.out]
  have hK13 := hK12.trans hk13
  clear hk13 hK12 hx12 hy12 hz12
  simp only [ReadErr] at hv
  subst hv
  obtain ⟨w14, hw14⟩ : ∃ w14, w13.alloc (.cells (Cmd.zero 0).cells 27) = w14 := ⟨_, rfl⟩
  have hn14 : Blk w14 w13.heap.size 27 (Cmd.zero 0).cells := by rw [← hw14]; exact Blk.new _ _ _
  have hk14 : Keeps [] w13 w14 := by rw [← hw14]; exact (Keeps.refl _ _).alloc _
  unfold Cmd.zero Cmd.cells at hw14
  go_wp2_with (refine wpList_store_blk rfl 27 _ _ rfl w13.heap.size 27 (Cmd.zero 0).cells d.cells rfl rfl hn14 rfl (by kernel_rfl) (Cmd.one _) ?_)
  intro w15 hd15 hk15
  have hK15 : Keeps [] w w15 := (hK13.trans hk14).trans' hk15 (by have := hK13.size; simp; omega)
  clear hw14 hn14 hk14 hk15 hK13
  go_wp2_with (first | (refine wpList_load_blk rfl 27 _ rfl w13.heap.size 27 d.cells rfl hd15 _ Tryd.underlying27 rfl (by kernel_rfl) ?_) | (refine wpList_load_blk_g rfl 27 _ rfl w13.heap.size 27 d.cells rfl hd15 _ Tryd.underlying27 rfl (by kernel_rfl) ?_))
  refine (bytes_good d w15 hdo hdg).mono ?_
  rintro e w16 ⟨rfl, hk16⟩
  rw [← HDB.out]
  go_wp2_with fail
  go_ret
  exact ⟨rfl, hK15.trans hk16⟩

end Go.Proofs.YtnlhmlgoipnekaaDoor
