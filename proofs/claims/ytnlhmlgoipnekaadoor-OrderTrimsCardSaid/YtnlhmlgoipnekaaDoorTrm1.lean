/- quitrentlaw23.OrderTrims: the walk at a kind that is one, the command good. -/
import Derived.Test.YtnlhmlgoipnekaaDoorAwake
import Derived.Test.YtnlhmlgoipnekaaDoorPln
import Derived.Test.YtnlhmlgoipnekaaDoorStr
import Derived.Test.YtnlhmlgoipnekaaDoorQLd
namespace Go.Proofs.YtnlhmlgoipnekaaDoor
open Go.RowKit

set_option maxRecDepth 100000 in
set_option maxHeartbeats 2000000 in
theorem trims_in1 {B : Nat} {ea ef : Addr} (c : Cmd) (w : World) (hG : Glob B ea ef w) (hc : c.Ok) (h1 : 1 ≤ c.kind) (h2 : c.kind ≤ 21) (hg : c.good = true) :
    Calls Tryd.prog 5 #[.agg c.cells] w fun e w' => e = .returned (.bool true) ∧ Keeps [] w w' := by
  have H1 := Lib.hid h1
  have H2 := Lib.hid h2
  have HGG := Lib.hid hg
  clear h1 h2 hg
  obtain ⟨w0, hw0⟩ : ∃ w0, w.alloc (.cells c.cells 27) = w0 := ⟨_, rfl⟩
  have hb0 : Blk w0 w.heap.size 27 c.cells := by rw [← hw0]; exact Blk.new _ _ _
  have hk0 : Keeps [] w w0 := by rw [← hw0]; exact (Keeps.refl _ _).alloc _
  go_enter Tryd.func5, Tryd.ntmps5
  go_wp2_with fail
  clear hw0
  refine (awake_any w0 (hG.keep0 hk0)).mono ?_
  rintro e w1 ⟨rfl, hk1⟩
  have hb1 := hb0.keep hk1 (by simp)
  have hK1 := hk0.trans hk1
  clear hk0 hk1 hb0
  go_wp2_with (refine wpList_load_blk rfl 27 _ rfl w.heap.size 27 c.cells rfl hb1 _ Tryd.underlying27 rfl (by kernel_rfl) ?_)
  refine (trim_any c w1 (hG.keep0 hK1) hc).mono ?_
  rintro e w2 ⟨rfl, hk2⟩
  have hb2 := hb1.keep hk2 (by simp)
  have hK2 := hK1.trans hk2
  have hs2 := hb2.lt
  clear hk2 hb1 hK1
  obtain ⟨d, hd⟩ : ∃ d, d = c.trim := ⟨_, rfl⟩
  rw [← hd]
  have hdt : d.trim = d := by rw [hd]; exact trim_trim c
  have hdo : d.Ok := by rw [hd]; exact trim_ok c hc
  have hdg : d.good = true := by rw [hd, trim_in c H1.out H2.out]; exact proj_good c H1.out H2.out
  have hdk : d.kind = c.kind := by rw [hd, trim_in c H1.out H2.out]; exact proj_kind c H1.out H2.out
  have hcg : c.good = true → d = c := fun h => by rw [hd, trim_in c H1.out H2.out]; exact good_proj c h
  have HCG := Lib.hid hcg
  have HDK := Lib.hid hdk
  clear hd hcg hdk
  obtain ⟨w3, hw3⟩ : ∃ w3, w2.alloc (.cells (Cmd.zero 0).cells 27) = w3 := ⟨_, rfl⟩
  have hb3 : Blk w3 w2.heap.size 27 (Cmd.zero 0).cells := by rw [← hw3]; exact Blk.new _ _ _
  have hk3 : Keeps [] w2 w3 := by rw [← hw3]; exact (Keeps.refl _ _).alloc _
  unfold Cmd.zero Cmd.cells at hw3
  go_wp2_with (refine wpList_store_blk rfl 27 _ _ rfl w2.heap.size 27 (Cmd.zero 0).cells d.cells rfl rfl hb3 rfl (by kernel_rfl) (Cmd.one _) ?_)
  intro w4 hx4 hk4
  have hb4 := (hb2.keep hk3 (by simp)).keep hk4 (nmem1 (by omega))
  have hK4 : Keeps [] w w4 := (hK2.trans hk3).trans' hk4 (by have := hK2.size; simp; omega)
  clear hw3 hb3 hk3 hk4 hK2 hb2
  have hG4 := hG.keep0 hK4
  have HGp : ∀ p, Glob B ea ef (kw w4 p) := fun p => hG4.keep0 (kw_keeps w4 p)
  have hne : ∀ w : World, (binOp .neq 27 (.agg d.cells) (.agg d.cells)).run Tryd.prog w = .ok (.bool false) w := fun w => (neq_cmd d d w).trans (by simp)
  have hnec : ∀ w : World, (binOp .neq 27 (.agg d.cells) (.agg c.cells)).run Tryd.prog w = .ok (.bool false) w := fun w => (neq_cmd d c w).trans (by simp [HCG.out HGG.out])
  have HT : ∀ w, Glob B ea ef w → Calls Tryd.prog 15 #[.agg d.cells] w fun e w' => e = .returned (.agg d.cells) ∧ Keeps [] w w' := fun w g => by
    have := trim_any d w g hdo
    rw [hdt] at this
    exact this
  have HGc : ∀ w, Calls Tryd.prog 14 #[.agg c.cells] w fun e w' => e = .returned (.bool true) ∧ Keeps [] w w' := fun w => by
    have := good_any c w
    rw [HGG.out] at this
    exact this
  have HGd : ∀ w, Calls Tryd.prog 14 #[.agg d.cells] w fun e w' => e = .returned (.bool true) ∧ Keeps [] w w' := fun w => by
    have := good_any d w
    rw [hdg] at this
    exact this
  have hnm := nameOf_some c.kind H1.out H2.out
  obtain ⟨r, hr⟩ : ∃ r : ByteArray, r = ⟨(nameOf c.kind).toArray⟩ := ⟨_, rfl⟩
  have hrn : ¬ (r = ⟨#[]⟩) := by rw [hr]; simp [hnm]
  have hrl : r.toList.isEmpty = false := by rw [ByteArray.toList_eq, List.isEmpty_eq_false_iff]; intro h; exact hrn (by cases r; simp at h; rw [h])
  have HR := Lib.hid hr
  clear hr
  have hnl := bytes_ne d
  have hpos : 0 < d.bytes.length := List.length_pos_iff.2 hnl
  obtain ⟨bs, hbs⟩ : ∃ bs : ByteArray, bs = ⟨d.bytes.toArray⟩ := ⟨_, rfl⟩
  have hbl2 : 0 < bs.size := by rw [hbs]; simpa [ByteArray.size] using hpos
  have hbl : (0 : Int) < (bs.size : Int) := by omega
  have HBS := Lib.hid hbs
  clear hbs
  have hyo : ({ c with kind := 17 } : Cmd).Ok := ⟨by show I64 17; unfold I64; omega, hc.2⟩
  have hyt := trim_17 c
  obtain ⟨y, hy⟩ : ∃ y : Cmd, y = { c with kind := 17 } := ⟨_, rfl⟩
  have hyc : c.cells.setIfInBounds 0 (.int .i64 17) = y.cells := by rw [hy]; rfl
  rw [← hy] at hyo hyt
  clear hy hnl hpos hnm hrn
  go_wp2_with fail
  refine wp_region_kw (by kernel_rfl) (by kernel_rfl) ?_
  repeat (first | (refine wpQuiet_load_blk rfl 27 _ rfl w.heap.size 27 c.cells rfl (blk_kw hb4) _ Tryd.underlying27 rfl (by kernel_rfl) ?_; go_simp) | (refine wpQuiet_load_blk rfl 27 _ rfl w2.heap.size 27 d.cells rfl (blk_kw hx4) _ Tryd.underlying27 rfl (by kernel_rfl) ?_; go_simp) | (go_big_quiet_step ((first | (go_at_call 15; refine calls_kw (HT _ (HGp _))) | (go_at_call 14; refine calls_kw (HGc _))))))
  refine wpQuiet_nil ?_
  intro p
  have hb5 := hb4.keep (kw_keeps w4 p) (by simp)
  have hx5 := hx4.keep (kw_keeps w4 p) (by simp)
  have hK5 := hK4.trans (kw_keeps w4 p)
  obtain ⟨w5, hw5⟩ : ∃ w5, kw w4 p = w5 := ⟨_, rfl⟩
  rw [hw5] at hb5 hx5 hK5 ⊢
  clear hw5 hne HGp hG4 hb4 hx4 hK4 hnec HT
  have ck : w5.cell? ⟨w.heap.size, 0, none⟩ = some (.int .i64 c.kind) := by rw [hb5.cell]; rfl
  go_wp2_with fail
  refine (name_any c.kind w5).mono ?_
  rintro e w6 ⟨rfl, hk6⟩
  rw [← HR.out]
  have hb6 := hb5.keep hk6 (by simp)
  have hx6 := hx5.keep hk6 (by simp)
  have hK6 := hK5.trans hk6
  clear hb5 hx5 hK5 hk6 ck
  go_wp2_with (refine wpList_load_blk rfl 27 _ rfl w2.heap.size 27 d.cells rfl hx6 _ Tryd.underlying27 rfl (by kernel_rfl) ?_)
  refine (bytes_good d w6 hdo hdg).mono ?_
  rintro e w7 ⟨rfl, hk7⟩
  rw [← HBS.out]
  have hb7 := hb6.keep hk7 (by simp)
  have hx7 := hx6.keep hk7 (by simp)
  have hK7 := hK6.trans hk7
  have hs7 := hx7.lt
  clear hb6 hx6 hK6 hk7
  obtain ⟨w8, hw8⟩ : ∃ w8, w7.alloc (.cells (Cmd.zero 0).cells 27) = w8 := ⟨_, rfl⟩
  have hy8 : Blk w8 w7.heap.size 27 (Cmd.zero 0).cells := by rw [← hw8]; exact Blk.new _ _ _
  have hk8 : Keeps [] w7 w8 := by rw [← hw8]; exact (Keeps.refl _ _).alloc _
  unfold Cmd.zero Cmd.cells at hw8
  go_wp2_with (first | (refine wpList_load_blk rfl 27 _ rfl w.heap.size 27 c.cells rfl hb7 _ Tryd.underlying27 rfl (by kernel_rfl) ?_) | (refine wpList_store_blk rfl 27 _ _ rfl w7.heap.size 27 (Cmd.zero 0).cells c.cells rfl rfl hy8 rfl (by kernel_rfl) (Cmd.one _) ?_))
  intro w9 hy9 hk9
  have hb9 := (hb7.keep hk8 (by simp)).keep hk9 (nmem1 (by omega))
  have hx9 := (hx7.keep hk8 (by simp)).keep hk9 (nmem1 (by omega))
  have hK9 : Keeps [] w w9 := (hK7.trans hk8).trans' hk9 (by have := hK7.size; simp; omega)
  clear hw8 hy8 hk8 hk9 hK7 hb7 hx7
  obtain ⟨w10, hw10⟩ : ∃ w10, w9.setCell ⟨w7.heap.size, 0, none⟩ (.int .i64 17) = w10 := ⟨_, rfl⟩
  have hy10 : Blk w10 w7.heap.size 27 y.cells := by rw [← hw10, ← hyc]; exact hy9.set 0 _
  have hk10 : Keeps [w7.heap.size] w9 w10 := by rw [← hw10]; exact (Keeps.refl _ _).setCell (by simp) _
  have hb10 := hb9.keep hk10 (nmem1 (by omega))
  have hx10 := hx9.keep hk10 (nmem1 (by omega))
  have hs10 := hK9.size
  have hK10 : Keeps [] w w10 := hK9.trans' hk10 (by simp; omega)
  have cy9 : w9.cell? ⟨w7.heap.size, 0, none⟩ = some (.int .i64 c.kind) := by rw [hy9.cell]; rfl
  have fy9 := hy9.frz 0
  clear hy9 hb9 hx9 hK9 hk10
  go_wp2_with (refine wpList_load_blk rfl 27 _ rfl w2.heap.size 27 d.cells rfl hx10 _ Tryd.underlying27 rfl (by kernel_rfl) ?_)
  refine (HGd w10).mono ?_
  rintro e w11 ⟨rfl, hk11⟩
  have hy11 := hy10.keep hk11 (by simp)
  have hb11 := hb10.keep hk11 (by simp)
  have hx11 := hx10.keep hk11 (by simp)
  have hK11 := hK10.trans hk11
  have cka : w11.cell? ⟨w.heap.size, 0, none⟩ = some (.int .i64 c.kind) := by rw [hb11.cell]; rfl
  have ckx : w11.cell? ⟨w2.heap.size, 0, none⟩ = some (.int .i64 c.kind) := by rw [hx11.cell, ← HDK.out]; rfl
  have heq : ∀ w : World, (binOp .eql 27 (.agg (Cmd.zero 17).cells) (.agg #[.int .i64 17, .int .i64 0, .int .i64 0, .int .i64 0, .int .i64 0, .int .i64 0, .int .i64 0, .int .i64 0, .int .i64 0, .int .i64 0, .int .i64 0, .int .i64 0, .int .i64 0, .int .i64 0, .bool false])).run Tryd.prog w = .ok (.bool true) w := fun w => (eql_cmd (Cmd.zero 17) (Cmd.zero 17) w).trans (by simp)
  clear hw10 cy9 fy9 hy10 hb10 hx10 hK10 hk11
  go_wp2_with (first | (refine wpList_load_blk_g rfl 27 _ rfl w7.heap.size 27 y.cells rfl hy11 _ Tryd.underlying27 rfl (by kernel_rfl) ?_) | (refine wpList_load_blk_g (by simp [Region.wanted, yielded]) 27 _ rfl w7.heap.size 27 y.cells rfl hy11 _ Tryd.underlying27 rfl (by kernel_rfl) ?_))
  refine (trim_any y w11 (hG.keep0 hK11) hyo).mono ?_
  rintro e w12 ⟨rfl, hk12⟩
  rw [hyt]
  go_wp2_with fail
  go_ret
  exact ⟨rfl, hK11.trans hk12⟩

end Go.Proofs.YtnlhmlgoipnekaaDoor
