/- quitrentlaw23.awake. -/
import Derived.Test.YtnlhmlgoipnekaaDoorAt
import Derived.Test.YtnlhmlgoipnekaaDoorBytes
import Derived.Test.YtnlhmlgoipnekaaDoorName
import Derived.Test.YtnlhmlgoipnekaaDoorRd
import Derived.Test.YtnlhmlgoipnekaaDoorStore
import Derived.Test.YtnlhmlgoipnekaaDoorTrim
namespace Go.Proofs.YtnlhmlgoipnekaaDoor
open Go.RowKit

def c18 : Cmd := { Cmd.zero 18 with n := 5 }
def c171 : Cmd := { Cmd.zero 17 with n := 1 }
theorem awake_b : (Cmd.zero 17).bytes = [34] := by decide +kernel
theorem awake_g : (Cmd.zero 17).good = true := by decide +kernel
theorem awake_g1 : c171.good = false := by decide +kernel
theorem awake_n : (nameOf 15).toArray = #[115, 117, 98, 109, 105, 116] := by decide +kernel
theorem awake_r1 : readC ⟨#[36, 10]⟩ = (c18, none) := by decide +kernel
theorem awake_r2 : readC ⟨#[36]⟩ = (Cmd.zero 0, some 1) := by decide +kernel

set_option maxRecDepth 100000 in
set_option maxHeartbeats 2000000 in
theorem awake_any {B : Nat} {ea ef : Addr} (w : World) (hG : Glob B ea ef w) :
    Calls Tryd.prog 10 #[] w fun e w' => e = .returned (.bool true) ∧ Keeps [] w w' := by
  go_enter Tryd.func10, Tryd.ntmps10
  go_wp2_with fail
  refine (bytes_good (Cmd.zero 17) w (Cmd.zero_ok 17 (by unfold I64; omega)) awake_g).mono ?_
  rintro e w1 ⟨rfl, hk1⟩
  rw [awake_b]
  go_wp2_with fail
  refine (read_any ⟨#[36, 10]⟩ w1 (hG.keep0 hk1) (by unfold Room; decide)).mono ?_
  rintro e w2 ⟨⟨x, rfl, hx⟩, hk2⟩
  rw [awake_r1] at hx ⊢
  simp only [ReadErr] at hx
  subst hx
  have hK2 := hk1.trans hk2
  clear hk1 hk2
  obtain ⟨w3, hw3⟩ : ∃ w3, w2.alloc (.cells (Cmd.zero 0).cells 27) = w3 := ⟨_, rfl⟩
  have hb3 : Blk w3 w2.heap.size 27 (Cmd.zero 0).cells := by rw [← hw3]; exact Blk.new _ _ _
  have hk3 : Keeps [] w2 w3 := by rw [← hw3]; exact (Keeps.refl _ _).alloc _
  have hs3 : w3.heap.size = w2.heap.size + 1 := by rw [← hw3]; simp
  unfold Cmd.zero Cmd.cells at hw3
  obtain ⟨d, hd⟩ : ∃ d, d = c18 := ⟨_, rfl⟩
  have HD := Lib.hid hd
  have hcd : (c18.cells) = d.cells := by rw [hd]
  simp only [hcd]
  clear hd hcd
  go_wp2_with (refine wpList_store_blk rfl 27 _ _ rfl w2.heap.size 27 (Cmd.zero 0).cells d.cells rfl rfl hb3 rfl (by kernel_rfl) (Cmd.one _) ?_)
  intro w4 hb4 hk4
  have hK4 : Keeps [] w w4 := (hK2.trans hk3).trans' hk4 (by have := hK2.size; simp; omega)
  have hs4 : w2.heap.size < w4.heap.size := hb4.lt
  clear hw3 hb3 hk3 hk4 hK2 hs3
  go_wp2_with fail
  refine (read_any ⟨#[36]⟩ w4 (hG.keep0 hK4) (by unfold Room; decide)).mono ?_
  rintro e w5 ⟨⟨x, rfl, hx⟩, hk5⟩
  rw [awake_r2] at hx ⊢
  obtain ⟨fb, rfl, hF⟩ := hx
  have hb5 := hb4.keep hk5 (by simp)
  have hK5 := hK4.trans hk5
  clear hk5 hb4 hK4
  obtain ⟨w6, hw6⟩ : ∃ w6, w5.alloc (.cells (Cmd.zero 0).cells 27) = w6 := ⟨_, rfl⟩
  have hb6' : Blk w6 w5.heap.size 27 (Cmd.zero 0).cells := by rw [← hw6]; exact Blk.new _ _ _
  have hk6 : Keeps [] w5 w6 := by rw [← hw6]; exact (Keeps.refl _ _).alloc _
  unfold Cmd.zero Cmd.cells at hw6
  obtain ⟨z, hz⟩ : ∃ z, z = Cmd.zero 0 := ⟨_, rfl⟩
  have hcz : (Cmd.zero 0).cells = z.cells := by rw [hz]
  rw [hcz] at hb6'
  simp only [hcz]
  clear hz hcz
  have hl5 := hb5.lt
  have hlF := hF.lt
  have hs5 := hK5.size
  go_wp2_with (refine wpList_store_blk rfl 27 _ _ rfl w5.heap.size 27 z.cells z.cells rfl rfl hb6' rfl (by kernel_rfl) (Cmd.one _) ?_)
  intro w7 hb7 hk7
  have hb7 := (hb5.keep hk6 (by simp)).keep hk7 (nmem1 (by omega))
  have hF7 := (hF.keep hk6 (by simp)).keep hk7 (nmem1 (by omega))
  have hK7 : Keeps [] w w7 := (hK5.trans hk6).trans' hk7 (by simp; omega)
  clear hw6 hb6' hk6 hk7 hK5 hF hb5
  go_wp2_with fail
  refine (bytes_bad c171 w7 (hG.keep0 hK7) awake_g1).mono ?_
  rintro e w8 ⟨rfl, hk8⟩
  have hb8 := hb7.keep hk8 (by simp)
  have hF8 := hF7.keep hk8 (by simp)
  have hK8 := hK7.trans hk8
  have hG8 := hG.keep0 hK8
  have ha8 := hG8.arg
  have he : ∀ w : World, (binOp .eql 27 (.agg d.cells) (.agg #[.int .i64 18, .int .i64 0, .int .i64 0, .int .i64 0, .int .i64 0, .int .i64 0, .int .i64 5, .int .i64 0, .int .i64 0, .int .i64 0, .int .i64 0, .int .i64 0, .int .i64 0, .int .i64 0, .bool false])).run Tryd.prog w = .ok (.bool true) w := fun w => by
    refine (eql_cmd d c18 w).trans ?_
    rw [HD.out]
    simp
  clear hb7 hF7 hK7 hk8
  go_wp2_with (refine wpList_load_blk_g rfl 27 _ rfl w2.heap.size 27 d.cells rfl hb8 _ Tryd.underlying27 rfl (by kernel_rfl) ?_)
  refine (at_fault fb 1 w8 hG8 hF8).mono ?_
  rintro e w9 ⟨rfl, hk9⟩
  have hG9 := hG8.keep0 hk9
  have ha9 := hG9.arg
  have hK9 := hK8.trans hk9
  go_wp2_with fail
  refine (is_any ea w9 hG9.oarg true [] _ (some ea) rfl (by simp) (by rintro a ⟨⟩; exact hG9.oarg)).mono ?_
  rintro e w10 ⟨rfl, rfl⟩
  go_wp2_with fail
  refine (name_any 15 w9).mono ?_
  rintro e w10 ⟨rfl, hk10⟩
  rw [awake_n]
  go_wp2_with fail
  go_ret
  exact ⟨rfl, hK9.trans hk10⟩

end Go.Proofs.YtnlhmlgoipnekaaDoor
