/- The reference's commands: Has, Name, walked. -/
import Derived.Test.YtnlhmlgoipnekaaDoorRfP
import Derived.Test.YtnlhmlgoipnekaaDoorQuiet
import Derived.WalkSpells
import Derived.WalkLawsBesides
import Derived.Test.YtnlhmlgoipnekaaDoorStore
namespace Go.Proofs.YtnlhmlgoipnekaaDoor
open Go.RowKit

def zero22 : Array Value := #[.string ⟨#[]⟩, .string ⟨#[]⟩, .string ⟨#[]⟩, .string ⟨#[]⟩, .string ⟨#[]⟩, .string ⟨#[]⟩, .string ⟨#[]⟩, .string ⟨#[]⟩, .string ⟨#[]⟩, .string ⟨#[]⟩, .string ⟨#[]⟩, .string ⟨#[]⟩, .string ⟨#[]⟩, .string ⟨#[]⟩, .string ⟨#[]⟩, .string ⟨#[]⟩, .string ⟨#[]⟩, .string ⟨#[]⟩, .string ⟨#[]⟩, .string ⟨#[]⟩, .string ⟨#[]⟩, .string ⟨#[]⟩]

def hasV : Array Value := #[.string ⟨#[]⟩, .string ⟨#[105, 111]⟩, .string ⟨#[105]⟩, .string ⟨#[105, 99, 118]⟩, .string ⟨#[105]⟩, .string ⟨#[105]⟩, .string ⟨#[105]⟩, .string ⟨#[105]⟩, .string ⟨#[105, 99, 98, 119, 118]⟩, .string ⟨#[105, 99, 98, 119, 118]⟩, .string ⟨#[105, 111, 99, 98, 119, 118]⟩, .string ⟨#[105, 110]⟩, .string ⟨#[105, 110]⟩, .string ⟨#[105, 111, 99, 98, 119, 110, 109, 102]⟩, .string ⟨#[105]⟩, .string ⟨#[105, 111, 99, 98, 110, 109, 112, 113, 118, 102]⟩, .string ⟨#[105]⟩, .string ⟨#[]⟩, .string ⟨#[110]⟩, .string ⟨#[105, 99, 98, 119]⟩, .string ⟨#[105]⟩, .string ⟨#[105]⟩]

theorem hasV_at (k : Int) (h1 : 1 ≤ k) (h2 : k ≤ 21) : hasV[k.toNat]? = some (.string ⟨(hasL k).toArray⟩) := by
  have h : k = 1 ∨ k = 2 ∨ k = 3 ∨ k = 4 ∨ k = 5 ∨ k = 6 ∨ k = 7 ∨ k = 8 ∨ k = 9 ∨ k = 10 ∨ k = 11 ∨ k = 12 ∨ k = 13 ∨ k = 14 ∨ k = 15 ∨ k = 16 ∨ k = 17 ∨ k = 18 ∨ k = 19 ∨ k = 20 ∨ k = 21 := by omega
  rcases h with rfl | rfl | rfl | rfl | rfl | rfl | rfl | rfl | rfl | rfl | rfl | rfl | rfl | rfl | rfl | rfl | rfl | rfl | rfl | rfl | rfl <;> rfl

theorem hasV_one : hasV.all (·.oneCell') = true := by unfold hasV; simp [Value.oneCell']

set_option maxRecDepth 100000 in
set_option maxHeartbeats 2000000 in
theorem has_any (k : Int) (w : World) :
    Calls Tryd.prog 50 #[.int .i64 k] w fun e w' => e = .returned (.string ⟨(hasL k).toArray⟩) ∧ Keeps [] w w' := by
  obtain ⟨w0, hw0⟩ : ∃ w0, w.alloc (.cells zero22 94) = w0 := ⟨_, rfl⟩
  have hB : Blk w0 w.heap.size 94 zero22 := by rw [← hw0]; exact Blk.new _ _ _
  have hk0 : Keeps [] w w0 := by rw [← hw0]; exact (Keeps.refl _ _).alloc _
  unfold zero22 at hw0
  obtain ⟨r, hr⟩ : ∃ r, r = (hasL k).toArray := ⟨_, rfl⟩
  rw [← hr]
  by_cases h1 : 1 ≤ k
  · by_cases h2 : k ≤ 21
    · have HV := Lib.hid (hasV_at k h1 h2)
      have HR := Lib.hid hr
      clear hr
      obtain ⟨V, hV⟩ : ∃ V, V = hasV := ⟨_, rfl⟩
      have h22 : V.size = zero22.size := by rw [hV]; rfl
      have hone : V.all (·.oneCell') = true := by rw [hV]; exact hasV_one
      have h22' := Lib.hid h22
      have hone' := Lib.hid hone
      clear h22 hone
      go_enter Tryd.func50, Tryd.ntmps50
      go_wp2_with (refine wpList_store_blk rfl 94 _ _ rfl w.heap.size 94 zero22 V rfl (by rw [hV]; rfl) hB h22'.out (by rw [h22'.out]; kernel_rfl) hone'.out ?_)
      intro w1 hb1 hk1
      have hc : w1.cell? ⟨w.heap.size, k.toNat, none⟩ = some (.string ⟨r⟩) := by rw [hb1.cell, HV.out, HR.out]
      have hK : Keeps [] w w1 := hk0.trans' hk1 (by simp)
      clear hB hb1 hw0 hk0 hk1 hV
      go_wp2_with fail
      go_ret
      exact ⟨rfl, hK⟩
    · rw [hasL_none k (by omega)] at hr
      subst hr
      obtain ⟨V, hV⟩ : ∃ V, V = hasV := ⟨_, rfl⟩
      have h22' := Lib.hid (show V.size = zero22.size by rw [hV]; rfl)
      have hone' := Lib.hid (show V.all (·.oneCell') = true by rw [hV]; exact hasV_one)
      go_enter Tryd.func50, Tryd.ntmps50
      go_wp2_with (refine wpList_store_blk rfl 94 _ _ rfl w.heap.size 94 zero22 V rfl (by rw [hV]; rfl) hB h22'.out (by rw [h22'.out]; kernel_rfl) hone'.out ?_)
      intro w1 hb1 hk1
      have hK : Keeps [] w w1 := hk0.trans' hk1 (by simp)
      clear hB hb1 hw0 hk0 hk1 hV
      go_wp2_with fail
      go_ret
      exact ⟨rfl, hK⟩
  · rw [hasL_none k (by omega)] at hr
    subst hr
    obtain ⟨V, hV⟩ : ∃ V, V = hasV := ⟨_, rfl⟩
    have h22' := Lib.hid (show V.size = zero22.size by rw [hV]; rfl)
    have hone' := Lib.hid (show V.all (·.oneCell') = true by rw [hV]; exact hasV_one)
    go_enter Tryd.func50, Tryd.ntmps50
    go_wp2_with (refine wpList_store_blk rfl 94 _ _ rfl w.heap.size 94 zero22 V rfl (by rw [hV]; rfl) hB h22'.out (by rw [h22'.out]; kernel_rfl) hone'.out ?_)
    intro w1 hb1 hk1
    have hK : Keeps [] w w1 := hk0.trans' hk1 (by simp)
    clear hB hb1 hw0 hk0 hk1 hV
    go_wp2_with fail
    go_ret
    exact ⟨rfl, hK⟩

def rfNameV : Array Value := #[.string ⟨#[]⟩, .string ⟨#[116, 101, 110, 97, 110, 116]⟩, .string ⟨#[114, 101, 116, 105, 114, 101]⟩, .string ⟨#[109, 97, 99, 104, 105, 110, 101]⟩, .string ⟨#[115, 99, 114, 97, 112]⟩, .string ⟨#[108, 111, 115, 101]⟩, .string ⟨#[100, 114, 97, 105, 110]⟩, .string ⟨#[114, 101, 116, 117, 114, 110]⟩, .string ⟨#[103, 114, 97, 110, 116]⟩, .string ⟨#[114, 101, 118, 111, 107, 101]⟩, .string ⟨#[100, 101, 108, 101, 103, 97, 116, 101]⟩, .string ⟨#[99, 114, 101, 100, 105, 116]⟩, .string ⟨#[100, 101, 98, 105, 116]⟩, .string ⟨#[111, 102, 102, 101, 114]⟩, .string ⟨#[99, 97, 110, 99, 101, 108]⟩, .string ⟨#[115, 117, 98, 109, 105, 116]⟩, .string ⟨#[102, 105, 110, 105, 115, 104]⟩, .string ⟨#[114, 101, 116, 114, 121]⟩, .string ⟨#[116, 105, 99, 107]⟩, .string ⟨#[97, 99, 99, 111, 117, 110, 116]⟩, .string ⟨#[112, 117, 114, 115, 101]⟩, .string ⟨#[106, 111, 98]⟩]

theorem rfNameV_at (k : Int) (h1 : 1 ≤ k) (h2 : k ≤ 21) : rfNameV[k.toNat]? = some (.string ⟨(nameOf k).toArray⟩) := by
  have h : k = 1 ∨ k = 2 ∨ k = 3 ∨ k = 4 ∨ k = 5 ∨ k = 6 ∨ k = 7 ∨ k = 8 ∨ k = 9 ∨ k = 10 ∨ k = 11 ∨ k = 12 ∨ k = 13 ∨ k = 14 ∨ k = 15 ∨ k = 16 ∨ k = 17 ∨ k = 18 ∨ k = 19 ∨ k = 20 ∨ k = 21 := by omega
  rcases h with rfl | rfl | rfl | rfl | rfl | rfl | rfl | rfl | rfl | rfl | rfl | rfl | rfl | rfl | rfl | rfl | rfl | rfl | rfl | rfl | rfl <;> rfl

theorem rfNameV_one : rfNameV.all (·.oneCell') = true := by unfold rfNameV; simp [Value.oneCell']

set_option maxRecDepth 100000 in
set_option maxHeartbeats 2000000 in
theorem rfName_any (k : Int) (w : World) :
    Calls Tryd.prog 18 #[.int .i64 k] w fun e w' => e = .returned (.string ⟨(nameOf k).toArray⟩) ∧ Keeps [] w w' := by
  obtain ⟨w0, hw0⟩ : ∃ w0, w.alloc (.cells zero22 94) = w0 := ⟨_, rfl⟩
  have hB : Blk w0 w.heap.size 94 zero22 := by rw [← hw0]; exact Blk.new _ _ _
  have hk0 : Keeps [] w w0 := by rw [← hw0]; exact (Keeps.refl _ _).alloc _
  unfold zero22 at hw0
  obtain ⟨r, hr⟩ : ∃ r, r = (nameOf k).toArray := ⟨_, rfl⟩
  rw [← hr]
  by_cases h1 : 1 ≤ k
  · by_cases h2 : k ≤ 21
    · have HV := Lib.hid (rfNameV_at k h1 h2)
      have HR := Lib.hid hr
      clear hr
      obtain ⟨V, hV⟩ : ∃ V, V = rfNameV := ⟨_, rfl⟩
      have h22 : V.size = zero22.size := by rw [hV]; rfl
      have hone : V.all (·.oneCell') = true := by rw [hV]; exact rfNameV_one
      have h22' := Lib.hid h22
      have hone' := Lib.hid hone
      clear h22 hone
      go_enter Tryd.func18, Tryd.ntmps18
      go_wp2_with (refine wpList_store_blk rfl 94 _ _ rfl w.heap.size 94 zero22 V rfl (by rw [hV]; rfl) hB h22'.out (by rw [h22'.out]; kernel_rfl) hone'.out ?_)
      intro w1 hb1 hk1
      have hc : w1.cell? ⟨w.heap.size, k.toNat, none⟩ = some (.string ⟨r⟩) := by rw [hb1.cell, HV.out, HR.out]
      have hK : Keeps [] w w1 := hk0.trans' hk1 (by simp)
      clear hB hb1 hw0 hk0 hk1 hV
      go_wp2_with fail
      go_ret
      exact ⟨rfl, hK⟩
    · rw [nameOf_none k (by omega)] at hr
      subst hr
      obtain ⟨V, hV⟩ : ∃ V, V = rfNameV := ⟨_, rfl⟩
      have h22' := Lib.hid (show V.size = zero22.size by rw [hV]; rfl)
      have hone' := Lib.hid (show V.all (·.oneCell') = true by rw [hV]; exact rfNameV_one)
      go_enter Tryd.func18, Tryd.ntmps18
      go_wp2_with (refine wpList_store_blk rfl 94 _ _ rfl w.heap.size 94 zero22 V rfl (by rw [hV]; rfl) hB h22'.out (by rw [h22'.out]; kernel_rfl) hone'.out ?_)
      intro w1 hb1 hk1
      have hK : Keeps [] w w1 := hk0.trans' hk1 (by simp)
      clear hB hb1 hw0 hk0 hk1 hV
      go_wp2_with fail
      go_ret
      exact ⟨rfl, hK⟩
  · rw [nameOf_none k (by omega)] at hr
    subst hr
    obtain ⟨V, hV⟩ : ∃ V, V = rfNameV := ⟨_, rfl⟩
    have h22' := Lib.hid (show V.size = zero22.size by rw [hV]; rfl)
    have hone' := Lib.hid (show V.all (·.oneCell') = true by rw [hV]; exact rfNameV_one)
    go_enter Tryd.func18, Tryd.ntmps18
    go_wp2_with (refine wpList_store_blk rfl 94 _ _ rfl w.heap.size 94 zero22 V rfl (by rw [hV]; rfl) hB h22'.out (by rw [h22'.out]; kernel_rfl) hone'.out ?_)
    intro w1 hb1 hk1
    have hK : Keeps [] w w1 := hk0.trans' hk1 (by simp)
    clear hB hb1 hw0 hk0 hk1 hV
    go_wp2_with fail
    go_ret
    exact ⟨rfl, hK⟩

end Go.Proofs.YtnlhmlgoipnekaaDoor
