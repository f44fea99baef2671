/- package order: Name. -/
import Derived.Test.YtnlhmlgoipnekaaDoorMem
import Derived.Test.YtnlhmlgoipnekaaDoorProg
import Derived.WalkSpells
import Derived.WalkLawsBesides
namespace Go.Proofs.YtnlhmlgoipnekaaDoor
open Go.RowKit

/-- A kind's word. -/
def nameOf (k : Int) : List UInt8 :=
  if k = 1 then [116, 101, 110, 97, 110, 116] else if k = 2 then [114, 101, 116, 105, 114, 101] else if k = 3 then [109, 97, 99, 104, 105, 110, 101] else if k = 4 then [115, 99, 114, 97, 112] else if k = 5 then [108, 111, 115, 101] else if k = 6 then [100, 114, 97, 105, 110] else if k = 7 then [114, 101, 116, 117, 114, 110] else if k = 8 then [103, 114, 97, 110, 116] else if k = 9 then [114, 101, 118, 111, 107, 101] else if k = 10 then [100, 101, 108, 101, 103, 97, 116, 101] else if k = 11 then [99, 114, 101, 100, 105, 116] else if k = 12 then [100, 101, 98, 105, 116] else if k = 13 then [111, 102, 102, 101, 114] else if k = 14 then [99, 97, 110, 99, 101, 108] else if k = 15 then [115, 117, 98, 109, 105, 116] else if k = 16 then [102, 105, 110, 105, 115, 104] else if k = 17 then [114, 101, 116, 114, 121] else if k = 18 then [116, 105, 99, 107] else if k = 19 then [97, 99, 99, 111, 117, 110, 116] else if k = 20 then [112, 117, 114, 115, 101] else if k = 21 then [106, 111, 98] else []

def namesV : Array Value := #[.string ⟨#[116, 101, 110, 97, 110, 116]⟩, .string ⟨#[114, 101, 116, 105, 114, 101]⟩, .string ⟨#[109, 97, 99, 104, 105, 110, 101]⟩, .string ⟨#[115, 99, 114, 97, 112]⟩, .string ⟨#[108, 111, 115, 101]⟩, .string ⟨#[100, 114, 97, 105, 110]⟩, .string ⟨#[114, 101, 116, 117, 114, 110]⟩, .string ⟨#[103, 114, 97, 110, 116]⟩, .string ⟨#[114, 101, 118, 111, 107, 101]⟩, .string ⟨#[100, 101, 108, 101, 103, 97, 116, 101]⟩, .string ⟨#[99, 114, 101, 100, 105, 116]⟩, .string ⟨#[100, 101, 98, 105, 116]⟩, .string ⟨#[111, 102, 102, 101, 114]⟩, .string ⟨#[99, 97, 110, 99, 101, 108]⟩, .string ⟨#[115, 117, 98, 109, 105, 116]⟩, .string ⟨#[102, 105, 110, 105, 115, 104]⟩, .string ⟨#[114, 101, 116, 114, 121]⟩, .string ⟨#[116, 105, 99, 107]⟩, .string ⟨#[97, 99, 99, 111, 117, 110, 116]⟩, .string ⟨#[112, 117, 114, 115, 101]⟩, .string ⟨#[106, 111, 98]⟩]

theorem namesV_at (k : Int) (h1 : 1 ≤ k) (h2 : k ≤ 21) : namesV[k.toNat - 1]? = some (.string ⟨(nameOf k).toArray⟩) := by
  have h : k = 1 ∨ k = 2 ∨ k = 3 ∨ k = 4 ∨ k = 5 ∨ k = 6 ∨ k = 7 ∨ k = 8 ∨ k = 9 ∨ k = 10 ∨ k = 11 ∨ k = 12 ∨ k = 13 ∨ k = 14 ∨ k = 15 ∨ k = 16 ∨ k = 17 ∨ k = 18 ∨ k = 19 ∨ k = 20 ∨ k = 21 := by omega
  rcases h with rfl | rfl | rfl | rfl | rfl | rfl | rfl | rfl | rfl | rfl | rfl | rfl | rfl | rfl | rfl | rfl | rfl | rfl | rfl | rfl | rfl <;> rfl

theorem nameOf_none (k : Int) (h : ¬ (1 ≤ k ∧ k ≤ 21)) : nameOf k = [] := by
  unfold nameOf
  repeat (rw [if_neg (by omega)])

set_option maxRecDepth 100000 in
set_option maxHeartbeats 1000000 in
theorem name_any (k : Int) (w : World) :
    Calls Tryd.prog 17 #[.int .i64 k] w fun e w' => e = .returned (.string ⟨(nameOf k).toArray⟩) ∧ Keeps [] w w' := by
  have hB : Blk (w.alloc (.cells namesV 9)) w.heap.size 9 namesV := Blk.new _ _ _
  have hk0 : Keeps [] w (w.alloc (.cells namesV 9)) := (Keeps.refl _ _).alloc _
  obtain ⟨w0, hw0⟩ : ∃ w0, w.alloc (.cells namesV 9) = w0 := ⟨_, rfl⟩
  rw [hw0] at hB hk0
  unfold namesV at hw0
  by_cases h1 : 1 ≤ k
  · by_cases h2 : k ≤ 21
    · have hc : w0.cell? ⟨w.heap.size, k.toNat - 1, none⟩ = some (.string ⟨(nameOf k).toArray⟩) := by rw [hB.cell, namesV_at k h1 h2]
      generalize (nameOf k).toArray = r at hc ⊢
      go_enter Tryd.func17, Tryd.ntmps17
      go_wp2_with fail
      go_ret
      exact ⟨rfl, hk0⟩
    · rw [nameOf_none k (by omega)]
      go_enter Tryd.func17, Tryd.ntmps17
      go_wp2_with fail
      go_ret
      exact ⟨rfl, hk0⟩
  · rw [nameOf_none k (by omega)]
    go_enter Tryd.func17, Tryd.ntmps17
    go_wp2_with fail
    go_ret
    exact ⟨rfl, hk0⟩

end Go.Proofs.YtnlhmlgoipnekaaDoor
