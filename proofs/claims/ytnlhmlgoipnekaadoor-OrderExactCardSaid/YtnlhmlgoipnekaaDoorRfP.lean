/- The reference's commands: the plain law. No program in sight. -/
import Derived.Test.YtnlhmlgoipnekaaDoorRW
import Derived.Test.YtnlhmlgoipnekaaDoorPln
namespace Go.Proofs.YtnlhmlgoipnekaaDoor
open Go.RowKit

/-- What a kind has, by letters. -/
def hasL (k : Int) : List UInt8 :=
  if k = 1 then [105, 111] else if k = 2 then [105] else if k = 3 then [105, 99, 118] else if k = 4 then [105] else if k = 5 then [105] else if k = 6 then [105] else if k = 7 then [105] else if k = 8 then [105, 99, 98, 119, 118] else if k = 9 then [105, 99, 98, 119, 118] else if k = 10 then [105, 111, 99, 98, 119, 118] else if k = 11 then [105, 110] else if k = 12 then [105, 110] else if k = 13 then [105, 111, 99, 98, 119, 110, 109, 102] else if k = 14 then [105] else if k = 15 then [105, 111, 99, 98, 110, 109, 112, 113, 118, 102] else if k = 16 then [105] else if k = 17 then [] else if k = 18 then [110] else if k = 19 then [105, 99, 98, 119] else if k = 20 then [105] else if k = 21 then [105] else []

/-- A letter's field. -/
def letF (b : UInt8) : Fld :=
  if b = 118 then .vec else if b = 102 then .flag else if b = 105 then .num 1 else if b = 111 then .num 2 else if b = 99 then .num 3 else if b = 98 then .num 4 else if b = 119 then .num 5 else if b = 110 then .num 6 else if b = 109 then .num 7 else if b = 112 then .num 8 else .num 9

theorem hasL_over (k : Int) (h1 : 1 ≤ k) (h2 : k ≤ 21) : (hasL k).map letF = overF k := by
  rcases kinds h1 h2 with rfl | rfl | rfl | rfl | rfl | rfl | rfl | rfl | rfl | rfl | rfl | rfl | rfl | rfl | rfl | rfl | rfl | rfl | rfl | rfl | rfl <;> rfl

def letters : List UInt8 := [105, 111, 99, 98, 119, 110, 109, 112, 113, 118, 102]

theorem hasL_none (k : Int) (h : ¬ (1 ≤ k ∧ k ≤ 21)) : hasL k = [] := by
  unfold hasL
  repeat (rw [if_neg (by omega)])

theorem hasL_in (k : Int) : ∀ b ∈ hasL k, b ∈ letters := by
  by_cases h : 1 ≤ k ∧ k ≤ 21
  · rcases kinds h.1 h.2 with rfl | rfl | rfl | rfl | rfl | rfl | rfl | rfl | rfl | rfl | rfl | rfl | rfl | rfl | rfl | rfl | rfl | rfl | rfl | rfl | rfl <;> decide
  · rw [hasL_none k h]; simp

theorem hasL_len (k : Int) : (hasL k).length ≤ 10 := by
  by_cases h : 1 ≤ k ∧ k ≤ 21
  · rcases kinds h.1 h.2 with rfl | rfl | rfl | rfl | rfl | rfl | rfl | rfl | rfl | rfl | rfl | rfl | rfl | rfl | rfl | rfl | rfl | rfl | rfl | rfl | rfl <;> decide
  · rw [hasL_none k h]; simp

/-- Where it is a number's letter, the number's place. -/
theorem letters_cases {b : UInt8} (h : b ∈ letters) : b = 105 ∨ b = 111 ∨ b = 99 ∨ b = 98 ∨ b = 119 ∨ b = 110 ∨ b = 109 ∨ b = 112 ∨ b = 113 ∨ b = 118 ∨ b = 102 := by
  simpa [letters] using h

theorem good_iff_proj (c : Cmd) : c.good = decide (1 ≤ c.kind ∧ c.kind ≤ 21 ∧ c.proj = c) := by
  by_cases h : c.good = true
  · rw [h]
    have h' := h
    unfold Cmd.good at h'
    have h' := of_decide_eq_true h'
    exact (decide_eq_true ⟨h'.1, h'.2.1, good_proj c h⟩).symm
  · have hf : c.good = false := by simpa using h
    rw [hf]
    refine (decide_eq_false ?_).symm
    rintro ⟨h1, h2, h3⟩
    rw [← h3] at hf
    rw [proj_good c h1 h2] at hf
    exact absurd hf (by simp)

end Go.Proofs.YtnlhmlgoipnekaaDoor
