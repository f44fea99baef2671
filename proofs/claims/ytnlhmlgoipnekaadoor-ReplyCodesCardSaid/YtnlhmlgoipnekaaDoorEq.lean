/- '==' between two commands. -/
import Derived.Test.YtnlhmlgoipnekaaDoorProg
import Derived.Test.YtnlhmlgoipnekaaDoorCmd
import Derived.Laws.StructEq
namespace Go.Proofs.YtnlhmlgoipnekaaDoor
open Go.RowKit

theorem eqVec (d : Nat) (a0 a1 a2 a3 b0 b1 b2 b3 : Int) (w : World) : (Op.equalIn (d + 2) 25 (.agg #[.int .i64 a0, .int .i64 a1, .int .i64 a2, .int .i64 a3]) (.agg #[.int .i64 b0, .int .i64 b1, .int .i64 b2, .int .i64 b3])).run Tryd.prog w = .ok (decide (a0 = b0 ∧ a1 = b1 ∧ a2 = b2 ∧ a3 = b3)) w := by
  rw [Op.equalIn]
  simp [go_sem, List.range'_succ]
  by_cases h0 : a0 = b0 <;> by_cases h1 : a1 = b1 <;> by_cases h2 : a2 = b2 <;> by_cases h3 : a3 = b3 <;> simp [h0, h1, h2, h3]

set_option maxRecDepth 100000 in
theorem eql_cmd (a b : Cmd) (w : World) : (binOp .eql 27 (.agg a.cells) (.agg b.cells)).run Tryd.prog w = .ok (.bool (decide (a = b))) w := by
  obtain ⟨a1, a2, a3, a4, a5, a6, a7, a8, a9, a10, a11, a12, a13, a14, a15⟩ := a
  obtain ⟨b1, b2, b3, b4, b5, b6, b7, b8, b9, b10, b11, b12, b13, b14, b15⟩ := b
  unfold Cmd.cells
  simp only [Cmd.mk.injEq]
  simp [go_sem, eqVec]
  by_cases h1 : ¬ (a1 = b1)
  · simp [h1]
  have h1 := Decidable.not_not.1 h1
  subst h1
  by_cases h2 : ¬ (a2 = b2)
  · simp [h2]
  have h2 := Decidable.not_not.1 h2
  subst h2
  by_cases h3 : ¬ (a3 = b3)
  · simp [h3]
  have h3 := Decidable.not_not.1 h3
  subst h3
  by_cases h4 : ¬ (a4 = b4)
  · simp [h4]
  have h4 := Decidable.not_not.1 h4
  subst h4
  by_cases h5 : ¬ (a5 = b5)
  · simp [h5]
  have h5 := Decidable.not_not.1 h5
  subst h5
  by_cases h6 : ¬ (a6 = b6)
  · simp [h6]
  have h6 := Decidable.not_not.1 h6
  subst h6
  by_cases h7 : ¬ (a7 = b7)
  · simp [h7]
  have h7 := Decidable.not_not.1 h7
  subst h7
  by_cases h8 : ¬ (a8 = b8)
  · simp [h8]
  have h8 := Decidable.not_not.1 h8
  subst h8
  by_cases h9 : ¬ (a9 = b9)
  · simp [h9]
  have h9 := Decidable.not_not.1 h9
  subst h9
  by_cases h10 : ¬ (a10 = b10)
  · simp [h10]
  have h10 := Decidable.not_not.1 h10
  subst h10
  by_cases h11 : ¬ (a11 = b11)
  · simp [h11]
  have h11 := Decidable.not_not.1 h11
  subst h11
  by_cases h12 : ¬ (a12 = b12)
  · simp [h12]
  have h12 := Decidable.not_not.1 h12
  subst h12
  by_cases h13 : ¬ (a13 = b13)
  · simp [h13]
  have h13 := Decidable.not_not.1 h13
  subst h13
  by_cases h14 : ¬ (a14 = b14)
  · simp [h14]
  have h14 := Decidable.not_not.1 h14
  subst h14
  by_cases h15 : ¬ (a15 = b15)
  · simp [h15]
  have h15 := Decidable.not_not.1 h15
  subst h15
  simp

set_option maxRecDepth 100000 in
theorem neq_cmd (a b : Cmd) (w : World) : (binOp .neq 27 (.agg a.cells) (.agg b.cells)).run Tryd.prog w = .ok (.bool (!decide (a = b))) w := by
  obtain ⟨a1, a2, a3, a4, a5, a6, a7, a8, a9, a10, a11, a12, a13, a14, a15⟩ := a
  obtain ⟨b1, b2, b3, b4, b5, b6, b7, b8, b9, b10, b11, b12, b13, b14, b15⟩ := b
  unfold Cmd.cells
  simp only [Cmd.mk.injEq]
  simp [go_sem, eqVec]
  by_cases h1 : ¬ (a1 = b1)
  · simp [h1]
  have h1 := Decidable.not_not.1 h1
  subst h1
  by_cases h2 : ¬ (a2 = b2)
  · simp [h2]
  have h2 := Decidable.not_not.1 h2
  subst h2
  by_cases h3 : ¬ (a3 = b3)
  · simp [h3]
  have h3 := Decidable.not_not.1 h3
  subst h3
  by_cases h4 : ¬ (a4 = b4)
  · simp [h4]
  have h4 := Decidable.not_not.1 h4
  subst h4
  by_cases h5 : ¬ (a5 = b5)
  · simp [h5]
  have h5 := Decidable.not_not.1 h5
  subst h5
  by_cases h6 : ¬ (a6 = b6)
  · simp [h6]
  have h6 := Decidable.not_not.1 h6
  subst h6
  by_cases h7 : ¬ (a7 = b7)
  · simp [h7]
  have h7 := Decidable.not_not.1 h7
  subst h7
  by_cases h8 : ¬ (a8 = b8)
  · simp [h8]
  have h8 := Decidable.not_not.1 h8
  subst h8
  by_cases h9 : ¬ (a9 = b9)
  · simp [h9]
  have h9 := Decidable.not_not.1 h9
  subst h9
  by_cases h10 : ¬ (a10 = b10)
  · simp [h10]
  have h10 := Decidable.not_not.1 h10
  subst h10
  by_cases h11 : ¬ (a11 = b11)
  · simp [h11]
  have h11 := Decidable.not_not.1 h11
  subst h11
  by_cases h12 : ¬ (a12 = b12)
  · simp [h12]
  have h12 := Decidable.not_not.1 h12
  subst h12
  by_cases h13 : ¬ (a13 = b13)
  · simp [h13]
  have h13 := Decidable.not_not.1 h13
  subst h13
  by_cases h14 : ¬ (a14 = b14)
  · simp [h14]
  have h14 := Decidable.not_not.1 h14
  subst h14
  by_cases h15 : ¬ (a15 = b15)
  · simp [h15]
  have h15 := Decidable.not_not.1 h15
  subst h15
  simp

set_option maxRecDepth 100000 in
theorem eql_ref (a b : Cmd) (w : World) : (binOp .eql 29 (.agg a.cells) (.agg b.cells)).run Tryd.prog w = .ok (.bool (decide (a = b))) w := by
  obtain ⟨a1, a2, a3, a4, a5, a6, a7, a8, a9, a10, a11, a12, a13, a14, a15⟩ := a
  obtain ⟨b1, b2, b3, b4, b5, b6, b7, b8, b9, b10, b11, b12, b13, b14, b15⟩ := b
  unfold Cmd.cells
  simp only [Cmd.mk.injEq]
  simp [go_sem, eqVec]
  by_cases h1 : ¬ (a1 = b1)
  · simp [h1]
  have h1 := Decidable.not_not.1 h1
  subst h1
  by_cases h2 : ¬ (a2 = b2)
  · simp [h2]
  have h2 := Decidable.not_not.1 h2
  subst h2
  by_cases h3 : ¬ (a3 = b3)
  · simp [h3]
  have h3 := Decidable.not_not.1 h3
  subst h3
  by_cases h4 : ¬ (a4 = b4)
  · simp [h4]
  have h4 := Decidable.not_not.1 h4
  subst h4
  by_cases h5 : ¬ (a5 = b5)
  · simp [h5]
  have h5 := Decidable.not_not.1 h5
  subst h5
  by_cases h6 : ¬ (a6 = b6)
  · simp [h6]
  have h6 := Decidable.not_not.1 h6
  subst h6
  by_cases h7 : ¬ (a7 = b7)
  · simp [h7]
  have h7 := Decidable.not_not.1 h7
  subst h7
  by_cases h8 : ¬ (a8 = b8)
  · simp [h8]
  have h8 := Decidable.not_not.1 h8
  subst h8
  by_cases h9 : ¬ (a9 = b9)
  · simp [h9]
  have h9 := Decidable.not_not.1 h9
  subst h9
  by_cases h10 : ¬ (a10 = b10)
  · simp [h10]
  have h10 := Decidable.not_not.1 h10
  subst h10
  by_cases h11 : ¬ (a11 = b11)
  · simp [h11]
  have h11 := Decidable.not_not.1 h11
  subst h11
  by_cases h12 : ¬ (a12 = b12)
  · simp [h12]
  have h12 := Decidable.not_not.1 h12
  subst h12
  by_cases h13 : ¬ (a13 = b13)
  · simp [h13]
  have h13 := Decidable.not_not.1 h13
  subst h13
  by_cases h14 : ¬ (a14 = b14)
  · simp [h14]
  have h14 := Decidable.not_not.1 h14
  subst h14
  by_cases h15 : ¬ (a15 = b15)
  · simp [h15]
  have h15 := Decidable.not_not.1 h15
  subst h15
  simp

set_option maxRecDepth 100000 in
theorem neq_ref (a b : Cmd) (w : World) : (binOp .neq 29 (.agg a.cells) (.agg b.cells)).run Tryd.prog w = .ok (.bool (!decide (a = b))) w := by
  obtain ⟨a1, a2, a3, a4, a5, a6, a7, a8, a9, a10, a11, a12, a13, a14, a15⟩ := a
  obtain ⟨b1, b2, b3, b4, b5, b6, b7, b8, b9, b10, b11, b12, b13, b14, b15⟩ := b
  unfold Cmd.cells
  simp only [Cmd.mk.injEq]
  simp [go_sem, eqVec]
  by_cases h1 : ¬ (a1 = b1)
  · simp [h1]
  have h1 := Decidable.not_not.1 h1
  subst h1
  by_cases h2 : ¬ (a2 = b2)
  · simp [h2]
  have h2 := Decidable.not_not.1 h2
  subst h2
  by_cases h3 : ¬ (a3 = b3)
  · simp [h3]
  have h3 := Decidable.not_not.1 h3
  subst h3
  by_cases h4 : ¬ (a4 = b4)
  · simp [h4]
  have h4 := Decidable.not_not.1 h4
  subst h4
  by_cases h5 : ¬ (a5 = b5)
  · simp [h5]
  have h5 := Decidable.not_not.1 h5
  subst h5
  by_cases h6 : ¬ (a6 = b6)
  · simp [h6]
  have h6 := Decidable.not_not.1 h6
  subst h6
  by_cases h7 : ¬ (a7 = b7)
  · simp [h7]
  have h7 := Decidable.not_not.1 h7
  subst h7
  by_cases h8 : ¬ (a8 = b8)
  · simp [h8]
  have h8 := Decidable.not_not.1 h8
  subst h8
  by_cases h9 : ¬ (a9 = b9)
  · simp [h9]
  have h9 := Decidable.not_not.1 h9
  subst h9
  by_cases h10 : ¬ (a10 = b10)
  · simp [h10]
  have h10 := Decidable.not_not.1 h10
  subst h10
  by_cases h11 : ¬ (a11 = b11)
  · simp [h11]
  have h11 := Decidable.not_not.1 h11
  subst h11
  by_cases h12 : ¬ (a12 = b12)
  · simp [h12]
  have h12 := Decidable.not_not.1 h12
  subst h12
  by_cases h13 : ¬ (a13 = b13)
  · simp [h13]
  have h13 := Decidable.not_not.1 h13
  subst h13
  by_cases h14 : ¬ (a14 = b14)
  · simp [h14]
  have h14 := Decidable.not_not.1 h14
  subst h14
  by_cases h15 : ¬ (a15 = b15)
  · simp [h15]
  have h15 := Decidable.not_not.1 h15
  subst h15
  simp

end Go.Proofs.YtnlhmlgoipnekaaDoor
