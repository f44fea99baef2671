/- A world that meets the condition of the orders' rows: the witness. -/
import Derived.Test.YtnlhmlgoipnekaaDoorRow
namespace Go.Proofs.YtnlhmlgoipnekaaDoor
open Go.ChangeShapes Go.WideShapes Go.RowKit

/-- A world that meets the condition. -/
noncomputable def ordersWorld (os : Os) : World :=
  let w0 := World.holding Tryd.prog os ⟨#[], #[], []⟩
  let n := w0.heap.size
  let set (h : Array Obj) (g : Nat) (v : Value) : Array Obj := h.modify g fun
      | .cells _ t frozen => .cells #[v] t frozen
      | o => o
  let h1 := set w0.heap 14 (.iface 176 (.agg #[.pointer (some ⟨18, 33, none⟩)]))
  let h2 := set h1 0 (errv ⟨n, 0, none⟩)
  let h3 := set h2 4 (errv ⟨n + 1, 0, none⟩)
  let h4 := set h3 1 (errv ⟨n + 2, 0, none⟩)
  { w0 with heap := h4 ++ #[.cells #[.string ⟨#[97, 110, 32, 97, 114, 103, 117, 109, 101, 110, 116, 32, 116, 104, 97, 116, 32, 99, 97, 110, 39, 116, 32, 98, 101]⟩] 119 (0, 0), .cells #[.string ⟨#[97, 32, 110, 105, 108, 32, 116, 104, 105, 110, 103]⟩] 119 (0, 0), .cells #[.string ⟨#[98, 121, 116, 101, 115, 32, 111, 102, 32, 110, 111, 32, 102, 111, 114, 109]⟩] 119 (0, 0)] }

noncomputable abbrev ordersLow : Nat := (World.holding Tryd.prog default ⟨#[], #[], []⟩).heap.size

theorem ordersWorld_met (os : Os) (args : Array Value) : laidMetH Tryd.prog ordersLaid ((ordersWorld os).forCall (fun _ _ => 0) ⟨#[], args, []⟩).memory := by
  refine laidMetH_of_parts (laidMet_of_run (ps := [.cell 0 0, .cell ordersLow 0, .cell 4 0, .cell (ordersLow + 1) 0, .cell 1 0, .cell (ordersLow + 2) 0]) 8 (by kernel_rfl) (by kernel_rfl) (by kernel_rfl)) (by kernel_rfl)

end Go.Proofs.YtnlhmlgoipnekaaDoor
