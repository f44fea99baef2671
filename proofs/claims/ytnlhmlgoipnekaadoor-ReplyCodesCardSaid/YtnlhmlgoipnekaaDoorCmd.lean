/- A command in memory; the plain words on it. -/
import Derived.Test.YtnlhmlgoipnekaaDoorMem
namespace Go.Proofs.YtnlhmlgoipnekaaDoor
open Go.RowKit

/-- A command: what stands in its fifteen cells. -/
structure Cmd where
  kind : Int
  id : Int
  other : Int
  cell : Int
  band : Int
  window : Int
  n : Int
  m : Int
  p : Int
  q : Int
  v0 : Int
  v1 : Int
  v2 : Int
  v3 : Int
  flag : Bool
  deriving DecidableEq

def Cmd.cells (c : Cmd) : Array Value := #[.int .i64 c.kind, .int .i64 c.id, .int .i64 c.other, .int .i64 c.cell, .int .i64 c.band, .int .i64 c.window, .int .i64 c.n, .int .i64 c.m, .int .i64 c.p, .int .i64 c.q, .int .i64 c.v0, .int .i64 c.v1, .int .i64 c.v2, .int .i64 c.v3, .bool c.flag]

/-- Its numbers by their places, 1 to 9. -/
def Cmd.get (c : Cmd) (o : Nat) : Int :=
  if o = 1 then c.id else if o = 2 then c.other else if o = 3 then c.cell else if o = 4 then c.band else if o = 5 then c.window else if o = 6 then c.n else if o = 7 then c.m else if o = 8 then c.p else c.q

def Cmd.put (c : Cmd) (o : Nat) (x : Int) : Cmd :=
  if o = 1 then { c with id := x } else if o = 2 then { c with other := x } else if o = 3 then { c with cell := x } else if o = 4 then { c with band := x } else if o = 5 then { c with window := x } else if o = 6 then { c with n := x } else if o = 7 then { c with m := x } else if o = 8 then { c with p := x } else { c with q := x }

def Cmd.putV (c : Cmd) (v : Int × Int × Int × Int) : Cmd := { c with v0 := v.1, v1 := v.2.1, v2 := v.2.2.1, v3 := v.2.2.2 }
def Cmd.putF (c : Cmd) (b : Bool) : Cmd := { c with flag := b }

theorem Cmd.cells_get (c : Cmd) (o : Nat) (h1 : 1 ≤ o) (h2 : o ≤ 9) : c.cells[o]? = some (.int .i64 (c.get o)) := by
  have h : o = 1 ∨ o = 2 ∨ o = 3 ∨ o = 4 ∨ o = 5 ∨ o = 6 ∨ o = 7 ∨ o = 8 ∨ o = 9 := by omega
  rcases h with rfl | rfl | rfl | rfl | rfl | rfl | rfl | rfl | rfl <;> rfl

theorem Cmd.cells_put (c : Cmd) (o : Nat) (x : Int) (h1 : 1 ≤ o) (h2 : o ≤ 9) : c.cells.setIfInBounds o (.int .i64 x) = (c.put o x).cells := by
  have h : o = 1 ∨ o = 2 ∨ o = 3 ∨ o = 4 ∨ o = 5 ∨ o = 6 ∨ o = 7 ∨ o = 8 ∨ o = 9 := by omega
  rcases h with rfl | rfl | rfl | rfl | rfl | rfl | rfl | rfl | rfl <;> rfl

theorem Cmd.put_kind (c : Cmd) (o : Nat) (x : Int) : (c.put o x).kind = c.kind := by
  unfold Cmd.put; repeat' split
  all_goals rfl

/-- The zero command of a kind. -/
def Cmd.zero (k : Int) : Cmd := ⟨k, 0, 0, 0, 0, 0, 0, 0, 0, 0, 0, 0, 0, 0, false⟩

/-- Its numbers are ints. -/
def Cmd.Ok (c : Cmd) : Prop := I64 c.kind ∧ (∀ o, 1 ≤ o → o ≤ 9 → I64 (c.get o)) ∧ I64 c.v0 ∧ I64 c.v1 ∧ I64 c.v2 ∧ I64 c.v3

theorem I64.zero : I64 0 := by unfold I64; omega

theorem Cmd.zero_ok (k : Int) (h : I64 k) : (Cmd.zero k).Ok := by
  refine ⟨h, ?_, I64.zero, I64.zero, I64.zero, I64.zero⟩
  intro o _ _
  unfold Cmd.get Cmd.zero
  repeat' split
  all_goals exact I64.zero

end Go.Proofs.YtnlhmlgoipnekaaDoor
