/- The package-level errors, all fourteen; package reply: known, Err. -/
import Derived.Test.YtnlhmlgoipnekaaDoorWr
import Derived.Test.YtnlhmlgoipnekaaDoorQuiet
import Derived.IntWalk
namespace Go.Proofs.YtnlhmlgoipnekaaDoor
open Go.RowKit

/-- Where the errors' variables lie, in the order of their numbers. -/
def gids : List Nat := [0, 4, 1, 5, 6, 7, 8, 9, 2, 10, 11, 3, 12, 13]

/-- The fourteen errors, from block B on nothing of theirs lies. -/
structure GlobE (B : Nat) (E : Nat → Addr) (w : World) : Prop where
  cell : ∀ i, i < 14 → w.cell? ⟨gids.getD i 0, 0, none⟩ = some (errv (E i))
  own : ∀ i, i < 14 → Own w (E i)
  lt : ∀ i, i < 14 → (E i).block < B
  ne : ∀ i j, i < 14 → j < 14 → i ≠ j → E i ≠ E j
  etype : w.cell? ⟨14, 0, none⟩ = some (.iface 176 (.agg #[.pointer (some ⟨18, 33, none⟩)]))
  base : 14 < B ∧ ∀ i, i < 14 → gids.getD i 0 < B
  size : B ≤ w.heap.size

theorem GlobE.keep {B : Nat} {E : Nat → Addr} {w w' : World} {X : List Nat} (h : GlobE B E w) (k : Keeps X w w') (hX : ∀ x ∈ X, B ≤ x) : GlobE B E w' := by
  obtain ⟨b1, b2⟩ := h.base
  have hs := h.size
  refine ⟨fun i hi => k.cellAt (h.cell i hi) (fun hx => ?_), fun i hi => ?_, h.lt, h.ne, k.cellAt h.etype (fun hx => ?_), h.base, Nat.le_trans hs k.size⟩
  · have h1 := hX _ hx; have h2 := b2 i hi; exact absurd h1 (by omega)
  · obtain ⟨c, t, e⟩ := h.own i hi
    have hl := h.lt i hi
    exact ⟨c, t, by rw [k.block _ (by omega) (fun hx => by have := hX _ hx; omega)]; exact e⟩
  · have := hX _ hx; omega

theorem GlobE.keep0 {B : Nat} {E : Nat → Addr} {w w' : World} (h : GlobE B E w) (k : Keeps [] w w') : GlobE B E w' := h.keep k (by simp)

theorem GlobE.glob {B : Nat} {E : Nat → Addr} {w : World} (h : GlobE B E w) : Glob B (E 0) (E 2) w :=
  ⟨h.cell 0 (by omega), h.cell 2 (by omega), h.etype, h.own 0 (by omega), h.own 2 (by omega), h.lt 0 (by omega), h.lt 2 (by omega), ⟨h.base.1, h.base.2 0 (by omega), h.base.2 2 (by omega)⟩, h.size⟩

/-- The errors that have a number, as a row of values. -/
def knownV (E : Nat → Addr) : Array Value := #[errv (E 0), errv (E 1), errv (E 2), errv (E 3), errv (E 4), errv (E 5), errv (E 6), errv (E 7), errv (E 8), errv (E 9), errv (E 10), errv (E 11), errv (E 12), errv (E 13)]

theorem knownV_at (E : Nat → Addr) (i : Nat) (h : i < 14) : (knownV E)[i]? = some (errv (E i)) := by
  have h : i = 0 ∨ i = 1 ∨ i = 2 ∨ i = 3 ∨ i = 4 ∨ i = 5 ∨ i = 6 ∨ i = 7 ∨ i = 8 ∨ i = 9 ∨ i = 10 ∨ i = 11 ∨ i = 12 ∨ i = 13 := by omega
  rcases h with rfl | rfl | rfl | rfl | rfl | rfl | rfl | rfl | rfl | rfl | rfl | rfl | rfl | rfl <;> rfl

set_option maxRecDepth 100000 in
set_option maxHeartbeats 1000000 in
theorem known_any {B : Nat} {E : Nat → Addr} (w : World) (hG : GlobE B E w) :
    Calls Tryd.prog 68 #[] w fun e w' => e = .returned (.slice (some ⟨w.heap.size, 0, none⟩) 14 14) ∧ Blk w' w.heap.size 33 (knownV E) ∧ Keeps [] w w' := by
  have h0 : w.cell? ⟨0, 0, none⟩ = some (errv (E 0)) := hG.cell 0 (by omega)
  have h1 : w.cell? ⟨4, 0, none⟩ = some (errv (E 1)) := hG.cell 1 (by omega)
  have h2 : w.cell? ⟨1, 0, none⟩ = some (errv (E 2)) := hG.cell 2 (by omega)
  have h3 : w.cell? ⟨5, 0, none⟩ = some (errv (E 3)) := hG.cell 3 (by omega)
  have h4 : w.cell? ⟨6, 0, none⟩ = some (errv (E 4)) := hG.cell 4 (by omega)
  have h5 : w.cell? ⟨7, 0, none⟩ = some (errv (E 5)) := hG.cell 5 (by omega)
  have h6 : w.cell? ⟨8, 0, none⟩ = some (errv (E 6)) := hG.cell 6 (by omega)
  have h7 : w.cell? ⟨9, 0, none⟩ = some (errv (E 7)) := hG.cell 7 (by omega)
  have h8 : w.cell? ⟨2, 0, none⟩ = some (errv (E 8)) := hG.cell 8 (by omega)
  have h9 : w.cell? ⟨10, 0, none⟩ = some (errv (E 9)) := hG.cell 9 (by omega)
  have h10 : w.cell? ⟨11, 0, none⟩ = some (errv (E 10)) := hG.cell 10 (by omega)
  have h11 : w.cell? ⟨3, 0, none⟩ = some (errv (E 11)) := hG.cell 11 (by omega)
  have h12 : w.cell? ⟨12, 0, none⟩ = some (errv (E 12)) := hG.cell 12 (by omega)
  have h13 : w.cell? ⟨13, 0, none⟩ = some (errv (E 13)) := hG.cell 13 (by omega)
  go_enter Tryd.func68, Tryd.ntmps68
  go_wp2_with fail
  go_ret
  exact ⟨rfl, Blk.new _ _ _, (Keeps.refl _ _).alloc _⟩

/-- A number's error. -/
def errOf (E : Nat → Addr) (code : Int) : Value := if 1 ≤ code ∧ code ≤ 14 then errv (E (code.toNat - 1)) else .nilIface

set_option maxRecDepth 100000 in
set_option maxHeartbeats 1000000 in
theorem err_code {B : Nat} {E : Nat → Addr} (code : Int) (w : World) (hG : GlobE B E w) :
    Calls Tryd.prog 25 #[.int .i64 code] w fun e w' => e = .returned (errOf E code) ∧ Keeps [] w w' := by
  by_cases h1 : 1 ≤ code
  · by_cases h2 : code ≤ 14
    · have HR : Hid (errOf E code = errv (E (code.toNat - 1))) := by apply Lib.hid; unfold errOf; rw [if_pos ⟨h1, h2⟩]
      go_enter Tryd.func25, Tryd.ntmps25
      go_wp2_with fail
      refine (known_any w hG).mono ?_
      rintro e w1 ⟨rfl, hb, hk⟩
      have hc : w1.cell? ⟨w.heap.size, code.toNat - 1, none⟩ = some (errv (E (code.toNat - 1))) := by rw [hb.cell, knownV_at _ _ (by omega)]
      go_wp2_with fail
      go_ret
      rw [HR.out]
      exact ⟨rfl, hk⟩
    · have HR : Hid (errOf E code = .nilIface) := by apply Lib.hid; unfold errOf; rw [if_neg (by omega)]
      have h3 : (15 : Int) ≤ code := by omega
      go_enter Tryd.func25, Tryd.ntmps25
      go_wp2_with fail
      go_ret
      rw [HR.out]
      exact ⟨rfl, Keeps.refl _ _⟩
  · have HR : Hid (errOf E code = .nilIface) := by apply Lib.hid; unfold errOf; rw [if_neg (by omega)]
    have h3 : code < 1 := by omega
    go_enter Tryd.func25, Tryd.ntmps25
    go_wp2_with fail
    go_ret
    rw [HR.out]
    exact ⟨rfl, Keeps.refl _ _⟩

end Go.Proofs.YtnlhmlgoipnekaaDoor
