/- Plain words on worlds: a block known whole, and what a step keeps. No program in sight. -/
import Derived.WalkKit
import Derived.Lib.Hide
import Derived.Deep.Quiet
namespace Go.Proofs.YtnlhmlgoipnekaaDoor
open Go.RowKit

/-- A length for which an append has room; an int's range: kept from the walk behind names. -/
def Room (n : Nat) : Prop := n < 140737488355328
def I64 (n : Int) : Prop := -9223372036854775808 ≤ n ∧ n ≤ 9223372036854775807

/-- Block b is a row of the cells cs, none of them frozen. -/
def Blk (w : World) (b : Nat) (T : TypeId) (cs : Array Value) : Prop := w.heap[b]? = some (.cells cs T (0, 0))

/-- From w to w' no old block but those of X has turned. -/
structure Keeps (X : List Nat) (w w' : World) : Prop where
  os : w'.os = w.os
  tape : w'.tape = w.tape
  output : w'.output = w.output
  size : w.heap.size ≤ w'.heap.size
  block : ∀ k, k < w.heap.size → k ∉ X → w'.heap[k]? = w.heap[k]?

theorem Blk.lt {w : World} {b : Nat} {T : TypeId} {cs : Array Value} (h : Blk w b T cs) : b < w.heap.size := by
  rcases Nat.lt_or_ge b w.heap.size with h' | h'
  · exact h'
  · simp [Blk, Array.getElem?_eq_none h'] at h

theorem Blk.cell {w : World} {b : Nat} {T : TypeId} {cs : Array Value} (h : Blk w b T cs) (o : Nat) : w.cell? ⟨b, o, none⟩ = cs[o]? := by
  unfold Blk at h; simp [World.cell?, h]

theorem Blk.frz {w : World} {b : Nat} {T : TypeId} {cs : Array Value} (h : Blk w b T cs) (o : Nat) : w.frozen? ⟨b, o, none⟩ = false := by
  unfold Blk at h; simp [World.frozen?, h]

theorem Blk.shape {w : World} {b : Nat} {T : TypeId} {cs : Array Value} (h : Blk w b T cs) : w.shape? b = some (T, cs.size) := by
  unfold Blk at h; simp [World.shape?, h]

theorem Blk.inj {w : World} {b : Nat} {T T' : TypeId} {cs cs' : Array Value} (h : Blk w b T cs) (h' : Blk w b T' cs') : T = T' ∧ cs = cs' := by
  unfold Blk at h h'
  rw [h] at h'
  simp only [Option.some.injEq, Obj.cells.injEq] at h'
  exact ⟨h'.2.1, h'.1⟩

theorem Blk.ne {w : World} {b b' : Nat} {T T' : TypeId} {cs cs' : Array Value} (h : Blk w b T cs) (h' : Blk w b' T' cs') (hT : T ≠ T') : b ≠ b' := by
  rintro rfl
  exact hT (h.inj h').1

theorem Blk.new (w : World) (T : TypeId) (cs : Array Value) : Blk (w.alloc (.cells cs T)) w.heap.size T cs := heap_alloc_new w _

theorem Blk.newAt {w : World} {b : Nat} (T : TypeId) (cs : Array Value) (h : b = w.heap.size) : Blk (w.alloc (.cells cs T)) b T cs := by
  subst h; exact Blk.new w T cs

theorem Blk.alloc {w : World} {b : Nat} {T : TypeId} {cs : Array Value} (h : Blk w b T cs) (o : Obj) : Blk (w.alloc o) b T cs := by
  have := Below.heap_alloc w o b h.lt
  unfold Blk at h ⊢; rw [this]; exact h

theorem Blk.drew {w : World} {b : Nat} {T : TypeId} {cs : Array Value} (h : Blk w b T cs) : Blk w.drew b T cs := h

theorem Blk.drewN {w : World} {b : Nat} {T : TypeId} {cs : Array Value} (h : Blk w b T cs) (n : Nat) : Blk (w.drewN n) b T cs := h

theorem Blk.set {w : World} {b : Nat} {T : TypeId} {cs : Array Value} (h : Blk w b T cs) (o : Nat) (v : Value) : Blk (w.setCell ⟨b, o, none⟩ v) b T (cs.setIfInBounds o v) := by
  unfold Blk at h ⊢; simp [World.setCell, Array.getElem?_modify, h]

theorem Blk.setOther {w : World} {b : Nat} {T : TypeId} {cs : Array Value} (h : Blk w b T cs) {a : Addr} (ha : a.block ≠ b) (v : Value) : Blk (w.setCell a v) b T cs := by
  have := Below.heap_setCell w a v b (Ne.symm ha)
  unfold Blk at h ⊢; rw [this]; exact h

theorem Blk.keep {w w' : World} {X : List Nat} {b : Nat} {T : TypeId} {cs : Array Value} (h : Blk w b T cs) (k : Keeps X w w') (hX : b ∉ X) : Blk w' b T cs := by
  have := k.block b h.lt hX
  unfold Blk at h ⊢; rw [this]; exact h

/-- A drawn world, as the still walk writes it, reads as it did. -/
theorem still_cell (w : World) (a : Addr) : ({ heap := w.heap, tape := w.tape, drawn := w.drawn + 1, os := w.os, output := w.output } : World).cell? a = w.cell? a := rfl

theorem nmem1 {a b : Nat} (h : a ≠ b) : a ∉ [b] := by simp [h]

theorem nmem2 {a b c : Nat} (h : a ≠ b) (k : a ≠ c) : a ∉ [b, c] := by simp [h, k]

theorem Keeps.refl (X : List Nat) (w : World) : Keeps X w w := ⟨rfl, rfl, rfl, Nat.le_refl _, fun _ _ _ => rfl⟩

theorem Keeps.trans' {X Y : List Nat} {a b c : World} (h : Keeps X a b) (k : Keeps Y b c) (hY : ∀ y ∈ Y, y < a.heap.size → y ∈ X) : Keeps X a c :=
  ⟨k.os.trans h.os, k.tape.trans h.tape, k.output.trans h.output, Nat.le_trans h.size k.size, fun i hi hx =>
    (k.block i (Nat.lt_of_lt_of_le hi h.size) (fun hy => hx (hY i hy hi))).trans (h.block i hi hx)⟩

theorem Keeps.trans {X : List Nat} {a b c : World} (h : Keeps X a b) (k : Keeps X b c) : Keeps X a c := h.trans' k (fun _ hy _ => hy)

theorem Keeps.mono {X Y : List Nat} {a b : World} (h : Keeps X a b) (hX : ∀ x ∈ X, x < a.heap.size → x ∈ Y) : Keeps Y a b := (Keeps.refl Y a).trans' h hX

theorem Keeps.alloc {X : List Nat} {a w : World} (h : Keeps X a w) (o : Obj) : Keeps X a (w.alloc o) :=
  ⟨h.os, h.tape, h.output, by have := h.size; simp; omega, fun k hk hx => (Below.heap_alloc w o k (Nat.lt_of_lt_of_le hk h.size)).trans (h.block k hk hx)⟩

theorem Keeps.setCell {X : List Nat} {a w : World} (h : Keeps X a w) {p : Addr} (hp : p.block < a.heap.size → p.block ∈ X) (v : Value) : Keeps X a (w.setCell p v) :=
  ⟨h.os, h.tape, h.output, by have := h.size; simpa [World.setCell] using this, fun k hk hx =>
    (Below.heap_setCell w p v k (fun e => hx (e ▸ hp (e ▸ hk)))).trans (h.block k hk hx)⟩

theorem Keeps.drew {X : List Nat} {a w : World} (h : Keeps X a w) : Keeps X a w.drew := ⟨h.os, h.tape, h.output, h.size, h.block⟩

theorem Keeps.drewN {X : List Nat} {a w : World} (h : Keeps X a w) (n : Nat) : Keeps X a (w.drewN n) := ⟨h.os, h.tape, h.output, h.size, h.block⟩

theorem Keeps.grown {X : List Nat} {a w w' : World} {row : Option Nat} (h : Keeps X a w) (hg : w.grownBy w' row) (hr : ∀ k, row = some k → k < a.heap.size → k ∈ X) : Keeps X a w' :=
  ⟨hg.os.trans h.os, hg.tape.trans h.tape, hg.output.trans h.output, Nat.le_trans h.size hg.size, fun k hk hx =>
    (hg.block k (Nat.lt_of_lt_of_le hk h.size) (fun e => hx (hr k e.symm hk))).trans (h.block k hk hx)⟩

theorem Keeps.below {w w' : World} (h : Keeps [] w w') : Below w.heap.size w w' := ⟨h.os, h.tape, h.output, h.size, fun k hk => h.block k hk (by simp)⟩

theorem Keeps.ofBelow {w w' : World} (h : Below w.heap.size w w') : Keeps [] w w' := ⟨h.os, h.tape, h.output, h.size, fun k hk _ => h.block k hk⟩

theorem Keeps.cell {X : List Nat} {w w' : World} (h : Keeps X w w') {b o : Nat} (hb : b < w.heap.size) (hX : b ∉ X) : w'.cell? ⟨b, o, none⟩ = w.cell? ⟨b, o, none⟩ :=
  World.cell?_of_block (w := w) (a := ⟨b, o, none⟩) (h.block b hb hX)

theorem Keeps.frozen {X : List Nat} {w w' : World} (h : Keeps X w w') {b o : Nat} (hb : b < w.heap.size) (hX : b ∉ X) : w'.frozen? ⟨b, o, none⟩ = w.frozen? ⟨b, o, none⟩ :=
  World.frozen?_of_block (w := w) (a := ⟨b, o, none⟩) (h.block b hb hX)

theorem cell_lt {w : World} {b o : Nat} {v : Value} (h : w.cell? ⟨b, o, none⟩ = some v) : b < w.heap.size := by
  rcases Nat.lt_or_ge b w.heap.size with h' | h'
  · exact h'
  · simp [World.cell?, Array.getElem?_eq_none h'] at h

theorem Keeps.cellAt {X : List Nat} {w w' : World} (k : Keeps X w w') {b o : Nat} {v : Value} (h : w.cell? ⟨b, o, none⟩ = some v) (hX : b ∉ X) : w'.cell? ⟨b, o, none⟩ = some v := by
  rw [k.cell (cell_lt h) hX]; exact h

/-- A whole row stored, cell by cell. -/
def setFrom (w : World) (b : Nat) : Nat → List Value → World
  | _, [] => w
  | o, v :: r => setFrom (w.setCell ⟨b, o, none⟩ v) b (o + 1) r

theorem take_set (l : List Value) (o : Nat) (v : Value) (h : o < l.length) : (l.set o v).take (o + 1) = l.take o ++ [v] := by
  induction l generalizing o with
  | nil => simp at h
  | cons x r ih =>
    cases o with
    | zero => simp
    | succ o => simp only [List.set_cons_succ, List.take_succ_cons, List.cons_append]; rw [ih o (by simpa using h)]

theorem setFrom_blk {b : Nat} {T : TypeId} : ∀ (l : List Value) (o : Nat) (w : World) (cs : Array Value), Blk w b T cs → o + l.length = cs.size → Blk (setFrom w b o l) b T (cs.toList.take o ++ l).toArray := by
  intro l
  induction l with
  | nil =>
    intro o w cs h ho
    have e : cs.toList.take o = cs.toList := List.take_of_length_le (by simp at ho ⊢; omega)
    rw [e]
    simpa [setFrom] using h
  | cons v r ih =>
    intro o w cs h ho
    have h2 := ih (o + 1) (w.setCell ⟨b, o, none⟩ v) (cs.setIfInBounds o v) (h.set o v) (by simp at ho ⊢; omega)
    have e : (cs.setIfInBounds o v).toList.take (o + 1) ++ r = cs.toList.take o ++ v :: r := by
      rw [Array.toList_setIfInBounds, take_set _ _ _ (by simp at ho ⊢; omega), List.append_assoc]; rfl
    rw [e] at h2
    exact h2

theorem setFrom_whole {b : Nat} {T : TypeId} {w : World} {cs ds : Array Value} (h : Blk w b T cs) (hs : ds.size = cs.size) : Blk (setFrom w b 0 ds.toList) b T ds := by
  have := setFrom_blk ds.toList 0 w cs h (by simpa using hs)
  simpa using this

theorem setFrom_keeps {b : Nat} {X : List Nat} : ∀ (l : List Value) (o : Nat) (a w : World), Keeps X a w → (b < a.heap.size → b ∈ X) → Keeps X a (setFrom w b o l) := by
  intro l
  induction l with
  | nil => intro o a w h _; exact h
  | cons v r ih => intro o a w h hb; exact ih (o + 1) a _ (h.setCell (p := ⟨b, o, none⟩) hb v) hb

end Go.Proofs.YtnlhmlgoipnekaaDoor
