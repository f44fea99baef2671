/- Rows of whole numbers in memory: a slice whose elements are k ints each; what is written of it. No walk here. -/
import Derived.Test.YtnlhmlgoipnekaaDoorMem
import Derived.Test.YtnlhmlgoipnekaaDoorZig
import Derived.Laws.OwnMore
namespace Go.Proofs.YtnlhmlgoipnekaaDoor
open Go.RowKit

/-- v is a slice of elements of k ints each, that hold xs, one behind the other. -/
def IntRow (w : World) (v : Value) (k : Nat) (xs : List Int) : Prop :=
  (∀ x ∈ xs, I64 x) ∧ ((v = .slice none 0 0 ∧ xs = []) ∨ ∃ (a : Addr) (n cap : Nat), v = .slice (some a) n cap ∧ xs.length = n * k ∧ n ≤ cap ∧ (xs ≠ [] → a.spot = none) ∧ ∀ j, j < xs.length → w.cell? ⟨a.block, a.off + j, none⟩ = some (.int .i64 (xs.getD j 0)))

/-- It lies in none of these blocks. -/
def Apart (v : Value) (X : List Nat) : Prop := ∀ b, v.ownBlock = some b → b ∉ X

theorem IntRow.keep {w w' : World} {v : Value} {k : Nat} {xs : List Int} {X : List Nat} (h : IntRow w v k xs) (hk : Keeps X w w') (ha : xs ≠ [] → Apart v X) : IntRow w' v k xs := by
  refine ⟨h.1, ?_⟩
  rcases h.2 with h0 | ⟨a, n, cap, rfl, hl, hc, hsp, hcell⟩
  · exact .inl h0
  · exact .inr ⟨a, n, cap, rfl, hl, hc, hsp, fun j hj => hk.cellAt (hcell j hj) (ha (by rintro rfl; simp at hj) a.block rfl)⟩

theorem IntRow.nil (w : World) (k : Nat) : IntRow w (.slice none 0 0) k [] := ⟨by simp, .inl ⟨rfl, rfl⟩⟩

theorem IntRow.i64 {w : World} {v : Value} {k : Nat} {xs : List Int} (h : IntRow w v k xs) (j : Nat) (hj : j < xs.length) : I64 (xs.getD j 0) := by
  rw [List.getD_eq_getElem?_getD, List.getElem?_eq_getElem hj]
  exact h.1 _ (List.getElem_mem hj)

theorem Apart.nil (X : List Nat) : Apart (.slice none 0 0) X := fun b h => by simp [Value.ownBlock] at h
theorem Apart.sub {v : Value} {X Y : List Nat} (h : Apart v X) (hY : ∀ y ∈ Y, y ∈ X) : Apart v Y := fun b hb hy => h b hb (hY b hy)
theorem Apart.none (v : Value) : Apart v [] := fun _ _ h => by simp at h

/-- A row lies apart from all blocks that are made later. -/
theorem IntRow.apart {w : World} {v : Value} {k : Nat} {xs : List Int} (h : IntRow w v k xs) {X : List Nat} (hX : ∀ x ∈ X, w.heap.size ≤ x) : xs ≠ [] → Apart v X := by
  intro hne b hb hx
  rcases h.2 with ⟨_, h0⟩ | ⟨a, n, cap, rfl, hl, hc, hsp, hcell⟩
  · exact hne h0
  · simp only [Value.ownBlock, Option.some.injEq] at hb
    subst hb
    have h1 := cell_lt (hcell 0 (List.length_pos_iff.2 hne))
    have h2 := hX _ hx
    omega

/-- What the walk asks of a row: its length, its elements' addresses, its cells. -/
theorem IntRow.form {P : Program} {w : World} {v : Value} {k : Nat} {xs : List Int} (h : IntRow w v k xs) (T e : TypeId) (hT : P.underlying T = some (.slice e)) (hk : ∀ w', (sizeOf e).run P w' = .ok k w') (hk0 : 0 < k) : ∃ b off n : Nat, xs.length = n * k ∧
    (∀ (ty : TypeId) (w' : World), (Builtin.len_ #[T] ty #[v]).run P w' = .ok (.int .i64 n) w') ∧
    (∀ (j : Nat) (w' : World), j < n → (Instr.indexAt T v (.int .i64 j)).run P w' = .ok (.pointer (some ⟨b, off + j * k, none⟩)) w') ∧
    (∀ j, j < xs.length → w.cell? ⟨b, off + j, none⟩ = some (.int .i64 (xs.getD j 0))) ∧ (xs ≠ [] → v.ownBlock = some b) := by
  have hel : P.elem T = e := by simp [Program.elem, hT]
  have hT' : P.underlying T = some (.slice (P.elem T)) := by rw [hel]; exact hT
  rcases h.2 with ⟨rfl, rfl⟩ | ⟨a, n, cap, rfl, hl, hc, hsp, hcell⟩
  · exact ⟨0, 0, 0, by simp, fun ty w' => run_len_slice w' T ty none 0 0 hT', fun j w' hj => by omega, fun j hj => by simp at hj, fun h => absurd rfl h⟩
  · refine ⟨a.block, a.off, n, hl, fun ty w' => run_len_slice w' T ty _ n cap hT', fun j w' hj => ?_, hcell, fun _ => rfl⟩
    rw [run_indexAt_slice w' T _ n cap _ _ hT', if_pos ⟨by omega, by omega⟩, hel, hk]
    have hs0 : a.spot = none := by
      refine hsp ?_
      rintro rfl
      have := Nat.mul_pos (show 0 < n by omega) hk0
      simp at hl
      omega
    obtain ⟨ab, ao, sp⟩ := a
    simp at hs0
    subst hs0
    simp [Addr.add]

/-- A number's bytes. -/
def eb (n : Int) : List UInt8 := enc (zig n)
/-- A row's bytes: how many elements, and each number. -/
def sec (k : Nat) (xs : List Int) : List UInt8 := eb (xs.length / k : Nat) ++ xs.flatMap eb

theorem eb_len (n : Int) (h : I64 n) : (eb n).length ≤ 10 := enc_len10 _ (zig_lt _ h.1 h.2)

theorem ebs_len : ∀ (xs : List Int), (∀ x ∈ xs, I64 x) → (xs.flatMap eb).length ≤ 10 * xs.length := by
  intro xs
  induction xs with
  | nil => simp
  | cons x r ih =>
    intro h
    have h1 := eb_len x (h x (by simp))
    have h2 := ih (fun y hy => h y (by simp [hy]))
    simp only [List.flatMap_cons, List.length_append, List.length_cons]
    omega

theorem take_snocD (xs : List Int) (k : Nat) (h : k < xs.length) : xs.take (k + 1) = xs.take k ++ [xs.getD k 0] := by
  rw [List.take_succ_eq_append_getElem h, List.getD_eq_getElem?_getD, List.getElem?_eq_getElem h]; rfl

/-- What is written behind j numbers. -/
def ebK (xs : List Int) (j : Nat) : List UInt8 := (xs.take j).flatMap eb

theorem ebK_succ (xs : List Int) (j : Nat) (h : j < xs.length) : ebK xs (j + 1) = ebK xs j ++ eb (xs.getD j 0) := by
  unfold ebK
  rw [take_snocD xs j h, List.flatMap_append]; simp

theorem ebK_len (xs : List Int) (j : Nat) (h : ∀ x ∈ xs, I64 x) : (ebK xs j).length ≤ 10 * xs.length := by
  have h1 := ebs_len (xs.take j) (fun x hx => h x (List.mem_of_mem_take hx))
  have h2 : (xs.take j).length ≤ xs.length := List.length_take_le' _ _
  unfold ebK
  omega

theorem ebK_zero (xs : List Int) : ebK xs 0 = [] := by simp [ebK]
theorem ebK_all (xs : List Int) (j : Nat) (h : xs.length ≤ j) : ebK xs j = xs.flatMap eb := by unfold ebK; rw [List.take_of_length_le h]

end Go.Proofs.YtnlhmlgoipnekaaDoor
