/- A whole block stored, a whole block loaded: one step each. -/
import Derived.Test.YtnlhmlgoipnekaaDoorMem
import Derived.Deep.MidRow
namespace Go.Proofs.YtnlhmlgoipnekaaDoor
open Go.RowKit

theorem setCells_from (b : Nat) : ∀ (l : List Value) (o : Nat) (w : World), w.setCells b o l = setFrom w b o l := by
  intro l
  induction l with
  | nil => intro o w; rfl
  | cons v r ih => intro o w; exact ih (o + 1) _

section
variable {P : Program}

theorem wpList_store_blk {ops : Array Oper} {rest : List Oper} {op : Oper} {a : Act} {w : World} {Q : Exit → Act → World → Prop} (hgd : op.guard = none) (ty : TypeId) (x y : Operand) (ho : op.op = .store ty x y)
    (b : Nat) (T : TypeId) (cs ds : Array Value) (hx : a.eval x = .pointer (some ⟨b, 0, none⟩)) (hy : a.eval y = .agg ds) (hb : Blk w b T cs) (hs : ds.size = cs.size)
    (hi : (P.info? ty).map (·.size) = some ds.size) (h1 : ds.all (·.oneCell') = true)
    (h : ∀ w', Blk w' b T ds → Keeps [b] w w' → wpList P ops Q rest (a.put op.dst undef) w') : wpList P ops Q (op :: rest) a w := by
  refine wpList_store_mid hgd ty x y ho b 0 ds hx hy ?_ hi h1 ?_
  · intro j hj
    rw [Nat.zero_add, hb.cell, hb.frz]
    exact ⟨by simp; omega, rfl⟩
  · rw [setCells_from]
    exact h _ (setFrom_whole hb hs) (setFrom_keeps ds.toList 0 w w (Keeps.refl _ _) (by simp))

theorem wpList_load_blk {ops : Array Oper} {rest : List Oper} {op : Oper} {a : Act} {w : World} {Q : Exit → Act → World → Prop} (hgd : op.guard = none) (ty : TypeId) (x : Operand) (ho : op.op = .load ty x)
    (b : Nat) (T : TypeId) (cs : Array Value) (hx : a.eval x = .pointer (some ⟨b, 0, none⟩)) (hb : Blk w b T cs) (d : TypeDesc)
    (hu : P.underlying ty = some d) (hd : (match d with | .struct _ | .array _ _ => true | _ => false) = true) (hi : (P.info? ty).map (·.size) = some cs.size)
    (h : wpList P ops Q rest (a.put op.dst (.agg cs)) w) : wpList P ops Q (op :: rest) a w :=
  wpList_load_row hgd ty x ho b hx T cs (0, 0) d hb hu hd hi h

/-- The same under a guard that holds. -/
theorem wpList_load_blk_g {ops : Array Oper} {rest : List Oper} {op : Oper} {a : Act} {w : World} {Q : Exit → Act → World → Prop} (hw : Region.wanted op (yielded ops a.tmps) = true) (ty : TypeId) (x : Operand) (ho : op.op = .load ty x)
    (b : Nat) (T : TypeId) (cs : Array Value) (hx : a.eval x = .pointer (some ⟨b, 0, none⟩)) (hb : Blk w b T cs) (d : TypeDesc)
    (hu : P.underlying ty = some d) (hd : (match d with | .struct _ | .array _ _ => true | _ => false) = true) (hi : (P.info? ty).map (·.size) = some cs.size)
    (h : wpList P ops Q rest (a.put op.dst (.agg cs)) w) : wpList P ops Q (op :: rest) a w :=
  wpList_step fun K hK => by
    simp only [hw, if_true]
    exact wp_load_row ty x ho b hx T cs (0, 0) d hb hu hd hi (hK _ _ h)
end

end Go.Proofs.YtnlhmlgoipnekaaDoor
