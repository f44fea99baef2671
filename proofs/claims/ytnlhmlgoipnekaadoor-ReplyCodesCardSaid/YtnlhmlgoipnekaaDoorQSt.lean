/- A whole block stored once more as it stands, in a region that draws its order: nothing turns. -/
import Derived.Test.YtnlhmlgoipnekaaDoorQLd
import Derived.Test.YtnlhmlgoipnekaaDoorStore
namespace Go.Proofs.YtnlhmlgoipnekaaDoor
open Go.RowKit

theorem setCell_same {w : World} {b o : Nat} {T : TypeId} {cs : Array Value} {v : Value} (h : Blk w b T cs) (hv : cs[o]? = some v) : w.setCell ⟨b, o, none⟩ v = w := by
  have e : cs.setIfInBounds o v = cs := by
    apply Array.ext_getElem?
    intro i
    rw [Array.getElem?_setIfInBounds]
    split
    · rename_i hi
      subst hi
      split
      · exact hv.symm
      · rename_i hs
        exact (Array.getElem?_eq_none (by omega)).symm
    · rfl
  have hh : (w.setCell ⟨b, o, none⟩ v).heap = w.heap := by
    apply Array.ext_getElem?
    intro i
    by_cases hi : i = b
    · subst hi
      have h1 := h.set o v
      unfold Blk at h1 h
      rw [h1, h, e]
    · exact Below.heap_setCell w ⟨b, o, none⟩ v i hi
  cases w
  simp only [World.setCell] at hh ⊢
  rw [hh]

theorem setFrom_same {b : Nat} {T : TypeId} : ∀ (l : List Value) (o : Nat) (w : World) (cs : Array Value), Blk w b T cs → (∀ j, j < l.length → cs[o + j]? = l[j]?) → setFrom w b o l = w := by
  intro l
  induction l with
  | nil => intro o w cs _ _; rfl
  | cons v r ih =>
    intro o w cs h hl
    have h0 := hl 0 (by simp)
    simp only [Nat.add_zero, List.getElem?_cons_zero] at h0
    have e := setCell_same h h0
    show setFrom (w.setCell ⟨b, o, none⟩ v) b (o + 1) r = w
    rw [e]
    refine ih (o + 1) w cs h (fun j hj => ?_)
    have := hl (j + 1) (by simp; omega)
    rw [show o + 1 + j = o + (j + 1) by omega, this]
    rfl

theorem wpQuiet_store_same {P : Program} {ops : Array Oper} {C : World → Prop} {Q : Act → Prop} {a : Act} {o : Oper} {rest : List Oper} (hw : Region.wanted o (yielded ops a.tmps) = true) (ty : TypeId) (x y : Operand) (ho : o.op = .store ty x y)
    (b : Nat) (T : TypeId) (cs : Array Value) (hx : a.eval x = .pointer (some ⟨b, 0, none⟩)) (hy : a.eval y = .agg cs) (hb : ∀ w, C w → Blk w b T cs)
    (hi : (P.info? ty).map (·.size) = some cs.size) (h1 : cs.all (·.oneCell') = true)
    (h : wpQuiet P ops C Q rest (a.put o.dst undef)) : wpQuiet P ops C Q (o :: rest) a :=
  BigFrame.wpQuiet_want hw fun K hK => ⟨undef, fun w hC => by
    have hB := hb w hC
    have e : w.setCells b 0 cs.toList = w := by
      rw [setCells_from]
      exact setFrom_same _ 0 w cs hB (fun j hj => by simp)
    unfold Oper.quietAt execOp
    simp only [ho, hx, hy, Sem.run_bind, run_storeAt_mid w b 0 ty cs (fun j hj => by rw [Nat.zero_add, hB.cell, hB.frz]; exact ⟨by simp; omega, rfl⟩) hi h1, e, Result.andThen_ok, Sem.run_pure]
    exact ⟨rfl, rfl⟩, hK _ h⟩

end Go.Proofs.YtnlhmlgoipnekaaDoor
