/- A region that draws its order, whose operations only read and whose callees keep all old blocks: one walk, in the text's order. After the guide's theorem on classes of worlds. -/
import Derived.Test.YtnlhmlgoipnekaaDoorMem
import Derived.Deep.QuietTactic
import Derived.BigQuiet
namespace Go.Proofs.YtnlhmlgoipnekaaDoor
open Go.RowKit

/-- How far a world is from w: its count of draws, the blocks laid behind w's. -/
structure KP where
  n : Nat
  os : Array Obj
  deriving Inhabited

def kw (w : World) (p : KP) : World := { w with heap := w.heap ++ p.os, drawn := p.n }

theorem kw_keeps (w : World) (p : KP) : Keeps [] w (kw w p) :=
  ⟨rfl, rfl, rfl, by simp [kw], fun k hk _ => by simp only [kw, Array.getElem?_append]; rw [if_pos hk]⟩

theorem kw_of {w w' : World} (h : Keeps [] w w') : ∃ p, w' = kw w p := by
  refine ⟨⟨w'.drawn, w'.heap.extract w.heap.size w'.heap.size⟩, ?_⟩
  have e : w'.heap = w.heap ++ w'.heap.extract w.heap.size w'.heap.size := by
    apply Array.ext_getElem?
    intro k
    rw [Array.getElem?_append]
    split
    · rename_i hk; exact h.block k hk (by simp)
    · rename_i hk
      rw [Array.getElem?_extract]
      have hs := h.size
      split
      · congr 1; omega
      · exact Array.getElem?_eq_none (by omega)
  obtain ⟨hp, tp, dr, os, ou⟩ := w'
  have h1 := h.os
  have h2 := h.tape
  have h3 := h.output
  simp only at h1 h2 h3 e
  subst h1 h2 h3
  unfold kw
  simp only [World.mk.injEq]
  exact ⟨e, trivial, trivial, trivial, trivial⟩

theorem kw_cell {w : World} {b : Nat} {T : TypeId} {cs : Array Value} (h : Blk w b T cs) (p : KP) (o : Nat) : (kw w p).cell? ⟨b, o, none⟩ = cs[o]? := (h.keep (kw_keeps w p) (by simp)).cell o

theorem kw_cellAt {w : World} {b o : Nat} {v : Value} (h : w.cell? ⟨b, o, none⟩ = some v) (p : KP) : (kw w p).cell? ⟨b, o, none⟩ = some v := (kw_keeps w p).cellAt h (by simp)

theorem wp_region_kw {P : Program} {id : Nat} {Q : Exit → Act → World → Prop} {a : Act} {w : World} {l : List Oper} (hm : P.follows .mixedOrders = true) (hB : Region.lexB .any l.toArray = true)
    (h : wpQuiet P l.toArray (fun w' => ∃ p : KP, w' = kw w p) (fun a' => ∀ w', (∃ p : KP, w' = kw w p) → Q .normal a' w') l a) : (Code.region id l.toArray true).wp P Q a w :=
  wp_region_quiet (C := fun w' => ∃ p : KP, w' = kw w p) hm hB (kw_of (Keeps.refl [] w).drew) (by simpa using h)

theorem calls_kw {P : Program} {f : FuncId} {args : Array Value} {w : World} {p : KP} {v : Value}
    (h : Calls P f args (kw w p) fun e w' => e = .returned v ∧ Keeps [] (kw w p) w') : Calls P f args (kw w p) fun e w'' => e = .returned v ∧ ∃ q : KP, w'' = kw w q :=
  h.mono fun _ _ ⟨he, hk⟩ => ⟨he, kw_of ((kw_keeps w p).trans hk)⟩

theorem calls_kw_same {P : Program} {f : FuncId} {args : Array Value} {w : World} {p : KP} {v : Value}
    (h : Calls P f args (kw w p) fun e w' => e = .returned v ∧ kw w p = w') : Calls P f args (kw w p) fun e w'' => e = .returned v ∧ ∃ q : KP, w'' = kw w q :=
  h.mono fun _ _ ⟨he, hk⟩ => ⟨he, p, hk.symm⟩

end Go.Proofs.YtnlhmlgoipnekaaDoor
