/- A whole block loaded in a region that draws its order. -/
import Derived.Test.YtnlhmlgoipnekaaDoorQuiet
import Derived.Laws.Rows
namespace Go.Proofs.YtnlhmlgoipnekaaDoor
open Go.RowKit

theorem blk_kw {w : World} {b : Nat} {T : TypeId} {cs : Array Value} (h : Blk w b T cs) : ∀ w', (∃ p : KP, w' = kw w p) → Blk w' b T cs :=
  fun _ ⟨p, e⟩ => e ▸ h.keep (kw_keeps w p) (by simp)

theorem wpQuiet_load_blk {P : Program} {ops : Array Oper} {C : World → Prop} {Q : Act → Prop} {a : Act} {o : Oper} {rest : List Oper} (hw : Region.wanted o (yielded ops a.tmps) = true) (ty : TypeId) (x : Operand) (ho : o.op = .load ty x)
    (b : Nat) (T : TypeId) (cs : Array Value) (hx : a.eval x = .pointer (some ⟨b, 0, none⟩)) (hb : ∀ w, C w → Blk w b T cs) (d : TypeDesc)
    (hu : P.underlying ty = some d) (hd : (match d with | .struct _ | .array _ _ => true | _ => false) = true) (hi : (P.info? ty).map (·.size) = some cs.size)
    (h : wpQuiet P ops C Q rest (a.put o.dst (.agg cs))) : wpQuiet P ops C Q (o :: rest) a :=
  BigFrame.wpQuiet_want hw fun K hK => ⟨.agg cs, fun w hC => by
    unfold Oper.quietAt execOp
    simp only [ho, hx, Instr.loadAt, Instr.sureAddr, Sem.run_bind, Sem.run_pure, Result.andThen_ok, run_loadVar_row w b T ty cs (0, 0) d (hb w hC) hu hd hi]
    exact ⟨rfl, rfl⟩, hK _ h⟩

end Go.Proofs.YtnlhmlgoipnekaaDoor
