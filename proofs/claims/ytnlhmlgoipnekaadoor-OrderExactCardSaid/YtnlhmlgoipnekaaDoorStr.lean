/- '==' between two strings. -/
import Derived.Test.YtnlhmlgoipnekaaDoorMem
import Derived.Test.YtnlhmlgoipnekaaDoorProg
import Derived.Laws.StructEq
import Derived.Laws.Strings
namespace Go.Proofs.YtnlhmlgoipnekaaDoor
open Go.RowKit

theorem bytes_toList (r s : ByteArray) : (r.toList == s.toList) = decide (r = s) := by
  rw [ByteArray.toList_eq, ByteArray.toList_eq]
  by_cases h : r = s
  · subst h; simp
  · have : ¬ r.data.toList = s.data.toList := fun e => h (by cases r; cases s; simp at e; simp [e])
    rw [decide_eq_false h]
    exact beq_eq_false_iff_ne.2 this

theorem str_eql (r s : ByteArray) (w : World) : (binOp .eql 9 (.string r) (.string s)).run Tryd.prog w = .ok (.bool (decide (r = s))) w := by
  simp only [binOp_string_eql, Sem.run_pure, bytes_toList]

theorem str_neq (r s : ByteArray) (w : World) : (binOp .neq 9 (.string r) (.string s)).run Tryd.prog w = .ok (.bool (!decide (r = s))) w := by
  simp [go_sem, bytes_toList]

end Go.Proofs.YtnlhmlgoipnekaaDoor
