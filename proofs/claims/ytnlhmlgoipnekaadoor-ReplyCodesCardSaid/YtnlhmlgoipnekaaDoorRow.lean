/- The rows' common road: what the laid variables give; a command that comes in. -/
import Derived.Test.YtnlhmlgoipnekaaDoorRows
import Derived.Test.YtnlhmlgoipnekaaDoorWr
import Derived.ChangeSame
import Derived.ChangeVars
import Derived.JoinedOf
import Derived.RowKit
import Derived.RowKitTokens
import Derived.LaidLaws
import Derived.LaidHandle
import Derived.Stop.Joined
import Derived.Stop.LaidTwo
import Derived.OpenShut
import Derived.Carry
namespace Go.Proofs.YtnlhmlgoipnekaaDoor
open Go.ChangeShapes Go.WideShapes Go.RowKit

theorem rowOwn : ownKnob Tryd.prog.godebug = none := by kernel_rfl
theorem rowLaidOut : laidOutB Tryd.prog = true := by kernel_rfl
theorem rowEt : Tryd.prog.globalNamed "errors.errorType" = some 14 := by kernel_rfl
theorem rowRt : (Tryd.prog.cutTypes.find? (·.1 == "internal/reflectlite.rtype")).map (·.2) = some 176 := by kernel_rfl
theorem rowOneErr : ((List.range 258).filter fun t => Tryd.prog.rowNamed t [101, 114, 114, 111, 114]) = [33] := by kernel_rfl
theorem rowSize : Tryd.prog.types.size = 258 := by kernel_rfl
theorem rowStar : "*" ++ "errors.errorString" = "*errors.errorString" := by decide
theorem rowErrS (u : TypeId) (h : Tryd.prog.typeName? 3 u = some "*errors.errorString") : u = 117 :=
  typeName_ptr_named (nm := "errors.errorString") (by rw [rowStar]; kernel_rfl) (by kernel_rfl) (by decide) u (by rw [rowStar]; exact h)

/-- The type's handle. -/
theorem handle_of_met {W : World} (h : handlesMet Tryd.prog [("errors.errorType", Rows.laid_errors_errorType)] W) :
    W.cell? ⟨14, 0, none⟩ = some (.iface 176 (.agg #[.pointer (some ⟨18, 33, none⟩)])) := by
  obtain ⟨name, u, ty, e1, e2, e3, e4, e5⟩ := h _ (List.mem_singleton.2 rfl)
  have en : name = [101, 114, 114, 111, 114] := (Option.some.inj e1).symm
  subst en
  obtain rfl := Option.some.inj (rowRt.symm.trans e2)
  have hm : ty ∈ (List.range 258).filter fun t => Tryd.prog.rowNamed t [101, 114, 114, 111, 114] := List.mem_filter.2 ⟨List.mem_range.2 (by rw [← rowSize]; exact e3), e4⟩
  rw [rowOneErr] at hm
  obtain rfl := List.mem_singleton.1 hm
  have hh : typeHandle Tryd.prog 33 = .pointer (some ⟨18, 33, none⟩) := by kernel_rfl
  rw [hh] at e5
  simpa using World.var?_cell rowEt e5 0

theorem rowArg : Tryd.prog.globalNamed "quitrent/api.ErrArg" = some 0 := by kernel_rfl
theorem rowArgT : (Tryd.prog.globals[0]?).map (·.type) = some 33 := by kernel_rfl
theorem rowNil : Tryd.prog.globalNamed "quitrent/api.ErrNil" = some 4 := by kernel_rfl
theorem rowNilT : (Tryd.prog.globals[4]?).map (·.type) = some 33 := by kernel_rfl
theorem rowForm : Tryd.prog.globalNamed "quitrent/api.ErrForm" = some 1 := by kernel_rfl
theorem rowFormT : (Tryd.prog.globals[1]?).map (·.type) = some 33 := by kernel_rfl
theorem rowC1 : Tryd.prog.cellsOf 119 = 1 := by kernel_rfl
theorem rowC2 : Tryd.prog.cellsOf 9 = 1 := by kernel_rfl
theorem rowC3 : Tryd.prog.cellsOf 3 = 1 := by kernel_rfl
theorem rowC4 : Tryd.prog.cellsOf 4 = 1 := by kernel_rfl
theorem rowC5 : Tryd.prog.cellsOf 23 = 3 := by kernel_rfl
theorem rowC6 : Tryd.prog.cellsOf 25 = 4 := by kernel_rfl
theorem rowC7 : Tryd.prog.cellsOf 27 = 15 := by kernel_rfl

/-- What the orders' rows lay. -/
def ordersLaid : List (String × DataW Unit) := [("errors.errorType", Rows.laid_errors_errorType), ("quitrent/api.ErrArg", Rows.laid_quitrent_api_ErrArg), ("quitrent/api.ErrNil", Rows.laid_quitrent_api_ErrNil), ("quitrent/api.ErrForm", Rows.laid_quitrent_api_ErrForm)]

theorem glob_of_laid {W : World} (h : laidMetH Tryd.prog ordersLaid W) : ∃ ea ef, Glob W.heap.size ea ef W := by
  have h' : laidMet Tryd.prog [("quitrent/api.ErrArg", Rows.laid_quitrent_api_ErrArg), ("quitrent/api.ErrNil", Rows.laid_quitrent_api_ErrNil), ("quitrent/api.ErrForm", Rows.laid_quitrent_api_ErrForm)] W ∧ handlesMet Tryd.prog [("errors.errorType", Rows.laid_errors_errorType)] W := h
  have hg := handle_of_met h'.2
  obtain ⟨a0, a1, s0, s1, c0, c1, t0, t1, v0, v1, _, _, _, _, _, _, _, b0, b1⟩ := laid_sentinels2 h'.1 rowArg rowArgT rowNil rowNilT Tryd.underlying33 rowErrS Tryd.underlying117 Tryd.underlying119 rfl rfl Tryd.underlying9 rowC1 rowC2
  obtain ⟨_, a2, _, s2, _, c2, _, t2, _, v2, _, _, _, _, _, _, _, _, b2⟩ := laid_sentinels2 h'.1.tail rowNil rowNilT rowForm rowFormT Tryd.underlying33 rowErrS Tryd.underlying117 Tryd.underlying119 rfl rfl Tryd.underlying9 rowC1 rowC2
  have ga : W.cell? ⟨0, 0, none⟩ = some (errv a0) := by simpa using World.var?_cell rowArg v0 0
  have gf : W.cell? ⟨1, 0, none⟩ = some (errv a2) := by simpa using World.var?_cell rowForm v2 0
  have lt : ∀ {b : Nat} {c : Array Value} {t : TypeId}, W.heap[b]? = some (.cells c t (0, 0)) → b < W.heap.size := fun h => (Array.getElem?_eq_some_iff.1 h).1
  exact ⟨a0, a2, ga, gf, hg, ⟨c0, t0, b0⟩, ⟨c2, t2, b2⟩, lt b0, lt b2, ⟨cell_lt hg, cell_lt ga, cell_lt gf⟩, Nat.le_refl _⟩

theorem wf64 {n : Int} (h : (Lit.int .i64 n).wf = true) : I64 n := bounds_i64 h

theorem list15 {α : Type} : ∀ {l : List α}, l.length = 15 → ∃ a0 a1 a2 a3 a4 a5 a6 a7 a8 a9 a10 a11 a12 a13 a14, l = [a0, a1, a2, a3, a4, a5, a6, a7, a8, a9, a10, a11, a12, a13, a14]
  | [a0, a1, a2, a3, a4, a5, a6, a7, a8, a9, a10, a11, a12, a13, a14], _ => ⟨a0, a1, a2, a3, a4, a5, a6, a7, a8, a9, a10, a11, a12, a13, a14, rfl⟩

set_option maxRecDepth 100000 in
/-- A command that comes in. -/
theorem open_cmd {H : Type} {enc : TypeId × Value → H} {W : World} {v : Value} {x : DataW H} {p : List MemPlace} {sp : Nat → Bool} {held : Bool} {base : Nat} (hv : Value.okWide Tryd.prog W .any base 27 v)
    (h : DataW.Trod enc Tryd.prog W 0 sp held 27 v x p) : ∃ c : Cmd, v = .agg c.cells ∧ c.Ok := by
  obtain ⟨cs, rfl, hsz⟩ := okWide_struct Tryd.underlying27 hv
  obtain ⟨fuel, hf⟩ := h
  have hf' : DataW.trod enc Tryd.prog W 0 sp held fuel 27 cs.toList = some (x, p) := hf
  obtain ⟨xs, n, rfl, hx, hl, hxl, hi⟩ := DataW.trod_struct Tryd.underlying27 hf'
  rw [rowC7] at hl
  obtain ⟨l⟩ := cs
  simp only at hl hi hf'
  clear hsz hf hf' hx
  have hxl : xs.length = 10 := hxl
  have g := fun (i : Nat) (hi' : i < 10) => List.getElem?_eq_getElem (l := xs) (i := i) (by omega)
  obtain ⟨n0, e0, _, w0⟩ := DataW.trod_int Tryd.underlying3 ((hi 0 _ rfl).trans (g 0 (by omega)))
  obtain ⟨n1, e1, _, w1⟩ := DataW.trod_int Tryd.underlying3 ((hi 1 _ rfl).trans (g 1 (by omega)))
  obtain ⟨n2, e2, _, w2⟩ := DataW.trod_int Tryd.underlying3 ((hi 2 _ rfl).trans (g 2 (by omega)))
  obtain ⟨ys, m, rfl, _, _, hyl, hj⟩ := DataW.trod_struct Tryd.underlying23 ((hi 3 _ rfl).trans (g 3 (by omega)))
  have hyl : ys.length = 3 := hyl
  have gy := fun (i : Nat) (hi' : i < 3) => List.getElem?_eq_getElem (l := ys) (i := i) (by omega)
  obtain ⟨n3, e3, _, w3⟩ := DataW.trod_int Tryd.underlying3 ((hj 0 _ rfl).trans (gy 0 (by omega)))
  obtain ⟨n4, e4, _, w4⟩ := DataW.trod_int Tryd.underlying3 ((hj 1 _ rfl).trans (gy 1 (by omega)))
  obtain ⟨n5, e5, _, w5⟩ := DataW.trod_int Tryd.underlying3 ((hj 2 _ rfl).trans (gy 2 (by omega)))
  obtain ⟨n6, e6, _, w6⟩ := DataW.trod_int Tryd.underlying3 ((hi 4 _ rfl).trans (g 4 (by omega)))
  obtain ⟨n7, e7, _, w7⟩ := DataW.trod_int Tryd.underlying3 ((hi 5 _ rfl).trans (g 5 (by omega)))
  obtain ⟨n8, e8, _, w8⟩ := DataW.trod_int Tryd.underlying3 ((hi 6 _ rfl).trans (g 6 (by omega)))
  obtain ⟨n9, e9, _, w9⟩ := DataW.trod_int Tryd.underlying3 ((hi 7 _ rfl).trans (g 7 (by omega)))
  obtain ⟨zs, k, hk, _, _, hzl, hz⟩ := DataW.trod_array Tryd.underlying25 ((hi 8 _ rfl).trans (g 8 (by omega)))
  have gz := fun (i : Nat) (hi' : i < 4) => List.getElem?_eq_getElem (l := zs) (i := i) (by omega)
  obtain ⟨v0, f0, _, u0⟩ := DataW.trod_int Tryd.underlying3 ((hz 0 (by omega)).trans (gz 0 (by omega)))
  obtain ⟨v1, f1, _, u1⟩ := DataW.trod_int Tryd.underlying3 ((hz 1 (by omega)).trans (gz 1 (by omega)))
  obtain ⟨v2, f2, _, u2⟩ := DataW.trod_int Tryd.underlying3 ((hz 2 (by omega)).trans (gz 2 (by omega)))
  obtain ⟨v3, f3, _, u3⟩ := DataW.trod_int Tryd.underlying3 ((hz 3 (by omega)).trans (gz 3 (by omega)))
  obtain ⟨b, e10, _⟩ := DataW.trod_bool Tryd.underlying4 ((hi 9 _ rfl).trans (g 9 (by omega)))
  clear hi hj hz g gy gz
  change List.take (Tryd.prog.cellsOf 3) (List.drop 0 l) = _ at e0
  change List.take (Tryd.prog.cellsOf 3) (List.drop 1 l) = _ at e1
  change List.take (Tryd.prog.cellsOf 3) (List.drop 2 l) = _ at e2
  change List.take (Tryd.prog.cellsOf 3) (List.drop 6 l) = _ at e6
  change List.take (Tryd.prog.cellsOf 3) (List.drop 7 l) = _ at e7
  change List.take (Tryd.prog.cellsOf 3) (List.drop 8 l) = _ at e8
  change List.take (Tryd.prog.cellsOf 3) (List.drop 9 l) = _ at e9
  change List.take (Tryd.prog.cellsOf 4) (List.drop 14 l) = _ at e10
  change List.take (Tryd.prog.cellsOf 3) (List.drop 0 (List.take (Tryd.prog.cellsOf 23) (List.drop 3 l))) = _ at e3
  change List.take (Tryd.prog.cellsOf 3) (List.drop 1 (List.take (Tryd.prog.cellsOf 23) (List.drop 3 l))) = _ at e4
  change List.take (Tryd.prog.cellsOf 3) (List.drop 2 (List.take (Tryd.prog.cellsOf 23) (List.drop 3 l))) = _ at e5
  change List.take (Tryd.prog.cellsOf 3) (List.drop (0 * Tryd.prog.cellsOf 3) (List.take (Tryd.prog.cellsOf 25) (List.drop 10 l))) = _ at f0
  change List.take (Tryd.prog.cellsOf 3) (List.drop (1 * Tryd.prog.cellsOf 3) (List.take (Tryd.prog.cellsOf 25) (List.drop 10 l))) = _ at f1
  change List.take (Tryd.prog.cellsOf 3) (List.drop (2 * Tryd.prog.cellsOf 3) (List.take (Tryd.prog.cellsOf 25) (List.drop 10 l))) = _ at f2
  change List.take (Tryd.prog.cellsOf 3) (List.drop (3 * Tryd.prog.cellsOf 3) (List.take (Tryd.prog.cellsOf 25) (List.drop 10 l))) = _ at f3
  rw [rowC3] at e0 e1 e2 e3 e4 e5 e6 e7 e8 e9 f0 f1 f2 f3
  rw [rowC4] at e10
  rw [rowC5] at e3 e4 e5
  rw [rowC6] at f0 f1 f2 f3
  obtain ⟨a0, a1, a2, a3, a4, a5, a6, a7, a8, a9, a10, a11, a12, a13, a14, rfl⟩ := list15 hl
  simp at e0 e1 e2 e3 e4 e5 e6 e7 e8 e9 f0 f1 f2 f3 e10
  subst e0 e1 e2 e3 e4 e5 e6 e7 e8 e9 f0 f1 f2 f3 e10
  refine ⟨⟨n0, n1, n2, n3, n4, n5, n6, n7, n8, n9, v0, v1, v2, v3, b⟩, rfl, wf64 w0, ?_, wf64 u0, wf64 u1, wf64 u2, wf64 u3⟩
  intro o h1 h9
  have h : o = 1 ∨ o = 2 ∨ o = 3 ∨ o = 4 ∨ o = 5 ∨ o = 6 ∨ o = 7 ∨ o = 8 ∨ o = 9 := by omega
  rcases h with rfl | rfl | rfl | rfl | rfl | rfl | rfl | rfl | rfl
  · exact wf64 w1
  · exact wf64 w2
  · exact wf64 w3
  · exact wf64 w4
  · exact wf64 w5
  · exact wf64 w6
  · exact wf64 w7
  · exact wf64 w8
  · exact wf64 w9

end Go.Proofs.YtnlhmlgoipnekaaDoor
