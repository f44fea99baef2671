/- The rows' common road with all fourteen errors: what the laid variables give; a slice of ints that comes in; the witness world. -/
import Derived.Test.YtnlhmlgoipnekaaDoorRow
import Derived.Test.YtnlhmlgoipnekaaDoorKn
import Derived.Test.YtnlhmlgoipnekaaDoorIr
import Derived.ChangeSlices
namespace Go.Proofs.YtnlhmlgoipnekaaDoor
open Go.ChangeShapes Go.WideShapes Go.RowKit

theorem rowOver : Tryd.prog.globalNamed "quitrent/api.ErrOver" = some 5 := by kernel_rfl
theorem rowOverT : (Tryd.prog.globals[5]?).map (·.type) = some 33 := by kernel_rfl
theorem rowNone : Tryd.prog.globalNamed "quitrent/api.ErrNone" = some 6 := by kernel_rfl
theorem rowNoneT : (Tryd.prog.globals[6]?).map (·.type) = some 33 := by kernel_rfl
theorem rowDup : Tryd.prog.globalNamed "quitrent/api.ErrDup" = some 7 := by kernel_rfl
theorem rowDupT : (Tryd.prog.globals[7]?).map (·.type) = some 33 := by kernel_rfl
theorem rowFull : Tryd.prog.globalNamed "quitrent/api.ErrFull" = some 8 := by kernel_rfl
theorem rowFullT : (Tryd.prog.globals[8]?).map (·.type) = some 33 := by kernel_rfl
theorem rowQuota : Tryd.prog.globalNamed "quitrent/api.ErrQuota" = some 9 := by kernel_rfl
theorem rowQuotaT : (Tryd.prog.globals[9]?).map (·.type) = some 33 := by kernel_rfl
theorem rowCeil : Tryd.prog.globalNamed "quitrent/api.ErrCeil" = some 2 := by kernel_rfl
theorem rowCeilT : (Tryd.prog.globals[2]?).map (·.type) = some 33 := by kernel_rfl
theorem rowRoom : Tryd.prog.globalNamed "quitrent/api.ErrRoom" = some 10 := by kernel_rfl
theorem rowRoomT : (Tryd.prog.globals[10]?).map (·.type) = some 33 := by kernel_rfl
theorem rowBudget : Tryd.prog.globalNamed "quitrent/api.ErrBudget" = some 11 := by kernel_rfl
theorem rowBudgetT : (Tryd.prog.globals[11]?).map (·.type) = some 33 := by kernel_rfl
theorem rowFunds : Tryd.prog.globalNamed "quitrent/api.ErrFunds" = some 3 := by kernel_rfl
theorem rowFundsT : (Tryd.prog.globals[3]?).map (·.type) = some 33 := by kernel_rfl
theorem rowState : Tryd.prog.globalNamed "quitrent/api.ErrState" = some 12 := by kernel_rfl
theorem rowStateT : (Tryd.prog.globals[12]?).map (·.type) = some 33 := by kernel_rfl
theorem rowDown : Tryd.prog.globalNamed "quitrent/api.ErrDown" = some 13 := by kernel_rfl
theorem rowDownT : (Tryd.prog.globals[13]?).map (·.type) = some 33 := by kernel_rfl

/-- What the rows lay. -/
def laid14 : List (String × DataW Unit) := [("errors.errorType", Rows.laid_errors_errorType), ("quitrent/api.ErrArg", Rows.laid_quitrent_api_ErrArg), ("quitrent/api.ErrNil", Rows.laid_quitrent_api_ErrNil), ("quitrent/api.ErrForm", Rows.laid_quitrent_api_ErrForm), ("quitrent/api.ErrOver", Rows.laid_quitrent_api_ErrOver), ("quitrent/api.ErrNone", Rows.laid_quitrent_api_ErrNone), ("quitrent/api.ErrDup", Rows.laid_quitrent_api_ErrDup), ("quitrent/api.ErrFull", Rows.laid_quitrent_api_ErrFull), ("quitrent/api.ErrQuota", Rows.laid_quitrent_api_ErrQuota), ("quitrent/api.ErrCeil", Rows.laid_quitrent_api_ErrCeil), ("quitrent/api.ErrRoom", Rows.laid_quitrent_api_ErrRoom), ("quitrent/api.ErrBudget", Rows.laid_quitrent_api_ErrBudget), ("quitrent/api.ErrFunds", Rows.laid_quitrent_api_ErrFunds), ("quitrent/api.ErrState", Rows.laid_quitrent_api_ErrState), ("quitrent/api.ErrDown", Rows.laid_quitrent_api_ErrDown)]

def texts14 : List (List UInt8) := [[97, 110, 32, 97, 114, 103, 117, 109, 101, 110, 116, 32, 116, 104, 97, 116, 32, 99, 97, 110, 39, 116, 32, 98, 101], [97, 32, 110, 105, 108, 32, 116, 104, 105, 110, 103], [98, 121, 116, 101, 115, 32, 111, 102, 32, 110, 111, 32, 102, 111, 114, 109], [97, 32, 110, 117, 109, 98, 101, 114, 32, 116, 104, 97, 116, 32, 105, 115, 32, 116, 111, 111, 32, 103, 114, 101, 97, 116, 44, 32, 111, 114, 32, 98, 101, 108, 111, 119, 32, 110, 111, 116, 104, 105, 110, 103], [116, 104, 101, 114, 101, 32, 105, 115, 32, 110, 111, 110, 101], [116, 104, 101, 114, 101, 32, 105, 115, 32, 111, 110, 101], [116, 104, 101, 114, 101, 32, 97, 114, 101, 32, 116, 111, 111, 32, 109, 97, 110, 121], [116, 111, 111, 32, 108, 105, 116, 116, 108, 101, 32, 113, 117, 111, 116, 97], [109, 111, 114, 101, 32, 116, 104, 97, 110, 32, 109, 97, 121, 32, 98, 101, 32, 103, 105, 118, 101, 110, 32, 111, 117, 116], [110, 111, 32, 109, 97, 99, 104, 105, 110, 101, 32, 104, 97, 115, 32, 114, 111, 111, 109], [116, 111, 111, 32, 109, 97, 110, 121, 32, 101, 118, 105, 99, 116, 105, 111, 110, 115, 32, 111, 102, 32, 97, 32, 106, 111, 98], [116, 111, 111, 32, 108, 105, 116, 116, 108, 101, 32, 99, 114, 101, 100, 105, 116], [110, 111, 116, 32, 110, 111, 119], [116, 104, 101, 32, 112, 111, 119, 101, 114, 32, 105, 115, 32, 97, 119, 97, 121]]

theorem texts14_ne : ∀ i < 14, ∀ j < 14, i ≠ j → texts14.getD i [] ≠ texts14.getD j [] := by decide +kernel

theorem globE_of_laid {W : World} (h : laidMetH Tryd.prog laid14 W) : ∃ E, GlobE W.heap.size E W := by
  have h' : laidMet Tryd.prog [("quitrent/api.ErrArg", Rows.laid_quitrent_api_ErrArg), ("quitrent/api.ErrNil", Rows.laid_quitrent_api_ErrNil), ("quitrent/api.ErrForm", Rows.laid_quitrent_api_ErrForm), ("quitrent/api.ErrOver", Rows.laid_quitrent_api_ErrOver), ("quitrent/api.ErrNone", Rows.laid_quitrent_api_ErrNone), ("quitrent/api.ErrDup", Rows.laid_quitrent_api_ErrDup), ("quitrent/api.ErrFull", Rows.laid_quitrent_api_ErrFull), ("quitrent/api.ErrQuota", Rows.laid_quitrent_api_ErrQuota), ("quitrent/api.ErrCeil", Rows.laid_quitrent_api_ErrCeil), ("quitrent/api.ErrRoom", Rows.laid_quitrent_api_ErrRoom), ("quitrent/api.ErrBudget", Rows.laid_quitrent_api_ErrBudget), ("quitrent/api.ErrFunds", Rows.laid_quitrent_api_ErrFunds), ("quitrent/api.ErrState", Rows.laid_quitrent_api_ErrState), ("quitrent/api.ErrDown", Rows.laid_quitrent_api_ErrDown)] W ∧ handlesMet Tryd.prog [("errors.errorType", Rows.laid_errors_errorType)] W := h
  have hg := handle_of_met h'.2
  have t0 := h'.1
  obtain ⟨a0, a1, s0, s1, _, _, _, _, v0, v1, cc0, st0, _, cc1, st1, _, _, b0, b1⟩ := laid_sentinels2 t0 rowArg rowArgT rowNil rowNilT Tryd.underlying33 rowErrS Tryd.underlying117 Tryd.underlying119 rfl rfl Tryd.underlying9 rowC1 rowC2
  have t2 := t0.tail.tail
  obtain ⟨a2, a3, s2, s3, _, _, _, _, v2, v3, cc2, st2, _, cc3, st3, _, _, b2, b3⟩ := laid_sentinels2 t2 rowForm rowFormT rowOver rowOverT Tryd.underlying33 rowErrS Tryd.underlying117 Tryd.underlying119 rfl rfl Tryd.underlying9 rowC1 rowC2
  have t4 := t2.tail.tail
  obtain ⟨a4, a5, s4, s5, _, _, _, _, v4, v5, cc4, st4, _, cc5, st5, _, _, b4, b5⟩ := laid_sentinels2 t4 rowNone rowNoneT rowDup rowDupT Tryd.underlying33 rowErrS Tryd.underlying117 Tryd.underlying119 rfl rfl Tryd.underlying9 rowC1 rowC2
  have t6 := t4.tail.tail
  obtain ⟨a6, a7, s6, s7, _, _, _, _, v6, v7, cc6, st6, _, cc7, st7, _, _, b6, b7⟩ := laid_sentinels2 t6 rowFull rowFullT rowQuota rowQuotaT Tryd.underlying33 rowErrS Tryd.underlying117 Tryd.underlying119 rfl rfl Tryd.underlying9 rowC1 rowC2
  have t8 := t6.tail.tail
  obtain ⟨a8, a9, s8, s9, _, _, _, _, v8, v9, cc8, st8, _, cc9, st9, _, _, b8, b9⟩ := laid_sentinels2 t8 rowCeil rowCeilT rowRoom rowRoomT Tryd.underlying33 rowErrS Tryd.underlying117 Tryd.underlying119 rfl rfl Tryd.underlying9 rowC1 rowC2
  have t10 := t8.tail.tail
  obtain ⟨a10, a11, s10, s11, _, _, _, _, v10, v11, cc10, st10, _, cc11, st11, _, _, b10, b11⟩ := laid_sentinels2 t10 rowBudget rowBudgetT rowFunds rowFundsT Tryd.underlying33 rowErrS Tryd.underlying117 Tryd.underlying119 rfl rfl Tryd.underlying9 rowC1 rowC2
  have t12 := t10.tail.tail
  obtain ⟨a12, a13, s12, s13, _, _, _, _, v12, v13, cc12, st12, _, cc13, st13, _, _, b12, b13⟩ := laid_sentinels2 t12 rowState rowStateT rowDown rowDownT Tryd.underlying33 rowErrS Tryd.underlying117 Tryd.underlying119 rfl rfl Tryd.underlying9 rowC1 rowC2
  have g0 : W.cell? ⟨0, 0, none⟩ = some (errv a0) := by simpa using World.var?_cell rowArg v0 0
  have g1 : W.cell? ⟨4, 0, none⟩ = some (errv a1) := by simpa using World.var?_cell rowNil v1 0
  have g2 : W.cell? ⟨1, 0, none⟩ = some (errv a2) := by simpa using World.var?_cell rowForm v2 0
  have g3 : W.cell? ⟨5, 0, none⟩ = some (errv a3) := by simpa using World.var?_cell rowOver v3 0
  have g4 : W.cell? ⟨6, 0, none⟩ = some (errv a4) := by simpa using World.var?_cell rowNone v4 0
  have g5 : W.cell? ⟨7, 0, none⟩ = some (errv a5) := by simpa using World.var?_cell rowDup v5 0
  have g6 : W.cell? ⟨8, 0, none⟩ = some (errv a6) := by simpa using World.var?_cell rowFull v6 0
  have g7 : W.cell? ⟨9, 0, none⟩ = some (errv a7) := by simpa using World.var?_cell rowQuota v7 0
  have g8 : W.cell? ⟨2, 0, none⟩ = some (errv a8) := by simpa using World.var?_cell rowCeil v8 0
  have g9 : W.cell? ⟨10, 0, none⟩ = some (errv a9) := by simpa using World.var?_cell rowRoom v9 0
  have g10 : W.cell? ⟨11, 0, none⟩ = some (errv a10) := by simpa using World.var?_cell rowBudget v10 0
  have g11 : W.cell? ⟨3, 0, none⟩ = some (errv a11) := by simpa using World.var?_cell rowFunds v11 0
  have g12 : W.cell? ⟨12, 0, none⟩ = some (errv a12) := by simpa using World.var?_cell rowState v12 0
  have g13 : W.cell? ⟨13, 0, none⟩ = some (errv a13) := by simpa using World.var?_cell rowDown v13 0
  have lt : ∀ {b : Nat} {c : Array Value} {t : TypeId}, W.heap[b]? = some (.cells c t (0, 0)) → b < W.heap.size := fun h => (Array.getElem?_eq_some_iff.1 h).1
  have hc : ∀ i, i < 14 → ∃ s, W.cell? ([a0, a1, a2, a3, a4, a5, a6, a7, a8, a9, a10, a11, a12, a13].getD i default) = some (.string s) ∧ s.data.toList = texts14.getD i [] := by
    intro i hi
    have h : i = 0 ∨ i = 1 ∨ i = 2 ∨ i = 3 ∨ i = 4 ∨ i = 5 ∨ i = 6 ∨ i = 7 ∨ i = 8 ∨ i = 9 ∨ i = 10 ∨ i = 11 ∨ i = 12 ∨ i = 13 := by omega
    rcases h with rfl | rfl | rfl | rfl | rfl | rfl | rfl | rfl | rfl | rfl | rfl | rfl | rfl | rfl
    · exact ⟨s0, cc0, st0⟩
    · exact ⟨s1, cc1, st1⟩
    · exact ⟨s2, cc2, st2⟩
    · exact ⟨s3, cc3, st3⟩
    · exact ⟨s4, cc4, st4⟩
    · exact ⟨s5, cc5, st5⟩
    · exact ⟨s6, cc6, st6⟩
    · exact ⟨s7, cc7, st7⟩
    · exact ⟨s8, cc8, st8⟩
    · exact ⟨s9, cc9, st9⟩
    · exact ⟨s10, cc10, st10⟩
    · exact ⟨s11, cc11, st11⟩
    · exact ⟨s12, cc12, st12⟩
    · exact ⟨s13, cc13, st13⟩
  refine ⟨fun i => [a0, a1, a2, a3, a4, a5, a6, a7, a8, a9, a10, a11, a12, a13].getD i default, ?_, ?_, ?_, ?_, hg, ?_, Nat.le_refl _⟩
  · intro i hi
    have h : i = 0 ∨ i = 1 ∨ i = 2 ∨ i = 3 ∨ i = 4 ∨ i = 5 ∨ i = 6 ∨ i = 7 ∨ i = 8 ∨ i = 9 ∨ i = 10 ∨ i = 11 ∨ i = 12 ∨ i = 13 := by omega
    rcases h with rfl | rfl | rfl | rfl | rfl | rfl | rfl | rfl | rfl | rfl | rfl | rfl | rfl | rfl
    · exact g0
    · exact g1
    · exact g2
    · exact g3
    · exact g4
    · exact g5
    · exact g6
    · exact g7
    · exact g8
    · exact g9
    · exact g10
    · exact g11
    · exact g12
    · exact g13
  · intro i hi
    have h : i = 0 ∨ i = 1 ∨ i = 2 ∨ i = 3 ∨ i = 4 ∨ i = 5 ∨ i = 6 ∨ i = 7 ∨ i = 8 ∨ i = 9 ∨ i = 10 ∨ i = 11 ∨ i = 12 ∨ i = 13 := by omega
    rcases h with rfl | rfl | rfl | rfl | rfl | rfl | rfl | rfl | rfl | rfl | rfl | rfl | rfl | rfl
    · exact ⟨_, _, b0⟩
    · exact ⟨_, _, b1⟩
    · exact ⟨_, _, b2⟩
    · exact ⟨_, _, b3⟩
    · exact ⟨_, _, b4⟩
    · exact ⟨_, _, b5⟩
    · exact ⟨_, _, b6⟩
    · exact ⟨_, _, b7⟩
    · exact ⟨_, _, b8⟩
    · exact ⟨_, _, b9⟩
    · exact ⟨_, _, b10⟩
    · exact ⟨_, _, b11⟩
    · exact ⟨_, _, b12⟩
    · exact ⟨_, _, b13⟩
  · intro i hi
    have h : i = 0 ∨ i = 1 ∨ i = 2 ∨ i = 3 ∨ i = 4 ∨ i = 5 ∨ i = 6 ∨ i = 7 ∨ i = 8 ∨ i = 9 ∨ i = 10 ∨ i = 11 ∨ i = 12 ∨ i = 13 := by omega
    rcases h with rfl | rfl | rfl | rfl | rfl | rfl | rfl | rfl | rfl | rfl | rfl | rfl | rfl | rfl
    · exact lt b0
    · exact lt b1
    · exact lt b2
    · exact lt b3
    · exact lt b4
    · exact lt b5
    · exact lt b6
    · exact lt b7
    · exact lt b8
    · exact lt b9
    · exact lt b10
    · exact lt b11
    · exact lt b12
    · exact lt b13
  · intro i j hi hj hij he
    obtain ⟨s, hs1, hs2⟩ := hc i hi
    obtain ⟨r, hr1, hr2⟩ := hc j hj
    rw [show [a0, a1, a2, a3, a4, a5, a6, a7, a8, a9, a10, a11, a12, a13].getD i default = [a0, a1, a2, a3, a4, a5, a6, a7, a8, a9, a10, a11, a12, a13].getD j default from he, hr1] at hs1
    have e : r = s := by simpa using hs1
    exact texts14_ne i hi j hj hij (by rw [← hs2, ← hr2, e])
  · refine ⟨cell_lt hg, ?_⟩
    intro i hi
    have h : i = 0 ∨ i = 1 ∨ i = 2 ∨ i = 3 ∨ i = 4 ∨ i = 5 ∨ i = 6 ∨ i = 7 ∨ i = 8 ∨ i = 9 ∨ i = 10 ∨ i = 11 ∨ i = 12 ∨ i = 13 := by omega
    rcases h with rfl | rfl | rfl | rfl | rfl | rfl | rfl | rfl | rfl | rfl | rfl | rfl | rfl | rfl
    · exact cell_lt g0
    · exact cell_lt g1
    · exact cell_lt g2
    · exact cell_lt g3
    · exact cell_lt g4
    · exact cell_lt g5
    · exact cell_lt g6
    · exact cell_lt g7
    · exact cell_lt g8
    · exact cell_lt g9
    · exact cell_lt g10
    · exact cell_lt g11
    · exact cell_lt g12
    · exact cell_lt g13

set_option maxRecDepth 100000 in
/-- A slice of ints that comes in. -/
theorem open_row {H : Type} {enc : TypeId × Value → H} {W : World} {v : Value} {x : DataW H} {p : List MemPlace} {held : Bool} {r : Reach} {b0 : Nat} (hv : Value.okWide Tryd.prog W r b0 49 v)
    (h : DataW.Trod enc Tryd.prog W 0 (fun _ => true) held 49 v x p) : ∃ xs, IntRow W v 1 xs := by
  obtain ⟨fuel, hf⟩ := h
  rcases open_ints Tryd.underlying49 Tryd.underlying3 rowC3 hf with ⟨hcs, _⟩ | ⟨a, len, cap, zs, hcs, _, hlc, hcm, hz, _, hcell, hwf⟩
  · have hv' : v = .slice none 0 0 := by
      obtain ⟨q, n, c, rfl⟩ := okWide_slice Tryd.underlying49 hv
      simpa [Value.cells] using hcs
    exact ⟨[], by simp, .inl ⟨hv', rfl⟩⟩
  · have hv' : v = .slice (some a) len cap := by
      obtain ⟨q, n, c, rfl⟩ := okWide_slice Tryd.underlying49 hv
      simpa [Value.cells] using hcs
    have hz' : zs.length = cap := by simpa using hz
    have hsp : zs ≠ [] → a.spot = none := by
      intro hne
      have := World.cell?_spot (hcell 0 (List.length_pos_iff.2 hne))
      simpa [Addr.add] using this
    refine ⟨zs.take len, fun n hn => wf64 (hwf n (List.mem_of_mem_take hn)), .inr ⟨a, len, cap, hv', by simp; omega, hlc, ?_, ?_⟩⟩
    · intro hne; exact hsp (by rintro rfl; simp at hne)
    · intro j hj
      have hj' : j < zs.length := by simp at hj; omega
      have hjl : j < len := by simp at hj; omega
      have := hcell j hj'
      have e : (zs.take len).getD j 0 = zs.getD j 0 := by
        simp only [List.getD_eq_getElem?_getD, List.getElem?_take, if_pos hjl]
      rw [e, ← this]
      have hs := hsp (by rintro rfl; simp at hj')
      obtain ⟨ab, ao, sp⟩ := a
      simp at hs
      subst hs
      cases j <;> simp [Addr.add]

set_option maxRecDepth 100000 in
/-- A world that meets the condition. -/
noncomputable def world14 (os : Os) : World :=
  let w0 := World.holding Tryd.prog os ⟨#[], #[], []⟩
  let n := w0.heap.size
  let set (h : Array Obj) (g : Nat) (v : Value) : Array Obj := h.modify g fun
      | .cells _ t frozen => .cells #[v] t frozen
      | o => o
  let l : List (Nat × Value) := (14, .iface 176 (.agg #[.pointer (some ⟨18, 33, none⟩)])) :: (List.range 14).map fun k => (gids.getD k 0, errv ⟨n + k, 0, none⟩)
  { w0 with heap := l.foldl (fun h p => set h p.1 p.2) w0.heap ++ (texts14.map fun t => Obj.cells #[.string ⟨t.toArray⟩] 119 (0, 0)).toArray }

noncomputable abbrev ordersLow14 : Nat := (World.holding Tryd.prog default ⟨#[], #[], []⟩).heap.size

set_option maxRecDepth 100000 in
theorem world14_met (os : Os) (args : Array Value) : laidMetH Tryd.prog laid14 ((world14 os).forCall (fun _ _ => 0) ⟨#[], args, []⟩).memory := by
  refine laidMetH_of_parts (laidMet_of_run (ps := [.cell 0 0, .cell ordersLow14 0, .cell 4 0, .cell (ordersLow14 + 1) 0, .cell 1 0, .cell (ordersLow14 + 2) 0, .cell 5 0, .cell (ordersLow14 + 3) 0, .cell 6 0, .cell (ordersLow14 + 4) 0, .cell 7 0, .cell (ordersLow14 + 5) 0, .cell 8 0, .cell (ordersLow14 + 6) 0, .cell 9 0, .cell (ordersLow14 + 7) 0, .cell 2 0, .cell (ordersLow14 + 8) 0, .cell 10 0, .cell (ordersLow14 + 9) 0, .cell 11 0, .cell (ordersLow14 + 10) 0, .cell 3 0, .cell (ordersLow14 + 11) 0, .cell 12 0, .cell (ordersLow14 + 12) 0, .cell 13 0, .cell (ordersLow14 + 13) 0]) 8 (by kernel_rfl) (by kernel_rfl) (by kernel_rfl)) (by kernel_rfl)

end Go.Proofs.YtnlhmlgoipnekaaDoor
