/- errors.As at an errors.New and a target of **api.Fault; package reply: At. -/
import Derived.Test.YtnlhmlgoipnekaaDoorAs
import Derived.Test.YtnlhmlgoipnekaaDoorKn
namespace Go.Proofs.YtnlhmlgoipnekaaDoor
open Go.RowKit Go.Extern.Stop Go.Stop Go.Extern

theorem Ftas.typeOfE (v : Value) (w : World) : (ReflectliteType.typeOf #[.iface 117 v]).run Tryd.prog w = .ok (.iface 176 (.agg #[.pointer (some ⟨18, 117, none⟩)])) w := by kernel_rfl
theorem Ftas.assignableE (w : World) : (ReflectliteType.relation "AssignableTo" ReflectliteType.assignableTo #[.agg #[.pointer (some ⟨18, 117, none⟩)], .iface 176 (.agg #[.pointer (some ⟨18, 51, none⟩)])]).run Tryd.prog w = .ok (.bool false) w := by kernel_rfl
theorem noAsE (v : Value) (xT : TypeId) (w : World) : (Instr.typeAssert (.iface 117 v) xT 206 true).run Tryd.prog w = .ok (.tuple #[.nilIface, .bool false]) w := run_typeAssert_lacksB Tryd.underlying206 (by kernel_rfl) (by kernel_rfl) v xT w

set_option maxHeartbeats 4000000 in
theorem as_miss (e t : Addr) (old : Value) (w : World) (hg : w.cell? ⟨14, 0, none⟩ = some (.iface 176 (.agg #[.pointer (some ⟨18, 33, none⟩)]))) (ht0 : w.cell? t = some old) (hf0 : w.frozen? t = false) :
    Calls Tryd.prog 46 #[errv e, .iface 87 (.pointer (some t))] w fun ev w' => ev = .returned (.bool false) ∧ Keeps [] w w' := by
  have h6 := @run_callFunc_extern Tryd.prog 94 _ (fun args => ReflectliteValue.unpack (args.getD 0 (.tuple #[]))) Tryd.func94 (by kernel_rfl) (by kernel_rfl) (by kernel_rfl) (by kernel_rfl)
  have h7 := @run_callFunc_extern Tryd.prog 95 _ (ReflectliteValue.methodAny (ReflectliteValue.valueError "reflectlite.Value.Type" 0) (fun t _ _ _ => ReflectliteType.toType t)) Tryd.func95 (by kernel_rfl) (by kernel_rfl) (by kernel_rfl) (by kernel_rfl)
  have h8 := @run_callFunc_extern Tryd.prog 96 _ (ReflectliteValue.method (ReflectliteValue.valueError "reflectlite.Value.IsNil" 0) ReflectliteValue.isNil) Tryd.func96 (by kernel_rfl) (by kernel_rfl) (by kernel_rfl) (by kernel_rfl)
  have h27 := @run_callFunc_extern Tryd.prog 141 _ (ReflectliteType.abiMethod fun t => do pure (.int .u8 (← Rtype.kind t))) Tryd.func141 (by kernel_rfl) (by kernel_rfl) (by kernel_rfl) (by kernel_rfl)
  have h37 := @run_callFunc_extern Tryd.prog 167 _ (ReflectliteType.method ReflectliteType.elem) Tryd.func167 (by kernel_rfl) (by kernel_rfl) (by kernel_rfl) (by kernel_rfl)
  have h38 := @run_callFunc_extern Tryd.prog 168 _ (ReflectliteType.relation "Implements" ReflectliteType.implements_) Tryd.func168 (by kernel_rfl) (by kernel_rfl) (by kernel_rfl) (by kernel_rfl)
  have h10 := @run_callFunc_extern Tryd.prog 56 _ ReflectliteType.typeOf Tryd.func56 (by kernel_rfl) (by kernel_rfl) (by kernel_rfl) (by kernel_rfl)
  have h35 := @run_callFunc_extern Tryd.prog 165 _ (ReflectliteType.relation "AssignableTo" ReflectliteType.assignableTo) Tryd.func165 (by kernel_rfl) (by kernel_rfl) (by kernel_rfl) (by kernel_rfl)
  have h11 := @run_callFunc_extern Tryd.prog 112 _ (ReflectliteValue.method (ReflectliteValue.valueError "reflectlite.Value.Elem" 0) ReflectliteValue.elem) Tryd.func112 (by kernel_rfl) (by kernel_rfl) (by kernel_rfl) (by kernel_rfl)
  have h12 := @run_callFunc_extern Tryd.prog 113 _ ReflectliteValue.set Tryd.func113 (by kernel_rfl) (by kernel_rfl) (by kernel_rfl) (by kernel_rfl)
  have tO := Ftas.typeOfE
  have mA := Ftas.methodAssignableTo
  have a25 := Ftas.assignableE
  have v25 := Ftas.valueOf25
  have f6 := Ftas.valueOf27
  have f7 := Ftas.type27
  have mK := Ftas.methodKind
  have mE := Ftas.methodElem
  have mI := Ftas.methodImplements
  have k27 := Ftas.kind27
  have k25 := Ftas.kind25
  have e27 := Ftas.elem27
  have i25 := Ftas.implements25
  have n8 := Ftas.isNil27 ⟨w.heap.size, 0, none⟩ t ((w.alloc (.cells #[.pointer (some t)] 87)).alloc (.cells #[.pointer (some ⟨18, 87, none⟩), .pointer (some ⟨w.heap.size, 0, none⟩), .int .u64 150] 163)) (by simp)
  have hlt : 14 < w.heap.size := cell_lt hg
  have hg2 : ((w.alloc (.cells #[.pointer (some t)] 87)).alloc (.cells #[.pointer (some ⟨18, 87, none⟩), .pointer (some ⟨w.heap.size, 0, none⟩), .int .u64 150] 163)).cell? ⟨14, 0, none⟩ = some (.iface 176 (.agg #[.pointer (some ⟨18, 33, none⟩)])) := by
    exact (((Keeps.refl [] w).alloc _).alloc _).cellAt hg (by simp)
  have htl : t.block < w.heap.size := by
    rcases Nat.lt_or_ge t.block w.heap.size with h | h
    · exact h
    · simp [World.cell?, Array.getElem?_eq_none h] at ht0
  have nA := noAsE
  have nU := noUnwrapE
  have nV := noUnwrapsE
  have HK : Hid (Keeps [] w (((w.alloc (.cells #[.pointer (some t)] 87)).alloc (.cells #[.pointer (some ⟨18, 87, none⟩), .pointer (some ⟨w.heap.size, 0, none⟩), .int .u64 150] 163)))) := Lib.hid (((Keeps.refl [] w).alloc _).alloc _)
  go_enter Tryd.func46, Tryd.ntmps46
  go_wp2
  refine wp_loop_rounds 1 ?_
  rw [rounds_succ]
  go_wp2
  go_ret
  exact ⟨rfl, by first | exact HK.out | exact HK.out.alloc _ | exact (HK.out.alloc _).alloc _ | exact ((HK.out.alloc _).alloc _).alloc _⟩

/-- errors.As finds no Fault. -/
theorem as_err (e : Addr) (tb : Nat) (old : Value) (w : World) (hg : w.cell? ⟨14, 0, none⟩ = some (.iface 176 (.agg #[.pointer (some ⟨18, 33, none⟩)]))) (ht : Blk w tb 51 #[old]) :
    Calls Tryd.prog 46 #[errv e, .iface 87 (.pointer (some ⟨tb, 0, none⟩))] w fun ev w' => ev = .returned (.bool false) ∧ Keeps [] w w' :=
  as_miss e ⟨tb, 0, none⟩ old w hg (by rw [ht.cell]; rfl) (ht.frz 0)

set_option maxRecDepth 100000 in
set_option maxHeartbeats 1000000 in
theorem at24_fault {B : Nat} {E : Nat → Addr} (fb : Nat) (op n inner : Value) (w : World) (hG : GlobE B E w) (hF : Blk w fb 53 #[op, n, inner]) :
    Calls Tryd.prog 28 #[faultV fb] w fun e w' => e = .returned n ∧ Keeps [] w w' := by
  unfold faultV
  obtain ⟨w0, hw0⟩ : ∃ w0, w.alloc (.cells #[.pointer none] 51) = w0 := ⟨_, rfl⟩
  have hb0 : Blk w0 w.heap.size 51 #[.pointer none] := by rw [← hw0]; exact Blk.new _ _ _
  have hk0 : Keeps [] w w0 := by rw [← hw0]; exact (Keeps.refl _ _).alloc _
  have hG0 := hG.keep0 hk0
  have hF0 := hF.keep hk0 (by simp)
  have hne : fb ≠ w.heap.size := by have := hF.lt; omega
  go_enter Tryd.func28, Tryd.ntmps28
  go_wp2_with fail
  clear hw0
  refine (as_fault fb w.heap.size (.pointer none) w0 hG0.etype hb0).mono ?_
  rintro e w1 ⟨rfl, hb1, hk1⟩
  have hF1 := hF0.keep hk1 (nmem1 hne)
  have ht1 := hb1.cell
  have hf1 := hF1.cell
  have hK1 : Keeps [] w w1 := hk0.trans' hk1 (by simp)
  clear hb0 hk0 hG0 hF0 hk1 hb1
  go_wp2_with fail
  go_ret
  exact ⟨rfl, hK1⟩

set_option maxRecDepth 100000 in
set_option maxHeartbeats 1000000 in
theorem at24_err {B : Nat} {E : Nat → Addr} (a : Addr) (w : World) (hG : GlobE B E w) :
    Calls Tryd.prog 28 #[errv a] w fun e w' => e = .returned (.int .i64 0) ∧ Keeps [] w w' := by
  obtain ⟨w0, hw0⟩ : ∃ w0, w.alloc (.cells #[.pointer none] 51) = w0 := ⟨_, rfl⟩
  have hb0 : Blk w0 w.heap.size 51 #[.pointer none] := by rw [← hw0]; exact Blk.new _ _ _
  have hk0 : Keeps [] w w0 := by rw [← hw0]; exact (Keeps.refl _ _).alloc _
  have hG0 := hG.keep0 hk0
  go_enter Tryd.func28, Tryd.ntmps28
  go_wp2_with fail
  clear hw0
  refine (as_err a w.heap.size (.pointer none) w0 hG0.etype hb0).mono ?_
  rintro e w1 ⟨rfl, hk1⟩
  go_wp2_with fail
  go_ret
  exact ⟨rfl, hk0.trans hk1⟩

/-- errors.New. -/
theorem new_any (s : ByteArray) (w : World) :
    Calls Tryd.prog 29 #[.string s] w fun e w' => e = .returned (errv ⟨w.heap.size, 0, none⟩) ∧ Own w' ⟨w.heap.size, 0, none⟩ ∧ Keeps [] w w' := by
  go_enter Tryd.func29, Tryd.ntmps29
  go_wp2_with fail
  go_ret
  exact ⟨rfl, ⟨_, _, Blk.new _ _ _⟩, (Keeps.refl _ _).alloc _⟩

end Go.Proofs.YtnlhmlgoipnekaaDoor
