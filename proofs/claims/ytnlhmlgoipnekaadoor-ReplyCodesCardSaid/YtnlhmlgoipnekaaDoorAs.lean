/- errors.As at the target **api.Fault: nil, and a Fault. After the worked example of the guide. -/
import Derived.Test.YtnlhmlgoipnekaaDoorErr
namespace Go.Proofs.YtnlhmlgoipnekaaDoor
open Go.RowKit Go.Extern.Stop Go.Stop Go.Extern

theorem as_nil (t : Value) (w : World) :
    Calls Tryd.prog 46 #[.nilIface, t] w fun e w' => e = .returned (.bool false) ∧ w' = w := by
  go_enter Tryd.func46, Tryd.ntmps46
  go_wp2
  go_ret
  exact ⟨rfl, rfl⟩

/-! ### CLOSED FACTS ON THE MODEL's ENTRIES FOR internal/reflectlite, at this program's types: 25: *p.E · 27: **p.E · 23: error · 45: reflectlite's rtype · 1: how many package-level variables the dump has -/
theorem Ftas.valueOf27 (t : Addr) (w : World) : (ReflectliteValue.unpack (.iface 87 (.pointer (some t)))).run Tryd.prog w
    = .ok (.agg #[.pointer (some ⟨18, 87, none⟩), .pointer (some ⟨w.heap.size, 0, none⟩), .int .u64 150]) (w.alloc (.cells #[.pointer (some t)] 87)) := by kernel_rfl
theorem Ftas.type27 (a : Addr) (w : World) : (ReflectliteValue.methodAny (ReflectliteValue.valueError "reflectlite.Value.Type" 0) (fun t _ _ _ => ReflectliteType.toType t) #[.agg #[.pointer (some ⟨18, 87, none⟩), .pointer (some a), .int .u64 150]]).run Tryd.prog w
    = .ok (.iface 176 (.agg #[.pointer (some ⟨18, 87, none⟩)])) w := by kernel_rfl
theorem Ftas.methodKind (h : Value) (w : World) : (Go.method 358 176 (.agg #[h]) "Kind").run Tryd.prog w = .ok (141, h) w := by kernel_rfl
theorem Ftas.kind27 (w : World) : ((ReflectliteType.abiMethod fun t => (fun a : Nat => Value.int IntKind.u8 (a : Int)) <$> Rtype.kind t) #[.pointer (some ⟨18, 87, none⟩)]).run Tryd.prog w = .ok (.int .u8 22) w := by kernel_rfl
theorem Ftas.kind25 (w : World) : ((ReflectliteType.abiMethod fun t => (fun a : Nat => Value.int IntKind.u8 (a : Int)) <$> Rtype.kind t) #[.pointer (some ⟨18, 51, none⟩)]).run Tryd.prog w = .ok (.int .u8 22) w := by kernel_rfl

/-! ### THE ENTRIES THAT READ OR WRITE MEMORY: laws with a premise on the cell (after Derived/Lib/ReflectliteSlice.lean's manner: each unfolding a lemma of its own, by rfl) -/
theorem rlm (z : Sem Value) (f : TypeId → Addr → Nat → Nat → Sem Value) (v : Value) :
    ReflectliteValue.method z f #[v] = (do match ← ReflectliteValue.parts v with | none => z | some (t, a, fl) => f t a fl (fl % 32)) := rfl
theorem Ftas.parts27 (a : Addr) (w : World) : (ReflectliteValue.parts (.agg #[.pointer (some ⟨18, 87, none⟩), .pointer (some a), .int .u64 150])).run Tryd.prog w = .ok (some (87, a, 150)) w := by kernel_rfl
/-- (Value).IsNil at the Value of a **p.E that is not nil. -/
theorem Ftas.isNil27 (a p : Addr) (W : World) (ha : W.cell? a = some (.pointer (some p))) :
    (ReflectliteValue.method (ReflectliteValue.valueError "reflectlite.Value.IsNil" 0) ReflectliteValue.isNil #[.agg #[.pointer (some ⟨18, 87, none⟩), .pointer (some a), .int .u64 150]]).run Tryd.prog W = .ok (.bool false) W := by
  rw [rlm]
  simp only [Sem.run_bind, Ftas.parts27, Result.andThen]
  simp [ReflectliteValue.isNil, loadVar, isAgg, underlying, Tryd.underlying87, ha, Result.andThen]

theorem Ftas.methodElem (h : Value) (w : World) : (Go.method 358 176 (.agg #[h]) "Elem").run Tryd.prog w = .ok (167, .agg #[h]) w := by kernel_rfl
theorem Ftas.methodImplements (h : Value) (w : World) : (Go.method 358 176 (.agg #[h]) "Implements").run Tryd.prog w = .ok (168, .agg #[h]) w := by kernel_rfl
theorem Ftas.methodAssignableTo (h : Value) (w : World) : (Go.method 358 176 (.agg #[h]) "AssignableTo").run Tryd.prog w = .ok (165, .agg #[h]) w := by kernel_rfl
theorem Ftas.elem27 (w : World) : (ReflectliteType.method ReflectliteType.elem #[.agg #[.pointer (some ⟨18, 87, none⟩)]]).run Tryd.prog w = .ok (.iface 176 (.agg #[.pointer (some ⟨18, 51, none⟩)])) w := by kernel_rfl
theorem Ftas.implements25 (w : World) : (ReflectliteType.relation "Implements" ReflectliteType.implements_ #[.agg #[.pointer (some ⟨18, 51, none⟩)], .iface 176 (.agg #[.pointer (some ⟨18, 33, none⟩)])]).run Tryd.prog w = .ok (.bool true) w := by kernel_rfl
theorem Ftas.typeOf25 (v : Value) (w : World) : (ReflectliteType.typeOf #[.iface 51 v]).run Tryd.prog w = .ok (.iface 176 (.agg #[.pointer (some ⟨18, 51, none⟩)])) w := by kernel_rfl
theorem Ftas.assignable25 (w : World) : (ReflectliteType.relation "AssignableTo" ReflectliteType.assignableTo #[.agg #[.pointer (some ⟨18, 51, none⟩)], .iface 176 (.agg #[.pointer (some ⟨18, 51, none⟩)])]).run Tryd.prog w = .ok (.bool true) w := by kernel_rfl
theorem Ftas.valueOf25 (e : Addr) (w : World) : (ReflectliteValue.unpack (.iface 51 (.pointer (some e)))).run Tryd.prog w
    = .ok (.agg #[.pointer (some ⟨18, 51, none⟩), .pointer (some ⟨w.heap.size, 0, none⟩), .int .u64 150]) (w.alloc (.cells #[.pointer (some e)] 51)) := by kernel_rfl

theorem Ftas.elemOf27 (w : World) : (Rtype.elem? 87).run Tryd.prog w = .ok (some 51) w := by kernel_rfl
theorem Ftas.mk25 (p : Addr) (w : World) : (ReflectliteValue.mk 51 p ReflectliteValue.flagAddr).run Tryd.prog w = .ok (.agg #[.pointer (some ⟨18, 51, none⟩), .pointer (some p), .int .u64 406]) w := by kernel_rfl
/-- (Value).Elem at the Value of a **p.E that is not nil: the Value of the *p.E variable that it points to, addressable. -/
theorem Ftas.elemV27 (a p : Addr) (W : World) (ha : W.cell? a = some (.pointer (some p))) :
    (ReflectliteValue.method (ReflectliteValue.valueError "reflectlite.Value.Elem" 0) ReflectliteValue.elem #[.agg #[.pointer (some ⟨18, 87, none⟩), .pointer (some a), .int .u64 150]]).run Tryd.prog W
      = .ok (.agg #[.pointer (some ⟨18, 51, none⟩), .pointer (some p), .int .u64 406]) W := by
  rw [rlm]
  simp only [Sem.run_bind, Ftas.parts27, Result.andThen]
  simp [ReflectliteValue.elem, loadVar, isAgg, underlying, Tryd.underlying87, ha, Result.andThen, Ftas.elemOf27, Ftas.mk25]
theorem rls (v x : Value) : ReflectliteValue.set #[v, x] = (do
    let (some (dst, a, fl), some (src, b, _)) := (← ReflectliteValue.parts v, ← ReflectliteValue.parts x)
      | unsupported (.noEntry "extern/(internal/reflectlite.Value).Set.zeroValue")
    if fl / ReflectliteValue.flagAddr % 2 == 0 then unsupported (.noEntry "extern/(internal/reflectlite.Value).Set.unaddressable")
    let val ← loadVar src b
    if ← Rtype.directlyAssignable dst src then storeVar dst a val
    else if ← Rtype.implements dst src then
      if (← Rtype.kind src) == 20 then
        match val with
        | .nilIface => unsupported (.noEntry "extern/reflectlite: a nil value of one interface type handed on as a value of another")
        | _ => storeVar dst a val
      else storeVar dst a (.iface src val)
    else panicString ("reflectlite.Set: value of type " ++ (← Rtype.spelt src) ++ " is not assignable to type " ++ (← Rtype.spelt dst))
    pure (.tuple #[])) := rfl
theorem Ftas.parts25a (a : Addr) (w : World) : (ReflectliteValue.parts (.agg #[.pointer (some ⟨18, 51, none⟩), .pointer (some a), .int .u64 406])).run Tryd.prog w = .ok (some (51, a, 406)) w := by kernel_rfl
theorem Ftas.parts25 (a : Addr) (w : World) : (ReflectliteValue.parts (.agg #[.pointer (some ⟨18, 51, none⟩), .pointer (some a), .int .u64 150])).run Tryd.prog w = .ok (some (51, a, 150)) w := by kernel_rfl
theorem Ftas.direct25 (w : World) : (Rtype.directlyAssignable 51 51).run Tryd.prog w = .ok true w := by kernel_rfl
theorem Ftas.size25 (w : World) : (sizeOf 51).run Tryd.prog w = .ok 1 w := by kernel_rfl
/-- (Value).Set: the *p.E variable at 'ta' gets what the Value's own variable 'b' holds. -/
theorem Ftas.set25 (ta b e : Addr) (old : Value) (W : World) (hb : W.cell? b = some (.pointer (some e))) (ht : W.cell? ta = some old) (hf : W.frozen? ta = false) :
    (ReflectliteValue.set #[.agg #[.pointer (some ⟨18, 51, none⟩), .pointer (some ta), .int .u64 406], .agg #[.pointer (some ⟨18, 51, none⟩), .pointer (some b), .int .u64 150]]).run Tryd.prog W
      = .ok (.tuple #[]) (W.setCell ta (.pointer (some e))) := by
  rw [rls]
  simp only [Sem.run_bind, Ftas.parts25a, Ftas.parts25, Result.andThen]
  simp [ReflectliteValue.flagAddr, loadVar, isAgg, underlying, Tryd.underlying51, hb, Result.andThen, Ftas.direct25, storeVar, Value.cells, storeCells, Addr.add]
  rw [run_store Tryd.prog W ta _ _ (by rfl)]
  simp [ht, hf]

set_option maxHeartbeats 4000000 in
theorem as_hit (e t : Addr) (old : Value) (w : World) (hg : w.cell? ⟨14, 0, none⟩ = some (.iface 176 (.agg #[.pointer (some ⟨18, 33, none⟩)]))) (ht0 : w.cell? t = some old) (hf0 : w.frozen? t = false) :
    Calls Tryd.prog 46 #[.iface 51 (.pointer (some e)), .iface 87 (.pointer (some t))] w fun ev w' => ev = .returned (.bool true) ∧ w' = ((((w.alloc (.cells #[.pointer (some t)] 87)).alloc (.cells #[.pointer (some ⟨18, 87, none⟩), .pointer (some ⟨w.heap.size, 0, none⟩), .int .u64 150] 163)).alloc (.cells #[.pointer (some ⟨18, 87, none⟩), .pointer (some ⟨w.heap.size, 0, none⟩), .int .u64 150] 163)).alloc (.cells #[.pointer (some e)] 51)).setCell t (.pointer (some e)) := by
  have h6 := @run_callFunc_extern Tryd.prog 94 _ (fun args => ReflectliteValue.unpack (args.getD 0 (.tuple #[]))) Tryd.func94 (by kernel_rfl) (by kernel_rfl) (by kernel_rfl) (by kernel_rfl)
  have h7 := @run_callFunc_extern Tryd.prog 95 _ (ReflectliteValue.methodAny (ReflectliteValue.valueError "reflectlite.Value.Type" 0) (fun t _ _ _ => ReflectliteType.toType t)) Tryd.func95 (by kernel_rfl) (by kernel_rfl) (by kernel_rfl) (by kernel_rfl)
  have h8 := @run_callFunc_extern Tryd.prog 96 _ (ReflectliteValue.method (ReflectliteValue.valueError "reflectlite.Value.IsNil" 0) ReflectliteValue.isNil) Tryd.func96 (by kernel_rfl) (by kernel_rfl) (by kernel_rfl) (by kernel_rfl)
  have h27 := @run_callFunc_extern Tryd.prog 141 _ (ReflectliteType.abiMethod fun t => do pure (.int .u8 (← Rtype.kind t))) Tryd.func141 (by kernel_rfl) (by kernel_rfl) (by kernel_rfl) (by kernel_rfl)
  have h37 := @run_callFunc_extern Tryd.prog 167 _ (ReflectliteType.method ReflectliteType.elem) Tryd.func167 (by kernel_rfl) (by kernel_rfl) (by kernel_rfl) (by kernel_rfl)
  have h38 := @run_callFunc_extern Tryd.prog 168 _ (ReflectliteType.relation "Implements" ReflectliteType.implements_) Tryd.func168 (by kernel_rfl) (by kernel_rfl) (by kernel_rfl) (by kernel_rfl)
  have h10 := @run_callFunc_extern Tryd.prog 56 _ ReflectliteType.typeOf Tryd.func56 (by kernel_rfl) (by kernel_rfl) (by kernel_rfl) (by kernel_rfl)
  have h35 := @run_callFunc_extern Tryd.prog 165 _ (ReflectliteType.relation "AssignableTo" ReflectliteType.assignableTo) Tryd.func165 (by kernel_rfl) (by kernel_rfl) (by kernel_rfl) (by kernel_rfl)
  have h11 := @run_callFunc_extern Tryd.prog 112 _ (ReflectliteValue.method (ReflectliteValue.valueError "reflectlite.Value.Elem" 0) ReflectliteValue.elem) Tryd.func112 (by kernel_rfl) (by kernel_rfl) (by kernel_rfl) (by kernel_rfl)
  have h12 := @run_callFunc_extern Tryd.prog 113 _ ReflectliteValue.set Tryd.func113 (by kernel_rfl) (by kernel_rfl) (by kernel_rfl) (by kernel_rfl)
  have tO := Ftas.typeOf25
  have mA := Ftas.methodAssignableTo
  have a25 := Ftas.assignable25
  have v25 := Ftas.valueOf25
  have f6 := Ftas.valueOf27
  have f7 := Ftas.type27
  have mK := Ftas.methodKind
  have mE := Ftas.methodElem
  have mI := Ftas.methodImplements
  have k27 := Ftas.kind27
  have k25 := Ftas.kind25
  have e27 := Ftas.elem27
  have i25 := Ftas.implements25
  have n8 := Ftas.isNil27 ⟨w.heap.size, 0, none⟩ t ((w.alloc (.cells #[.pointer (some t)] 87)).alloc (.cells #[.pointer (some ⟨18, 87, none⟩), .pointer (some ⟨w.heap.size, 0, none⟩), .int .u64 150] 163)) (by simp)
  have hlt : 14 < w.heap.size := cell_lt hg
  have hg2 : ((w.alloc (.cells #[.pointer (some t)] 87)).alloc (.cells #[.pointer (some ⟨18, 87, none⟩), .pointer (some ⟨w.heap.size, 0, none⟩), .int .u64 150] 163)).cell? ⟨14, 0, none⟩ = some (.iface 176 (.agg #[.pointer (some ⟨18, 33, none⟩)])) := by
    exact (((Keeps.refl [] w).alloc _).alloc _).cellAt hg (by simp)
  have htl : t.block < w.heap.size := by
    rcases Nat.lt_or_ge t.block w.heap.size with h | h
    · exact h
    · simp [World.cell?, Array.getElem?_eq_none h] at ht0
  have el := Ftas.elemV27 ⟨w.heap.size, 0, none⟩ t (((w.alloc (.cells #[.pointer (some t)] 87)).alloc (.cells #[.pointer (some ⟨18, 87, none⟩), .pointer (some ⟨w.heap.size, 0, none⟩), .int .u64 150] 163)).alloc (.cells #[.pointer (some ⟨18, 87, none⟩), .pointer (some ⟨w.heap.size, 0, none⟩), .int .u64 150] 163)) (by rw [World.cell?_alloc_lt _ _ ⟨w.heap.size, 0, none⟩ (by simp; omega)]; simp)
  have st := Ftas.set25 t ⟨w.heap.size + 1 + 1 + 1, 0, none⟩ e old ((((w.alloc (.cells #[.pointer (some t)] 87)).alloc (.cells #[.pointer (some ⟨18, 87, none⟩), .pointer (some ⟨w.heap.size, 0, none⟩), .int .u64 150] 163)).alloc (.cells #[.pointer (some ⟨18, 87, none⟩), .pointer (some ⟨w.heap.size, 0, none⟩), .int .u64 150] 163)).alloc (.cells #[.pointer (some e)] 51))
    (by rw [World.cell?_alloc_at _ _ _ _ (by simp)]; rfl)
    (by rw [World.cell?_alloc_lt _ _ t (by simp; omega), World.cell?_alloc_lt _ _ t (by simp; omega), World.cell?_alloc_lt _ _ t (by simp; omega), World.cell?_alloc_lt _ _ t htl]; exact ht0)
    (by rw [World.frozen?_alloc_old _ _ t (by simp; omega), World.frozen?_alloc_old _ _ t (by simp; omega), World.frozen?_alloc_old _ _ t (by simp; omega), World.frozen?_alloc_old _ _ t (Nat.ne_of_lt htl)]; exact hf0)
  go_enter Tryd.func46, Tryd.ntmps46
  go_wp2
  refine wp_loop_rounds 1 ?_
  rw [rounds_succ]
  go_wp2
  go_ret
  exact ⟨rfl, rfl⟩
/-- errors.As finds the Fault itself. -/
theorem as_fault (fb tb : Nat) (old : Value) (w : World) (hg : w.cell? ⟨14, 0, none⟩ = some (.iface 176 (.agg #[.pointer (some ⟨18, 33, none⟩)]))) (ht : Blk w tb 51 #[old]) :
    Calls Tryd.prog 46 #[faultV fb, .iface 87 (.pointer (some ⟨tb, 0, none⟩))] w fun ev w' => ev = .returned (.bool true) ∧ Blk w' tb 51 #[.pointer (some ⟨fb, 0, none⟩)] ∧ Keeps [tb] w w' := by
  refine (as_hit ⟨fb, 0, none⟩ ⟨tb, 0, none⟩ old w hg (by rw [ht.cell]; rfl) (ht.frz 0)).mono ?_
  rintro e w' ⟨rfl, rfl⟩
  exact ⟨rfl, ((((ht.alloc _).alloc _).alloc _).alloc _).set 0 _, (((((Keeps.refl [tb] w).alloc _).alloc _).alloc _).alloc _).setCell (p := ⟨tb, 0, none⟩) (by simp) _⟩

end Go.Proofs.YtnlhmlgoipnekaaDoor
