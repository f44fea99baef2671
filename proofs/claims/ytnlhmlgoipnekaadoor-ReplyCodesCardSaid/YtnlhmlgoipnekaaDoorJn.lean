/- errors.Join of ErrForm and nil or a Fault; errors.Is of what it makes. -/
import Derived.Test.YtnlhmlgoipnekaaDoorErr
import Derived.Test.YtnlhmlgoipnekaaDoorBld
import Derived.Test.YtnlhmlgoipnekaaDoorRr1
import Derived.IntWalk
namespace Go.Proofs.YtnlhmlgoipnekaaDoor
open Go.RowKit Go.Extern.Stop Go.Stop Go.Extern

theorem infoErr : (Tryd.prog.info? 33).map (fun i => (i.zero, i.size, i.bytes)) = some (some .nilIface, 1, 16) := by kernel_rfl

/-- What Join hands back: its first error is ErrForm. -/
def JoinIs (ef : Addr) (w' : World) (x : Value) : Prop :=
  ∃ jb g m cap, x = .iface 196 (.pointer (some ⟨jb, 0, none⟩)) ∧ Blk w' jb 198 #[.slice (some ⟨g, 0, none⟩) (m + 1) cap] ∧ w'.cell? ⟨g, 0, none⟩ = some (errv ef)

theorem Blk.grownRow {w w' : World} {b : Nat} {T : TypeId} {cs : Array Value} {row : Option Nat} (h : Blk w b T cs) (hg : w.grownBy w' row) (hr : row ≠ some b) : Blk w' b T cs := by
  have := hg.block b h.lt (fun e => hr e.symm)
  unfold Blk at h ⊢; rw [this]; exact h

theorem own_keepB {B : Nat} {w w' : World} {v : Value} {E : TypeId} {k n : Nat} {xs : List Value} {X : List Nat} (ho : w.ownsRow B E k v n xs) (hk : Keeps X w w') (hX : ∀ g, v.ownBlock = some g → g ∉ X) : w'.ownsRow B E k v n xs := by
  refine ⟨ho.1, ?_⟩
  rcases ho.2 with h0 | ⟨g, cap, cur, rfl, h1, h2, r⟩
  · exact .inl h0
  · refine .inr ⟨g, cap, cur, rfl, h1, ?_, r⟩
    rw [hk.block g (Array.getElem?_eq_some_iff.1 h2).1 (hX g rfl)]
    exact h2

set_option maxRecDepth 100000 in
set_option maxHeartbeats 2000000 in
theorem join_nil (ef : Addr) (sb : Nat) (w : World) (h : Blk w sb 33 #[errv ef, .nilIface]) :
    Calls Tryd.prog 82 #[.slice (some ⟨sb, 0, none⟩) 2 2] w fun e w' => (∃ x, e = .returned x ∧ JoinIs ef w' x) ∧ Keeps [] w w' := by
  obtain ⟨i0, hi, hz0, hz1, hz2⟩ := info_parts infoErr
  have hl := h.lt
  have hmk : ∀ w, (Instr.makeSlice 114 (.int .i64 0) (.int .i64 1)).run Tryd.prog w = .ok (.slice (some ⟨w.heap.size, 0, none⟩) 0 1) (w.alloc (.cells #[.nilIface] 33)) := fun w => by kernel_rfl
  obtain ⟨w1, hw1⟩ : ∃ w1, w.alloc (.cells #[.nilIface] 33) = w1 := ⟨_, rfl⟩
  have ho1 : w1.ownsRow w.heap.size 33 1 (.slice (some ⟨w.heap.size, 0, none⟩) 0 1) 0 [] := by rw [← hw1]; exact World.ownsRow_made w _ 1 (Nat.le_refl _) (by unfold maxLen; omega) rfl
  have hk1 : Keeps [] w w1 := by rw [← hw1]; exact (Keeps.refl _ _).alloc _
  have hs1 : w1.heap.size = w.heap.size + 1 := by rw [← hw1]; simp
  obtain ⟨w2, hw2⟩ : ∃ w2, w1.alloc (.cells #[.slice (some ⟨w.heap.size, 0, none⟩) 0 1] 198) = w2 := ⟨_, rfl⟩
  have hj2 : Blk w2 (w.heap.size + 1) 198 #[.slice (some ⟨w.heap.size, 0, none⟩) 0 1] := by rw [← hw2, ← hs1]; exact Blk.new _ _ _
  have ho2 : w2.ownsRow w.heap.size 33 1 (.slice (some ⟨w.heap.size, 0, none⟩) 0 1) 0 [] := by rw [← hw2]; exact ho1.alloc _
  have hk2 : Keeps [] w w2 := by rw [← hw2]; exact hk1.alloc _
  have hs2 : w2.heap.size = w.heap.size + 2 := by rw [← hw2]; simp [hs1]
  have hb2 := h.keep hk2 (by simp)
  have c := h.cell
  have c2 := hb2.cell
  have j2 := hj2.cell
  clear ho1 hk1
  go_enter Tryd.func82, Tryd.ntmps82
  go_wp2_with fail
  refine wp_loop_rounds 3 ?_
  rw [rounds_succ]
  go_wp2_with fail
  rw [rounds_succ]
  go_wp2_with fail
  rw [rounds_succ]
  go_wp2_with fail
  clear hw1 hw2 hmk c
  refine wp_loop_rounds 3 ?_
  rw [rounds_succ]
  go_wp2_with (at_builtin; refine wpList_append_own_at _ rfl _ _ 114 rfl w.heap.size 33 i0 .nilIface 1 16 Tryd.underlying114 hi hz0 hz1 hz2 rfl (by decide) _ _ _ rfl (ho2.alloc _) ⟨w.heap.size + 2, 0, none⟩ 1 1 [errv ef] rfl rfl ?c1a ?c2a ?c3a ?c4a ?c5a ?_)
  case c1a =>
    intro j x hj
    match j, hj with
    | 0, hj => simp at hj; subst hj; rw [← hs2]; simp [Addr.add]
  case c2a => intro x hx; simp at hx; subst hx; rfl
  case c3a => unfold maxLen; omega
  case c4a => omega
  case c5a => simp; omega
  intro v3 w3 ho3 hg3 _ hat3
  have hj3 := (hj2.alloc (.cells #[errv ef] 33)).grownRow hg3 (by simp [Value.ownBlock])
  have hb3 := (hb2.alloc (.cells #[errv ef] 33)).grownRow hg3 (by have := h.lt; simp [Value.ownBlock]; omega)
  have hk3 : Keeps [] w w3 := (hk2.alloc _).grown hg3 (by simp [Value.ownBlock])
  have hs3 := hk3.size
  have hvb : v3.ownBlock ≠ some (w.heap.size + 1) := Lib.ownBlock_ne ho3 hj3 (by decide)
  have c3 := hb3.cell
  have j3 := hj3.cell
  have f3 := hj3.frz
  clear c2 j2 hj2 hb2 hg3 ho2
  obtain ⟨g, cap, rfl⟩ : ∃ g cap, v3 = .slice (some ⟨g, 0, none⟩) 1 cap := by
    rcases ho3.2 with ⟨_, h0⟩ | ⟨g, cap, cur, hv, _⟩
    · omega
    · exact ⟨g, cap, hv⟩
  have hst := hj3.set 0 (.slice (some ⟨g, 0, none⟩) 1 cap)
  have hg0 : w3.cell? ⟨g, 0, none⟩ = some (errv ef) := by have := ho3.cells (g := g) rfl 0 (errv ef) rfl; simpa [Addr.add] using this
  have hk4 := hk3.setCell (p := ⟨w.heap.size + 1, 0, none⟩) (by simp) (.slice (some ⟨g, 0, none⟩) 1 cap)
  have hgne : g ≠ w.heap.size + 1 := by simpa [Value.ownBlock] using hvb
  have hg4 : (w3.setCell ⟨w.heap.size + 1, 0, none⟩ (.slice (some ⟨g, 0, none⟩) 1 cap)).cell? ⟨g, 0, none⟩ = some (errv ef) := ((Keeps.refl [w.heap.size + 1] w3).setCell (p := ⟨w.heap.size + 1, 0, none⟩) (by simp) _).cellAt hg0 (nmem1 hgne)
  have HP : Hid (JoinIs ef (w3.setCell ⟨w.heap.size + 1, 0, none⟩ (.slice (some ⟨g, 0, none⟩) 1 cap)) (.iface 196 (.pointer (some ⟨w.heap.size + 1, 0, none⟩)))) := Lib.hid ⟨_, g, 0, cap, rfl, hst, hg4⟩
  have HK4 := Lib.hid hk4
  clear ho3 hat3 hvb hst hg0 hk4 hgne hg4 hk3 hb3 hj3
  go_wp2_with fail
  rw [rounds_succ]
  go_wp2_with fail
  rw [rounds_succ]
  go_wp2_with fail
  go_ret
  exact ⟨⟨_, rfl, HP.out⟩, HK4.out⟩

set_option maxRecDepth 100000 in
set_option maxHeartbeats 2000000 in
theorem join_fault (ef : Addr) (sb : Nat) (fb : Nat) (w : World) (h : Blk w sb 33 #[errv ef, faultV fb]) :
    Calls Tryd.prog 82 #[.slice (some ⟨sb, 0, none⟩) 2 2] w fun e w' => (∃ x, e = .returned x ∧ JoinIs ef w' x) ∧ Keeps [] w w' := by
  obtain ⟨i0, hi, hz0, hz1, hz2⟩ := info_parts infoErr
  unfold faultV at h
  have hl := h.lt
  have hmk : ∀ w, (Instr.makeSlice 114 (.int .i64 0) (.int .i64 2)).run Tryd.prog w = .ok (.slice (some ⟨w.heap.size, 0, none⟩) 0 2) (w.alloc (.cells #[.nilIface, .nilIface] 33)) := fun w => by kernel_rfl
  obtain ⟨w1, hw1⟩ : ∃ w1, w.alloc (.cells #[.nilIface, .nilIface] 33) = w1 := ⟨_, rfl⟩
  have ho1 : w1.ownsRow w.heap.size 33 1 (.slice (some ⟨w.heap.size, 0, none⟩) 0 2) 0 [] := by rw [← hw1]; exact World.ownsRow_made w _ 2 (Nat.le_refl _) (by unfold maxLen; omega) rfl
  have hk1 : Keeps [] w w1 := by rw [← hw1]; exact (Keeps.refl _ _).alloc _
  have hs1 : w1.heap.size = w.heap.size + 1 := by rw [← hw1]; simp
  obtain ⟨w2, hw2⟩ : ∃ w2, w1.alloc (.cells #[.slice (some ⟨w.heap.size, 0, none⟩) 0 2] 198) = w2 := ⟨_, rfl⟩
  have hj2 : Blk w2 (w.heap.size + 1) 198 #[.slice (some ⟨w.heap.size, 0, none⟩) 0 2] := by rw [← hw2, ← hs1]; exact Blk.new _ _ _
  have ho2 : w2.ownsRow w.heap.size 33 1 (.slice (some ⟨w.heap.size, 0, none⟩) 0 2) 0 [] := by rw [← hw2]; exact ho1.alloc _
  have hk2 : Keeps [] w w2 := by rw [← hw2]; exact hk1.alloc _
  have hs2 : w2.heap.size = w.heap.size + 2 := by rw [← hw2]; simp [hs1]
  have hb2 := h.keep hk2 (by simp)
  have c := h.cell
  have c2 := hb2.cell
  have j2 := hj2.cell
  clear ho1 hk1
  go_enter Tryd.func82, Tryd.ntmps82
  go_wp2_with fail
  refine wp_loop_rounds 3 ?_
  rw [rounds_succ]
  go_wp2_with fail
  rw [rounds_succ]
  go_wp2_with fail
  rw [rounds_succ]
  go_wp2_with fail
  clear hw1 hw2 hmk c
  refine wp_loop_rounds 3 ?_
  rw [rounds_succ]
  go_wp2_with (at_builtin; refine wpList_append_own_at _ rfl _ _ 114 rfl w.heap.size 33 i0 .nilIface 1 16 Tryd.underlying114 hi hz0 hz1 hz2 rfl (by decide) _ _ _ rfl (ho2.alloc _) ⟨w.heap.size + 2, 0, none⟩ 1 1 [errv ef] rfl rfl ?c1a ?c2a ?c3a ?c4a ?c5a ?_)
  case c1a =>
    intro j x hj
    match j, hj with
    | 0, hj => simp at hj; subst hj; rw [← hs2]; simp [Addr.add]
  case c2a => intro x hx; simp at hx; subst hx; rfl
  case c3a => unfold maxLen; omega
  case c4a => omega
  case c5a => simp; omega
  intro v3 w3 ho3 hg3 _ hat3
  have hj3 := (hj2.alloc (.cells #[errv ef] 33)).grownRow hg3 (by simp [Value.ownBlock])
  have hb3 := (hb2.alloc (.cells #[errv ef] 33)).grownRow hg3 (by have := h.lt; simp [Value.ownBlock]; omega)
  have hk3 : Keeps [] w w3 := (hk2.alloc _).grown hg3 (by simp [Value.ownBlock])
  have hs3 := hk3.size
  have hvb : v3.ownBlock ≠ some (w.heap.size + 1) := Lib.ownBlock_ne ho3 hj3 (by decide)
  have c3 := hb3.cell
  have j3 := hj3.cell
  have f3 := hj3.frz
  clear c2 j2 hj2 hb2 hg3 ho2
  have hst := hj3.set 0 v3
  have hks := (Keeps.refl [w.heap.size + 1] w3).setCell (p := ⟨w.heap.size + 1, 0, none⟩) (by simp) v3
  have ho4 := own_keepB ho3 hks (fun g hg => nmem1 (fun e => hvb (by rw [hg, e])))
  have hb4 := hb3.keep hks (nmem1 (by omega))
  have hk4 := hk3.trans' hks (by simp)
  obtain ⟨g3, cap3, rfl⟩ : ∃ g cap, v3 = .slice (some ⟨g, 0, none⟩) 1 cap := by
    rcases ho3.2 with ⟨_, h0⟩ | ⟨g, cap, cur, hv, _⟩
    · omega
    · exact ⟨g, cap, hv⟩
  clear hj3 hb3 ho3 hat3 hks
  go_wp2_with fail
  obtain ⟨w4, hw4⟩ : ∃ w4, w3.setCell ⟨w.heap.size + 1, 0, none⟩ (.slice (some ⟨g3, 0, none⟩) 1 cap3) = w4 := ⟨_, rfl⟩
  rw [hw4] at hst ho4 hb4 hk4 ⊢
  have hst' : Blk w4 (w.heap.size + 1) 198 #[.slice (some ⟨g3, 0, none⟩) 1 cap3] := hst
  have j4 := hst'.cell
  have c4 := hb4.cell
  have hs4 := hk4.size
  clear hw4 c3 j3 f3 hst
  rw [rounds_succ]
  go_wp2_with (at_builtin; refine wpList_append_own_at _ rfl _ _ 114 rfl w.heap.size 33 i0 .nilIface 1 16 Tryd.underlying114 hi hz0 hz1 hz2 rfl (by decide) _ _ _ rfl (ho4.alloc _) ⟨w4.heap.size, 0, none⟩ 1 1 [.iface 51 (.pointer (some ⟨fb, 0, none⟩))] rfl rfl ?c1b ?c2b ?c3b ?c4b ?c5b ?_)
  case c1b =>
    intro j x hj
    match j, hj with
    | 0, hj => simp at hj; subst hj; simp [Addr.add]
  case c2b => intro x hx; simp at hx; subst hx; rfl
  case c3b => unfold maxLen; omega
  case c4b => omega
  case c5b => simp; omega
  intro v5 w5 ho5 hg5 _ hat5
  have hj5 := (hst'.alloc (.cells #[.iface 51 (.pointer (some ⟨fb, 0, none⟩))] 33)).grownRow hg5 (by simpa [Value.ownBlock] using hvb)
  have hk5 : Keeps [] w w5 := (hk4.alloc _).grown hg5 (fun k hk hl => by
    have := (ho4.lt k (by simpa using hk)).1
    omega)
  have hvb5 : v5.ownBlock ≠ some (w.heap.size + 1) := Lib.ownBlock_ne ho5 hj5 (by decide)
  obtain ⟨g, cap, rfl⟩ : ∃ g cap, v5 = .slice (some ⟨g, 0, none⟩) 2 cap := by
    rcases ho5.2 with ⟨_, h0⟩ | ⟨g, cap, cur, hv, _⟩
    · omega
    · exact ⟨g, cap, hv⟩
  have hst6 := hj5.set 0 (.slice (some ⟨g, 0, none⟩) 2 cap)
  have hg0 : w5.cell? ⟨g, 0, none⟩ = some (errv ef) := by have := ho5.cells (g := g) rfl 0 (errv ef) rfl; simpa [Addr.add] using this
  have hk6 := hk5.setCell (p := ⟨w.heap.size + 1, 0, none⟩) (by simp) (.slice (some ⟨g, 0, none⟩) 2 cap)
  have hgne : g ≠ w.heap.size + 1 := by simpa [Value.ownBlock] using hvb5
  have hg6 : (w5.setCell ⟨w.heap.size + 1, 0, none⟩ (.slice (some ⟨g, 0, none⟩) 2 cap)).cell? ⟨g, 0, none⟩ = some (errv ef) := ((Keeps.refl [w.heap.size + 1] w5).setCell (p := ⟨w.heap.size + 1, 0, none⟩) (by simp) _).cellAt hg0 (nmem1 hgne)
  have HP : Hid (JoinIs ef (w5.setCell ⟨w.heap.size + 1, 0, none⟩ (.slice (some ⟨g, 0, none⟩) 2 cap)) (.iface 196 (.pointer (some ⟨w.heap.size + 1, 0, none⟩)))) := Lib.hid ⟨_, g, 1, cap, rfl, hst6, hg6⟩
  have HK6 := Lib.hid hk6
  have j5 := hj5.cell
  have f5 := hj5.frz
  clear ho5 hat5 hvb5 hst6 hg0 hk6 hgne hg6 hk5 hj5 hg5 ho4 hb4 hst' j4 c4
  go_wp2_with fail
  rw [rounds_succ]
  go_wp2_with fail
  go_ret
  exact ⟨⟨_, rfl, HP.out⟩, HK6.out⟩

/-! ### errors.Is -/
theorem noIsJ (v : Value) (xT : TypeId) (w : World) : (Instr.typeAssert (.iface 196 v) xT 178 true).run Tryd.prog w = .ok (.tuple #[.nilIface, .bool false]) w := run_typeAssert_lacksB Tryd.underlying178 (by kernel_rfl) (by kernel_rfl) v xT w
theorem noUnwrapJ (v : Value) (xT : TypeId) (w : World) : (Instr.typeAssert (.iface 196 v) xT 181 true).run Tryd.prog w = .ok (.tuple #[.nilIface, .bool false]) w := run_typeAssert_lacksB Tryd.underlying181 (by kernel_rfl) (by kernel_rfl) v xT w
theorem hasUnwrapsJ (v : Value) (xT : TypeId) (w : World) : (Instr.typeAssert (.iface 196 v) xT 182 true).run Tryd.prog w = .ok (.tuple #[.iface 196 v, .bool true]) w := run_typeAssert_hasB Tryd.underlying182 (by kernel_rfl) v xT w
theorem methodUnwrapJ (v : Value) (w : World) : (Go.method 358 196 v "Unwrap").run Tryd.prog w = .ok (176, v) w := by kernel_rfl

theorem unwrapJ_any (jb : Nat) (x : Value) (w : World) (h : Blk w jb 198 #[x]) :
    Calls Tryd.prog 176 #[.pointer (some ⟨jb, 0, none⟩)] w fun e w' => e = .returned x ∧ w = w' := by
  have c := h.cell
  go_enter Tryd.func176, Tryd.ntmps176
  go_wp2_with fail
  go_ret
  exact ⟨rfl, rfl⟩

set_option maxRecDepth 100000 in
set_option maxHeartbeats 2000000 in
theorem isLoop_join (ef : Addr) (x : Value) (w : World) (ho : Own w ef) (h : JoinIs ef w x) :
    Calls Tryd.prog 57 #[x, errv ef, .bool true] w fun e w' => e = .returned (.bool true) ∧ w = w' := by
  obtain ⟨jb, g, m, cap, rfl, hj, hg⟩ := h
  have heq := run_eql_iface_types (P := Tryd.prog) 196 117 (.pointer (some ⟨jb, 0, none⟩)) (.pointer (some ef)) Tryd.underlying33 (by decide) w
  have nJ := noIsJ
  have uJ := noUnwrapJ
  have hJ := hasUnwrapsJ
  have mJ := methodUnwrapJ
  have hm : (0 : Int) < ((m : Int) + 1) := by omega
  go_enter Tryd.func57, Tryd.ntmps57
  go_wp2_with fail
  refine wp_loop_rounds 1 ?_
  rw [rounds_succ]
  go_wp2_with fail
  refine (unwrapJ_any jb _ w hj).mono ?_
  rintro e w1 ⟨rfl, rfl⟩
  go_wp2_with fail
  refine wp_loop_rounds 1 ?_
  rw [rounds_succ]
  go_wp2_with fail
  refine (isLoop_any ef w ho true [] _ (some ef) rfl (by simp [endV, errv]) (by simp) (by rintro a ⟨⟩; exact ho)).mono ?_
  rintro e w1 ⟨rfl, rfl⟩
  go_wp2_with fail
  go_ret
  exact ⟨rfl, rfl⟩

set_option maxRecDepth 100000 in
set_option maxHeartbeats 2000000 in
/-- errors.Is of what Join made. -/
theorem is_join (ef : Addr) (x : Value) (w : World) (ho : Own w ef) (h : JoinIs ef w x) :
    Calls Tryd.prog 20 #[x, errv ef] w fun e w' => e = .returned (.bool true) ∧ w = w' := by
  have h8 := @run_callFunc_extern Tryd.prog 56 _ Extern.ReflectliteType.typeOf Tryd.func56 (by kernel_rfl) (by kernel_rfl) (by kernel_rfl) (by kernel_rfl)
  have h32 := @run_callFunc_extern Tryd.prog 166 _ (Extern.ReflectliteType.method fun t => do Rtype.noPackHeld "Comparable" t; pure (.bool (← typeInfo t).comparable)) Tryd.func166 (by kernel_rfl) (by kernel_rfl) (by kernel_rfl) (by kernel_rfl)
  have tT := isTypeOf
  have cT := isComparable
  have mR := isMethodComparable
  have H := Lib.hid h
  obtain ⟨jb, g, m, cap, rfl, hj, hg⟩ := h
  clear hj hg
  go_enter Tryd.func20, Tryd.ntmps20
  go_wp2_with fail
  refine (isLoop_join ef _ w ho H.out).mono ?_
  rintro e w1 ⟨rfl, rfl⟩
  go_wp2_with fail
  go_ret
  exact ⟨rfl, rfl⟩

end Go.Proofs.YtnlhmlgoipnekaaDoor
