/- Errors: chains of Faults, and errors.Is over them. -/
import Derived.Test.YtnlhmlgoipnekaaDoorMem
import Derived.Test.YtnlhmlgoipnekaaDoorProg
import Derived.LaidEql
import Derived.Stop.Asserts
import Derived.RowKitTokens
import Derived.WalkSpells
import Derived.WalkLawsBesides
import Derived.Handy
import Derived.Deep.LoopGhost
namespace Go.Proofs.YtnlhmlgoipnekaaDoor
open Go.RowKit Go.Extern.Stop Go.Stop Go.Extern

/-- An error made by errors.New. -/
abbrev errv (a : Addr) : Value := .iface 117 (.pointer (some a))
def faultV (fb : Nat) : Value := .iface 51 (.pointer (some ⟨fb, 0, none⟩))
def endV : Option Addr → Value
  | none => .nilIface
  | some a => errv a

/-- A chain of Faults in memory, and what stands at its end. -/
def EC (w : World) : Value → List (ByteArray × Int) → Option Addr → Prop
  | v, [], t => v = endV t
  | v, (op, n) :: r, t => ∃ fb inner, v = faultV fb ∧ Blk w fb 53 #[.string op, .int .i64 n, inner] ∧ EC w inner r t

theorem EC.keep {w w' : World} {X : List Nat} (k : Keeps X w w') (hf : ∀ fb cs, Blk w fb 53 cs → fb ∉ X) : ∀ {fs : List (ByteArray × Int)} {v : Value} {t : Option Addr}, EC w v fs t → EC w' v fs t := by
  intro fs
  induction fs with
  | nil => intro v t h; exact h
  | cons x r ih =>
    intro v t h
    obtain ⟨fb, inner, h1, h2, h3⟩ := h
    exact ⟨fb, inner, h1, h2.keep k (hf _ _ h2), ih h3⟩

/-- The block of an errors.New. -/
def Own (w : World) (a : Addr) : Prop := ∃ c t, w.heap[a.block]? = some (.cells c t (0, 0))

theorem isTypeOf (v : Value) (w : World) : (Extern.ReflectliteType.typeOf #[.iface 117 v]).run Tryd.prog w = .ok (.iface 176 (.agg #[.pointer (some ⟨18, 117, none⟩)])) w := by kernel_rfl
theorem isComparable (w : World) : ((Extern.ReflectliteType.method fun t => do Rtype.noPackHeld "Comparable" t; (fun a => Value.bool a.comparable) <$> typeInfo t) #[.agg #[.pointer (some ⟨18, 117, none⟩)]]).run Tryd.prog w = .ok (.bool true) w := by kernel_rfl
theorem isMethodComparable (v : Value) (w : World) : (Go.method 358 176 v "Comparable").run Tryd.prog w = .ok (166, v) w := by kernel_rfl
theorem isComp : (Tryd.prog.info? 117).map (·.comparable) = some true := by kernel_rfl
theorem isSize : (Tryd.prog.info? 119).map (·.size) = some 1 := by kernel_rfl
theorem noIsE (v : Value) (xT : TypeId) (w : World) : (Instr.typeAssert (.iface 117 v) xT 178 true).run Tryd.prog w = .ok (.tuple #[.nilIface, .bool false]) w := run_typeAssert_lacksB Tryd.underlying178 (by kernel_rfl) (by kernel_rfl) v xT w
theorem noUnwrapE (v : Value) (xT : TypeId) (w : World) : (Instr.typeAssert (.iface 117 v) xT 181 true).run Tryd.prog w = .ok (.tuple #[.nilIface, .bool false]) w := run_typeAssert_lacksB Tryd.underlying181 (by kernel_rfl) (by kernel_rfl) v xT w
theorem noUnwrapsE (v : Value) (xT : TypeId) (w : World) : (Instr.typeAssert (.iface 117 v) xT 182 true).run Tryd.prog w = .ok (.tuple #[.nilIface, .bool false]) w := run_typeAssert_lacksB Tryd.underlying182 (by kernel_rfl) (by kernel_rfl) v xT w
theorem noIsF (v : Value) (xT : TypeId) (w : World) : (Instr.typeAssert (.iface 51 v) xT 178 true).run Tryd.prog w = .ok (.tuple #[.nilIface, .bool false]) w := run_typeAssert_lacksB Tryd.underlying178 (by kernel_rfl) (by kernel_rfl) v xT w
theorem hasUnwrapF (v : Value) (xT : TypeId) (w : World) : (Instr.typeAssert (.iface 51 v) xT 181 true).run Tryd.prog w = .ok (.tuple #[.iface 51 v, .bool true]) w := run_typeAssert_hasB Tryd.underlying181 (by kernel_rfl) v xT w
theorem methodUnwrapF (v : Value) (w : World) : (Go.method 358 51 v "Unwrap").run Tryd.prog w = .ok (145, v) w := by kernel_rfl

theorem unwrap_any (fb : Nat) (op : Value) (n inner : Value) (w : World) (h : Blk w fb 53 #[op, n, inner]) :
    Calls Tryd.prog 145 #[.pointer (some ⟨fb, 0, none⟩)] w fun e w' => e = .returned inner ∧ w = w' := by
  have c := h.cell
  go_enter Tryd.func145, Tryd.ntmps145
  go_wp2_with fail
  go_ret
  exact ⟨rfl, rfl⟩

set_option maxRecDepth 100000 in
set_option maxHeartbeats 1000000 in
theorem isLoop_any (b : Addr) (w : World) (hb : Own w b) (r : Bool) (fs : List (ByteArray × Int)) (v : Value) (t : Option Addr) (h : EC w v fs t) (hv : v ≠ .nilIface) (hr : r = true ↔ t = some b) (ht : ∀ a, t = some a → Own w a) :
    Calls Tryd.prog 57 #[v, errv b, .bool true] w fun e w' => e = .returned (.bool r) ∧ w = w' := by
  obtain ⟨i, hi, hcmp⟩ := Option.map_eq_some_iff.1 isComp
  obtain ⟨j, hj, hjs⟩ := Option.map_eq_some_iff.1 isSize
  have HH := Lib.hid h
  have HR := Lib.hid hr
  have HT := Lib.hid ht
  have HV := Lib.hid hv
  have HI := Lib.hid hi
  have HC := Lib.hid hcmp
  have HJ := Lib.hid hj
  have HJS := Lib.hid hjs
  have HB := Lib.hid hb
  clear h hr ht hv hi hcmp hj hjs hb
  have nE := noIsE
  have uE := noUnwrapE
  have vE := noUnwrapsE
  have nF := noIsF
  have uF := hasUnwrapF
  have mF := methodUnwrapF
  go_enter Tryd.func57, Tryd.ntmps57
  go_wp2_with fail
  go_loopg [0] fs.length (fun g x wr => w = wr ∧ x ≠ .nilIface ∧ ∃ gs, EC w x gs t ∧ g = gs.length)
  case atStart => exact ⟨rfl, HV.out, fs, HH.out, rfl⟩
  case round =>
    obtain ⟨rfl, hx, gs, hE, hg⟩ := hrel
    cases gs with
    | nil =>
      cases t with
      | none => exact absurd hE hx
      | some a =>
        have hE2 : _ = errv a := hE
        clear hx
        subst hE2
        clear hE hg
        by_cases hab : a = b
        · subst hab
          have heq := run_eql_iface_ptr_same (P := Tryd.prog) w a Tryd.underlying33 Tryd.underlying117 HI.out HC.out HJ.out
          go_wp2_with fail
          go_ret
          exact ⟨by have e := HR.out.2 (by trivial); subst e; rfl, rfl⟩
        · obtain ⟨ca, ta, ha⟩ := HT.out a rfl
          obtain ⟨cb, tb, hb⟩ := HB.out
          have heq := run_eql_iface_ptr_other (P := Tryd.prog) w Tryd.underlying33 Tryd.underlying117 HI.out HC.out HJ.out (by rw [HJS.out]; decide) hab ha hb
          have HN := Lib.hid hab
          clear ha hb hab
          go_wp2_with fail
          go_ret
          refine ⟨?_, rfl⟩
          have : r = false := by
            cases hrr : r with
            | false => rfl
            | true => exact absurd (Option.some.inj (HR.out.1 hrr)) HN.out
          subst this; rfl
    | cons f rest =>
      obtain ⟨op, n⟩ := f
      obtain ⟨fb, inner, rfl, hfb, hrest⟩ := hE
      have HX := Lib.hid hrest
      have HG := Lib.hid hg
      have heq := run_eql_iface_types (P := Tryd.prog) 51 117 (.pointer (some ⟨fb, 0, none⟩)) (.pointer (some b)) Tryd.underlying33 (by decide) w
      clear hrest hg hx
      by_cases hin : inner = .nilIface
      · obtain rfl := hin
        have HF : Hid (r = false) := by
          apply Lib.hid
          cases hrr : r with
          | false => rfl
          | true =>
            have ht := HR.out.1 hrr
            have := HX.out
            cases rest with
            | nil => rw [ht] at this; simp [EC, endV, errv] at this
            | cons y ys => obtain ⟨op, m⟩ := y; obtain ⟨_, _, h1, _⟩ := this; simp [faultV] at h1
        unfold faultV
        go_wp2_with fail
        refine (unwrap_any fb _ _ .nilIface _ hfb).mono ?_
        rintro e w' ⟨rfl, rfl⟩
        go_wp2_with fail
        go_ret
        exact ⟨by have e := HF.out; subst e; rfl, rfl⟩
      · obtain ⟨T', x', hx'⟩ : ∃ T' x', inner = .iface T' x' := by
          have := HX.out
          cases rest with
          | nil =>
            cases t with
            | none => exact absurd this hin
            | some a => exact ⟨_, _, this⟩
          | cons y ys => obtain ⟨op, m⟩ := y; obtain ⟨_, _, h1, _⟩ := this; exact ⟨_, _, h1⟩
        subst hx'
        clear hin
        unfold faultV
        go_wp2_with fail
        refine (unwrap_any fb _ _ (.iface T' x') _ hfb).mono ?_
        rintro e w' ⟨rfl, rfl⟩
        go_wp2_with fail
        go_roundg rest.length
        case measure => have := HG.out; simp at this; omega
        case rel => exact ⟨rfl, by simp, rest, HX.out, rfl⟩

set_option maxRecDepth 100000 in
set_option maxHeartbeats 1000000 in
/-- errors.Is of a chain of Faults. -/
theorem is_any (b : Addr) (w : World) (hb : Own w b) (r : Bool) (fs : List (ByteArray × Int)) (v : Value) (t : Option Addr) (h : EC w v fs t) (hr : r = true ↔ t = some b) (ht : ∀ a, t = some a → Own w a) :
    Calls Tryd.prog 20 #[v, errv b] w fun e w' => e = .returned (.bool r) ∧ w = w' := by
  have h8 := @run_callFunc_extern Tryd.prog 56 _ Extern.ReflectliteType.typeOf Tryd.func56 (by kernel_rfl) (by kernel_rfl) (by kernel_rfl) (by kernel_rfl)
  have h32 := @run_callFunc_extern Tryd.prog 166 _ (Extern.ReflectliteType.method fun t => do Rtype.noPackHeld "Comparable" t; pure (.bool (← typeInfo t).comparable)) Tryd.func166 (by kernel_rfl) (by kernel_rfl) (by kernel_rfl) (by kernel_rfl)
  have tT := isTypeOf
  have cT := isComparable
  have mR := isMethodComparable
  have HH := Lib.hid h
  have HR := Lib.hid hr
  have HT := Lib.hid ht
  have HB := Lib.hid hb
  clear h hr ht hb
  by_cases hv : v = .nilIface
  · subst hv
    have HF : Hid (r = false) := by
      apply Lib.hid
      cases hrr : r with
      | false => rfl
      | true =>
        have ht := HR.out.1 hrr
        have := HH.out
        cases fs with
        | nil => rw [ht] at this; simp [EC, endV, errv] at this
        | cons y ys => obtain ⟨op, m⟩ := y; obtain ⟨_, _, h1, _⟩ := this; simp [faultV] at h1
    have hn := run_eql_iface_nil_left (P := Tryd.prog) w 117 (.pointer (some b)) Tryd.underlying33
    go_enter Tryd.func20, Tryd.ntmps20
    go_wp2_with fail
    go_ret
    exact ⟨by have e := HF.out; subst e; rfl, rfl⟩
  · obtain ⟨T', x', hx'⟩ : ∃ T' x', v = .iface T' x' := by
      have := HH.out
      cases fs with
      | nil =>
        cases t with
        | none => exact absurd this hv
        | some a => exact ⟨_, _, this⟩
      | cons y ys => obtain ⟨op, m⟩ := y; obtain ⟨_, _, h1, _⟩ := this; exact ⟨_, _, h1⟩
    have HV := Lib.hid hv
    subst hx'
    clear hv
    go_enter Tryd.func20, Tryd.ntmps20
    go_wp2_with fail
    refine (isLoop_any b _ HB.out r fs (.iface T' x') t HH.out HV.out HR.out HT.out).mono ?_
    rintro e w' ⟨rfl, rfl⟩
    go_wp2_with fail
    go_ret
    exact ⟨rfl, rfl⟩

end Go.Proofs.YtnlhmlgoipnekaaDoor
