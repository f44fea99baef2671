/- package reply: Code. -/
import Derived.Test.YtnlhmlgoipnekaaDoorKn
namespace Go.Proofs.YtnlhmlgoipnekaaDoor
open Go.RowKit

/-- m is the first of the fourteen that stands at an error's end; 14: none does. -/
def First (E : Nat → Addr) (t : Option Addr) (m : Nat) : Prop := m ≤ 14 ∧ (∀ j, j < m → t ≠ some (E j)) ∧ (m = 14 ∨ t = some (E m))

set_option maxRecDepth 100000 in
set_option maxHeartbeats 2000000 in
theorem code_any {B : Nat} {E : Nat → Addr} (v : Value) (fs : List (ByteArray × Int)) (t : Option Addr) (m : Nat) (w : World) (hG : GlobE B E w) (hv : v ≠ .nilIface) (hE : EC w v fs t) (ht : ∀ a, t = some a → Own w a) (hm : First E t m) :
    Calls Tryd.prog 27 #[v] w fun e w' => e = .returned (.int .i64 (m + 1 : Nat)) ∧ Keeps [] w w' := by
  obtain ⟨T', x', hx'⟩ : ∃ T' x', v = .iface T' x' := by
    cases fs with
    | nil =>
      cases t with
      | none => exact absurd hE hv
      | some a => exact ⟨_, _, hE⟩
    | cons y ys => obtain ⟨op, n⟩ := y; obtain ⟨_, _, h1, _⟩ := hE; exact ⟨_, _, h1⟩
  subst hx'
  have HM := Lib.hid hm
  have HE := Lib.hid hE
  have HT := Lib.hid ht
  have HG := Lib.hid hG
  have hm14 := hm.1
  clear hm hE ht hv hG
  go_enter Tryd.func27, Tryd.ntmps27
  go_wp2_with fail
  refine (known_any w HG.out).mono ?_
  rintro e w1 ⟨rfl, hb, hk⟩
  have HE1 : Hid (EC w1 (.iface T' x') fs t) := Lib.hid (HE.out.keep hk (by simp))
  have HT1 : Hid (∀ a, t = some a → Own w1 a) := Lib.hid (fun a ha => by
    obtain ⟨c, ty, e⟩ := HT.out a ha
    exact ⟨c, ty, by rw [hk.block _ (Array.getElem?_eq_some_iff.1 e).1 (by simp)]; exact e⟩)
  have HG1 := Lib.hid (HG.out.keep0 hk)
  go_wp2_with fail
  go_loop [9] (fun i => ∃ k : Nat, i = .int .i64 k ∧ k ≤ m) (fun i => 14 - (intOf i).toNat)
  case atStart => exact ⟨0, rfl, by omega⟩
  case round =>
    obtain ⟨k, rfl, hkm⟩ := hrel
    by_cases hlt : k < 14
    · have hlt2 : (k : Int) < 14 := by omega
      have hc : w1.cell? ⟨w.heap.size, k, none⟩ = some (errv (E k)) := by rw [hb.cell, knownV_at _ _ hlt]
      by_cases hkk : k = m
      · obtain rfl := hkk
        have ht1 : t = some (E k) := by
          rcases HM.out.2.2 with h | h
          · omega
          · exact h
        have HT2 := Lib.hid ht1
        clear ht1
        go_wp2_with fail
        refine (is_any (E k) w1 (HG1.out.own k hlt) true fs _ t HE1.out (by simp [HT2.out]) HT1.out).mono ?_
        rintro e w2 ⟨rfl, rfl⟩
        go_wp2_with fail
        go_ret
        exact ⟨by simp, hk⟩
      · have HN := Lib.hid (HM.out.2.1 k (by omega))
        go_wp2_with fail
        refine (is_any (E k) w1 (HG1.out.own k hlt) false fs _ t HE1.out (by simp [HN.out]) HT1.out).mono ?_
        rintro e w2 ⟨rfl, rfl⟩
        go_wp2_with fail
        go_round
        case rel => exact ⟨k + 1, by go_num, by omega⟩
        case measure => simp [intOf]; omega
    · obtain rfl : k = 14 := by omega
      obtain rfl : m = 14 := by omega
      go_wp2_with fail
      go_ret
      exact ⟨rfl, hk⟩

theorem code_nil (w : World) : Calls Tryd.prog 27 #[.nilIface] w fun e w' => e = .returned (.int .i64 0) ∧ w = w' := by
  go_enter Tryd.func27, Tryd.ntmps27
  go_wp2_with fail
  go_ret
  exact ⟨rfl, rfl⟩

end Go.Proofs.YtnlhmlgoipnekaaDoor
