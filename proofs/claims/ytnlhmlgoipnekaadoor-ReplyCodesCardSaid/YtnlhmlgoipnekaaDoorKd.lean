/- The laws' kind, walked. -/
import Derived.Test.YtnlhmlgoipnekaaDoorCode
import Derived.Test.YtnlhmlgoipnekaaDoorStore
namespace Go.Proofs.YtnlhmlgoipnekaaDoor
open Go.RowKit

theorem knownV_one (E : Nat → Addr) : (knownV E).all (·.oneCell') = true := by unfold knownV; simp [Value.oneCell']

def zero14 : Array Value := #[.nilIface, .nilIface, .nilIface, .nilIface, .nilIface, .nilIface, .nilIface, .nilIface, .nilIface, .nilIface, .nilIface, .nilIface, .nilIface, .nilIface]

/-- What kind hands back at m. -/
def kindI (m : Nat) : Int := if m = 14 then -1 else (m : Int) + 1

set_option maxRecDepth 100000 in
set_option maxHeartbeats 2000000 in
theorem kind24_any {B : Nat} {E : Nat → Addr} (v : Value) (fs : List (ByteArray × Int)) (t : Option Addr) (m : Nat) (w : World) (hG : GlobE B E w) (hv : v ≠ .nilIface) (hE : EC w v fs t) (ht : ∀ a, t = some a → Own w a) (hm : First E t m) :
    Calls Tryd.prog 26 #[v] w fun e w' => e = .returned (.int .i64 (kindI m)) ∧ Keeps [] w w' := by
  obtain ⟨T', x', hx'⟩ : ∃ T' x', v = .iface T' x' := by
    cases fs with
    | nil =>
      cases t with
      | none => exact absurd hE hv
      | some a => exact ⟨_, _, hE⟩
    | cons y ys => obtain ⟨op, n⟩ := y; obtain ⟨_, _, h1, _⟩ := hE; exact ⟨_, _, h1⟩
  subst hx'
  obtain ⟨r, hr⟩ : ∃ r, r = kindI m := ⟨_, rfl⟩
  rw [← hr]
  have HKI := Lib.hid hr
  clear hr
  obtain ⟨w0, hw0⟩ : ∃ w0, w.alloc (.cells zero14 116) = w0 := ⟨_, rfl⟩
  have hb0 : Blk w0 w.heap.size 116 zero14 := by rw [← hw0]; exact Blk.new _ _ _
  have hk0 : Keeps [] w w0 := by rw [← hw0]; exact (Keeps.refl _ _).alloc _
  unfold zero14 at hw0
  have h0 : w.cell? ⟨0, 0, none⟩ = some (errv (E 0)) := hG.cell 0 (by omega)
  have h1 : w.cell? ⟨4, 0, none⟩ = some (errv (E 1)) := hG.cell 1 (by omega)
  have h2 : w.cell? ⟨1, 0, none⟩ = some (errv (E 2)) := hG.cell 2 (by omega)
  have h3 : w.cell? ⟨5, 0, none⟩ = some (errv (E 3)) := hG.cell 3 (by omega)
  have h4 : w.cell? ⟨6, 0, none⟩ = some (errv (E 4)) := hG.cell 4 (by omega)
  have h5 : w.cell? ⟨7, 0, none⟩ = some (errv (E 5)) := hG.cell 5 (by omega)
  have h6 : w.cell? ⟨8, 0, none⟩ = some (errv (E 6)) := hG.cell 6 (by omega)
  have h7 : w.cell? ⟨9, 0, none⟩ = some (errv (E 7)) := hG.cell 7 (by omega)
  have h8 : w.cell? ⟨2, 0, none⟩ = some (errv (E 8)) := hG.cell 8 (by omega)
  have h9 : w.cell? ⟨10, 0, none⟩ = some (errv (E 9)) := hG.cell 9 (by omega)
  have h10 : w.cell? ⟨11, 0, none⟩ = some (errv (E 10)) := hG.cell 10 (by omega)
  have h11 : w.cell? ⟨3, 0, none⟩ = some (errv (E 11)) := hG.cell 11 (by omega)
  have h12 : w.cell? ⟨12, 0, none⟩ = some (errv (E 12)) := hG.cell 12 (by omega)
  have h13 : w.cell? ⟨13, 0, none⟩ = some (errv (E 13)) := hG.cell 13 (by omega)
  have HM := Lib.hid hm
  have HE := Lib.hid hE
  have HT := Lib.hid ht
  have HG := Lib.hid hG
  have hm14 := hm.1
  clear hm hE ht hv hG
  go_enter Tryd.func26, Tryd.ntmps26
  go_wp2_with (refine wpList_store_blk rfl 116 _ _ rfl w.heap.size 116 zero14 (knownV E) rfl rfl hb0 rfl (by kernel_rfl) (knownV_one E) ?_)
  intro w1 hb hkx
  have hk : Keeps [] w w1 := hk0.trans' hkx (by simp)
  clear hw0 hb0 hk0 hkx h0 h1 h2 h3 h4 h5 h6 h7 h8 h9 h10 h11 h12 h13
  have HE1 : Hid (EC w1 (.iface T' x') fs t) := Lib.hid (HE.out.keep hk (by simp))
  have HT1 : Hid (∀ a, t = some a → Own w1 a) := Lib.hid (fun a ha => by
    obtain ⟨c, ty, e⟩ := HT.out a ha
    exact ⟨c, ty, by rw [hk.block _ (Array.getElem?_eq_some_iff.1 e).1 (by simp)]; exact e⟩)
  have HG1 := Lib.hid (HG.out.keep0 hk)
  go_wp2_with fail
  go_loop [4] (fun i => ∃ k : Nat, i = .int .i64 k ∧ k ≤ m) (fun i => 14 - (intOf i).toNat)
  case atStart => exact ⟨0, rfl, by omega⟩
  case round =>
    obtain ⟨k, rfl, hkm⟩ := hrel
    by_cases hlt : k < 14
    · have hlt2 : (k : Int) < 14 := by omega
      have hc : w1.cell? ⟨w.heap.size, k, none⟩ = some (errv (E k)) := by rw [hb.cell, knownV_at _ _ hlt]
      by_cases hkk : k = m
      · obtain rfl := hkk
        have ht1 : t = some (E k) := by
          rcases HM.out.2.2 with h | h
          · omega
          · exact h
        have HT2 := Lib.hid ht1
        clear ht1
        go_wp2_with fail
        refine (is_any (E k) w1 (HG1.out.own k hlt) true fs _ t HE1.out (by simp [HT2.out]) HT1.out).mono ?_
        rintro e w2 ⟨rfl, rfl⟩
        go_wp2_with fail
        go_ret
        refine ⟨?_, hk⟩
        rw [HKI.out]; unfold kindI; rw [if_neg (by omega)]; rfl
      · have HN := Lib.hid (HM.out.2.1 k (by omega))
        go_wp2_with fail
        refine (is_any (E k) w1 (HG1.out.own k hlt) false fs _ t HE1.out (by simp [HN.out]) HT1.out).mono ?_
        rintro e w2 ⟨rfl, rfl⟩
        go_wp2_with fail
        go_round
        case rel => exact ⟨k + 1, by go_num, by omega⟩
        case measure => simp [intOf]; omega
    · obtain rfl : k = 14 := by omega
      obtain rfl : m = 14 := by omega
      go_wp2_with fail
      go_ret
      exact ⟨by rw [HKI.out]; rfl, hk⟩

theorem kind24_nil (w : World) : Calls Tryd.prog 26 #[.nilIface] w fun e w' => e = .returned (.int .i64 0) ∧ w = w' := by
  go_enter Tryd.func26, Tryd.ntmps26
  go_wp2_with fail
  go_ret
  exact ⟨rfl, rfl⟩

set_option maxRecDepth 100000 in
set_option maxHeartbeats 2000000 in
theorem kind39_any {B : Nat} {E : Nat → Addr} (v : Value) (fs : List (ByteArray × Int)) (t : Option Addr) (m : Nat) (w : World) (hG : GlobE B E w) (hv : v ≠ .nilIface) (hE : EC w v fs t) (ht : ∀ a, t = some a → Own w a) (hm : First E t m) :
    Calls Tryd.prog 41 #[v] w fun e w' => e = .returned (.int .i64 (kindI m)) ∧ Keeps [] w w' := by
  obtain ⟨T', x', hx'⟩ : ∃ T' x', v = .iface T' x' := by
    cases fs with
    | nil =>
      cases t with
      | none => exact absurd hE hv
      | some a => exact ⟨_, _, hE⟩
    | cons y ys => obtain ⟨op, n⟩ := y; obtain ⟨_, _, h1, _⟩ := hE; exact ⟨_, _, h1⟩
  subst hx'
  obtain ⟨r, hr⟩ : ∃ r, r = kindI m := ⟨_, rfl⟩
  rw [← hr]
  have HKI := Lib.hid hr
  clear hr
  obtain ⟨w0, hw0⟩ : ∃ w0, w.alloc (.cells zero14 116) = w0 := ⟨_, rfl⟩
  have hb0 : Blk w0 w.heap.size 116 zero14 := by rw [← hw0]; exact Blk.new _ _ _
  have hk0 : Keeps [] w w0 := by rw [← hw0]; exact (Keeps.refl _ _).alloc _
  unfold zero14 at hw0
  have h0 : w.cell? ⟨0, 0, none⟩ = some (errv (E 0)) := hG.cell 0 (by omega)
  have h1 : w.cell? ⟨4, 0, none⟩ = some (errv (E 1)) := hG.cell 1 (by omega)
  have h2 : w.cell? ⟨1, 0, none⟩ = some (errv (E 2)) := hG.cell 2 (by omega)
  have h3 : w.cell? ⟨5, 0, none⟩ = some (errv (E 3)) := hG.cell 3 (by omega)
  have h4 : w.cell? ⟨6, 0, none⟩ = some (errv (E 4)) := hG.cell 4 (by omega)
  have h5 : w.cell? ⟨7, 0, none⟩ = some (errv (E 5)) := hG.cell 5 (by omega)
  have h6 : w.cell? ⟨8, 0, none⟩ = some (errv (E 6)) := hG.cell 6 (by omega)
  have h7 : w.cell? ⟨9, 0, none⟩ = some (errv (E 7)) := hG.cell 7 (by omega)
  have h8 : w.cell? ⟨2, 0, none⟩ = some (errv (E 8)) := hG.cell 8 (by omega)
  have h9 : w.cell? ⟨10, 0, none⟩ = some (errv (E 9)) := hG.cell 9 (by omega)
  have h10 : w.cell? ⟨11, 0, none⟩ = some (errv (E 10)) := hG.cell 10 (by omega)
  have h11 : w.cell? ⟨3, 0, none⟩ = some (errv (E 11)) := hG.cell 11 (by omega)
  have h12 : w.cell? ⟨12, 0, none⟩ = some (errv (E 12)) := hG.cell 12 (by omega)
  have h13 : w.cell? ⟨13, 0, none⟩ = some (errv (E 13)) := hG.cell 13 (by omega)
  have HM := Lib.hid hm
  have HE := Lib.hid hE
  have HT := Lib.hid ht
  have HG := Lib.hid hG
  have hm14 := hm.1
  clear hm hE ht hv hG
  go_enter Tryd.func41, Tryd.ntmps41
  go_wp2_with (refine wpList_store_blk rfl 116 _ _ rfl w.heap.size 116 zero14 (knownV E) rfl rfl hb0 rfl (by kernel_rfl) (knownV_one E) ?_)
  intro w1 hb hkx
  have hk : Keeps [] w w1 := hk0.trans' hkx (by simp)
  clear hw0 hb0 hk0 hkx h0 h1 h2 h3 h4 h5 h6 h7 h8 h9 h10 h11 h12 h13
  have HE1 : Hid (EC w1 (.iface T' x') fs t) := Lib.hid (HE.out.keep hk (by simp))
  have HT1 : Hid (∀ a, t = some a → Own w1 a) := Lib.hid (fun a ha => by
    obtain ⟨c, ty, e⟩ := HT.out a ha
    exact ⟨c, ty, by rw [hk.block _ (Array.getElem?_eq_some_iff.1 e).1 (by simp)]; exact e⟩)
  have HG1 := Lib.hid (HG.out.keep0 hk)
  go_wp2_with fail
  go_loop [4] (fun i => ∃ k : Nat, i = .int .i64 k ∧ k ≤ m) (fun i => 14 - (intOf i).toNat)
  case atStart => exact ⟨0, rfl, by omega⟩
  case round =>
    obtain ⟨k, rfl, hkm⟩ := hrel
    by_cases hlt : k < 14
    · have hlt2 : (k : Int) < 14 := by omega
      have hc : w1.cell? ⟨w.heap.size, k, none⟩ = some (errv (E k)) := by rw [hb.cell, knownV_at _ _ hlt]
      by_cases hkk : k = m
      · obtain rfl := hkk
        have ht1 : t = some (E k) := by
          rcases HM.out.2.2 with h | h
          · omega
          · exact h
        have HT2 := Lib.hid ht1
        clear ht1
        go_wp2_with fail
        refine (is_any (E k) w1 (HG1.out.own k hlt) true fs _ t HE1.out (by simp [HT2.out]) HT1.out).mono ?_
        rintro e w2 ⟨rfl, rfl⟩
        go_wp2_with fail
        go_ret
        refine ⟨?_, hk⟩
        rw [HKI.out]; unfold kindI; rw [if_neg (by omega)]; rfl
      · have HN := Lib.hid (HM.out.2.1 k (by omega))
        go_wp2_with fail
        refine (is_any (E k) w1 (HG1.out.own k hlt) false fs _ t HE1.out (by simp [HN.out]) HT1.out).mono ?_
        rintro e w2 ⟨rfl, rfl⟩
        go_wp2_with fail
        go_round
        case rel => exact ⟨k + 1, by go_num, by omega⟩
        case measure => simp [intOf]; omega
    · obtain rfl : k = 14 := by omega
      obtain rfl : m = 14 := by omega
      go_wp2_with fail
      go_ret
      exact ⟨by rw [HKI.out]; rfl, hk⟩

theorem kind39_nil (w : World) : Calls Tryd.prog 41 #[.nilIface] w fun e w' => e = .returned (.int .i64 0) ∧ w = w' := by
  go_enter Tryd.func41, Tryd.ntmps41
  go_wp2_with fail
  go_ret
  exact ⟨rfl, rfl⟩

end Go.Proofs.YtnlhmlgoipnekaaDoor
