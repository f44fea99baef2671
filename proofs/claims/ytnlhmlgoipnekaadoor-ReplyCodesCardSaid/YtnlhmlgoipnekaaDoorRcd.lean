/- quitrentlaw24.ReplyCodes, walked. -/
import Derived.Test.YtnlhmlgoipnekaaDoorAw24
import Derived.Test.YtnlhmlgoipnekaaDoorKd
namespace Go.Proofs.YtnlhmlgoipnekaaDoor
open Go.RowKit

theorem EC.keep0 {w w' : World} (k : Keeps [] w w') {fs : List (ByteArray × Int)} {v : Value} {t : Option Addr} (h : EC w v fs t) : EC w' v fs t := h.keep k (by simp)

set_option maxRecDepth 100000 in
set_option maxHeartbeats 1000000 in
theorem codes_long {B : Nat} {E : Nat → Addr} (code : Int) (v : Value) (xs : List Int) (w : World) (hG : GlobE B E w) (hR : IntRow w v 1 xs) (hl : 10 < xs.length) :
    Calls Tryd.prog 6 #[.int .i64 code, v] w fun e w' => e = .returned (.bool true) ∧ Keeps [] w w' := by
  obtain ⟨b0, o0, n0, hn0, len0, idx0, cel0, own0⟩ := hR.form (P := Tryd.prog) 49 3 Tryd.underlying49 (fun w' => by kernel_rfl) (by omega)
  have hgt : (10 : Int) < (n0 : Int) := by omega
  clear idx0 cel0 own0 hn0 hl
  go_enter Tryd.func6, Tryd.ntmps6
  go_wp2_with fail
  refine (awake24_any w hG).mono ?_
  rintro e w1 ⟨rfl, hk1⟩
  go_wp2_with fail
  go_ret
  exact ⟨rfl, hk1⟩

set_option maxRecDepth 100000 in
set_option maxHeartbeats 1000000 in
theorem codes_none {B : Nat} {E : Nat → Addr} (code : Int) (v : Value) (xs : List Int) (w : World) (hG : GlobE B E w) (hR : IntRow w v 1 xs) (hl : xs.length ≤ 10) (hc : ¬ (1 ≤ code ∧ code ≤ 14)) :
    Calls Tryd.prog 6 #[.int .i64 code, v] w fun e w' => e = .returned (.bool true) ∧ Keeps [] w w' := by
  obtain ⟨b0, o0, n0, hn0, len0, idx0, cel0, own0⟩ := hR.form (P := Tryd.prog) 49 3 Tryd.underlying49 (fun w' => by kernel_rfl) (by omega)
  have hle : (n0 : Int) ≤ 10 := by omega
  have HE : Hid (errOf E code = .nilIface) := by apply Lib.hid; unfold errOf; rw [if_neg hc]
  have hcs : code < 1 ∨ (1 ≤ code ∧ 14 < code) := by omega
  clear idx0 cel0 own0 hn0 hl hc
  rcases hcs with h | ⟨h, h'⟩
  all_goals
    go_enter Tryd.func6, Tryd.ntmps6
    go_wp2_with fail
    refine (awake24_any w hG).mono ?_
    rintro e w1 ⟨rfl, hk1⟩
    go_wp2_with fail
    refine (err_code code w1 (hG.keep0 hk1)).mono ?_
    rintro e w2 ⟨rfl, hk2⟩
    rw [HE.out]
    go_wp2_with fail
    go_ret
    exact ⟨rfl, hk1.trans hk2⟩

set_option maxRecDepth 100000 in
set_option maxHeartbeats 4000000 in
theorem codes_in {B : Nat} {E : Nat → Addr} (code : Int) (v : Value) (xs : List Int) (w : World) (hG : GlobE B E w) (hR : IntRow w v 1 xs) (hl : xs.length ≤ 10) (h1 : 1 ≤ code) (h2 : code ≤ 14) :
    Calls Tryd.prog 6 #[.int .i64 code, v] w fun e w' => e = .returned (.bool true) ∧ Keeps [] w w' := by
  obtain ⟨b0, o0, n0, hn0, len0, idx0, cel0, own0⟩ := hR.form (P := Tryd.prog) 49 3 Tryd.underlying49 (fun w' => by kernel_rfl) (by omega)
  have hle : (n0 : Int) ≤ 10 := by omega
  obtain ⟨c, hc⟩ : ∃ c : Nat, c = code.toNat - 1 := ⟨_, rfl⟩
  have hc14 : c < 14 := by omega
  have hcode : code = (c + 1 : Nat) := by omega
  subst hcode
  have HE : Hid (errOf E ((c + 1 : Nat) : Int) = errv (E c)) := by apply Lib.hid; unfold errOf; rw [if_pos ⟨h1, h2⟩, ← hc]
  have HI := Lib.hid idx0
  have HC := Lib.hid cel0
  have HN := Lib.hid hn0
  have hk14 : kindI c = ((c + 1 : Nat) : Int) := by unfold kindI; rw [if_neg (by omega)]; omega
  have HK14 := Lib.hid hk14
  clear idx0 cel0 own0 hn0 hl hc hk14
  obtain ⟨code, hcode⟩ : ∃ code : Int, code = (c + 1 : Nat) := ⟨_, rfl⟩
  rw [← hcode] at HE h1 h2 HK14 ⊢
  have HCD := Lib.hid hcode
  clear hcode
  go_enter Tryd.func6, Tryd.ntmps6
  go_wp2_with fail
  refine (awake24_any w hG).mono ?_
  rintro e w1 ⟨rfl, hk1⟩
  go_wp2_with fail
  refine (err_code code w1 (hG.keep0 hk1)).mono ?_
  rintro e w2 ⟨rfl, hk2⟩
  rw [HE.out]
  have hK2 := hk1.trans hk2
  have hG2 := hG.keep0 hK2
  clear hk1 hk2
  go_wp2_with fail
  refine (kind24_any (errv (E c)) [] (some (E c)) c w2 hG2 (by simp [errv]) rfl (by rintro a ⟨⟩; exact hG2.own c hc14) (first_of hG2 c hc14)).mono ?_
  rintro e w3 ⟨rfl, hk3⟩
  rw [HK14.out]
  have hK3 := hK2.trans hk3
  have hG3 := hG.keep0 hK3
  clear hk3 hK2 hG2
  go_wp2_with fail
  refine (code_any (errv (E c)) [] (some (E c)) c w3 hG3 (by simp [errv]) rfl (by rintro a ⟨⟩; exact hG3.own c hc14) (first_of hG3 c hc14)).mono ?_
  rintro e w4 ⟨rfl, hk4⟩
  rw [← HCD.out]
  have hK4 := hK3.trans hk4
  have hG4 := hG.keep0 hK4
  clear hk4 hK3 hG3
  go_wp2_with fail
  refine (at24_err (E c) w4 hG4).mono ?_
  rintro e w5 ⟨rfl, hk5⟩
  have hK5 := hK4.trans hk5
  clear hk5 hK4 hG4
  have HK5 := Lib.hid hK5
  clear hK5
  go_wp2_with fail
  go_loopw [5, 6, 7] (fun ev at' i wr => ∃ (k : Nat) (fs : List (ByteArray × Int)) (a : Int), i = .int .i64 k ∧ k ≤ n0 ∧ at' = .int .i64 a ∧ ev ≠ .nilIface ∧ EC wr ev fs (some (E c)) ∧ Keeps [] w wr) (fun _ _ i _ => n0 - (intOf i).toNat)
  case atStart => exact ⟨0, [], 0, rfl, by omega, rfl, by simp [errv], rfl, HK5.out⟩
  case round =>
    obtain ⟨k, fs, a, rfl, hk, rfl, hev, hEC, hKr⟩ := hrel
    obtain ⟨qt, qv, rfl⟩ : ∃ T x, u5 = .iface T x := by
      cases fs with
      | nil => exact ⟨_, _, hEC⟩
      | cons z zs => obtain ⟨op, m⟩ := z; obtain ⟨_, _, h1, _⟩ := hEC; exact ⟨_, _, h1⟩
    have HEV := Lib.hid hev
    have HEC := Lib.hid hEC
    have HKr := Lib.hid hKr
    clear hev hEC hKr
    by_cases hlt : k < n0
    · obtain ⟨y, hy⟩ : ∃ y, y = xs.getD k 0 := ⟨_, rfl⟩
      have hlen : k < xs.length := by have := HN.out; omega
      have hcy : wr.cell? ⟨b0, o0 + k, none⟩ = some (.int .i64 y) := by rw [hy]; exact HKr.out.cellAt (HC.out k hlen) (by simp)
      have hix : ∀ w' : World, (Instr.indexAt 49 v (.int .i64 k)).run Tryd.prog w' = .ok (.pointer (some ⟨b0, o0 + k, none⟩)) w' := fun w' => by have := HI.out k w' hlt; rw [Nat.mul_one] at this; exact this
      obtain ⟨wf, hwf⟩ : ∃ wf, wr.alloc (.cells #[.string ⟨#[119]⟩, .int .i64 y, .iface qt qv] 53) = wf := ⟨_, rfl⟩
      have hF : Blk wf wr.heap.size 53 #[.string ⟨#[119]⟩, .int .i64 y, .iface qt qv] := by rw [← hwf]; exact Blk.new _ _ _
      have hkf : Keeps [] wr wf := by rw [← hwf]; exact (Keeps.refl _ _).alloc _
      have hcyf : wf.cell? ⟨b0, o0 + k, none⟩ = some (.int .i64 y) := hkf.cellAt hcy (by simp)
      have hKf := HKr.out.trans hkf
      have hGf := hG.keep0 hKf
      have hECf : EC wf (faultV wr.heap.size) ((⟨#[119]⟩, y) :: fs) (some (E c)) := ⟨_, _, rfl, hF, HEC.out.keep0 hkf⟩
      have HECf := Lib.hid hECf
      clear hy hlen hkf hECf
      go_wp2_with fail
      clear hwf
      refine (code_any (faultV wr.heap.size) _ (some (E c)) c wf hGf (by simp [faultV]) HECf.out (by rintro a ⟨⟩; exact hGf.own c hc14) (first_of hGf c hc14)).mono ?_
      rintro e wg ⟨rfl, hkg⟩
      rw [← HCD.out]
      have hKg := hKf.trans hkg
      have hGg := hG.keep0 hKg
      have hFg := hF.keep hkg (by simp)
      go_wp2_with fail
      refine (at24_fault wr.heap.size _ (.int .i64 y) _ wg hGg hFg).mono ?_
      rintro e wh ⟨rfl, hkh⟩
      have HN2 : Hid (EC wh (faultV wr.heap.size) ((⟨#[119]⟩, y) :: fs) (some (E c)) ∧ Keeps [] w wh) := Lib.hid ⟨(HECf.out.keep0 hkg).keep0 hkh, hKg.trans hkh⟩
      clear hcy hcyf hix hF hKf hGf hkg hKg hGg hFg hkh
      go_wp2_with fail
      go_roundw
      case rel => exact ⟨k + 1, _, y, by go_num, by omega, rfl, by simp, HN2.out.1, HN2.out.2⟩
      case measure => simp [intOf]; omega
    · obtain rfl : k = n0 := by omega
      obtain ⟨wf, hwf⟩ : ∃ wf, wr.alloc (.cells #[.string ⟨#[110, 111, 110, 101]⟩, .int .i64 0, .nilIface] 53) = wf := ⟨_, rfl⟩
      have hF : Blk wf wr.heap.size 53 #[.string ⟨#[110, 111, 110, 101]⟩, .int .i64 0, .nilIface] := by rw [← hwf]; exact Blk.new _ _ _
      have hkf : Keeps [] wr wf := by rw [← hwf]; exact (Keeps.refl _ _).alloc _
      have hKf := HKr.out.trans hkf
      have hGf := hG.keep0 hKf
      clear hkf
      go_wp2_with fail
      clear hwf
      refine (code_any (faultV wr.heap.size) [(⟨#[110, 111, 110, 101]⟩, 0)] none 14 wf hGf (by simp [faultV]) ⟨_, _, rfl, hF, rfl⟩ (by simp) ⟨by omega, fun j _ => by simp, .inl rfl⟩).mono ?_
      rintro e wg ⟨rfl, hkg⟩
      have hKg := hKf.trans hkg
      clear hKf hGf hkg hF
      go_wp2_with fail
      refine (new_any _ wg).mono ?_
      rintro e wh ⟨rfl, how, hkh⟩
      have hKh := hKg.trans hkh
      have hGh := hG.keep0 hKh
      have hfst : First E (some ⟨wg.heap.size, 0, none⟩) 14 := ⟨by omega, fun j hj h => by
        have h1 := hGh.lt j hj
        have h2 := (hG.keep0 hKg).size
        have h3 := Option.some.inj h
        rw [← h3] at h1
        simp at h1
        omega, .inl rfl⟩
      go_wp2_with fail
      refine (code_any (errv ⟨wg.heap.size, 0, none⟩) [] (some ⟨wg.heap.size, 0, none⟩) 14 wh hGh (by simp [errv]) rfl (by rintro a ⟨⟩; exact how) hfst).mono ?_
      rintro e wi ⟨rfl, hki⟩
      have hKi := hKh.trans hki
      clear hKh hGh hkh hki how hfst hKg
      go_wp2_with fail
      go_ret
      exact ⟨rfl, hKi⟩

end Go.Proofs.YtnlhmlgoipnekaaDoor
