/- wire.In, walked. -/
import Derived.Test.YtnlhmlgoipnekaaDoorMem
import Derived.Test.YtnlhmlgoipnekaaDoorProg
import Derived.Test.YtnlhmlgoipnekaaDoorZig
import Derived.WalkSpells
import Derived.WalkLawsBesides
import Derived.Handy
import Derived.BigRegion
import Derived.Deep.QuietTactic
import Derived.BigQuiet
import Derived.StillTailTactics
import Derived.Lib.ConvBytes
import Derived.Lib.Strings
namespace Go.Proofs.YtnlhmlgoipnekaaDoor
open Go.RowKit

def rawRes : Option (Nat × Nat) → Value
  | none => .tuple #[.int .u64 0, .int .i64 0]
  | some (u, n) => .tuple #[.int .u64 u, .int .i64 n]

theorem ret_raw {x y : Int} {u n : Nat} (h1 : x = u) (h2 : y = n) : Ending.returned (.tuple #[.int .u64 x, .int .i64 y]) = .returned (rawRes (some (u, n))) := by rw [h1, h2]; rfl

theorem lenS (S : ByteArray) : S.data.toList.length = S.size := Array.length_toList

theorem drop_cons {S : ByteArray} {p k : Nat} (h : k < S.size - p) : S.data.toList.drop (p + k) = S.data.toList.getD (p + k) 0 :: S.data.toList.drop (p + (k + 1)) := by
  have hl : p + k < S.data.toList.length := by
    have := lenS S
    omega
  rw [List.drop_eq_getElem_cons hl, List.getD_eq_getElem?_getD, List.getElem?_eq_getElem hl]; rfl

theorem drop_none {S : ByteArray} {p k : Nat} (h : ¬ k < S.size - p) : S.data.toList.drop (p + k) = [] := by
  have := lenS S
  exact List.drop_eq_nil_of_le (by omega)

theorem getD_extract (S : ByteArray) (p j : Nat) (h : j < S.size - p) : (S.extract p S.size).data.toList.getD j 0 = S.data.toList.getD (p + j) 0 := by
  have := lenS S
  rw [Lib.extract_data]
  simp only [List.getD_eq_getElem?_getD, List.getElem?_drop, List.getElem?_take]
  rw [if_pos (by omega)]

set_option maxRecDepth 100000 in
set_option maxHeartbeats 1000000 in
theorem raw_any (ib : Nat) (S : ByteArray) (p : Nat) (ev : Value) (w : World) (h : Blk w ib 184 #[.string S, .int .i64 p, ev]) (hp : p ≤ S.size) (hS : Room S.size) :
    Calls Tryd.prog 98 #[.pointer (some ⟨ib, 0, none⟩)] w fun e w' => e = .returned (rawRes (rawDec 0 0 (S.data.toList.drop p))) ∧ Keeps [] w w' := by
  have c := h.cell
  have hl := h.lt
  have hconv := fun w s => Lib.run_convert_string_bytes (P := Tryd.prog) w 9 121 5 s Tryd.underlying9 Tryd.underlying121 Tryd.underlying5
  obtain ⟨D, hD⟩ : ∃ D, D = rawDec 0 0 (S.data.toList.drop p) := ⟨_, rfl⟩
  rw [← hD]
  have HD := Lib.hid hD
  clear hD
  go_enter Tryd.func98, Tryd.ntmps98
  go_wp2_with fail
  go_region
  clear hconv
  obtain ⟨W, hW⟩ : ∃ W, W = Lib.bytesWorld w.drew 5 (S.extract p S.size) := ⟨_, rfl⟩
  rw [← hW]
  have hcell : ∀ j, j < S.size - p → W.cell? ⟨w.heap.size, j, none⟩ = some (.int .u8 (S.data.toList.getD (p + j) 0).toNat) := by
    intro j hj
    rw [hW, ← getD_extract S p j hj]
    have hs : (S.extract p S.size).size = S.size - p := by simp
    exact Lib.bytesWorld_cell w.drew _ _ j (by rw [hs]; exact hj)
  have hkw : Keeps [] w W := by
    rw [hW]
    refine ⟨by simp [Lib.bytesWorld, World.freeze, World.alloc, World.drew, -World.alloc_eq, -World.drew_eq], by simp [Lib.bytesWorld, World.freeze, World.alloc, World.drew, -World.alloc_eq, -World.drew_eq], by simp [Lib.bytesWorld, World.freeze, World.alloc, World.drew, -World.alloc_eq, -World.drew_eq], ?_, fun k hk _ => Lib.bytesWorld_at_old w.drew _ _ k hk⟩
    have := Lib.bytesWorld_size w.drew 5 (S.extract p S.size)
    rw [this]; exact Nat.le_succ _
  have HC := Lib.hid hcell
  have HK := Lib.hid hkw
  clear hcell hW hkw c hl
  have hSb : S.size ≤ 140737488355328 := by unfold Room at hS; omega
  go_wp2_with fail
  go_loopw [4, 19] (fun a i wr => ∃ k u : Nat, a = .int .u64 u ∧ i = .int .i64 k ∧ k ≤ 9 ∧ u < 128 ^ k ∧ k ≤ S.size - p ∧ D = rawDec k u (S.data.toList.drop (p + k)) ∧ wr = W) (fun _ i _ => S.size - p - (intOf i).toNat)
  case atStart => exact ⟨0, 0, rfl, rfl, by omega, by decide, by omega, HD.out, rfl⟩
  case round =>
    obtain ⟨k, u, rfl, rfl, hk9, hu, hk, hDk, rfl⟩ := hrel
    have HU := Lib.hid hu
    have HDk := Lib.hid hDk
    clear hu hDk
    by_cases hlt : k < S.size - p
    · have hc := HC.out k hlt
      have HX := Lib.hid (drop_cons hlt)
      generalize hb : (S.data.toList.getD (p + k) 0) = b at hc HX
      clear hb
      obtain ⟨n, hn⟩ : ∃ n, n = b.toNat := ⟨_, rfl⟩
      rw [← hn] at hc
      have hn1 : n < 256 := by rw [hn]; exact b.toNat_lt
      have HN := Lib.hid hn
      clear hn
      by_cases h128 : n < 128
      · by_cases hA : k = 9 ∧ 1 < n
        · have HF : Hid (D = none) := by
            apply Lib.hid
            rw [HDk.out, HX.out]; unfold rawDec; rw [if_pos (.inl ⟨hA.1, by rw [← HN.out]; exact hA.2⟩)]
          obtain ⟨rfl, hA⟩ := hA
          go_wp2_with fail
          go_ret2
          exact ⟨by rw [HF.out]; rfl, HK.out⟩
        · by_cases hB : n = 0 ∧ 0 < k
          · have HF : Hid (D = none) := by
              apply Lib.hid
              rw [HDk.out, HX.out]; unfold rawDec; rw [if_pos (.inr ⟨by rw [← HN.out]; exact hB.1, hB.2⟩)]
            obtain ⟨rfl, hB⟩ := hB
            go_wp2_with fail
            all_goals (go_ret2; exact ⟨by rw [HF.out]; rfl, HK.out⟩)
          · have HF : Hid (D = some (u + n % 128 * 128 ^ k, k + 1)) := by
              apply Lib.hid
              rw [HDk.out, HX.out]; unfold rawDec; rw [← HN.out, if_neg (by omega), if_pos h128]
            have HO := Lib.hid (or_slot u n k hn1 hk9 HU.out (by omega))
            have HL := Lib.hid hB
            have HA := Lib.hid hA
            clear hA hB
            by_cases h9 : k = 9
            · obtain rfl := h9
              have h1 : n ≤ 1 := by have := HA.out; omega
              have h0 : 0 < n := by have := HL.out; omega
              go_wp2_with fail
              go_ret2
              exact ⟨by rw [HF.out]; exact ret_raw (by simpa using HO.out) rfl, HK.out⟩
            · by_cases h0 : 0 < k
              · have h0 : 0 < n := by have := HL.out; omega
                go_wp2_with fail
                go_ret2
                exact ⟨by rw [HF.out]; exact ret_raw (by simpa using HO.out) (by omega), HK.out⟩
              · obtain rfl : k = 0 := by omega
                by_cases hn0 : n = 0
                · obtain rfl := hn0
                  go_wp2_with fail
                  go_ret2
                  exact ⟨by rw [HF.out]; exact ret_raw (by simpa using HO.out) (by omega), HK.out⟩
                · go_wp2_with fail
                  go_ret2
                  exact ⟨by rw [HF.out]; exact ret_raw (by simpa using HO.out) (by omega), HK.out⟩
      · by_cases hA : k = 9
        · have HF : Hid (D = none) := by
            apply Lib.hid
            rw [HDk.out, HX.out]; unfold rawDec; rw [if_pos (.inl ⟨hA, by rw [← HN.out]; omega⟩)]
          obtain rfl := hA
          have hn0 : 128 ≤ n := by omega
          go_wp2_with fail
          go_ret2
          exact ⟨by rw [HF.out]; rfl, HK.out⟩
        · have hk8 : k < 9 := by omega
          have hn0 : 128 ≤ n := by omega
          have HO := Lib.hid (or_slot u n k hn1 hk9 HU.out (by omega))
          have HF : Hid (D = rawDec (k + 1) (u + n % 128 * 128 ^ k) (S.data.toList.drop (p + (k + 1)))) := by
            apply Lib.hid
            rw [HDk.out, HX.out]; conv => lhs; unfold rawDec
            rw [← HN.out, if_neg (by omega), if_neg (by omega)]
          have HL := Lib.hid (step_lt u n k HU.out)
          go_wp2_with fail
          exact ⟨⟨k + 1, _, by rw [HO.out], by go_num, by omega, HL.out, by omega, HF.out, trivial⟩, by simp [intOf]; omega⟩
    · have HF : Hid (D = none) := by
        apply Lib.hid
        rw [HDk.out, drop_none hlt]; rfl
      go_wp2_with fail
      go_ret2
      exact ⟨by rw [HF.out]; rfl, HK.out⟩

end Go.Proofs.YtnlhmlgoipnekaaDoor
