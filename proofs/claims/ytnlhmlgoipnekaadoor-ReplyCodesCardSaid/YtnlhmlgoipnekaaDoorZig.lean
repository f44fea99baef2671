/- Numbers as bytes: the plain mathematics. No program in sight. -/
import Derived.Laws.Bits64
import Derived.Laws.BitsAllLaws
import Derived.WalkKit
import Derived.Laws.DeepNot64
namespace Go.Proofs.YtnlhmlgoipnekaaDoor
open Go.RowKit

/-- A number without a sign. -/
def zig (n : Int) : Nat := if 0 ≤ n then (2 * n).toNat else (-2 * n - 1).toNat
def unzig (u : Nat) : Int := if u % 2 = 0 then (u / 2 : Nat) else -((u / 2 : Nat) : Int) - 1

theorem unzig_zig (n : Int) : unzig (zig n) = n := by
  unfold unzig zig; split <;> split <;> omega

theorem zig_unzig (u : Nat) : zig (unzig u) = u := by
  unfold unzig zig; split <;> split <;> omega

theorem zig_lt (n : Int) (h1 : -9223372036854775808 ≤ n) (h2 : n ≤ 9223372036854775807) : zig n < 18446744073709551616 := by
  unfold zig; split <;> omega

theorem unzig_range (u : Nat) (h : u < 18446744073709551616) : -9223372036854775808 ≤ unzig u ∧ unzig u ≤ 9223372036854775807 := by
  unfold unzig; split <;> omega

theorem zig_inj {a b : Int} (h : zig a = zig b) : a = b := by rw [← unzig_zig a, h, unzig_zig]

theorem xor_ones (a : Nat) (h : a < 18446744073709551616) : a ^^^ 18446744073709551615 = 18446744073709551615 - a := by
  have h1 : (BitVec.ofNat 64 a ^^^ BitVec.allOnes 64).toNat = (~~~ (BitVec.ofNat 64 a)).toNat := by rw [BitVec.xor_allOnes]
  rw [BitVec.toNat_xor, BitVec.toNat_not, BitVec.toNat_ofNat, BitVec.toNat_allOnes, Nat.mod_eq_of_lt (by simpa using h)] at h1
  simpa using h1

theorem wrap_u64 (n : Int) : IntKind.u64.wrap n = n % 18446744073709551616 := by simp [IntKind.wrap, IntKind.bits, IntKind.signed]

/-- What Out.Int makes of its number first, as the walk writes it. -/
theorem zig_slot_pos (n : Int) (h1 : 0 ≤ n) (h2 : n ≤ 9223372036854775807) : bits .xor .u64 (n * 2) (n / 9223372036854775808) = (zig n : Int) := by
  have e : n / 9223372036854775808 = ((0 : Nat) : Int) := by omega
  obtain ⟨m, rfl⟩ := Int.eq_ofNat_of_zero_le h1
  rw [e, show ((m : Int) * 2) = ((m * 2 : Nat) : Int) by omega, bits_xor_u64_nat _ _ (by omega) (by omega), Nat.xor_zero]
  unfold zig; rw [if_pos h1]; omega

theorem zig_slot_neg (n : Int) (h1 : n < 0) (h2 : -9223372036854775808 ≤ n) : bits .xor .u64 (IntKind.u64.wrap (IntKind.u64.wrap n * 2)) (IntKind.u64.wrap (n / 9223372036854775808)) = (zig n : Int) := by
  have e : IntKind.u64.wrap (n / 9223372036854775808) = ((18446744073709551615 : Nat) : Int) := by
    have : n / 9223372036854775808 = -1 := by omega
    rw [this]; decide
  have e2 : IntKind.u64.wrap (IntKind.u64.wrap n * 2) = ((2 * n + 18446744073709551616).toNat : Int) := by
    rw [wrap_u64, wrap_u64]
    omega
  rw [e, e2, bits_xor_u64_nat _ _ (by omega) (by omega), xor_ones _ (by omega)]
  unfold zig; rw [if_neg (by omega)]; omega

/-- A number's bytes: seven bits each, the lowest first; a mark that others follow. -/
def enc (u : Nat) : List UInt8 := if u < 128 then [u.toUInt8] else (u % 128 + 128).toUInt8 :: enc (u / 128)
termination_by u
decreasing_by omega

theorem enc_small (u : Nat) (h : u < 128) : enc u = [u.toUInt8] := by rw [enc, if_pos h]
theorem enc_great (u : Nat) (h : ¬ u < 128) : enc u = (u % 128 + 128).toUInt8 :: enc (u / 128) := by rw [enc, if_neg h]

theorem enc_len (k : Nat) : ∀ u, u < 128 ^ (k + 1) → (enc u).length ≤ k + 1 := by
  induction k with
  | zero => intro u h; rw [enc_small u (by simpa using h)]; simp
  | succ k ih =>
    intro u h
    by_cases hs : u < 128
    · rw [enc_small u hs]; simp
    · rw [enc_great u hs]
      have := ih (u / 128) (by rw [Nat.pow_succ] at h; omega)
      simp; omega

theorem enc_len10 (u : Nat) (h : u < 18446744073709551616) : (enc u).length ≤ 10 := enc_len 9 u (by omega)

theorem enc_pos (u : Nat) : enc u ≠ [] := by
  by_cases hs : u < 128
  · rw [enc_small u hs]; simp
  · rw [enc_great u hs]; simp

theorem mark_slot (u : Nat) : bits .or .u8 ((u : Int) % 256) 128 = ((u % 128 + 128 : Nat) : Int) := by
  have e : (u : Int) % 256 = ((u % 256 : Nat) : Int) := by omega
  rw [e, show (128 : Int) = ((128 : Nat) : Int) by rfl, u8_or_nat _ _ (by omega) (by omega)]
  have hd : ∀ x < 256, x ||| 128 = x % 128 + 128 := by decide +kernel
  rw [hd _ (by omega)]
  omega

theorem mark_toNat (u : Nat) : ((u % 128 + 128 : Nat) : Int).toNat.toUInt8 = (u % 128 + 128).toUInt8 := by rw [Int.toNat_natCast]

theorem pow7 (k : Nat) : 2 ^ (7 * k) = 128 ^ k := by rw [Nat.pow_mul]

theorem sh_lt (n k : Nat) (hk : k ≤ 9) (h9 : k = 9 → n % 128 ≤ 1) : n % 128 * 128 ^ k < 18446744073709551616 := by
  have h : k = 0 ∨ k = 1 ∨ k = 2 ∨ k = 3 ∨ k = 4 ∨ k = 5 ∨ k = 6 ∨ k = 7 ∨ k = 8 ∨ k = 9 := by omega
  rcases h with rfl | rfl | rfl | rfl | rfl | rfl | rfl | rfl | rfl | rfl <;> omega

/-- Seven bits more, as the walk writes it. -/
theorem or_slot (u n k : Nat) (hn : n < 256) (hk : k ≤ 9) (hu : u < 128 ^ k) (h9 : k = 9 → n % 128 ≤ 1) :
    bits .or .u64 (u : Int) (IntKind.u64.wrap (IntKind.u64.wrap (bits .and .u8 (n : Int) 127) * 2 ^ (7 * k))) = ((u + n % 128 * 128 ^ k : Nat) : Int) := by
  have hd : ∀ x < 256, x &&& 127 = x % 128 := by decide +kernel
  have e1 : bits .and .u8 (n : Int) 127 = ((n % 128 : Nat) : Int) := by
    rw [show (127 : Int) = ((127 : Nat) : Int) by rfl, u8_and_nat _ _ hn (by omega), hd _ hn]
  have e2 : IntKind.u64.wrap ((n % 128 : Nat) : Int) = ((n % 128 : Nat) : Int) := by rw [wrap_u64]; omega
  have hs := sh_lt n k hk h9
  have e3 : ((n % 128 : Nat) : Int) * 2 ^ (7 * k) = ((n % 128 * 128 ^ k : Nat) : Int) := by
    rw [← pow7]; push_cast; rfl
  rw [e1, e2, e3]
  generalize hx : n % 128 * 128 ^ k = x at *
  have e4 : IntKind.u64.wrap (x : Int) = (x : Int) := by rw [wrap_u64]; omega
  rw [e4]
  have hu9 : u < 18446744073709551616 := by
    have : 128 ^ k ≤ 128 ^ 9 := Nat.pow_le_pow_right (by omega) hk
    omega
  rw [bits_or_u64_nat _ _ hu9 hs]
  have := Nat.shiftLeft_add_eq_or_of_lt (i := 7 * k) (b := u) (by rw [pow7]; exact hu) (n % 128)
  rw [Nat.shiftLeft_eq, pow7, hx] at this
  rw [Nat.or_comm, ← this, Nat.add_comm]

theorem bits_xor_comm (k : IntKind) (x y : Int) : bits .xor k x y = bits .xor k y x := by
  unfold bits; simp only [BitVec.xor_comm]

theorem unzig_slot (u : Nat) (h : u < 18446744073709551616) : bits .xor .i64 ((u : Int) / 2) (wrap64 (-wrap64 (bits .and .u64 (u : Int) 1))) = unzig u := by
  have e1 : bits .and .u64 (u : Int) 1 = ((u % 2 : Nat) : Int) := by
    rw [show (1 : Int) = ((1 : Nat) : Int) by rfl, bits_and_u64_nat _ _ h (by omega), Nat.and_one_is_mod]
  have e2 : ((u : Int) / 2) = ((u / 2 : Nat) : Int) := by omega
  have hm : u % 2 = 0 ∨ u % 2 = 1 := by omega
  rw [e1, e2]
  unfold unzig
  rcases hm with hm | hm
  · rw [hm, if_pos rfl]
    have : wrap64 (-wrap64 ((0 : Nat) : Int)) = 0 := by unfold wrap64; omega
    rw [this]
    unfold bits
    simp only [BitVec.ofInt_natCast]
    have hz : (BitVec.ofInt IntKind.i64.bits 0) = 0#_ := by rfl
    rw [hz, BitVec.xor_zero, BitVec.toNat_ofNat]
    have : u / 2 % 2 ^ IntKind.i64.bits = u / 2 := Nat.mod_eq_of_lt (by simp [IntKind.bits]; omega)
    rw [this]
    simp only [IntKind.wrap, IntKind.bits, IntKind.signed]
    simp
    omega
  · rw [hm, if_neg (by omega)]
    have : wrap64 (-wrap64 ((1 : Nat) : Int)) = -1 := by unfold wrap64; omega
    rw [this, bits_xor_comm, i64_not _ (by omega)]
    omega

/-- A number's first bytes: the number and how many they are. -/
def rawDec (k u : Nat) : List UInt8 → Option (Nat × Nat)
  | [] => none
  | b :: r => if (k = 9 ∧ 1 < b.toNat) ∨ (b.toNat = 0 ∧ 0 < k) then none else if b.toNat < 128 then some (u + b.toNat % 128 * 128 ^ k, k + 1) else rawDec (k + 1) (u + b.toNat % 128 * 128 ^ k) r

theorem rawDec_len : ∀ (l : List UInt8) (k u v n : Nat), rawDec k u l = some (v, n) → k < n ∧ n ≤ k + l.length := by
  intro l
  induction l with
  | nil => intro k u v n h; simp [rawDec] at h
  | cons b r ih =>
    intro k u v n h
    unfold rawDec at h
    split at h
    · simp at h
    · split at h
      · simp at h; simp; omega
      · have := ih _ _ _ _ h; simp; omega

theorem step_lt (u n k : Nat) (hu : u < 128 ^ k) : u + n % 128 * 128 ^ k < 128 ^ (k + 1) := by
  have : n % 128 + 1 ≤ 128 := by omega
  have := Nat.mul_le_mul_right (128 ^ k) this
  rw [Nat.pow_succ, Nat.mul_comm (128 ^ k)]
  rw [Nat.add_mul] at this
  omega

theorem rawDec_lt : ∀ (l : List UInt8) (k u v n : Nat), k ≤ 9 → u < 128 ^ k → rawDec k u l = some (v, n) → v < 18446744073709551616 ∧ n ≤ 10 := by
  intro l
  induction l with
  | nil => intro k u v n _ _ h; simp [rawDec] at h
  | cons b r ih =>
    intro k u v n hk hu h
    unfold rawDec at h
    split at h
    · simp at h
    · rename_i hc
      split at h
      · rename_i hb
        simp at h
        obtain ⟨rfl, rfl⟩ := h
        refine ⟨?_, by omega⟩
        have hs := step_lt u b.toNat k hu
        by_cases h9 : k = 9
        · subst h9
          have : b.toNat ≤ 1 := by omega
          have : b.toNat % 128 ≤ 1 := by omega
          omega
        · have : 128 ^ (k + 1) ≤ 128 ^ 9 := Nat.pow_le_pow_right (by omega) (by omega)
          omega
      · have hk8 : k < 9 := by omega
        exact ih (k + 1) _ v n (by omega) (step_lt u b.toNat k hu) h

end Go.Proofs.YtnlhmlgoipnekaaDoor
