/- The reference's numbers as bytes: the plain law. No program in sight. -/
import Derived.Test.YtnlhmlgoipnekaaDoorZig
namespace Go.Proofs.YtnlhmlgoipnekaaDoor
open Go.RowKit

theorem dig_small' (u : Nat) (h : u < 256) : (u.toUInt8).toNat = u := by
  show u % 256 = u
  omega

/-- A number's first bytes, as the reference reads them. -/
def refDec (all : List UInt8) (k u : Nat) : List UInt8 → Option (Nat × Nat)
  | [] => none
  | b :: r => if k = 9 ∧ 1 < b.toNat then none else if 128 ≤ b.toNat then refDec all (k + 1) (u + b.toNat % 128 * 128 ^ k) r
    else if enc (u + b.toNat % 128 * 128 ^ k) = all.take (k + 1) then some (u + b.toNat % 128 * 128 ^ k, k + 1) else none

theorem enc_zero_last : ∀ (v : Nat) (l : List UInt8), enc v = l ++ [0] → l = [] ∧ v = 0 := by
  intro v
  induction v using Nat.strongRecOn with
  | _ v ih =>
    intro l h
    by_cases hs : v < 128
    · rw [enc_small v hs] at h
      cases l with
      | nil =>
        refine ⟨rfl, ?_⟩
        simp only [List.nil_append, List.cons.injEq, and_true] at h
        have := congrArg UInt8.toNat h
        rw [dig_small' v (by omega)] at this
        exact this
      | cons x l => simp at h
    · rw [enc_great v hs] at h
      cases l with
      | nil =>
        simp only [List.nil_append, List.cons.injEq] at h
        exact absurd h.2 (enc_pos _)
      | cons x l =>
        simp only [List.cons_append, List.cons.injEq] at h
        have := (ih (v / 128) (by omega) l h.2).2
        omega

theorem refDec_eq : ∀ (l pre all : List UInt8) (k u : Nat), all = pre ++ l → pre.length = k → (∀ x, (x ≠ 0 ∨ k = 0) → enc (u + x * 128 ^ k) = pre ++ enc x) → refDec all k u l = rawDec k u l := by
  intro l
  induction l with
  | nil => intro pre all k u _ _ _; rfl
  | cons b r ih =>
    intro pre all k u ha hk hP
    have hbt : b = b.toNat.toUInt8 := by simp
    have hb8 := b.toNat_lt
    unfold refDec rawDec
    by_cases h9 : k = 9 ∧ 1 < b.toNat
    · rw [if_pos h9, if_pos (.inl h9)]
    · rw [if_neg h9]
      by_cases h128 : 128 ≤ b.toNat
      · rw [if_pos h128, if_neg (by omega), if_neg (by omega)]
        refine ih (pre ++ [b]) all (k + 1) _ (by rw [ha]; simp) (by simp [hk]) ?_
        intro x hx
        have hx0 : x ≠ 0 := by omega
        have e : u + b.toNat % 128 * 128 ^ k + x * 128 ^ (k + 1) = u + (b.toNat % 128 + 128 * x) * 128 ^ k := by
          rw [Nat.pow_succ, Nat.add_mul, Nat.add_assoc]
          congr 2
          rw [Nat.mul_comm (128 ^ k) 128, ← Nat.mul_assoc, Nat.mul_comm x 128]
        rw [e, hP _ (.inl (by omega)), enc_great _ (by omega)]
        have e1 : (b.toNat % 128 + 128 * x) % 128 + 128 = b.toNat := by omega
        have e2 : (b.toNat % 128 + 128 * x) / 128 = x := by omega
        rw [e1, e2, ← hbt]; simp
      · rw [if_neg h128]
        have hm : b.toNat % 128 = b.toNat := Nat.mod_eq_of_lt (by omega)
        have ht : all.take (k + 1) = pre ++ [b] := by
          rw [ha, ← hk]; simp [List.take_append]; exact List.take_of_length_le (by omega)
        rw [ht]
        by_cases h0 : b.toNat = 0 ∧ 0 < k
        · rw [if_neg ?_, if_pos (.inr h0)]
          have hb0 : b = 0 := by rw [hbt, h0.1]; rfl
          rw [hb0]
          intro h
          have := (enc_zero_last _ _ h).1
          rw [this] at hk
          simp at hk
          omega
        · rw [if_neg (show ¬ ((k = 9 ∧ 1 < b.toNat) ∨ (b.toNat = 0 ∧ 0 < k)) by omega), if_pos (show b.toNat < 128 by omega), if_pos ?_]
          rw [hm, hP _ (by omega), enc_small _ (by omega), ← hbt]

theorem refDec_raw (l : List UInt8) : refDec l 0 0 l = rawDec 0 0 l :=
  refDec_eq l [] l 0 0 rfl rfl (fun x _ => by simp)

end Go.Proofs.YtnlhmlgoipnekaaDoor
