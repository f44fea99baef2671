/- What was written is read: the plain law. No walk here. -/
import Derived.Test.YtnlhmlgoipnekaaDoorRd
namespace Go.Proofs.YtnlhmlgoipnekaaDoor
open Go.RowKit

theorem dig_small (u : Nat) (h : u < 256) : (u.toUInt8).toNat = u := by
  show u % 256 = u
  omega

theorem rawDec_enc (r : List UInt8) : ∀ (u k v : Nat), k ≤ 9 → u * 128 ^ k < 18446744073709551616 → (k ≠ 0 → u ≠ 0) → rawDec k v (enc u ++ r) = some (v + u * 128 ^ k, k + (enc u).length) := by
  intro u
  induction u using Nat.strongRecOn with
  | _ u ih =>
    intro k v hk hu h0
    have h9 : k = 9 → u ≤ 1 := by rintro rfl; omega
    by_cases hs : u < 128
    · rw [enc_small u hs]
      simp only [List.cons_append, List.nil_append, rawDec, dig_small u (by omega)]
      rw [if_neg (by omega), if_pos hs, Nat.mod_eq_of_lt hs]
      rfl
    · rw [enc_great u hs]
      have hk9 : k ≠ 9 := fun h => by have := h9 h; omega
      simp only [List.cons_append, rawDec, dig_small (u % 128 + 128) (by omega)]
      rw [if_neg (by omega), if_neg (by omega)]
      have hp : u / 128 * 128 ^ (k + 1) ≤ u * 128 ^ k := by
        rw [Nat.pow_succ, ← Nat.mul_assoc, Nat.mul_right_comm]
        exact Nat.mul_le_mul_right _ (Nat.div_mul_le_self u 128)
      rw [ih (u / 128) (by omega) (k + 1) _ (by omega) (by omega) (by omega)]
      have e : (u % 128 + 128) % 128 * 128 ^ k + u / 128 * 128 ^ (k + 1) = u * 128 ^ k := by
        have h1 : (u % 128 + 128) % 128 = u % 128 := by omega
        rw [h1, Nat.pow_succ, ← Nat.mul_assoc, Nat.mul_right_comm, ← Nat.add_mul]
        congr 1
        omega
      simp only [List.length_cons, Option.some.injEq, Prod.mk.injEq]
      omega

theorem rawDec_back : ∀ (l : List UInt8) (k v w n : Nat), rawDec k v l = some (w, n) → ∃ u r, w = v + u * 128 ^ k ∧ n = k + (enc u).length ∧ l = enc u ++ r ∧ (k ≠ 0 → u ≠ 0) := by
  intro l
  induction l with
  | nil => intro k v w n h; simp [rawDec] at h
  | cons b r ih =>
    intro k v w n h
    unfold rawDec at h
    split at h
    · simp at h
    · rename_i hc
      split at h
      · rename_i hb
        simp only [Option.some.injEq, Prod.mk.injEq] at h
        refine ⟨b.toNat, r, ?_, ?_, ?_, by omega⟩
        · rw [← h.1, Nat.mod_eq_of_lt hb]
        · rw [enc_small _ hb, ← h.2]; rfl
        · rw [enc_small _ hb]
          have : b.toNat.toUInt8 = b := by simp
          rw [this]; rfl
      · rename_i hb
        obtain ⟨u, r', h1, h2, h3, h4⟩ := ih _ _ _ _ h
        have hu0 := h4 (by omega)
        have hb2 := b.toNat_lt
        have hm : b.toNat % 128 = b.toNat - 128 := by omega
        have hd : (b.toNat - 128 + u * 128) / 128 = u := by omega
        have hmm : (b.toNat - 128 + u * 128) % 128 = b.toNat - 128 := by omega
        have he : enc (b.toNat - 128 + u * 128) = b :: enc u := by
          rw [enc_great _ (by omega), hd, hmm]
          have : b.toNat - 128 + 128 = b.toNat := by omega
          rw [this]
          have : b.toNat.toUInt8 = b := by simp
          rw [this]
        refine ⟨b.toNat - 128 + u * 128, r', ?_, ?_, ?_, by omega⟩
        · rw [h1, hm, Nat.add_assoc, Nat.pow_succ]
          congr 1
          rw [Nat.add_mul, Nat.mul_assoc, Nat.mul_comm 128]
        · rw [h2, he]; simp; omega
        · rw [he, h3]; rfl

theorem rdInt_enc (S : ByteArray) (p : Nat) (n : Int) (r : List UInt8) (hn : I64 n) (h : S.data.toList.drop p = enc (zig n) ++ r) : rdInt S ⟨p, none⟩ = (n, ⟨p + (enc (zig n)).length, none⟩) := by
  unfold rdInt
  simp only [h]
  rw [rawDec_enc r (zig n) 0 0 (by omega) (by have := zig_lt n hn.1 hn.2; omega) (by omega)]
  simp [unzig_zig]

theorem drop_more {l : List UInt8} {p : Nat} {a b : List UInt8} (h : l.drop p = a ++ b) : l.drop (p + a.length) = b := by
  rw [← List.drop_drop, h]; simp

/-- What a field of c does to d. -/
def cpF (c d : Cmd) : Fld → Cmd
  | .num o => d.put o (c.get o)
  | .vec => d.putV (c.v0, c.v1, c.v2, c.v3)
  | .flag => d.putF c.flag

def Fld.okB : Fld → Bool
  | .num o => decide (1 ≤ o) && decide (o ≤ 9)
  | _ => true
def Fld.ok (f : Fld) : Prop := f.okB = true
theorem Fld.ok_num {o : Nat} (h : (Fld.num o).ok) : 1 ≤ o ∧ o ≤ 9 := by simpa [Fld.ok, Fld.okB] using h

theorem rdF_wrF (S : ByteArray) (c d : Cmd) (hc : c.Ok) (f : Fld) (hf : f.ok) (p : Nat) (r : List UInt8) (h : S.data.toList.drop p = wrF c f ++ r) : rdF S (d, ⟨p, none⟩) f = (cpF c d f, ⟨p + (wrF c f).length, none⟩) := by
  cases f with
  | num o => unfold rdF; simp only [rdInt_enc S p _ r (hc.2.1 o (Fld.ok_num hf).1 (Fld.ok_num hf).2) h]; rfl
  | vec =>
    obtain ⟨_, _, n0, n1, n2, n3⟩ := hc
    unfold wrF at h
    simp only [List.append_assoc] at h
    have e0 := rdInt_enc S p _ _ n0 h
    have h1 := drop_more h
    have e1 := rdInt_enc S _ _ _ n1 h1
    have h2 := drop_more h1
    have e2 := rdInt_enc S _ _ _ n2 h2
    have h3 := drop_more h2
    have e3 := rdInt_enc S _ _ _ n3 h3
    unfold rdF rdVec rd4
    simp only [e0, e1, e2, e3]
    unfold wrF cpF
    simp only [List.length_append, Nat.add_assoc]
  | flag =>
    unfold wrF at h
    have e := rdInt_enc S p _ r (by split <;> (unfold I64; omega)) h
    unfold rdF rdBool
    simp only [e]
    unfold wrF cpF
    cases hfl : c.flag <;> simp

theorem rd_wr (S : ByteArray) (c : Cmd) (hc : c.Ok) : ∀ (l : List Fld) (d : Cmd) (p : Nat) (r : List UInt8), (∀ f ∈ l, f.ok) → S.data.toList.drop p = l.flatMap (wrF c) ++ r → l.foldl (rdF S) (d, ⟨p, none⟩) = (l.foldl (cpF c) d, ⟨p + (l.flatMap (wrF c)).length, none⟩) := by
  intro l
  induction l with
  | nil => intro d p r _ _; simp
  | cons f l ih =>
    intro d p r hl h
    simp only [List.flatMap_cons, List.append_assoc] at h
    have e := rdF_wrF S c d hc f (hl f (by simp)) p _ h
    simp only [List.foldl_cons, e]
    rw [ih _ _ r (fun g hg => hl g (by simp [hg])) (drop_more h)]
    simp [Nat.add_assoc]

theorem tailF_all (k : Int) : (tailF k).all Fld.okB = true := by
  unfold tailF
  repeat' split
  all_goals rfl

theorem overF_all (k : Int) : (overF k).all Fld.okB = true := by
  have h := tailF_all k
  unfold overF
  repeat' split
  · exact h
  · simp [Fld.okB, h]
  · simp [Fld.okB, h]

theorem overF_ok (k : Int) : ∀ f ∈ overF k, f.ok := List.all_eq_true.1 (overF_all k)

/-- A command with what its kind has. -/
def Cmd.proj (c : Cmd) : Cmd := (overF c.kind).foldl (cpF c) (Cmd.zero c.kind)

theorem readC_bytes (c : Cmd) (hc : c.Ok) (h1 : 1 ≤ c.kind) (h2 : c.kind ≤ 21) : readC ⟨c.bytes.toArray⟩ = (c.proj, none) := by
  have h : (⟨c.bytes.toArray⟩ : ByteArray).data.toList.drop 0 = enc (zig c.kind) ++ ((overF c.kind).flatMap (wrF c) ++ []) := by
    simp [Cmd.bytes]
  have e := rdInt_enc _ 0 c.kind _ hc.1 h
  have h' := drop_more h
  have e2 := rd_wr _ c hc (overF c.kind) (Cmd.zero c.kind) _ [] (overF_ok _) h'
  unfold readC readK
  rw [e]
  simp only []
  rw [if_pos ⟨trivial, h1, h2⟩, e2]
  unfold endP
  simp only []
  rw [if_neg (by simp [Cmd.bytes, ByteArray.size])]
  rfl

end Go.Proofs.YtnlhmlgoipnekaaDoor
