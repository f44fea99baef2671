/- package reply: the reader's lists: plain facts, and the call's own rows. -/
import Derived.Test.YtnlhmlgoipnekaaDoorRr0
import Derived.Test.YtnlhmlgoipnekaaDoorBld
namespace Go.Proofs.YtnlhmlgoipnekaaDoor
open Go.RowKit

theorem rdInts_len (S : ByteArray) : ∀ (w : Nat) (s : RS), (rdInts S w s).1.length = w := by
  intro w
  induction w with
  | zero => intro s; rfl
  | succ w ih => intro s; show (_ :: _).length = _; rw [List.length_cons, ih]

theorem rdInts_i64 (S : ByteArray) : ∀ (w : Nat) (s : RS), ∀ x ∈ (rdInts S w s).1, I64 x := by
  intro w
  induction w with
  | zero => intro s x hx; simp [rdInts] at hx
  | succ w ih =>
    intro s x hx
    simp only [rdInts, List.mem_cons] at hx
    rcases hx with rfl | hx
    · exact rdInt_range S s
    · exact ih _ x hx

theorem rdE_i64 (S : ByteArray) (w : Nat) (s : RS) (k : Nat) : ∀ x ∈ (rdE S w s k).1, I64 x := by
  induction k with
  | zero => intro x hx; simp [rdE] at hx
  | succ k ih =>
    intro x hx
    unfold rdE at hx
    split at hx
    · simp only [List.mem_append] at hx
      rcases hx with hx | hx
      · exact ih x hx
      · exact rdInts_i64 S w _ x hx
    · exact ih x hx

theorem rdList_exit (S : ByteArray) (w : Nat) (st : RS) (bad : Bool) (k : Nat) (hk : k ≤ (cntOf S st).toNat) (h0 : 0 < k → (bad || badCount S (rdInt S st).1 (rdInt S st).2) = false)
    (hs : ¬ (k : Int) < cntOf S st ∨ (bad || badCount S (rdInt S st).1 (rdInt S st).2) = true ∨ (rdE S w (rdInt S st).2 k).2.bad ≠ none) :
    rdList S w st bad = ((rdE S w (rdInt S st).2 k).1, (rdE S w (rdInt S st).2 k).2, (bad || badCount S (rdInt S st).1 (rdInt S st).2)) := by
  unfold rdList
  cases hB : (bad || badCount S (rdInt S st).1 (rdInt S st).2) with
  | true =>
    have : k = 0 := by
      rcases Nat.eq_zero_or_pos k with h | h
      · exact h
      · have := h0 h; rw [hB] at this; cases this
    subst this
    rfl
  | false =>
    simp only [Bool.false_eq_true, if_false]
    have hc : cntOf S st = (rdInt S st).1 := by
      unfold cntOf
      rw [if_neg]
      intro h; rw [h] at hB; simp at hB
    rw [hc] at hk hs
    have e : rdE S w (rdInt S st).2 (rdInt S st).1.toNat = rdE S w (rdInt S st).2 k := by
      rcases hs with h | h | h
      · have : (rdInt S st).1.toNat = k := by omega
        rw [this]
      · rw [hB] at h; cases h
      · have := rdE_stop S w _ k h ((rdInt S st).1.toNat - k)
        rw [← this]; congr 1; omega
    rw [e]

theorem cnt_le (S : ByteArray) (st : RS) : cntOf S st ≤ S.size := by
  unfold cntOf
  split
  · omega
  · rename_i h
    unfold badCount at h
    simp at h
    omega

/-- What an append onto a row of the call's own leaves. -/
theorem own_keeps {B : Nat} {w w' : World} {v : Value} {E : TypeId} {k n : Nat} {xs : List Value} (ho : w.ownsRow B E k v n xs) (hg : w.grownBy w' v.ownBlock) :
    ∃ X, Keeps X w w' ∧ (∀ x ∈ X, B ≤ x) ∧ ∀ fb T cs, T ≠ E → Blk w fb T cs → fb ∉ X := by
  cases hv : v.ownBlock with
  | none =>
    rw [hv] at hg
    exact ⟨[], (Keeps.refl [] w).grown hg (by simp), by simp, by simp⟩
  | some g =>
    rw [hv] at hg
    have hlt := ho.lt g hv
    refine ⟨[g], (Keeps.refl [g] w).grown hg (by simp), by simp; omega, ?_⟩
    intro fb T cs hT hb hx
    simp at hx
    subst hx
    rcases ho.2 with ⟨rfl, _⟩ | ⟨g', cap, cur, rfl, _, hg', _⟩
    · simp [Value.ownBlock] at hv
    · simp only [Value.ownBlock, Option.some.injEq] at hv
      subst hv
      unfold Blk at hb
      rw [hb] at hg'
      simp only [Option.some.injEq, Obj.cells.injEq] at hg'
      exact hT hg'.2.1

theorem own_keep {B : Nat} {w w' : World} {v : Value} {E : TypeId} {k n : Nat} {xs : List Value} {X : List Nat} (ho : w.ownsRow B E k v n xs) (hk : Keeps X w w') (hX : ∀ x ∈ X, x < B) : w'.ownsRow B E k v n xs := by
  refine ⟨ho.1, ?_⟩
  rcases ho.2 with h0 | ⟨g, cap, cur, rfl, h1, h2, r⟩
  · exact .inl h0
  · refine .inr ⟨g, cap, cur, rfl, h1, ?_, r⟩
    rw [hk.block g (Array.getElem?_eq_some_iff.1 h2).1 (fun hx => by have := hX g hx; omega)]
    exact h2

def intsV (xs : List Int) : List Value := xs.map (Value.int .i64)

theorem row_of_own {B : Nat} {w : World} {v : Value} {E : TypeId} {k n : Nat} {xs : List Int} (ho : w.ownsRow B E k v n (intsV xs)) (hi : ∀ x ∈ xs, I64 x) (hk : 0 < k) : IntRow w v k xs := by
  refine ⟨hi, ?_⟩
  have hl : xs.length = n * k := by have := ho.1; simpa [intsV] using this
  rcases ho.2 with ⟨rfl, rfl⟩ | ⟨g, cap, cur, rfl, h1, h2, hc, hm, hs, ht⟩
  · left; exact ⟨rfl, by simpa using hl⟩
  · right
    refine ⟨⟨g, 0, none⟩, n, cap, rfl, hl, hc, fun _ => rfl, fun j hj => ?_⟩
    have := ho.cells (g := g) rfl j (.int .i64 (xs.getD j 0)) (by
      unfold intsV
      rw [List.getElem?_map, List.getElem?_eq_getElem hj, List.getD_eq_getElem?_getD, List.getElem?_eq_getElem hj]; rfl)
    have e : (⟨g, 0, none⟩ : Addr).add j = ⟨g, 0 + j, none⟩ := by cases j <;> simp [Addr.add]
    rw [e] at this
    exact this

/-- What a list's reading leaves: the row; how the reader stands. -/
def ListPost (rb ib : Nat) (S : ByteArray) (wd : Nat) (st : RS) (bad : Bool) (ev : Addr) (w : World) (e : Ending) (w' : World) : Prop :=
  ∃ v, e = .returned v ∧ IntRow w' v wd (rdList S wd st bad).1 ∧ (∀ b, v.ownBlock = some b → w.heap.size ≤ b ∧ b < w'.heap.size) ∧ RdAt rb ib S (rdList S wd st bad).2.1 (rdList S wd st bad).2.2 ev w' ∧ Keeps [rb, ib] w w'

/-- The relation of a list's loop. -/
structure ListRel (rb ib : Nat) (S : ByteArray) (wd : Nat) (E : TypeId) (s1 : RS) (B : Bool) (ev : Addr) (w : World) (k : Nat) (v : Value) (w' : World) : Prop where
  own : w'.ownsRow w.heap.size E wd v k (intsV (rdE S wd s1 k).1)
  rd : RdAt rb ib S (rdE S wd s1 k).2 B ev w'
  keep : Keeps [rb, ib] w w'
  go : 0 < k → B = false

theorem ListRel.done {rb ib : Nat} {S : ByteArray} {wd : Nat} {E : TypeId} {st : RS} {bad : Bool} {ev : Addr} {w w' : World} {k : Nat} {v : Value} (h : ListRel rb ib S wd E (rdInt S st).2 (bad || badCount S (rdInt S st).1 (rdInt S st).2) ev w k v w') (hwd : 0 < wd) (hk : k ≤ (cntOf S st).toNat)
    (hs : ¬ (k : Int) < cntOf S st ∨ (bad || badCount S (rdInt S st).1 (rdInt S st).2) = true ∨ (rdE S wd (rdInt S st).2 k).2.bad ≠ none) : ListPost rb ib S wd st bad ev w (.returned v) w' := by
  have e := rdList_exit S wd st bad k hk h.go hs
  refine ⟨v, rfl, ?_, fun b hb => h.own.lt b hb, ?_, h.keep⟩
  · rw [e]; exact row_of_own h.own (rdE_i64 S wd _ k) hwd
  · rw [e]; exact h.rd

/-- One element more. -/
theorem ListRel.next {rb ib : Nat} {S : ByteArray} {wd : Nat} {E : TypeId} {s1 : RS} {B : Bool} {ev : Addr} {w w1 w2 w3 : World} {k : Nat} {v v' : Value} (_ : ListRel rb ib S wd E s1 B ev w k v w1) (hB : B = false) (hg : (rdE S wd s1 k).2.bad = none) (hE : E ≠ 145 ∧ E ≠ 184 ∧ E ≠ 53) (hE2 : 1 < w.heap.size)
    (hr : RdAt rb ib S (rdInts S wd (rdE S wd s1 k).2).2 B ev w2) (hk : Keeps [rb, ib] w w2) (ho : w2.ownsRow w.heap.size E wd v k (intsV (rdE S wd s1 k).1)) (ho' : w3.ownsRow w.heap.size E wd v' (k + 1) (intsV (rdE S wd s1 k).1 ++ intsV (rdInts S wd (rdE S wd s1 k).2).1)) (hgr : w2.grownBy w3 v.ownBlock) :
    ListRel rb ib S wd E s1 B ev w (k + 1) v' w3 := by
  obtain ⟨X, hX, hX1, hX2⟩ := own_keeps ho hgr
  obtain ⟨_, x, hi, _⟩ := hr.inn
  refine ⟨?_, ?_, hk.trans' hX (fun y hy hl => by have := hX1 y hy; omega), fun _ => hB⟩
  · rw [rdE_succ S wd s1 k hg]
    simpa [intsV] using ho'
  · rw [rdE_succ S wd s1 k hg]
    exact hr.keep hX (hX2 _ _ _ hE.1.symm hr.blk) (hX2 _ _ _ hE.2.1.symm hi) (fun hx => by have := hX1 _ hx; omega) (fun fb cs hfb => hX2 _ _ _ hE.2.2.symm hfb)

end Go.Proofs.YtnlhmlgoipnekaaDoor
