/- package reply: the reader's count, more, task, walked; what they compute. -/
import Derived.Test.YtnlhmlgoipnekaaDoorIn3
import Derived.Test.YtnlhmlgoipnekaaDoorIr
import Derived.Test.YtnlhmlgoipnekaaDoorQTail
import Derived.Deep.RegionWith
namespace Go.Proofs.YtnlhmlgoipnekaaDoor
open Go.RowKit

/-- Block rb is the reader of answers: its In is block ib. -/
structure RdAt (rb ib : Nat) (S : ByteArray) (st : RS) (bad : Bool) (ev : Addr) (w : World) : Prop where
  blk : Blk w rb 145 #[.pointer (some ⟨ib, 0, none⟩), .bool bad]
  inn : InAt ib S st ev w
  form : w.cell? ⟨1, 0, none⟩ = some (errv ev)
  low : 1 < ib ∧ 1 < rb

theorem RdAt.ne {rb ib : Nat} {S : ByteArray} {st : RS} {bad : Bool} {ev : Addr} {w : World} (h : RdAt rb ib S st bad ev w) : rb ≠ ib := by
  obtain ⟨_, x, hb, _⟩ := h.inn
  exact h.blk.ne hb (by decide)

theorem RdAt.keep {rb ib : Nat} {S : ByteArray} {st : RS} {bad : Bool} {ev : Addr} {w w' : World} {X : List Nat} (h : RdAt rb ib S st bad ev w) (k : Keeps X w w') (h1 : rb ∉ X) (h2 : ib ∉ X) (h3 : 1 ∉ X) (hf : ∀ fb cs, Blk w fb 53 cs → fb ∉ X) : RdAt rb ib S st bad ev w' :=
  ⟨h.blk.keep k h1, h.inn.keep k h2 hf, k.cellAt h.form h3, h.low⟩

theorem RdAt.keep0 {rb ib : Nat} {S : ByteArray} {st : RS} {bad : Bool} {ev : Addr} {w w' : World} (h : RdAt rb ib S st bad ev w) (k : Keeps [] w w') : RdAt rb ib S st bad ev w' := h.keep k (by simp) (by simp) (by simp) (by simp)

/-- Behind a call of the In's. -/
theorem RdAt.step {rb ib : Nat} {S : ByteArray} {st st' : RS} {bad : Bool} {ev : Addr} {w w' : World} (h : RdAt rb ib S st bad ev w) (hi : InAt ib S st' ev w') (k : Keeps [ib] w w') : RdAt rb ib S st' bad ev w' :=
  ⟨h.blk.keep k (nmem1 h.ne), hi, k.cellAt h.form (nmem1 (by have := h.low; omega)), h.low⟩

/-- So many numbers. -/
def rdInts (S : ByteArray) : Nat → RS → List Int × RS
  | 0, s => ([], s)
  | w + 1, s => ((rdInt S s).1 :: (rdInts S w (rdInt S s).2).1, (rdInts S w (rdInt S s).2).2)

/-- So many elements of w numbers each; none behind what is wrong. -/
def rdE (S : ByteArray) (w : Nat) (s : RS) : Nat → List Int × RS
  | 0 => ([], s)
  | k + 1 => if (rdE S w s k).2.bad = none then ((rdE S w s k).1 ++ (rdInts S w (rdE S w s k).2).1, (rdInts S w (rdE S w s k).2).2) else rdE S w s k

theorem rdE_stop (S : ByteArray) (w : Nat) (s : RS) (k : Nat) (h : (rdE S w s k).2.bad ≠ none) : ∀ m, rdE S w s (k + m) = rdE S w s k := by
  intro m
  induction m with
  | zero => rfl
  | succ m ih =>
    rw [show k + (m + 1) = (k + m) + 1 by omega]
    show (if (rdE S w s (k + m)).2.bad = none then _ else rdE S w s (k + m)) = _
    rw [ih, if_neg h]

theorem rdE_succ (S : ByteArray) (w : Nat) (s : RS) (k : Nat) (h : (rdE S w s k).2.bad = none) : rdE S w s (k + 1) = ((rdE S w s k).1 ++ (rdInts S w (rdE S w s k).2).1, (rdInts S w (rdE S w s k).2).2) := by
  show (if (rdE S w s k).2.bad = none then _ else rdE S w s k) = _
  rw [if_pos h]

/-- A count, and whether it can't be. -/
def badCount (S : ByteArray) (k : Int) (s : RS) : Bool := decide (k < 0) || decide (k > ((S.size - s.pos : Nat) : Int))

/-- A list: its numbers; how the reader stands; whether a count couldn't be. -/
def rdList (S : ByteArray) (w : Nat) (s : RS) (bad : Bool) : List Int × RS × Bool :=
  if bad || badCount S (rdInt S s).1 (rdInt S s).2 then ([], (rdInt S s).2, true)
  else ((rdE S w (rdInt S s).2 (rdInt S s).1.toNat).1, (rdE S w (rdInt S s).2 (rdInt S s).1.toNat).2, false)

/-- What count hands back. -/
def cntOf (S : ByteArray) (s : RS) : Int := if badCount S (rdInt S s).1 (rdInt S s).2 then 0 else (rdInt S s).1

set_option maxRecDepth 100000 in
set_option maxHeartbeats 1000000 in
theorem count_any (rb ib : Nat) (S : ByteArray) (st : RS) (bad : Bool) (ev : Addr) (w : World) (h : RdAt rb ib S st bad ev w) (hS : Room S.size) :
    Calls Tryd.prog 104 #[.pointer (some ⟨rb, 0, none⟩)] w fun e w' => e = .returned (.int .i64 (cntOf S st)) ∧ RdAt rb ib S (rdInt S st).2 (bad || badCount S (rdInt S st).1 (rdInt S st).2) ev w' ∧ Keeps [rb, ib] w w' := by
  have H := Lib.hid h
  have c := h.blk.cell
  have hne := h.ne
  have hlow := h.low
  clear h
  obtain ⟨R, hR⟩ : ∃ R, R = rdInt S st := ⟨_, rfl⟩
  have hcnt : cntOf S st = if badCount S R.1 R.2 then 0 else R.1 := by rw [hR]; rfl
  rw [hcnt, ← hR]
  have HR := Lib.hid hR
  obtain ⟨r, hr⟩ : ∃ r, r = if badCount S R.1 R.2 then 0 else R.1 := ⟨_, rfl⟩
  obtain ⟨B, hB⟩ : ∃ B, B = (bad || badCount S R.1 R.2) := ⟨_, rfl⟩
  rw [← hr, ← hB]
  have Hr := Lib.hid hr
  have HB := Lib.hid hB
  clear hcnt hR hr hB
  go_enter Tryd.func104, Tryd.ntmps104
  go_wp2_with fail
  refine (int_any ib S st ev w H.out.inn hS H.out.form hlow.1).mono ?_
  rintro e w1 ⟨rfl, hI, hk⟩
  rw [← HR.out] at hI ⊢
  have H1 := Lib.hid (H.out.step hI hk)
  have HK1 := Lib.hid hk
  have HI := Lib.hid hI
  clear hI hk c
  have c1 := H1.out.blk.cell
  have f1 := H1.out.blk.frz
  obtain ⟨n, s1⟩ := R
  obtain ⟨m, hm⟩ : ∃ m, m = S.size - s1.pos := ⟨_, rfl⟩
  have HM := Lib.hid hm
  clear hm
  by_cases hn : n < 0
  · have hb : badCount S n s1 = true := by unfold badCount; simp [hn]
    have HF : Hid (r = 0 ∧ B = true) := by apply Lib.hid; rw [Hr.out, HB.out]; simp [hb]
    have hst := H1.out.blk.set 1 (.bool true)
    have hN : RdAt rb ib S s1 true ev (w1.setCell ⟨rb, 1, none⟩ (.bool true)) := by
      have hk := (Keeps.refl [rb] w1).setCell (p := ⟨rb, 1, none⟩) (by simp) (.bool true)
      exact ⟨hst, HI.out.keep hk (nmem1 (Ne.symm hne)) (fun fb cs hfb => nmem1 (hfb.ne H1.out.blk (by decide))), hk.cellAt H1.out.form (nmem1 (by omega)), hlow⟩
    have HN := Lib.hid hN
    clear hb hst hN
    go_wp2_with fail
    go_ret
    rw [HF.out.1, HF.out.2]
    exact ⟨rfl, HN.out, (HK1.out.mono (by simp)).setCell (p := ⟨rb, 1, none⟩) (by simp) _⟩
  · by_cases hgt : n > (m : Int)
    · have hb : badCount S n s1 = true := by unfold badCount; rw [← HM.out]; simp [hgt]
      have HF : Hid (r = 0 ∧ B = true) := by apply Lib.hid; rw [Hr.out, HB.out]; simp [hb]
      clear hb
      go_wp2_with fail
      refine (left_any ib S s1 ev w1 HI.out hS).mono ?_
      rintro e w2 ⟨rfl, rfl⟩
      rw [← HM.out]
      have hst := (H1.out.blk.drew).set 1 (.bool true)
      have hN : RdAt rb ib S s1 true ev (w1.drew.setCell ⟨rb, 1, none⟩ (.bool true)) := by
        have hk := ((Keeps.refl [rb] w1).drew).setCell (p := ⟨rb, 1, none⟩) (by simp) (.bool true)
        exact ⟨hst, HI.out.keep hk (nmem1 (Ne.symm hne)) (fun fb cs hfb => nmem1 (hfb.ne H1.out.blk (by decide))), hk.cellAt H1.out.form (nmem1 (by omega)), hlow⟩
      have HN := Lib.hid hN
      clear hst hN
      go_wp2_with fail
      go_ret
      rw [HF.out.1, HF.out.2]
      exact ⟨rfl, HN.out, ((HK1.out.mono (by simp)).drew).setCell (p := ⟨rb, 1, none⟩) (by simp) _⟩
    · have hb : badCount S n s1 = false := by unfold badCount; rw [← HM.out]; simp; omega
      have HF : Hid (r = n ∧ B = bad) := by apply Lib.hid; rw [Hr.out, HB.out]; simp [hb]
      clear hb
      go_wp2_with fail
      refine (left_any ib S s1 ev w1 HI.out hS).mono ?_
      rintro e w2 ⟨rfl, rfl⟩
      rw [← HM.out]
      have HN : Hid (RdAt rb ib S s1 bad ev w1.drew) := Lib.hid (H1.out.keep0 (Keeps.refl _ _).drew)
      go_wp2_with fail
      go_ret
      rw [HF.out.1, HF.out.2]
      exact ⟨rfl, HN.out, (HK1.out.mono (by simp)).drew⟩

set_option maxRecDepth 100000 in
set_option maxHeartbeats 1000000 in
theorem more_any (rb ib : Nat) (S : ByteArray) (st : RS) (bad : Bool) (ev : Addr) (i n : Int) (w : World) (h : RdAt rb ib S st bad ev w) :
    Calls Tryd.prog 105 #[.pointer (some ⟨rb, 0, none⟩), .int .i64 i, .int .i64 n] w fun e w' => e = .returned (.bool (decide (i < n) && !bad && decide (st.bad = none))) ∧ w = w' := by
  have c := h.blk.cell
  by_cases hi : i < n
  · cases bad with
    | true =>
      go_enter Tryd.func105, Tryd.ntmps105
      go_wp2_with fail
      go_ret
      exact ⟨by simp, rfl⟩
    | false =>
      go_enter Tryd.func105, Tryd.ntmps105
      go_wp2_with fail
      refine (err_any ib S st ev w h.inn).mono ?_
      rintro e w1 ⟨⟨x, rfl, hx⟩, rfl⟩
      rcases hx with ⟨hbad, rfl⟩ | ⟨p, fb, hbad, rfl, hfb⟩
      · have HB := Lib.hid hbad
        clear hbad
        go_wp2_with fail
        go_ret
        exact ⟨by rw [HB.out]; simp [hi], rfl⟩
      · have HB := Lib.hid hbad
        clear hbad hfb
        unfold faultV
        go_wp2_with fail
        go_ret
        exact ⟨by rw [HB.out]; simp, rfl⟩
  · have hd : decide (i < n) = false := decide_eq_false hi
    go_enter Tryd.func105, Tryd.ntmps105
    go_wp2_with fail
    go_ret
    exact ⟨by simp, rfl⟩

set_option maxRecDepth 100000 in
set_option maxHeartbeats 1000000 in
theorem task_any (rb ib : Nat) (S : ByteArray) (st : RS) (bad : Bool) (ev : Addr) (w : World) (h : RdAt rb ib S st bad ev w) (hS : Room S.size) :
    Calls Tryd.prog 106 #[.pointer (some ⟨rb, 0, none⟩)] w fun e w' => e = .returned (.agg #[.int .i64 (rdInt S st).1, .int .i64 (rdInt S (rdInt S st).2).1]) ∧ RdAt rb ib S (rdInt S (rdInt S st).2).2 bad ev w' ∧ Keeps [ib] w w' := by
  have hl := h.blk.lt
  have hli := h.inn.lt
  have hlow := h.low
  obtain ⟨w0, hw0⟩ : ∃ w0, w.alloc (.cells #[.int .i64 0, .int .i64 0] 128) = w0 := ⟨_, rfl⟩
  have hb0 : Blk w0 w.heap.size 128 #[.int .i64 0, .int .i64 0] := by rw [← hw0]; exact Blk.new _ _ _
  have hk0 : Keeps [] w w0 := by rw [← hw0]; exact (Keeps.refl _ _).alloc _
  have h0 := h.keep0 hk0
  have c := h0.blk.cell
  have H0 := Lib.hid h0
  have HK0 := Lib.hid hk0
  clear h h0 hk0
  obtain ⟨R, hR⟩ : ∃ R, R = rdInt S st := ⟨_, rfl⟩
  rw [← hR]
  have HR := Lib.hid hR
  clear hR
  obtain ⟨Q, hQ⟩ : ∃ Q, Q = rdInt S R.2 := ⟨_, rfl⟩
  rw [← hQ]
  have HQ := Lib.hid hQ
  clear hQ
  go_enter Tryd.func106, Tryd.ntmps106
  go_wp2_with fail
  clear hw0
  refine (int_any ib S st ev w0 H0.out.inn hS H0.out.form hlow.1).mono ?_
  rintro e w1 ⟨rfl, hI, hk⟩
  rw [← HR.out] at hI ⊢
  have H1 := Lib.hid (H0.out.step hI hk)
  have hb1 := hb0.keep hk (nmem1 (by omega))
  have HK1 := Lib.hid (show Keeps [ib] w w1 from (HK0.out.mono (by simp)).trans hk)
  clear hI hk c hb0
  have c1 := H1.out.blk.cell
  go_wp2_with fail
  refine (int_any ib S R.2 ev w1 H1.out.inn hS H1.out.form hlow.1).mono ?_
  rintro e w2 ⟨rfl, hI, hk⟩
  rw [← HQ.out] at hI ⊢
  have H2 := Lib.hid (H1.out.step hI hk)
  have hb2 := hb1.keep hk (nmem1 (by omega))
  have HK2 := Lib.hid (HK1.out.trans hk)
  have e2 := hb2.cell
  have f2 := hb2.frz
  clear hI hk c1 hb1
  go_wp2_with fail
  have hkz := ((Keeps.refl [w.heap.size] w2).setCell (p := ⟨w.heap.size, 0, none⟩) (by simp) (.int .i64 R.1)).setCell (p := ⟨w.heap.size, 1, none⟩) (by simp) (.int .i64 Q.1)
  refine bodyPost_ret (v := .agg #[.int .i64 R.1, .int .i64 Q.1]) (by simp [results, Tryd.results106, go_sem, e2]) rfl ?_
  exact ⟨rfl, H2.out.keep hkz (nmem1 (by omega)) (nmem1 (by omega)) (nmem1 (by omega)) (fun fb cs hfb => nmem1 (hfb.ne hb2 (by decide))), HK2.out.trans' hkz (by simp)⟩

end Go.Proofs.YtnlhmlgoipnekaaDoor
