/- wire.In, walked: fail, Int, Err, Left, Of, Bool. -/
import Derived.Test.YtnlhmlgoipnekaaDoorIn
import Derived.Test.YtnlhmlgoipnekaaDoorErr
namespace Go.Proofs.YtnlhmlgoipnekaaDoor
open Go.RowKit

/-- How a reader stands: the place of the next byte; the place of what was wrong. -/
structure RS where
  pos : Nat
  bad : Option Nat

/-- What Err hands back. -/
def ErrIs (st : RS) (ev : Addr) (w : World) (x : Value) : Prop :=
  st.bad = none ∧ x = .nilIface ∨ ∃ p fb, st.bad = some p ∧ x = faultV fb ∧ Blk w fb 53 #[.string ⟨#[114, 101, 97, 100]⟩, .int .i64 (p : Nat), errv ev]

/-- Block ib is a reader of S that stands at st; ev is where ErrForm lies. -/
def InAt (ib : Nat) (S : ByteArray) (st : RS) (ev : Addr) (w : World) : Prop :=
  st.pos ≤ S.size ∧ ∃ x, Blk w ib 184 #[.string S, .int .i64 st.pos, x] ∧ ErrIs st ev w x

theorem InAt.lt {ib : Nat} {S : ByteArray} {st : RS} {ev : Addr} {w : World} (h : InAt ib S st ev w) : ib < w.heap.size := by
  obtain ⟨_, x, hb, _⟩ := h; exact hb.lt

theorem ErrIs.keep {st : RS} {ev : Addr} {w w' : World} {x : Value} {X : List Nat} (h : ErrIs st ev w x) (k : Keeps X w w') (hf : ∀ fb cs, Blk w fb 53 cs → fb ∉ X) : ErrIs st ev w' x := by
  rcases h with h3 | ⟨p, fb, h4, h5, h6⟩
  · exact .inl h3
  · exact .inr ⟨p, fb, h4, h5, h6.keep k (hf _ _ h6)⟩

theorem InAt.keep {ib : Nat} {S : ByteArray} {st : RS} {ev : Addr} {w w' : World} {X : List Nat} (h : InAt ib S st ev w) (k : Keeps X w w') (hb : ib ∉ X) (hf : ∀ fb cs, Blk w fb 53 cs → fb ∉ X) : InAt ib S st ev w' := by
  obtain ⟨h1, x, h2, h3⟩ := h
  exact ⟨h1, x, h2.keep k hb, h3.keep k hf⟩

theorem InAt.alloc {ib : Nat} {S : ByteArray} {st : RS} {ev : Addr} {w : World} (h : InAt ib S st ev w) (o : Obj) : InAt ib S st ev (w.alloc o) :=
  h.keep ((Keeps.refl [] w).alloc o) (by simp) (by simp)

theorem InAt.set {ib : Nat} {S : ByteArray} {st : RS} {ev : Addr} {w : World} (h : InAt ib S st ev w) {b : Nat} (o : Nat) (v : Value) {T : TypeId} {cs : Array Value} (hb : Blk w b T cs) (hT : T ≠ 53) (hne : ib ≠ b) : InAt ib S st ev (w.setCell ⟨b, o, none⟩ v) :=
  h.keep ((Keeps.refl [b] w).setCell (p := ⟨b, o, none⟩) (by simp) v) (nmem1 hne) (fun _ _ hfb => nmem1 (hfb.ne hb hT.symm))

theorem InAt.drew {ib : Nat} {S : ByteArray} {st : RS} {ev : Addr} {w : World} (h : InAt ib S st ev w) : InAt ib S st ev w.drew := h

set_option maxRecDepth 100000 in
theorem fail_any (ib : Nat) (S : ByteArray) (a p : Nat) (x : Value) (ev : Addr) (w : World) (h : Blk w ib 184 #[.string S, .int .i64 a, x]) (hE : w.cell? ⟨1, 0, none⟩ = some (errv ev)) :
    Calls Tryd.prog 99 #[.pointer (some ⟨ib, 0, none⟩), .int .i64 p] w fun e w' => e = .returned (.tuple #[]) ∧ InAt ib S ⟨S.size, some p⟩ ev w' ∧ Keeps [ib] w w' := by
  have c := h.cell
  have f := h.frz
  have hl := h.lt
  go_enter Tryd.func99, Tryd.ntmps99
  go_wp2_with fail
  go_end0
  refine ⟨rfl, ⟨Nat.le_refl _, _, ((h.set 2 _).set 1 _).alloc _, .inr ⟨p, w.heap.size, rfl, rfl, Blk.newAt _ _ (by simp [World.setCell])⟩⟩, ?_⟩
  exact (((Keeps.refl [ib] w).setCell (p := ⟨ib, 2, none⟩) (by simp) _).setCell (p := ⟨ib, 1, none⟩) (by simp) _).alloc _

/-- The next number, and how the reader stands behind it. -/
def rdInt (S : ByteArray) (st : RS) : Int × RS :=
  match st.bad with
  | some _ => (0, st)
  | none => match rawDec 0 0 (S.data.toList.drop st.pos) with
    | some (u, n) => (unzig u, ⟨st.pos + n, none⟩)
    | none => (0, ⟨S.size, some st.pos⟩)

theorem rdInt_range (S : ByteArray) (st : RS) : I64 (rdInt S st).1 := by
  unfold rdInt
  split
  · show I64 0; constructor <;> decide
  · split
    · rename_i u n h
      exact unzig_range u (rawDec_lt _ 0 0 u n (by omega) (by decide) h).1
    · show I64 0; constructor <;> decide

theorem rdInt_pos (S : ByteArray) (st : RS) (h : st.pos ≤ S.size) : (rdInt S st).2.pos ≤ S.size := by
  unfold rdInt
  split
  · exact h
  · split
    · rename_i u n hd
      have := (rawDec_len _ _ _ _ _ hd).2
      rw [List.length_drop, lenS] at this
      show st.pos + n ≤ S.size
      omega
    · exact Nat.le_refl _

set_option maxRecDepth 100000 in
set_option maxHeartbeats 1000000 in
theorem int_any (ib : Nat) (S : ByteArray) (st : RS) (ev : Addr) (w : World) (h : InAt ib S st ev w) (hS : Room S.size) (hE : w.cell? ⟨1, 0, none⟩ = some (errv ev)) (hg : 1 < ib) :
    Calls Tryd.prog 59 #[.pointer (some ⟨ib, 0, none⟩)] w fun e w' => e = .returned (.int .i64 (rdInt S st).1) ∧ InAt ib S (rdInt S st).2 ev w' ∧ Keeps [ib] w w' := by
  obtain ⟨a, bad⟩ := st
  have HI := h
  obtain ⟨ha, x, hb, ⟨rfl, rfl⟩ | ⟨p, fb, rfl, rfl, hfb⟩⟩ := h
  · have HE0 := Lib.hid (show (⟨a, none⟩ : RS).pos ≤ S.size from ha)
    simp only at ha hb
    have c := hb.cell
    have f := hb.frz
    have hl := hb.lt
    cases hD : rawDec 0 0 (S.data.toList.drop a) with
    | none =>
      have HR : Hid (rdInt S ⟨a, none⟩ = (0, ⟨S.size, some a⟩)) := by apply Lib.hid; unfold rdInt; simp only [hD]
      have HD := Lib.hid hD
      clear hD
      go_enter Tryd.func59, Tryd.ntmps59
      go_wp2_with fail
      refine (raw_any ib S a .nilIface _ hb ha hS).mono ?_
      rintro e w1 ⟨rfl, hk⟩
      rw [HD.out]
      unfold rawRes
      have hb1 := hb.keep hk (by simp)
      have c1 := hb1.cell
      have f1 := hb1.frz
      have hE1 : w1.cell? ⟨1, 0, none⟩ = some (errv ev) := by rw [hk.cell (by omega) (by simp)]; exact hE
      go_wp2_with fail
      refine (fail_any ib S a a _ ev _ hb1 hE1).mono ?_
      rintro e w2 ⟨rfl, hI, hk2⟩
      go_wp2_with fail
      go_ret
      rw [HR.out]
      exact ⟨rfl, hI, (hk.mono (by simp)).trans hk2⟩
    | some un =>
      obtain ⟨u, n⟩ := un
      have HR : Hid (rdInt S ⟨a, none⟩ = (unzig u, ⟨a + n, none⟩)) := by apply Lib.hid; unfold rdInt; simp only [hD]
      have hn := rawDec_len _ _ _ _ _ hD
      have hu := Lib.hid (rawDec_lt _ 0 0 u n (by omega) (by decide) hD).1
      have HD := Lib.hid hD
      have hn0 : 0 < n := hn.1
      have hn1 : a + n ≤ S.size := by
        have h2 := hn.2
        rw [List.length_drop, lenS] at h2
        omega
      clear hD hn
      have hSz : S.size < 140737488355328 := hS
      have HU := Lib.hid (unzig_slot u hu.out)
      go_enter Tryd.func59, Tryd.ntmps59
      go_wp2_with fail
      refine (raw_any ib S a .nilIface _ hb ha hS).mono ?_
      rintro e w1 ⟨rfl, hk⟩
      rw [HD.out]
      unfold rawRes
      have hb1 := hb.keep hk (by simp)
      have c1 := hb1.cell
      have f1 := hb1.frz
      have hu2 := hu.out
      go_wp2_with fail
      go_ret
      rw [HR.out]
      refine ⟨by rw [← HU.out]; rfl, ⟨hn1, _, hb1.set 1 _, .inl ⟨rfl, rfl⟩⟩, (hk.mono (by simp)).setCell (p := ⟨ib, 1, none⟩) (by simp) _⟩
  · have HR : Hid (rdInt S ⟨a, some p⟩ = (0, ⟨a, some p⟩)) := by apply Lib.hid; unfold rdInt; rfl
    have c := hb.cell
    have f := hb.frz
    have hl := hb.lt
    unfold faultV at c hb
    go_enter Tryd.func59, Tryd.ntmps59
    go_wp2_with fail
    go_ret
    rw [HR.out]
    exact ⟨rfl, HI, Keeps.refl _ _⟩

def vecV (v : Int × Int × Int × Int) : Value := .agg #[.int .i64 v.1, .int .i64 v.2.1, .int .i64 v.2.2.1, .int .i64 v.2.2.2]

/-- Behind four numbers. -/
def rd4 (S : ByteArray) (st : RS) : RS := (rdInt S (rdInt S (rdInt S (rdInt S st).2).2).2).2

def rdVec (S : ByteArray) (st : RS) : (Int × Int × Int × Int) × RS :=
  (match (rd4 S st).bad with
    | none => ((rdInt S st).1, (rdInt S (rdInt S st).2).1, (rdInt S (rdInt S (rdInt S st).2).2).1, (rdInt S (rdInt S (rdInt S (rdInt S st).2).2).2).1)
    | some _ => (0, 0, 0, 0), rd4 S st)

def rdBool (S : ByteArray) (st : RS) : Bool × RS :=
  if (rdInt S st).1 = 0 then (false, (rdInt S st).2) else if (rdInt S st).1 = 1 then (true, (rdInt S st).2) else (false, ⟨S.size, some st.pos⟩)

theorem err_any (ib : Nat) (S : ByteArray) (st : RS) (ev : Addr) (w : World) (h : InAt ib S st ev w) :
    Calls Tryd.prog 60 #[.pointer (some ⟨ib, 0, none⟩)] w fun e w' => (∃ x, e = .returned x ∧ ErrIs st ev w x) ∧ w = w' := by
  obtain ⟨ha, x, hb, hx⟩ := h
  have hX : Hid (ErrIs st ev w x) := Lib.hid hx
  clear hx
  have c := hb.cell
  go_enter Tryd.func60, Tryd.ntmps60
  go_wp2_with fail
  go_ret
  exact ⟨⟨x, rfl, hX.out⟩, rfl⟩

theorem left_any (ib : Nat) (S : ByteArray) (st : RS) (ev : Addr) (w : World) (h : InAt ib S st ev w) (hS : Room S.size) :
    Calls Tryd.prog 101 #[.pointer (some ⟨ib, 0, none⟩)] w fun e w' => e = .returned (.int .i64 ((S.size - st.pos : Nat) : Int)) ∧ w.drew = w' := by
  obtain ⟨ha, x, hb, hx⟩ := h
  clear hx
  have hS2 : S.size < 140737488355328 := hS
  have c := hb.cell
  have e1 : ((S.size : Int) - st.pos) = ((S.size - st.pos : Nat) : Int) := by omega
  have HE := Lib.hid e1
  clear e1
  go_enter Tryd.func101, Tryd.ntmps101
  go_wp2_with fail
  go_region
  go_wp2_with fail
  go_ret
  exact ⟨by rw [← HE.out]; rfl, rfl⟩

theorem of_any (S : ByteArray) (ev : Addr) (w : World) :
    Calls Tryd.prog 58 #[.string S] w fun e w' => e = .returned (.pointer (some ⟨w.heap.size, 0, none⟩)) ∧ InAt w.heap.size S ⟨0, none⟩ ev w' ∧ Keeps [] w w' := by
  go_enter Tryd.func58, Tryd.ntmps58
  go_wp2_with fail
  go_ret
  exact ⟨rfl, ⟨Nat.zero_le _, _, Blk.new _ _ _, .inl ⟨rfl, rfl⟩⟩, (Keeps.refl _ _).alloc _⟩

set_option maxRecDepth 100000 in
set_option maxHeartbeats 1000000 in
theorem bool_any (ib : Nat) (S : ByteArray) (st : RS) (ev : Addr) (w : World) (h : InAt ib S st ev w) (hS : Room S.size) (hE : w.cell? ⟨1, 0, none⟩ = some (errv ev)) (hg : 1 < ib) :
    Calls Tryd.prog 146 #[.pointer (some ⟨ib, 0, none⟩)] w fun e w' => e = .returned (.bool (rdBool S st).1) ∧ InAt ib S (rdBool S st).2 ev w' ∧ Keeps [ib] w w' := by
  have HI := Lib.hid h
  obtain ⟨ha, x, hb, hx⟩ := h
  clear hx
  have c := hb.cell
  have hl := hb.lt
  obtain ⟨n, hn⟩ : ∃ n, n = (rdInt S st).1 := ⟨_, rfl⟩
  have HN := Lib.hid hn
  clear hn
  by_cases h0 : n = 0
  · have HR : Hid (rdBool S st = (false, (rdInt S st).2)) := by apply Lib.hid; unfold rdBool; rw [← HN.out, if_pos h0]
    obtain rfl := h0
    go_enter Tryd.func146, Tryd.ntmps146
    go_wp2_with fail
    refine (int_any ib S st ev _ HI.out hS hE hg).mono ?_
    rintro e w1 ⟨rfl, hI, hk⟩
    rw [← HN.out]
    go_wp2_with fail
    go_ret
    rw [HR.out]
    exact ⟨rfl, hI, hk⟩
  · by_cases h1 : n = 1
    · have HR : Hid (rdBool S st = (true, (rdInt S st).2)) := by apply Lib.hid; unfold rdBool; rw [← HN.out, if_neg h0, if_pos h1]
      obtain rfl := h1
      go_enter Tryd.func146, Tryd.ntmps146
      go_wp2_with fail
      refine (int_any ib S st ev _ HI.out hS hE hg).mono ?_
      rintro e w1 ⟨rfl, hI, hk⟩
      rw [← HN.out]
      go_wp2_with fail
      go_ret
      rw [HR.out]
      exact ⟨rfl, hI, hk⟩
    · have HR : Hid (rdBool S st = (false, ⟨S.size, some st.pos⟩)) := by apply Lib.hid; unfold rdBool; rw [← HN.out, if_neg h0, if_neg h1]
      go_enter Tryd.func146, Tryd.ntmps146
      go_wp2_with fail
      refine (int_any ib S st ev _ HI.out hS hE hg).mono ?_
      rintro e w1 ⟨rfl, hI, hk⟩
      rw [← HN.out]
      have hE1 : w1.cell? ⟨1, 0, none⟩ = some (errv ev) := by rw [hk.cell (by omega) (by simp; omega)]; exact hE
      obtain ⟨_, y, hb1, _⟩ := hI
      have c1 := hb1.cell
      go_wp2_with fail
      refine (fail_any ib S _ _ _ ev _ hb1 hE1).mono ?_
      rintro e w2 ⟨rfl, hI2, hk2⟩
      go_wp2_with fail
      go_ret
      rw [HR.out]
      exact ⟨rfl, hI2, hk.trans hk2⟩

end Go.Proofs.YtnlhmlgoipnekaaDoor
