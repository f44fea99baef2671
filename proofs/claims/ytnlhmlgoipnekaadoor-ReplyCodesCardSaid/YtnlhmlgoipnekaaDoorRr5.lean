/- package reply: Read, walked. -/
import Derived.Test.YtnlhmlgoipnekaaDoorRr3
import Derived.Test.YtnlhmlgoipnekaaDoorRr4
import Derived.Test.YtnlhmlgoipnekaaDoorJn
import Derived.Test.YtnlhmlgoipnekaaDoorQSt
import Derived.Test.YtnlhmlgoipnekaaDoorRpB
namespace Go.Proofs.YtnlhmlgoipnekaaDoor
open Go.RowKit

/-- The answer of nothing. -/
def zeroV : Array Value := repV 0 0 (.slice none 0 0) (.slice none 0 0) (.slice none 0 0) (.slice none 0 0) (.slice none 0 0)

/-- How Read stands: the answer that is made (block xb), the result's variable (rz), the reader. -/
structure RdSt (rz ib rb xb : Nat) (S : ByteArray) (ev : Addr) (w : World) (cells : Array Value) (st : RS) (bad : Bool) (w' : World) : Prop where
  x : Blk w' xb 60 cells
  z : Blk w' rz 60 zeroV
  rd : RdAt rb ib S st bad ev w'
  keep : Keeps [] w w'
  lo : w.heap.size = rz ∧ rz < ib ∧ ib < rb ∧ rb < xb

/-- A row that was read: it lies behind all that Read made first. -/
def RowX (xb : Nat) (v : Value) (k : Nat) (xs : List Int) (w : World) : Prop := IntRow w v k xs ∧ ∀ b, v.ownBlock = some b → xb < b

theorem RowX.keep {xb : Nat} {v : Value} {k : Nat} {xs : List Int} {w w' : World} {X : List Nat} (h : RowX xb v k xs w) (hk : Keeps X w w') (hX : ∀ x ∈ X, x ≤ xb) : RowX xb v k xs w' :=
  ⟨h.1.keep hk (fun _ b hb hx => by have := h.2 b hb; have := hX b hx; omega), h.2⟩

theorem RdSt.store {rz ib rb xb : Nat} {S : ByteArray} {ev : Addr} {w w' : World} {cells : Array Value} {st : RS} {bad : Bool} (h : RdSt rz ib rb xb S ev w cells st bad w') (o : Nat) (v : Value) : RdSt rz ib rb xb S ev w (cells.setIfInBounds o v) st bad (w'.setCell ⟨xb, o, none⟩ v) := by
  obtain ⟨l1, l2, l3, l4⟩ := h.lo
  have hlow := h.rd.low
  have hk := (Keeps.refl [xb] w').setCell (p := ⟨xb, o, none⟩) (by simp) v
  exact ⟨h.x.set o v, h.z.keep hk (nmem1 (by omega)), h.rd.keep hk (nmem1 (by omega)) (nmem1 (by omega)) (nmem1 (by omega)) (fun fb cs hfb => nmem1 (hfb.ne h.x (by decide))), h.keep.trans' hk (by simp; omega), h.lo⟩

theorem keeps_store (xb o : Nat) (v : Value) (w' : World) : Keeps [xb] w' (w'.setCell ⟨xb, o, none⟩ v) := (Keeps.refl [xb] w').setCell (p := ⟨xb, o, none⟩) (by simp) v

theorem RdSt.call {rz ib rb xb : Nat} {S : ByteArray} {ev : Addr} {w w1 w2 : World} {cells : Array Value} {st st' : RS} {bad bad' : Bool} (h : RdSt rz ib rb xb S ev w cells st bad w1) (hr : RdAt rb ib S st' bad' ev w2) (hk : Keeps [rb, ib] w1 w2) : RdSt rz ib rb xb S ev w cells st' bad' w2 := by
  obtain ⟨l1, l2, l3, l4⟩ := h.lo
  exact ⟨h.x.keep hk (nmem2 (by omega) (by omega)), h.z.keep hk (nmem2 (by omega) (by omega)), hr, h.keep.trans' hk (by simp; omega), h.lo⟩

theorem IntRow.shape {w : World} {v : Value} {k : Nat} {xs : List Int} (h : IntRow w v k xs) : ∃ q n cap, v = .slice q n cap := by
  rcases h.2 with ⟨rfl, _⟩ | ⟨a, n, cap, rfl, _⟩
  · exact ⟨_, _, _, rfl⟩
  · exact ⟨_, _, _, rfl⟩

theorem wpList_store_same {P : Program} {ops : Array Oper} {rest : List Oper} {op : Oper} {a : Act} {w : World} {Q : Exit → Act → World → Prop} (hgd : op.guard = none) (ty : TypeId) (x y : Operand) (ho : op.op = .store ty x y)
    (b : Nat) (T : TypeId) (cs : Array Value) (hx : a.eval x = .pointer (some ⟨b, 0, none⟩)) (hy : a.eval y = .agg cs) (hb : Blk w b T cs)
    (hi : (P.info? ty).map (·.size) = some cs.size) (h1 : cs.all (·.oneCell') = true) (h : wpList P ops Q rest (a.put op.dst undef) w) : wpList P ops Q (op :: rest) a w := by
  refine wpList_store_mid hgd ty x y ho b 0 cs hx hy ?_ hi h1 ?_
  · intro j hj
    rw [Nat.zero_add, hb.cell, hb.frz]
    exact ⟨by simp; omega, rfl⟩
  · rw [setCells_from, setFrom_same _ 0 w cs hb (fun j hj => by simp)]
    exact h

theorem zeroV_one : zeroV.all (·.oneCell') = true := by unfold zeroV repV; simp [Value.oneCell']

/-- What Read comes to. -/
structure RdRes where
  rep : Rep
  st : RS
  bad : Bool

def readR (S : ByteArray) : RdRes :=
  let c := rdInt S ⟨0, none⟩
  let a := rdInt S c.2
  let s0 := rdList S 3 a.2 false
  let s1 := rdList S 2 s0.2.1 s0.2.2
  let s2 := rdList S 2 s1.2.1 s1.2.2
  let s3 := rdList S 6 s2.2.1 s2.2.2
  let s4 := rdList S 1 s3.2.1 s3.2.2
  ⟨⟨c.1, a.1, s0.1, s1.1, s2.1, s3.1, s4.1⟩, s4.2.1, s4.2.2⟩

/-- Whether bytes are an answer's. -/
def readOk (S : ByteArray) : Bool := decide ((readR S).st.bad = none ∧ (readR S).st.pos = S.size ∧ (readR S).bad = false)

/-- What Read hands back. -/
def ReadPost (S : ByteArray) (ev : Addr) (w : World) (e : Ending) (w' : World) : Prop :=
  Keeps [] w w' ∧ ((readOk S = true ∧ ∃ v0 v1 v2 v3 v4, e = .returned (.tuple #[.agg (repV (readR S).rep.code (readR S).rep.at' v0 v1 v2 v3 v4), .nilIface]) ∧ RepAt w' v0 v1 v2 v3 v4 (readR S).rep) ∨
    (readOk S = false ∧ ∃ x, e = .returned (.tuple #[.agg zeroV, x]) ∧ JoinIs ev w' x))

set_option maxRecDepth 100000 in
set_option maxHeartbeats 8000000 in
theorem rRead_any {B : Nat} {ea ef : Addr} (S : ByteArray) (w : World) (hG : Glob B ea ef w) (hS : S.size ≤ 1000000) :
    Calls Tryd.prog 36 #[.string S] w (ReadPost S ef w) := by
  have hRm : Room S.size := by unfold Room; omega
  have hbase := hG.base
  have hsize := hG.size
  obtain ⟨w0, hw0⟩ : ∃ w0, w.alloc (.cells zeroV 60) = w0 := ⟨_, rfl⟩
  have hz0 : Blk w0 w.heap.size 60 zeroV := by rw [← hw0]; exact Blk.new _ _ _
  have hk0 : Keeps [] w w0 := by rw [← hw0]; exact (Keeps.refl _ _).alloc _
  have hs0 : w0.heap.size = w.heap.size + 1 := by rw [← hw0]; simp
  unfold zeroV repV at hw0
  obtain ⟨c, hc⟩ : ∃ c, c = rdInt S ⟨0, none⟩ := ⟨_, rfl⟩
  obtain ⟨a, ha⟩ : ∃ a, a = rdInt S c.2 := ⟨_, rfl⟩
  obtain ⟨l0, hl0⟩ : ∃ l0, l0 = rdList S 3 a.2 false := ⟨_, rfl⟩
  obtain ⟨l1, hl1⟩ : ∃ l1, l1 = rdList S 2 l0.2.1 l0.2.2 := ⟨_, rfl⟩
  obtain ⟨l2, hl2⟩ : ∃ l2, l2 = rdList S 2 l1.2.1 l1.2.2 := ⟨_, rfl⟩
  obtain ⟨l3, hl3⟩ : ∃ l3, l3 = rdList S 6 l2.2.1 l2.2.2 := ⟨_, rfl⟩
  obtain ⟨l4, hl4⟩ : ∃ l4, l4 = rdList S 1 l3.2.1 l3.2.2 := ⟨_, rfl⟩
  have hR : readR S = ⟨⟨c.1, a.1, l0.1, l1.1, l2.1, l3.1, l4.1⟩, l4.2.1, l4.2.2⟩ := by rw [hl4, hl3, hl2, hl1, hl0, ha, hc]; rfl
  have HR := Lib.hid hR
  have HC := Lib.hid hc
  have HA := Lib.hid ha
  have H0 := Lib.hid hl0
  have H1 := Lib.hid hl1
  have H2 := Lib.hid hl2
  have H3 := Lib.hid hl3
  have H4 := Lib.hid hl4
  have hc64 := rdInt_range S ⟨0, none⟩
  rw [← hc] at hc64
  have ha64 := rdInt_range S c.2
  rw [← ha] at ha64
  have HC64 := Lib.hid hc64
  have HA64 := Lib.hid ha64
  clear hc ha hl0 hl1 hl2 hl3 hl4 hR hc64 ha64
  go_enter Tryd.func36, Tryd.ntmps36
  go_wp2_with fail
  clear hw0
  refine (of_any S ef w0).mono ?_
  rintro e w1 ⟨rfl, hI1, hk1⟩
  rw [hs0] at hI1 ⊢
  obtain ⟨w2, hw2⟩ : ∃ w2, w1.alloc (.cells #[.pointer (some ⟨w.heap.size + 1, 0, none⟩), .bool false] 145) = w2 := ⟨_, rfl⟩
  have hs2 : w2.heap.size = w1.heap.size + 1 := by rw [← hw2]; simp
  obtain ⟨w3, hw3⟩ : ∃ w3, w2.alloc (.cells zeroV 60) = w3 := ⟨_, rfl⟩
  have hk2 : Keeps [] w1 w2 := by rw [← hw2]; exact (Keeps.refl _ _).alloc _
  have hk3 : Keeps [] w1 w3 := by rw [← hw3]; exact hk2.alloc _
  have hG3 := ((hG.keep0 hk0).keep0 hk1).keep0 hk3
  have hib : w.heap.size + 1 < w1.heap.size := hI1.lt
  have hrb3 : Blk w3 w1.heap.size 145 #[.pointer (some ⟨w.heap.size + 1, 0, none⟩), .bool false] := by rw [← hw3, ← hw2]; exact (Blk.new _ _ _).alloc _
  have hx3 : Blk w3 (w1.heap.size + 1) 60 zeroV := by rw [← hw3, ← hs2]; exact Blk.new _ _ _
  have hst3 : RdSt w.heap.size (w.heap.size + 1) w1.heap.size (w1.heap.size + 1) S ef w zeroV ⟨0, none⟩ false w3 :=
    ⟨hx3, (hz0.keep hk1 (by simp)).keep hk3 (by simp), ⟨hrb3, hI1.keep hk3 (by simp) (by simp), hG3.form, by omega, by omega⟩, (hk0.trans hk1).trans hk3, by omega, by omega, by omega, by omega⟩
  have HS3 := Lib.hid hst3
  have HG3 := Lib.hid hG3
  have c3 := hst3.rd.blk.cell
  unfold zeroV repV at hw3
  clear hst3 hG3 hrb3 hx3 hk2 hk3 hk1 hI1 hz0 hk0 hs0
  go_wp2_with fail
  clear hw2 hw3
  refine (int_any (w.heap.size + 1) S _ ef w3 HS3.out.rd.inn hRm HS3.out.rd.form HS3.out.rd.low.1).mono ?_
  rintro e y4 ⟨rfl, hI, hk⟩
  rw [← HC.out] at hI ⊢
  have HS4 := Lib.hid (HS3.out.call (HS3.out.rd.step hI hk) (hk.mono (by simp)))
  clear hI hk
  clear c3
  have x4 := HS4.out.x.cell
  have f4 := HS4.out.x.frz
  have r4 := HS4.out.rd.blk.cell
  unfold zeroV repV at x4
  obtain ⟨z4, hz4⟩ : ∃ z4, y4.setCell ⟨w1.heap.size + 1, 0, none⟩ (.int .i64 c.1) = z4 := ⟨_, rfl⟩
  have HT4 : Hid (RdSt w.heap.size (w.heap.size + 1) w1.heap.size (w1.heap.size + 1) S ef w (repV c.1 0 (.slice none 0 0) (.slice none 0 0) (.slice none 0 0) (.slice none 0 0) (.slice none 0 0)) c.2 false z4) := by apply Lib.hid; rw [← hz4]; exact HS4.out.store 0 (.int .i64 c.1)
  have t4 := HT4.out.rd.blk.cell
  go_wp2_with fail
  clear hz4 x4 f4 r4 t4
  refine (int_any (w.heap.size + 1) S _ ef z4 HT4.out.rd.inn hRm HT4.out.rd.form HT4.out.rd.low.1).mono ?_
  rintro e y5 ⟨rfl, hI, hk⟩
  rw [← HA.out] at hI ⊢
  have HS5 := Lib.hid (HT4.out.call (HT4.out.rd.step hI hk) (hk.mono (by simp)))
  clear hI hk
  have x5 := HS5.out.x.cell
  have f5 := HS5.out.x.frz
  have r5 := HS5.out.rd.blk.cell
  unfold repV at x5
  obtain ⟨z5, hz5⟩ : ∃ z5, y5.setCell ⟨w1.heap.size + 1, 1, none⟩ (.int .i64 a.1) = z5 := ⟨_, rfl⟩
  have HT5 : Hid (RdSt w.heap.size (w.heap.size + 1) w1.heap.size (w1.heap.size + 1) S ef w (repV c.1 a.1 (.slice none 0 0) (.slice none 0 0) (.slice none 0 0) (.slice none 0 0) (.slice none 0 0)) a.2 false z5) := by apply Lib.hid; rw [← hz5]; exact HS5.out.store 1 (.int .i64 a.1)
  have t5 := HT5.out.rd.blk.cell
  go_wp2_with fail
  clear hz5 x5 f5 r5 t5
  refine (seatsR_any w1.heap.size (w.heap.size + 1) S _ _ ef z5 HT5.out.rd hS).mono ?_
  rintro e y6 ⟨vv, rfl, hr, hb, hR, hk⟩
  obtain ⟨q0, m0, p0, rfl⟩ := hr.shape
  rw [← H0.out] at hr hR
  have HS6 := Lib.hid (HT5.out.call hR hk)
  have HX0 : Hid (RowX (w1.heap.size + 1) (.slice q0 m0 p0) 3 l0.1 y6) := Lib.hid ⟨hr, fun b hb' => Nat.lt_of_lt_of_le HT5.out.x.lt (hb b hb').1⟩
  clear hr hb hR hk
  have x6 := HS6.out.x.cell
  have f6 := HS6.out.x.frz
  have r6 := HS6.out.rd.blk.cell
  unfold repV at x6
  obtain ⟨z6, hz6⟩ : ∃ z6, y6.setCell ⟨w1.heap.size + 1, 2, none⟩ (.slice q0 m0 p0) = z6 := ⟨_, rfl⟩
  have HT6 : Hid (RdSt w.heap.size (w.heap.size + 1) w1.heap.size (w1.heap.size + 1) S ef w (repV c.1 a.1 (.slice q0 m0 p0) (.slice none 0 0) (.slice none 0 0) (.slice none 0 0) (.slice none 0 0)) l0.2.1 l0.2.2 z6) := by apply Lib.hid; rw [← hz6]; exact HS6.out.store 2 (.slice q0 m0 p0)
  have hkz : Keeps [w1.heap.size + 1] y6 z6 := by rw [← hz6]; exact keeps_store _ _ _ _
  have HX0 := Lib.hid (HX0.out.keep hkz (by simp))
  have t6 := HT6.out.rd.blk.cell
  clear hkz
  go_wp2_with fail
  clear hz6 x6 f6 r6 t6
  refine (tasksR_any w1.heap.size (w.heap.size + 1) S _ _ ef z6 HT6.out.rd hS).mono ?_
  rintro e y7 ⟨vv, rfl, hr, hb, hR, hk⟩
  obtain ⟨q1, m1, p1, rfl⟩ := hr.shape
  rw [← H1.out] at hr hR
  have HS7 := Lib.hid (HT6.out.call hR hk)
  have HX1 : Hid (RowX (w1.heap.size + 1) (.slice q1 m1 p1) 2 l1.1 y7) := Lib.hid ⟨hr, fun b hb' => Nat.lt_of_lt_of_le HT6.out.x.lt (hb b hb').1⟩
  have HX0 := Lib.hid (HX0.out.keep hk (by have := HT6.out.lo; simp; omega))
  clear hr hb hR hk
  have x7 := HS7.out.x.cell
  have f7 := HS7.out.x.frz
  have r7 := HS7.out.rd.blk.cell
  unfold repV at x7
  obtain ⟨z7, hz7⟩ : ∃ z7, y7.setCell ⟨w1.heap.size + 1, 3, none⟩ (.slice q1 m1 p1) = z7 := ⟨_, rfl⟩
  have HT7 : Hid (RdSt w.heap.size (w.heap.size + 1) w1.heap.size (w1.heap.size + 1) S ef w (repV c.1 a.1 (.slice q0 m0 p0) (.slice q1 m1 p1) (.slice none 0 0) (.slice none 0 0) (.slice none 0 0)) l1.2.1 l1.2.2 z7) := by apply Lib.hid; rw [← hz7]; exact HS7.out.store 3 (.slice q1 m1 p1)
  have hkz : Keeps [w1.heap.size + 1] y7 z7 := by rw [← hz7]; exact keeps_store _ _ _ _
  have HX0 := Lib.hid (HX0.out.keep hkz (by simp))
  have HX1 := Lib.hid (HX1.out.keep hkz (by simp))
  have t7 := HT7.out.rd.blk.cell
  clear hkz
  go_wp2_with fail
  clear hz7 x7 f7 r7 t7
  refine (tasksR_any w1.heap.size (w.heap.size + 1) S _ _ ef z7 HT7.out.rd hS).mono ?_
  rintro e y8 ⟨vv, rfl, hr, hb, hR, hk⟩
  obtain ⟨q2, m2, p2, rfl⟩ := hr.shape
  rw [← H2.out] at hr hR
  have HS8 := Lib.hid (HT7.out.call hR hk)
  have HX2 : Hid (RowX (w1.heap.size + 1) (.slice q2 m2 p2) 2 l2.1 y8) := Lib.hid ⟨hr, fun b hb' => Nat.lt_of_lt_of_le HT7.out.x.lt (hb b hb').1⟩
  have HX0 := Lib.hid (HX0.out.keep hk (by have := HT7.out.lo; simp; omega))
  have HX1 := Lib.hid (HX1.out.keep hk (by have := HT7.out.lo; simp; omega))
  clear hr hb hR hk
  have x8 := HS8.out.x.cell
  have f8 := HS8.out.x.frz
  have r8 := HS8.out.rd.blk.cell
  unfold repV at x8
  obtain ⟨z8, hz8⟩ : ∃ z8, y8.setCell ⟨w1.heap.size + 1, 4, none⟩ (.slice q2 m2 p2) = z8 := ⟨_, rfl⟩
  have HT8 : Hid (RdSt w.heap.size (w.heap.size + 1) w1.heap.size (w1.heap.size + 1) S ef w (repV c.1 a.1 (.slice q0 m0 p0) (.slice q1 m1 p1) (.slice q2 m2 p2) (.slice none 0 0) (.slice none 0 0)) l2.2.1 l2.2.2 z8) := by apply Lib.hid; rw [← hz8]; exact HS8.out.store 4 (.slice q2 m2 p2)
  have hkz : Keeps [w1.heap.size + 1] y8 z8 := by rw [← hz8]; exact keeps_store _ _ _ _
  have HX0 := Lib.hid (HX0.out.keep hkz (by simp))
  have HX1 := Lib.hid (HX1.out.keep hkz (by simp))
  have HX2 := Lib.hid (HX2.out.keep hkz (by simp))
  have t8 := HT8.out.rd.blk.cell
  clear hkz
  go_wp2_with fail
  clear hz8 x8 f8 r8 t8
  refine (fillsR_any w1.heap.size (w.heap.size + 1) S _ _ ef z8 HT8.out.rd hS).mono ?_
  rintro e y9 ⟨vv, rfl, hr, hb, hR, hk⟩
  obtain ⟨q3, m3, p3, rfl⟩ := hr.shape
  rw [← H3.out] at hr hR
  have HS9 := Lib.hid (HT8.out.call hR hk)
  have HX3 : Hid (RowX (w1.heap.size + 1) (.slice q3 m3 p3) 6 l3.1 y9) := Lib.hid ⟨hr, fun b hb' => Nat.lt_of_lt_of_le HT8.out.x.lt (hb b hb').1⟩
  have HX0 := Lib.hid (HX0.out.keep hk (by have := HT8.out.lo; simp; omega))
  have HX1 := Lib.hid (HX1.out.keep hk (by have := HT8.out.lo; simp; omega))
  have HX2 := Lib.hid (HX2.out.keep hk (by have := HT8.out.lo; simp; omega))
  clear hr hb hR hk
  have x9 := HS9.out.x.cell
  have f9 := HS9.out.x.frz
  have r9 := HS9.out.rd.blk.cell
  unfold repV at x9
  obtain ⟨z9, hz9⟩ : ∃ z9, y9.setCell ⟨w1.heap.size + 1, 5, none⟩ (.slice q3 m3 p3) = z9 := ⟨_, rfl⟩
  have HT9 : Hid (RdSt w.heap.size (w.heap.size + 1) w1.heap.size (w1.heap.size + 1) S ef w (repV c.1 a.1 (.slice q0 m0 p0) (.slice q1 m1 p1) (.slice q2 m2 p2) (.slice q3 m3 p3) (.slice none 0 0)) l3.2.1 l3.2.2 z9) := by apply Lib.hid; rw [← hz9]; exact HS9.out.store 5 (.slice q3 m3 p3)
  have hkz : Keeps [w1.heap.size + 1] y9 z9 := by rw [← hz9]; exact keeps_store _ _ _ _
  have HX0 := Lib.hid (HX0.out.keep hkz (by simp))
  have HX1 := Lib.hid (HX1.out.keep hkz (by simp))
  have HX2 := Lib.hid (HX2.out.keep hkz (by simp))
  have HX3 := Lib.hid (HX3.out.keep hkz (by simp))
  have t9 := HT9.out.rd.blk.cell
  clear hkz
  go_wp2_with fail
  clear hz9 x9 f9 r9 t9
  refine (intsR_any w1.heap.size (w.heap.size + 1) S _ _ ef z9 HT9.out.rd hS).mono ?_
  rintro e y10 ⟨vv, rfl, hr, hb, hR, hk⟩
  obtain ⟨q4, m4, p4, rfl⟩ := hr.shape
  rw [← H4.out] at hr hR
  have HS10 := Lib.hid (HT9.out.call hR hk)
  have HX4 : Hid (RowX (w1.heap.size + 1) (.slice q4 m4 p4) 1 l4.1 y10) := Lib.hid ⟨hr, fun b hb' => Nat.lt_of_lt_of_le HT9.out.x.lt (hb b hb').1⟩
  have HX0 := Lib.hid (HX0.out.keep hk (by have := HT9.out.lo; simp; omega))
  have HX1 := Lib.hid (HX1.out.keep hk (by have := HT9.out.lo; simp; omega))
  have HX2 := Lib.hid (HX2.out.keep hk (by have := HT9.out.lo; simp; omega))
  have HX3 := Lib.hid (HX3.out.keep hk (by have := HT9.out.lo; simp; omega))
  clear hr hb hR hk
  have x10 := HS10.out.x.cell
  have f10 := HS10.out.x.frz
  have r10 := HS10.out.rd.blk.cell
  unfold repV at x10
  obtain ⟨z10, hz10⟩ : ∃ z10, y10.setCell ⟨w1.heap.size + 1, 6, none⟩ (.slice q4 m4 p4) = z10 := ⟨_, rfl⟩
  have HT10 : Hid (RdSt w.heap.size (w.heap.size + 1) w1.heap.size (w1.heap.size + 1) S ef w (repV c.1 a.1 (.slice q0 m0 p0) (.slice q1 m1 p1) (.slice q2 m2 p2) (.slice q3 m3 p3) (.slice q4 m4 p4)) l4.2.1 l4.2.2 z10) := by apply Lib.hid; rw [← hz10]; exact HS10.out.store 6 (.slice q4 m4 p4)
  have hkz : Keeps [w1.heap.size + 1] y10 z10 := by rw [← hz10]; exact keeps_store _ _ _ _
  have HX0 := Lib.hid (HX0.out.keep hkz (by simp))
  have HX1 := Lib.hid (HX1.out.keep hkz (by simp))
  have HX2 := Lib.hid (HX2.out.keep hkz (by simp))
  have HX3 := Lib.hid (HX3.out.keep hkz (by simp))
  have HX4 := Lib.hid (HX4.out.keep hkz (by simp))
  have t10 := HT10.out.rd.blk.cell
  clear hkz
  go_wp2_with fail
  clear hz10 x10 f10 r10 t10
  refine (end_any (w.heap.size + 1) S _ ef z10 HT10.out.rd.inn hRm HT10.out.rd.form).mono ?_
  rintro e ye ⟨⟨xe, rfl, hx⟩, hk⟩
  have HE := Lib.hid (show RdSt w.heap.size (w.heap.size + 1) w1.heap.size (w1.heap.size + 1) S ef w (repV c.1 a.1 (.slice q0 m0 p0) (.slice q1 m1 p1) (.slice q2 m2 p2) (.slice q3 m3 p3) (.slice q4 m4 p4)) l4.2.1 l4.2.2 ye from HT10.out.call (HT10.out.rd.keep0 hk) (hk.mono (by simp)))
  have HX0 := Lib.hid (HX0.out.keep hk (by simp))
  have HX1 := Lib.hid (HX1.out.keep hk (by simp))
  have HX2 := Lib.hid (HX2.out.keep hk (by simp))
  have HX3 := Lib.hid (HX3.out.keep hk (by simp))
  have HX4 := Lib.hid (HX4.out.keep hk (by simp))
  clear hk
  have xe1 := HE.out.x.cell
  have re1 := HE.out.rd.blk.cell
  have ze1 := HE.out.z.cell
  have ge1 := HE.out.z.frz
  have fe1 := HE.out.rd.form
  have HZ := Lib.hid HE.out.z
  have HGB := Lib.hid hG
  rcases hx with ⟨hbad, hpos, rfl⟩ | ⟨p, fb, op, hp, rfl, hfb⟩
  · cases hb4 : l4.2.2 with
    | false =>
      have HOK : Hid (readOk S = true) := by apply Lib.hid; unfold readOk; rw [HR.out]; simp [hbad, hpos, hb4]
      rw [hb4] at re1
      have HXX := Lib.hid HE.out.x
      clear hbad hpos hb4 xe1
      go_wp2_with (first | (refine wpList_load_blk rfl 60 _ rfl (w1.heap.size + 1) 60 (repV c.1 a.1 (.slice q0 m0 p0) (.slice q1 m1 p1) (.slice q2 m2 p2) (.slice q3 m3 p3) (.slice q4 m4 p4)) rfl HXX.out _ Tryd.underlying60 rfl (by kernel_rfl) ?_) | (refine wpList_store_blk rfl 60 _ _ rfl w.heap.size 60 zeroV (repV c.1 a.1 (.slice q0 m0 p0) (.slice q1 m1 p1) (.slice q2 m2 p2) (.slice q3 m3 p3) (.slice q4 m4 p4)) rfl rfl HZ.out rfl (by kernel_rfl) (by simp [repV, Value.oneCell']) ?_))
      intro yf hzf hkf
      have rz := hzf.cell
      have hsz : w.heap.size < w1.heap.size + 1 := by omega
      have HX0 := Lib.hid (HX0.out.keep hkf (by simp; omega))
      have HX1 := Lib.hid (HX1.out.keep hkf (by simp; omega))
      have HX2 := Lib.hid (HX2.out.keep hkf (by simp; omega))
      have HX3 := Lib.hid (HX3.out.keep hkf (by simp; omega))
      have HX4 := Lib.hid (HX4.out.keep hkf (by simp; omega))
      have hK : Keeps [] w yf := HE.out.keep.trans' hkf (by simp)
      unfold repV at rz
      clear re1 ze1 ge1 fe1
      go_wp2_with fail
      refine bodyPost_ret (v := .tuple #[.agg (repV c.1 a.1 (.slice q0 m0 p0) (.slice q1 m1 p1) (.slice q2 m2 p2) (.slice q3 m3 p3) (.slice q4 m4 p4)), .nilIface]) (by simp [results, Tryd.results36, go_sem, rz, repV]) rfl ?_
      refine ⟨hK, .inl ⟨HOK.out, (.slice q0 m0 p0), (.slice q1 m1 p1), (.slice q2 m2 p2), (.slice q3 m3 p3), (.slice q4 m4 p4), by rw [HR.out], ?_⟩⟩
      rw [HR.out]
      exact ⟨HC64.out, HA64.out, HX0.out.1, HX1.out.1, HX2.out.1, HX3.out.1, HX4.out.1⟩
    | true =>
      have HOK : Hid (readOk S = false) := by apply Lib.hid; unfold readOk; rw [HR.out]; simp [hb4]
      rw [hb4] at re1
      obtain ⟨ys, hys⟩ : ∃ ys, ye.alloc (.cells #[errv ef, .nilIface] 33) = ys := ⟨_, rfl⟩
      have hbs : Blk ys ye.heap.size 33 #[errv ef, .nilIface] := by rw [← hys]; exact Blk.new _ _ _
      have hks : Keeps [] ye ys := by rw [← hys]; exact (Keeps.refl _ _).alloc _
      clear hbad hpos hb4
      go_wp2_with fail
      clear hys
      refine (join_nil ef _ ys hbs).mono ?_
      rintro e yj ⟨⟨x, rfl, hj⟩, hkj⟩
      have hzj := (HZ.out.keep hks (by simp)).keep hkj (by simp)
      have hK := (HE.out.keep.trans hks).trans hkj
      have HJ := Lib.hid hj
      clear xe1 re1 ze1 ge1 fe1 hbs hks hkj hj
      go_wp2_with (refine wpList_store_same rfl 60 _ _ rfl w.heap.size 60 zeroV rfl rfl hzj (by kernel_rfl) zeroV_one ?_)
      have rz := hzj.cell
      unfold zeroV repV at rz
      refine bodyPost_ret (v := .tuple #[.agg zeroV, x]) (by simp [results, Tryd.results36, go_sem, rz, zeroV, repV]) rfl ?_
      exact ⟨hK, .inr ⟨HOK.out, x, rfl, HJ.out⟩⟩
  · have HOK : Hid (readOk S = false) := by
      apply Lib.hid; unfold readOk; rw [HR.out]
      simp only [decide_eq_false_iff_not]
      rintro ⟨h1, h2, _⟩
      rcases hp with hp | ⟨_, hl, _⟩
      · rw [hp] at h1; cases h1
      · omega
    obtain ⟨ys, hys⟩ : ∃ ys, ye.alloc (.cells #[errv ef, .iface 51 (.pointer (some ⟨fb, 0, none⟩))] 33) = ys := ⟨_, rfl⟩
    have hbs : Blk ys ye.heap.size 33 #[errv ef, .iface 51 (.pointer (some ⟨fb, 0, none⟩))] := by rw [← hys]; exact Blk.new _ _ _
    have hks : Keeps [] ye ys := by rw [← hys]; exact (Keeps.refl _ _).alloc _
    clear hp hfb
    unfold faultV
    go_wp2_with fail
    clear hys
    refine (join_fault ef _ fb ys hbs).mono ?_
    rintro e yj ⟨⟨x, rfl, hj⟩, hkj⟩
    have hzj := (HZ.out.keep hks (by simp)).keep hkj (by simp)
    have hK := (HE.out.keep.trans hks).trans hkj
    have HJ := Lib.hid hj
    clear xe1 re1 ze1 ge1 fe1 hbs hks hkj hj
    go_wp2_with (refine wpList_store_same rfl 60 _ _ rfl w.heap.size 60 zeroV rfl rfl hzj (by kernel_rfl) zeroV_one ?_)
    have rz := hzj.cell
    unfold zeroV repV at rz
    refine bodyPost_ret (v := .tuple #[.agg zeroV, x]) (by simp [results, Tryd.results36, go_sem, rz, zeroV, repV]) rfl ?_
    exact ⟨hK, .inr ⟨HOK.out, x, rfl, HJ.out⟩⟩

end Go.Proofs.YtnlhmlgoipnekaaDoor
