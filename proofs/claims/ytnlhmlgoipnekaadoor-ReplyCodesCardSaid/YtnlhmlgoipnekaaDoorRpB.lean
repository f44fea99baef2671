/- package reply: Bytes, walked. -/
import Derived.Test.YtnlhmlgoipnekaaDoorRpF
import Derived.Test.YtnlhmlgoipnekaaDoorWr
namespace Go.Proofs.YtnlhmlgoipnekaaDoor
open Go.RowKit

/-- An answer: its numbers, each row flat. -/
structure Rep where
  code : Int
  at' : Int
  seats : List Int
  out : List Int
  forced : List Int
  fills : List Int
  n : List Int
  deriving DecidableEq

/-- An answer's value: v0 to v4 are its rows' slices. -/
def repV (code at' : Int) (v0 v1 v2 v3 v4 : Value) : Array Value := #[.int .i64 code, .int .i64 at', v0, v1, v2, v3, v4]

/-- The slices hold the answer's rows. -/
structure RepAt (w : World) (v0 v1 v2 v3 v4 : Value) (r : Rep) : Prop where
  c : I64 r.code
  a : I64 r.at'
  s0 : IntRow w v0 3 r.seats
  s1 : IntRow w v1 2 r.out
  s2 : IntRow w v2 2 r.forced
  s3 : IntRow w v3 6 r.fills
  s4 : IntRow w v4 1 r.n

/-- Not more than is asked. -/
structure Rep.Small (r : Rep) : Prop where
  s0 : r.seats.length ≤ 200
  s1 : r.out.length ≤ 200
  s2 : r.forced.length ≤ 200
  s3 : r.fills.length ≤ 200
  s4 : r.n.length ≤ 200

def Rep.bytes (r : Rep) : List UInt8 := eb r.code ++ (eb r.at' ++ (sec 3 r.seats ++ (sec 2 r.out ++ (sec 2 r.forced ++ (sec 6 r.fills ++ sec 1 r.n)))))

theorem RepAt.keep {w w' : World} {v0 v1 v2 v3 v4 : Value} {r : Rep} (h : RepAt w v0 v1 v2 v3 v4 r) (k : Keeps [] w w') : RepAt w' v0 v1 v2 v3 v4 r :=
  ⟨h.c, h.a, h.s0.keep k (fun _ => Apart.none _), h.s1.keep k (fun _ => Apart.none _), h.s2.keep k (fun _ => Apart.none _), h.s3.keep k (fun _ => Apart.none _), h.s4.keep k (fun _ => Apart.none _)⟩

theorem sec_len (k : Nat) (xs : List Int) (hk : 0 < k) (h : ∀ x ∈ xs, I64 x) (hl : xs.length ≤ 200) : (sec k xs).length ≤ 2010 := by
  have h1 := ebs_len xs h
  have h2 : xs.length / k ≤ xs.length := Nat.div_le_self _ _
  unfold sec
  generalize xs.length / k = q at *
  have h3 := eb_len (q : Int) (by unfold I64; omega)
  simp only [List.length_append]
  omega

theorem writes_trans {T : TypeId} {ob g g1 : Nat} {bs : List UInt8} {w w1 w2 : World} (hk : Keeps [] w w1) (hob : w.heap.size ≤ ob) (hg : w.heap.size ≤ g) (h : Wrote T ob g bs w1 w2) (_ : g1 = g1) : Keeps [] w w2 :=
  hk.trans' h.2 (by simp; omega)

set_option maxRecDepth 100000 in
set_option maxHeartbeats 2000000 in
theorem rBytes_any (v0 v1 v2 v3 v4 : Value) (r : Rep) (w : World) (hR : RepAt w v0 v1 v2 v3 v4 r) (hS : r.Small) :
    Calls Tryd.prog 31 #[.agg (repV r.code r.at' v0 v1 v2 v3 v4)] w fun e w' => e = .returned (.string ⟨r.bytes.toArray⟩) ∧ Keeps [] w w' := by
  obtain ⟨D, hD⟩ : ∃ D, D = r.bytes := ⟨_, rfl⟩
  rw [← hD]
  have HD := Lib.hid hD
  clear hD
  obtain ⟨code, at', seats, out, forced, fills, n⟩ := r
  obtain ⟨hc, ha, s0, s1, s2, s3, s4⟩ := hR
  obtain ⟨z0, z1, z2, z3, z4⟩ := hS
  simp only at hc ha s0 s1 s2 s3 s4 z0 z1 z2 z3 z4
  have l0 := sec_len 3 seats (by omega) s0.1 z0
  have l1 := sec_len 2 out (by omega) s1.1 z1
  have l2 := sec_len 2 forced (by omega) s2.1 z2
  have l3 := sec_len 6 fills (by omega) s3.1 z3
  have lc := eb_len _ hc
  have la := eb_len _ ha
  obtain ⟨b0, o0, n0, hn0, len0, idx0, cel0, own0⟩ := s0.form (P := Tryd.prog) 56 130 Tryd.underlying56 (fun w' => by kernel_rfl) (by omega)
  obtain ⟨b4, o4, n4, hn4, len4, idx4, cel4, own4⟩ := s4.form (P := Tryd.prog) 49 3 Tryd.underlying49 (fun w' => by kernel_rfl) (by omega)
  obtain ⟨wa, hwa⟩ : ∃ wa, w.alloc (.cells (repV code at' v0 v1 v2 v3 v4) 60) = wa := ⟨_, rfl⟩
  have hba : Blk wa w.heap.size 60 (repV code at' v0 v1 v2 v3 v4) := by rw [← hwa]; exact Blk.new _ _ _
  have hsa : wa.heap.size = (w.heap.size + 1) := by rw [← hwa]; simp
  have hka : Keeps [] w wa := by rw [← hwa]; exact (Keeps.refl _ _).alloc _
  obtain ⟨w0, hw0⟩ : ∃ w0, wa.alloc (.cells #[.pointer none, .slice none 0 0] 125) = w0 := ⟨_, rfl⟩
  have hO : Bld 125 (w.heap.size + 1) (w.heap.size + 1) [] w0 := by rw [← hw0, ← hsa]; exact Bld.new _ _
  have hb0 : Blk w0 w.heap.size 60 (repV code at' v0 v1 v2 v3 v4) := by rw [← hw0]; exact hba.alloc _
  have hk0 : Keeps [] w w0 := by rw [← hw0]; exact hka.alloc _
  have hobw : w.heap.size < (w.heap.size + 1) := by omega
  have hobw0 : (w.heap.size + 1) < w0.heap.size := hO.lt
  have HZ0 := Lib.hid (show ∀ x ∈ [(w.heap.size + 1), (w.heap.size + 1)], w.heap.size ≤ x by simp)
  have HR0 := Lib.hid (s0.keep hk0 (fun _ => Apart.none _))
  have HR1 := Lib.hid (s1.keep hk0 (fun _ => Apart.none _))
  have HR2 := Lib.hid (s2.keep hk0 (fun _ => Apart.none _))
  have HR3 := Lib.hid (s3.keep hk0 (fun _ => Apart.none _))
  have HR4 := Lib.hid (s4.keep hk0 (fun _ => Apart.none _))
  have HA0 := Lib.hid (s0.apart HZ0.out)
  have HP0 := Lib.hid (fun (X : List Nat) (hX : ∀ x ∈ X, w.heap.size ≤ x) => s0.apart hX)
  have HA1 := Lib.hid (s1.apart HZ0.out)
  have HP1 := Lib.hid (fun (X : List Nat) (hX : ∀ x ∈ X, w.heap.size ≤ x) => s1.apart hX)
  have HA2 := Lib.hid (s2.apart HZ0.out)
  have HP2 := Lib.hid (fun (X : List Nat) (hX : ∀ x ∈ X, w.heap.size ≤ x) => s2.apart hX)
  have HA3 := Lib.hid (s3.apart HZ0.out)
  have HP3 := Lib.hid (fun (X : List Nat) (hX : ∀ x ∈ X, w.heap.size ≤ x) => s3.apart hX)
  have HA4 := Lib.hid (s4.apart HZ0.out)
  have HP4 := Lib.hid (fun (X : List Nat) (hX : ∀ x ∈ X, w.heap.size ≤ x) => s4.apart hX)
  have HI0 := Lib.hid s0.1
  have HI4 := Lib.hid s4.1
  have HO0 := Lib.hid own0
  have HO4 := Lib.hid own4
  have HB0 := Lib.hid hb0
  have HK0 := Lib.hid hk0
  have hc0' : ∀ j, j < seats.length → w0.cell? ⟨b0, o0 + j, none⟩ = some (.int .i64 (seats.getD j 0)) := fun j hj => hk0.cellAt (cel0 j hj) (by simp)
  have hc4' : ∀ j, j < n.length → w0.cell? ⟨b4, o4 + j, none⟩ = some (.int .i64 (n.getD j 0)) := fun j hj => hk0.cellAt (cel4 j hj) (by simp)
  have HC0 := Lib.hid hc0'
  have HC4 := Lib.hid hc4'
  have hm0 : n0 ≤ 66 := by omega
  have hm4 : n4 ≤ 200 := by omega
  have HN0 := Lib.hid hn0
  have HN4 := Lib.hid hn4
  clear hn0 hn4
  have e0 := hb0.cell
  unfold repV at e0
  have HI0n := Lib.hid idx0
  have HI4n := Lib.hid idx4
  clear hba hka s0 s1 s2 s3 s4 own0 own4 hb0 hk0 hc0' hc4' cel0 cel4 idx0 idx4
  have HWS := Lib.hid (show Wrote 125 (w.heap.size + 1) (w.heap.size + 1) [] w0 w0 from Wrote.start hO)
  clear hO
  go_enter Tryd.func31, Tryd.ntmps31
  go_wp2_with fail
  clear hwa hw0
  obtain ⟨⟨g1, hB1, hg1⟩, hk1⟩ := HWS.out
  have HKK1 := Lib.hid hk1
  clear hk1
  refine (outInt_any (w.heap.size + 1) g1 _ code w0 hB1 hc (by unfold Room; (try simp only [List.length_append]); (try simp only [List.length_nil]); omega)).mono ?_
  rintro e x1 ⟨rfl, hW1⟩
  have HW1 : Hid (Wrote 125 (w.heap.size + 1) (w.heap.size + 1) (eb code) w0 x1) := Lib.hid ((Wrote.trans HKK1.out hg1 hW1).same (by simp [eb]))

  clear hW1 hB1 HKK1
  clear e0
  have hbx1 := HB0.out.keep HW1.out.2 (nmem2 (by omega) (by omega))
  have ex1 := hbx1.cell
  unfold repV at ex1
  clear hbx1
  go_wp2_with fail
  obtain ⟨⟨g2, hB2, hg2⟩, hk2⟩ := HW1.out
  have HKK2 := Lib.hid hk2
  clear hk2
  refine (outInt_any (w.heap.size + 1) g2 _ at' x1 hB2 ha (by unfold Room; (try simp only [List.length_append]); (try simp only [List.length_nil]); omega)).mono ?_
  rintro e x2 ⟨rfl, hW2⟩
  have HW2 : Hid (Wrote 125 (w.heap.size + 1) (w.heap.size + 1) (eb code ++ eb at') w0 x2) := Lib.hid ((Wrote.trans HKK2.out hg2 hW2).same (by simp [eb]))

  clear hW2 hB2 HKK2
  clear ex1
  have hbx2 := HB0.out.keep HW2.out.2 (nmem2 (by omega) (by omega))
  have ex2 := hbx2.cell
  unfold repV at ex2
  clear hbx2
  go_wp2_with fail
  obtain ⟨⟨g3, hB3, hg3⟩, hk3⟩ := HW2.out
  have HKK3 := Lib.hid hk3
  clear hk3
  refine (outInt_any (w.heap.size + 1) g3 _ n0 x2 hB3 (by unfold I64; omega) (by unfold Room; (try simp only [List.length_append]); (try simp only [List.length_nil]); omega)).mono ?_
  rintro e x3 ⟨rfl, hW3⟩
  have HW3 : Hid (Wrote 125 (w.heap.size + 1) (w.heap.size + 1) (eb code ++ (eb at' ++ eb (n0 : Int))) w0 x3) := Lib.hid ((Wrote.trans HKK3.out hg3 hW3).same (by simp [eb]))

  clear hW3 hB3 HKK3
  clear ex2
  have hbx3 := HB0.out.keep HW3.out.2 (nmem2 (by omega) (by omega))
  have ex3 := hbx3.cell
  unfold repV at ex3
  clear hbx3
  go_wp2_with fail
  have ln0 := eb_len (n0 : Int) (by unfold I64; omega)
  go_loopw [21] (fun i wr => ∃ k : Nat, i = .int .i64 k ∧ k ≤ n0 ∧ Wrote 125 (w.heap.size + 1) (w.heap.size + 1) (eb code ++ (eb at' ++ (eb (n0 : Int) ++ ebK seats (3 * k)))) w0 wr) (fun i _ => n0 - (intOf i).toNat)
  case atStart => exact ⟨0, rfl, by omega, HW3.out.same (by simp [ebK_zero])⟩
  case round =>
    obtain ⟨k, rfl, hk, hW⟩ := hrel
    clear ex3
    have hn0 := HN0.out
    by_cases hlt : k < n0
    · have HW := Lib.hid hW
      have hne : seats ≠ [] := by rintro rfl; simp at hn0; omega
      have hkr : ∀ j, j < seats.length → wr.cell? ⟨b0, o0 + j, none⟩ = some (.int .i64 (seats.getD j 0)) := fun j hj => hW.2.cellAt (HC0.out j hj) (HA0.out hne b0 (HO0.out hne))
      have d0 : wr.cell? ⟨b0, o0 + k * 3, none⟩ = some (.int .i64 (seats.getD (3 * k) 0)) := by rw [show o0 + k * 3 = o0 + (3 * k) by omega]; exact hkr _ (by omega)
      have d1 : wr.cell? ⟨b0, o0 + k * 3 + 1, none⟩ = some (.int .i64 (seats.getD (3 * k + 1) 0)) := by rw [show o0 + k * 3 + 1 = o0 + (3 * k + 1) by omega]; exact hkr _ (by omega)
      have d2 : wr.cell? ⟨b0, o0 + k * 3 + 2, none⟩ = some (.int .i64 (seats.getD (3 * k + 2) 0)) := by rw [show o0 + k * 3 + 2 = o0 + (3 * k + 2) by omega]; exact hkr _ (by omega)
      have q0 : I64 (seats.getD (3 * k) 0) := HR0.out.i64 _ (by omega)
      have q1 : I64 (seats.getD (3 * k + 1) 0) := HR0.out.i64 _ (by omega)
      have q2 : I64 (seats.getD (3 * k + 2) 0) := HR0.out.i64 _ (by omega)
      have l5 := ebK_len seats (3 * k) HI0.out
      have t0 := ebK_succ seats (3 * k) (by omega)
      have t1 := ebK_succ seats (3 * k + 1) (by omega)
      have t2 := ebK_succ seats (3 * k + 2) (by omega)
      rw [t0] at t1
      rw [t1] at t2
      have HT2 := Lib.hid t2
      have hix : ∀ w' : World, (Instr.indexAt 56 v0 (.int .i64 k)).run Tryd.prog w' = .ok (.pointer (some ⟨b0, o0 + k * 3, none⟩)) w' := fun w' => HI0n.out k w' hlt
      have p0 := eb_len _ q0
      have p1 := eb_len _ q1
      have p2 := eb_len _ q2
      generalize seats.getD (3 * k) 0 = y0 at *
      generalize seats.getD (3 * k + 1) 0 = y1 at *
      generalize seats.getD (3 * k + 2) 0 = y2 at *
      have Q0 := Lib.hid q0
      have Q1 := Lib.hid q1
      have Q2 := Lib.hid q2
      obtain ⟨wt, hwt⟩ : ∃ wt, wr.alloc (.cells #[.int .i64 y0, .int .i64 y1, .int .i64 y2] 130) = wt := ⟨_, rfl⟩
      have hbt : Blk wt wr.heap.size 130 #[.int .i64 y0, .int .i64 y1, .int .i64 y2] := by rw [← hwt]; exact Blk.new _ _ _
      have HWt : Hid (Wrote 125 (w.heap.size + 1) (w.heap.size + 1) (eb code ++ (eb at' ++ (eb (n0 : Int) ++ ebK seats (3 * k)))) w0 wt) := by apply Lib.hid; rw [← hwt]; exact HW.out.alloc _
      have f0 := hbt.cell
      have hsz : (w.heap.size + 1) < wr.heap.size := by have := HW.out.2.size; omega
      clear t0 t1 t2 q0 q1 q2 hkr hW HW hne hn0
      go_wp2_with fail
      clear hwt hix d0 d1 d2
      obtain ⟨⟨g4, hB4, hg4⟩, hk4⟩ := HWt.out
      have HKK4 := Lib.hid hk4
      clear hk4
      refine (outInt_any (w.heap.size + 1) g4 _ y0 wt hB4 Q0.out (by unfold Room; (try simp only [List.length_append]); (try simp only [List.length_nil]); omega)).mono ?_
      rintro e x4 ⟨rfl, hW4⟩
      have HW4 : Hid (Wrote 125 (w.heap.size + 1) (w.heap.size + 1) (eb code ++ (eb at' ++ (eb (n0 : Int) ++ (ebK seats (3 * k) ++ eb y0)))) w0 x4) := Lib.hid ((Wrote.trans HKK4.out hg4 hW4).same (by simp [eb]))

      have hbt4 := hbt.keep hW4.2 (nmem2 (by omega) (hB4.gneT hbt (by decide) (by omega)))
      clear hW4 hB4 HKK4
      have f4 := hbt4.cell
      clear f0 hbt
      go_wp2_with fail
      obtain ⟨⟨g5, hB5, hg5⟩, hk5⟩ := HW4.out
      have HKK5 := Lib.hid hk5
      clear hk5
      refine (outInt_any (w.heap.size + 1) g5 _ y1 x4 hB5 Q1.out (by unfold Room; (try simp only [List.length_append]); (try simp only [List.length_nil]); omega)).mono ?_
      rintro e x5 ⟨rfl, hW5⟩
      have HW5 : Hid (Wrote 125 (w.heap.size + 1) (w.heap.size + 1) (eb code ++ (eb at' ++ (eb (n0 : Int) ++ (ebK seats (3 * k) ++ (eb y0 ++ eb y1))))) w0 x5) := Lib.hid ((Wrote.trans HKK5.out hg5 hW5).same (by simp [eb]))

      have hbt5 := hbt4.keep hW5.2 (nmem2 (by omega) (hB5.gneT hbt4 (by decide) (by omega)))
      clear hW5 hB5 HKK5
      have f5 := hbt5.cell
      clear f4 hbt4
      go_wp2_with fail
      obtain ⟨⟨g6, hB6, hg6⟩, hk6⟩ := HW5.out
      have HKK6 := Lib.hid hk6
      clear hk6
      refine (outInt_any (w.heap.size + 1) g6 _ y2 x5 hB6 Q2.out (by unfold Room; (try simp only [List.length_append]); (try simp only [List.length_nil]); omega)).mono ?_
      rintro e x6 ⟨rfl, hW6⟩
      have HW6 : Hid (Wrote 125 (w.heap.size + 1) (w.heap.size + 1) (eb code ++ (eb at' ++ (eb (n0 : Int) ++ (ebK seats (3 * k) ++ (eb y0 ++ (eb y1 ++ eb y2)))))) w0 x6) := Lib.hid ((Wrote.trans HKK6.out hg6 hW6).same (by simp [eb]))

      clear hW6 hB6 HKK6
      have HN : Hid (Wrote 125 (w.heap.size + 1) (w.heap.size + 1) (eb code ++ (eb at' ++ (eb (n0 : Int) ++ ebK seats (3 * (k + 1))))) w0 x6) := Lib.hid (HW6.out.same (by rw [show 3 * (k + 1) = 3 * k + 1 + 1 + 1 by omega, HT2.out]; simp))
      clear f5 hbt5 HW4 HW5 HW6 HWt
      go_wp2_with fail
      go_roundw
      case rel => exact ⟨k + 1, by go_num, by omega, HN.out⟩
      case measure => simp [intOf]; omega
    · obtain rfl : k = n0 := by omega
      have HW : Hid (Wrote 125 (w.heap.size + 1) (w.heap.size + 1) (eb code ++ (eb at' ++ sec 3 seats)) w0 wr) := Lib.hid (hW.same (by rw [ebK_all _ _ (by omega)]; unfold sec; rw [show seats.length / 3 = k by omega]))
      have hbx := HB0.out.keep hW.2 (nmem2 (by omega) (by omega))
      have ex := hbx.cell
      unfold repV at ex
      clear hbx hW hn0
      go_wp2_with fail
      clear ex
      obtain ⟨⟨g7, hB7, hg7⟩, hk7⟩ := HW.out
      have hR7 := HR1.out.keep hk7 (HP1.out [(w.heap.size + 1), (w.heap.size + 1)] (by simp))
      have hgw7 : ∀ x ∈ [(w.heap.size + 1), g7], w.heap.size ≤ x := by simp; omega
      have HKK7 := Lib.hid hk7
      clear hk7
      refine (rTasks_any (w.heap.size + 1) g7 _ v1 out wr hB7 hR7 (HP1.out _ hgw7) z1 (by unfold Room; simp only [List.length_append]; omega)).mono ?_
      rintro e x7 ⟨rfl, hW7⟩
      have HW7 : Hid (Wrote 125 (w.heap.size + 1) (w.heap.size + 1) (eb code ++ (eb at' ++ (sec 3 seats ++ sec 2 out))) w0 x7) := Lib.hid ((Wrote.trans HKK7.out hg7 hW7).same (by simp))
      clear hW7 hB7 HKK7 hR7 hgw7
      have hbx7 := HB0.out.keep HW7.out.2 (nmem2 (by omega) (by omega))
      have ex7 := hbx7.cell
      unfold repV at ex7
      clear hbx7
      go_wp2_with fail
      clear ex7
      obtain ⟨⟨g8, hB8, hg8⟩, hk8⟩ := HW7.out
      have hR8 := HR2.out.keep hk8 (HP2.out [(w.heap.size + 1), (w.heap.size + 1)] (by simp))
      have hgw8 : ∀ x ∈ [(w.heap.size + 1), g8], w.heap.size ≤ x := by simp; omega
      have HKK8 := Lib.hid hk8
      clear hk8
      refine (rTasks_any (w.heap.size + 1) g8 _ v2 forced x7 hB8 hR8 (HP2.out _ hgw8) z2 (by unfold Room; simp only [List.length_append]; omega)).mono ?_
      rintro e x8 ⟨rfl, hW8⟩
      have HW8 : Hid (Wrote 125 (w.heap.size + 1) (w.heap.size + 1) (eb code ++ (eb at' ++ (sec 3 seats ++ (sec 2 out ++ sec 2 forced)))) w0 x8) := Lib.hid ((Wrote.trans HKK8.out hg8 hW8).same (by simp))
      clear hW8 hB8 HKK8 hR8 hgw8
      have hbx8 := HB0.out.keep HW8.out.2 (nmem2 (by omega) (by omega))
      have ex8 := hbx8.cell
      unfold repV at ex8
      clear hbx8
      go_wp2_with fail
      clear ex8
      obtain ⟨⟨g9, hB9, hg9⟩, hk9⟩ := HW8.out
      have hR9 := HR3.out.keep hk9 (HP3.out [(w.heap.size + 1), (w.heap.size + 1)] (by simp))
      have hgw9 : ∀ x ∈ [(w.heap.size + 1), g9], w.heap.size ≤ x := by simp; omega
      have HKK9 := Lib.hid hk9
      clear hk9
      refine (rFills_any (w.heap.size + 1) g9 _ v3 fills x8 hB9 hR9 (HP3.out _ hgw9) z3 (by unfold Room; simp only [List.length_append]; omega)).mono ?_
      rintro e x9 ⟨rfl, hW9⟩
      have HW9 : Hid (Wrote 125 (w.heap.size + 1) (w.heap.size + 1) (eb code ++ (eb at' ++ (sec 3 seats ++ (sec 2 out ++ (sec 2 forced ++ sec 6 fills))))) w0 x9) := Lib.hid ((Wrote.trans HKK9.out hg9 hW9).same (by simp))
      clear hW9 hB9 HKK9 hR9 hgw9
      have hbx9 := HB0.out.keep HW9.out.2 (nmem2 (by omega) (by omega))
      have ex9 := hbx9.cell
      unfold repV at ex9
      clear hbx9
      go_wp2_with fail
      clear ex9
      obtain ⟨⟨g10, hB10, hg10⟩, hk10⟩ := HW9.out
      have HKK10 := Lib.hid hk10
      clear hk10
      refine (outInt_any (w.heap.size + 1) g10 _ n4 x9 hB10 (by unfold I64; omega) (by unfold Room; (try simp only [List.length_append]); (try simp only [List.length_nil]); omega)).mono ?_
      rintro e x10 ⟨rfl, hW10⟩
      have HW10 : Hid (Wrote 125 (w.heap.size + 1) (w.heap.size + 1) (eb code ++ (eb at' ++ (sec 3 seats ++ (sec 2 out ++ (sec 2 forced ++ (sec 6 fills ++ eb (n4 : Int))))))) w0 x10) := Lib.hid ((Wrote.trans HKK10.out hg10 hW10).same (by simp [eb]))

      clear hW10 hB10 HKK10
      have hbx10 := HB0.out.keep HW10.out.2 (nmem2 (by omega) (by omega))
      have ex10 := hbx10.cell
      unfold repV at ex10
      clear hbx10
      go_wp2_with fail
      have ln4 := eb_len (n4 : Int) (by unfold I64; omega)
      go_loopw [53] (fun i wr => ∃ k : Nat, i = .int .i64 k ∧ k ≤ n4 ∧ Wrote 125 (w.heap.size + 1) (w.heap.size + 1) (eb code ++ (eb at' ++ (sec 3 seats ++ (sec 2 out ++ (sec 2 forced ++ (sec 6 fills ++ (eb (n4 : Int) ++ ebK n k))))))) w0 wr) (fun i _ => n4 - (intOf i).toNat)
      case atStart => exact ⟨0, rfl, by omega, HW10.out.same (by simp [ebK_zero])⟩
      case round =>
        obtain ⟨j, rfl, hj, hWj⟩ := hrel
        clear ex10
        have hn4 := HN4.out
        by_cases hlj : j < n4
        · have HWj := Lib.hid hWj
          have hne : n ≠ [] := by rintro rfl; simp at hn4; omega
          have d0 : wr.cell? ⟨b4, o4 + j, none⟩ = some (.int .i64 (n.getD j 0)) := hWj.2.cellAt (HC4.out j (by omega)) (HA4.out hne b4 (HO4.out hne))
          have q0 : I64 (n.getD j 0) := HR4.out.i64 _ (by omega)
          have l5 := ebK_len n j HI4.out
          have t0 := ebK_succ n j (by omega)
          have HT0 := Lib.hid t0
          have hix : ∀ w' : World, (Instr.indexAt 49 v4 (.int .i64 j)).run Tryd.prog w' = .ok (.pointer (some ⟨b4, o4 + j, none⟩)) w' := fun w' => by have := HI4n.out j w' hlj; rw [Nat.mul_one] at this; exact this
          generalize n.getD j 0 = y0 at *
          have Q0 := Lib.hid q0
          clear t0 q0 hWj hne hn4
          go_wp2_with fail
          clear hix d0
          obtain ⟨⟨g11, hB11, hg11⟩, hk11⟩ := HWj.out
          have HKK11 := Lib.hid hk11
          clear hk11
          refine (outInt_any (w.heap.size + 1) g11 _ y0 wr hB11 Q0.out (by unfold Room; (try simp only [List.length_append]); (try simp only [List.length_nil]); omega)).mono ?_
          rintro e x11 ⟨rfl, hW11⟩
          have HW11 : Hid (Wrote 125 (w.heap.size + 1) (w.heap.size + 1) (eb code ++ (eb at' ++ (sec 3 seats ++ (sec 2 out ++ (sec 2 forced ++ (sec 6 fills ++ (eb (n4 : Int) ++ (ebK n j ++ eb y0)))))))) w0 x11) := Lib.hid ((Wrote.trans HKK11.out hg11 hW11).same (by simp [eb]))

          clear hW11 hB11 HKK11
          have HN : Hid (Wrote 125 (w.heap.size + 1) (w.heap.size + 1) (eb code ++ (eb at' ++ (sec 3 seats ++ (sec 2 out ++ (sec 2 forced ++ (sec 6 fills ++ (eb (n4 : Int) ++ ebK n (j + 1)))))))) w0 x11) := Lib.hid (HW11.out.same (by rw [HT0.out]))
          clear HW11 HWj
          go_wp2_with fail
          go_roundw
          case rel => exact ⟨j + 1, by go_num, by omega, HN.out⟩
          case measure => simp [intOf]; omega
        · obtain rfl : j = n4 := by omega
          have hall : eb code ++ (eb at' ++ (sec 3 seats ++ (sec 2 out ++ (sec 2 forced ++ (sec 6 fills ++ (eb (j : Int) ++ ebK n j)))))) = D := by
            rw [HD.out, ebK_all _ _ (by omega)]
            unfold Rep.bytes sec
            rw [show n.length / 1 = j by omega]
          rw [hall] at hWj
          obtain ⟨⟨gz, hBz, hgz⟩, hkz⟩ := hWj
          have hDne : D ≠ [] := by
            rw [HD.out]; unfold Rep.bytes
            intro h
            exact enc_pos _ (List.append_eq_nil_iff.1 h).1
          have HDN := Lib.hid hDne
          have HKZ := Lib.hid hkz
          clear hall hDne hkz hn4
          go_wp2_with fail
          refine (outBytes_any (w.heap.size + 1) gz D wr hBz HDN.out).mono ?_
          rintro e w9 ⟨rfl, hk9⟩
          have hK : Keeps [] w w9 := by
            have q1 : Keeps [] w wr := HK0.out.trans' HKZ.out (by simp)
            exact q1.trans' hk9 (by simp; omega)
          clear hk9 hBz
          go_wp2_with fail
          go_ret
          exact ⟨rfl, hK⟩

end Go.Proofs.YtnlhmlgoipnekaaDoor
