/- package order: written, wrong, Bytes; the globals. -/
import Derived.Test.YtnlhmlgoipnekaaDoorGood
import Derived.Test.YtnlhmlgoipnekaaDoorAs
namespace Go.Proofs.YtnlhmlgoipnekaaDoor
open Go.RowKit

/-- The package-level errors that the orders' road reads, from block B on nothing of theirs lies. -/
structure Glob (B : Nat) (ea ef : Addr) (w : World) : Prop where
  arg : w.cell? ⟨0, 0, none⟩ = some (errv ea)
  form : w.cell? ⟨1, 0, none⟩ = some (errv ef)
  etype : w.cell? ⟨14, 0, none⟩ = some (.iface 176 (.agg #[.pointer (some ⟨18, 33, none⟩)]))
  oarg : Own w ea
  oform : Own w ef
  larg : ea.block < B
  lform : ef.block < B
  base : 14 < B ∧ 0 < B ∧ 1 < B
  size : B ≤ w.heap.size

theorem Glob.keep {B : Nat} {ea ef : Addr} {w w' : World} {X : List Nat} (h : Glob B ea ef w) (k : Keeps X w w') (hX : ∀ x ∈ X, B ≤ x) : Glob B ea ef w' := by
  have hb := h.base
  have hs := h.size
  have h1 := h.larg
  have h2 := h.lform
  refine ⟨k.cellAt h.arg (fun hx => ?_), k.cellAt h.form (fun hx => ?_), k.cellAt h.etype (fun hx => ?_), ?_, ?_, h1, h2, hb, Nat.le_trans hs k.size⟩
  · have := hX _ hx; omega
  · have := hX _ hx; omega
  · have := hX _ hx; omega
  · obtain ⟨c, t, e⟩ := h.oarg
    exact ⟨c, t, by rw [k.block _ (by omega) (fun hx => by have := hX _ hx; omega)]; exact e⟩
  · obtain ⟨c, t, e⟩ := h.oform
    exact ⟨c, t, by rw [k.block _ (by omega) (fun hx => by have := hX _ hx; omega)]; exact e⟩

theorem Glob.keep0 {B : Nat} {ea ef : Addr} {w w' : World} (h : Glob B ea ef w) (k : Keeps [] w w') : Glob B ea ef w' := h.keep k (by simp)

set_option maxRecDepth 100000 in
set_option maxHeartbeats 1000000 in
theorem written_any (c : Cmd) (w : World) (hc : c.Ok) (h1 : 1 ≤ c.kind) (h2 : c.kind ≤ 21) :
    Calls Tryd.prog 47 #[.agg c.cells] w fun e w' => e = .returned (.string ⟨c.bytes.toArray⟩) ∧ Keeps [] w w' := by
  obtain ⟨d, hd⟩ : ∃ d, d = c.bytes := ⟨_, rfl⟩
  rw [← hd]
  have HD := Lib.hid hd
  clear hd
  go_enter Tryd.func47, Tryd.ntmps47
  have cc : c.cells[0]? = some (.int .i64 c.kind) := rfl
  go_wp2_with fail
  obtain ⟨w0, hw0⟩ : ∃ w0, w0 = (w.alloc (.cells c.cells 27)).alloc (.cells #[.pointer none, .slice none 0 0] 125) := ⟨_, rfl⟩
  have hB : Blk w0 w.heap.size 27 c.cells := by rw [hw0]; exact (Blk.new _ _ _).alloc _
  have hO : Bld 125 (w.heap.size + 1) (w.heap.size + 1) [] w0 := by
    rw [hw0]
    have := Bld.new 125 (w.alloc (.cells c.cells 27))
    simpa using this
  have hk0 : Keeps [] w w0 := by rw [hw0]; exact ((Keeps.refl _ _).alloc _).alloc _
  clear cc
  change Calls _ _ _ ((w.alloc (.cells c.cells 27)).alloc (.cells #[.pointer none, .slice none 0 0] 125)) _
  rw [← hw0]
  clear hw0
  refine (outInt_any _ _ [] c.kind _ hO hc.1 (by unfold Room; decide)).mono ?_
  rintro e w1 ⟨rfl, hW⟩
  go_wp2_with fail
  have hne : w.heap.size ≠ w.heap.size + 1 := by omega
  have hb1 := hB.keep hW.2 (nmem2 hne hne)
  have hl := len10' _ hc.1
  obtain ⟨⟨g1, hb2, hg1⟩, hk1⟩ := hW
  refine (over_any (wrtM w.heap.size (w.heap.size + 1) g1 c hc w1) (enc (zig c.kind), 0) w1 ⟨hb1, Wrote.start (by simpa using hb2), by show (enc (zig c.kind)).length ≤ 20 + 40 * 0; omega⟩ h1 h2 (Nat.zero_le _)).mono ?_
  rintro e w2 ⟨rfl, hi2⟩
  have hrun : ((wrtM w.heap.size (w.heap.size + 1) g1 c hc w1).run (overF (wrtM w.heap.size (w.heap.size + 1) g1 c hc w1).kind) (enc (zig c.kind), 0)).1 = c.bytes := wrtM_run _ _ _ _ _ _ _ _ _
  obtain ⟨_, hW2, _⟩ := hi2
  rw [hrun, ← HD.out] at hW2
  clear hrun
  obtain ⟨⟨g2, hb3, hg2⟩, hk2⟩ := hW2
  have hne0 : d ≠ [] := by
    rw [HD.out]; unfold Cmd.bytes
    intro h
    exact enc_pos _ (List.append_eq_nil_iff.1 h).1
  have HNE := Lib.hid hne0
  clear hne0
  go_wp2_with fail
  refine (outBytes_any _ _ d _ hb3 HNE.out).mono ?_
  rintro e w3 ⟨rfl, hk3⟩
  have hs0 := hk0.size
  have hs1 := hk1.size
  have hs2 := hk2.size
  have hK : Keeps [] w w3 := by
    have q1 := hk0.trans' hk1 (by simp)
    have q2 := q1.trans' hk2 (by
      intro y hy hl
      simp at hy
      have h0 : w.heap.size + 1 ≤ w0.heap.size := by have := hB.lt; omega
      rcases hg1 with rfl | hg1 <;> omega)
    exact q2.trans' hk3 (by
      intro y hy hl
      simp at hy
      have h0 : w.heap.size + 1 ≤ w0.heap.size := by have := hB.lt; omega
      rcases hg1 with rfl | hg1 <;> rcases hg2 with rfl | hg2 <;> omega)
  clear hk0 hk1 hk2 hk3 hb3 hb2 hb1 hB hO
  go_wp2_with fail
  go_ret
  exact ⟨rfl, hK⟩

theorem wrong_any (p : Nat) (ef : Addr) (w : World) (hE : w.cell? ⟨1, 0, none⟩ = some (errv ef)) :
    Calls Tryd.prog 61 #[.int .i64 p] w fun e w' => e = .returned (faultV w.heap.size) ∧ Blk w' w.heap.size 53 #[.string ⟨#[99, 111, 109, 109, 97, 110, 100]⟩, .int .i64 p, errv ef] ∧ Keeps [] w w' := by
  go_enter Tryd.func61, Tryd.ntmps61
  go_wp2_with fail
  go_ret
  exact ⟨rfl, Blk.new _ _ _, (Keeps.refl _ _).alloc _⟩

end Go.Proofs.YtnlhmlgoipnekaaDoor
