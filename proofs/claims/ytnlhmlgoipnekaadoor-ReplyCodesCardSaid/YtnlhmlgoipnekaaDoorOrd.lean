/- package order: rest, Good, written, Trim, Bytes. -/
import Derived.Test.YtnlhmlgoipnekaaDoorMvs
namespace Go.Proofs.YtnlhmlgoipnekaaDoor
open Go.RowKit

def stepClean (c : Cmd) : Fld → Cmd
  | .num o => c.put o 0
  | .vec => c.putV (0, 0, 0, 0)
  | .flag => c.putF false

/-- A command without what its kind has. -/
def Cmd.clean (c : Cmd) : Cmd := (overF c.kind).foldl stepClean c

theorem clnM_run (cb : Nat) (k : Int) (ws : World) (l : List Fld) : ∀ (c : Cmd) (n : Nat), ((clnM cb k ws).run l (c, n)).1 = l.foldl stepClean c := by
  induction l with
  | nil => intro c n; rfl
  | cons f r ih =>
    intro c n
    cases f <;> exact ih _ _

def wrF (c : Cmd) : Fld → List UInt8
  | .num o => enc (zig (c.get o))
  | .vec => enc (zig c.v0) ++ enc (zig c.v1) ++ enc (zig c.v2) ++ enc (zig c.v3)
  | .flag => enc (zig (if c.flag then 1 else 0))

/-- A command's bytes. -/
def Cmd.bytes (c : Cmd) : List UInt8 := enc (zig c.kind) ++ (overF c.kind).flatMap (wrF c)

theorem wrtM_run (cb ob g : Nat) (c : Cmd) (hc : c.Ok) (ws : World) (l : List Fld) : ∀ (bs : List UInt8) (n : Nat), ((wrtM cb ob g c hc ws).run l (bs, n)).1 = bs ++ l.flatMap (wrF c) := by
  induction l with
  | nil => intro bs n; simp [Mover.run]
  | cons f r ih =>
    intro bs n
    cases f
    · refine (ih _ _).trans ?_; simp [wrF]
    · refine (ih _ _).trans ?_; simp [wrF]
    · refine (ih _ _).trans ?_; simp [wrF]

set_option maxRecDepth 100000 in
set_option maxHeartbeats 1000000 in
theorem rest_any (c : Cmd) (w : World) (h1 : 1 ≤ c.kind) (h2 : c.kind ≤ 21) :
    Calls Tryd.prog 49 #[.agg c.cells] w fun e w' => e = .returned (.agg c.clean.cells) ∧ Keeps [] w w' := by
  obtain ⟨d, hd⟩ : ∃ d, d = c.clean := ⟨_, rfl⟩
  rw [← hd]
  have HD := Lib.hid hd
  clear hd
  go_enter Tryd.func49, Tryd.ntmps49
  go_wp2_with fail
  obtain ⟨w0, hw0⟩ : ∃ w0, w0 = (w.alloc (.cells c.cells 27)).alloc (.cells (Cmd.zero 0).cells 27) := ⟨_, rfl⟩
  have hB : Blk w0 w.heap.size 27 c.cells := by rw [hw0]; exact (Blk.new _ _ _).alloc _
  have hB2 : Blk w0 (w.heap.size + 1) 27 (Cmd.zero 0).cells := by rw [hw0]; exact Blk.newAt _ _ (by simp)
  have hk0 : Keeps [] w w0 := by rw [hw0]; exact ((Keeps.refl _ _).alloc _).alloc _
  change Calls _ _ _ ((w.alloc (.cells c.cells 27)).alloc (.cells (Cmd.zero 0).cells 27)) _
  rw [← hw0]
  clear hw0
  refine (over_any (clnM w.heap.size c.kind w0) (c, 0) w0 ⟨rfl, hB, Keeps.refl _ _⟩ h1 h2 (Nat.zero_le _)).mono ?_
  rintro e w1 ⟨rfl, _, hb, hk⟩
  have hrun : ((clnM w.heap.size c.kind w0).run (overF (clnM w.heap.size c.kind w0).kind) (c, 0)).1 = c.clean := clnM_run _ _ _ _ _ _
  rw [hrun, ← HD.out] at hb
  have c1 := hb.cell
  have hr := hB2.keep hk (nmem1 (by omega))
  have r1 := hr.cell
  have g1 := hr.frz
  unfold Cmd.cells at c1 r1
  have hK : Keeps [] w w1 := hk0.trans' hk (by simp)
  clear hrun hk hk0 hB hB2 hb
  go_wp2_with fail
  change bodyPost _ _ _ _ _ (setFrom w1 (w.heap.size + 1) 0 d.cells.toList)
  have q1 := setFrom_whole (ds := d.cells) hr rfl
  have q2 := setFrom_keeps (b := w.heap.size + 1) d.cells.toList 0 w w1 hK (by simp)
  generalize setFrom w1 (w.heap.size + 1) 0 d.cells.toList = w2 at *
  have r2 := q1.cell
  unfold Cmd.cells at r2
  exact bodyPost_ret (v := .agg d.cells) (by simp [results, Tryd.results49, go_sem, r2, Cmd.cells]) rfl ⟨rfl, q2⟩

end Go.Proofs.YtnlhmlgoipnekaaDoor
