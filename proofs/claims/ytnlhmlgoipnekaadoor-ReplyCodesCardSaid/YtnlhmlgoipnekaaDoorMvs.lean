/- The three movers as movers: what order.over does by each. -/
import Derived.Test.YtnlhmlgoipnekaaDoorOver
import Derived.Test.YtnlhmlgoipnekaaDoorMov
import Derived.Shelf.Abstract
namespace Go.Proofs.YtnlhmlgoipnekaaDoor
open Go.RowKit

theorem len10 (c : Cmd) (hc : c.Ok) (o : Nat) (h1 : 1 ≤ o) (h2 : o ≤ 9) : (enc (zig (c.get o))).length ≤ 10 :=
  enc_len10 _ (zig_lt _ (hc.2.1 o h1 h2).1 (hc.2.1 o h1 h2).2)

theorem len10' (x : Int) (h : I64 x) : (enc (zig x)).length ≤ 10 := enc_len10 _ (zig_lt _ h.1 h.2)

def clnM (cb : Nat) (k : Int) (ws : World) : Mover (Cmd × Nat) where
  T := 173
  mv := .agg #[]
  cb := cb
  kind := k
  fnum := 162
  fvec := 163
  fflag := 161
  Inv s w := s.1.kind = k ∧ Blk w cb 27 s.1.cells ∧ Keeps [cb] ws w
  num o s := (s.1.put o 0, s.2 + 1)
  vec s := (s.1.putV (0, 0, 0, 0), s.2 + 1)
  flag s := (s.1.putF false, s.2 + 1)
  nnum := fun _ => by kernel_rfl
  nvec := fun _ => by kernel_rfl
  nflag := fun _ => by kernel_rfl
  mnum := fun _ => by kernel_rfl
  mvec := fun _ => by kernel_rfl
  mflag := fun _ => by kernel_rfl
  enum := enters_of Tryd.func162 (by kernel_rfl) rfl
  evec := enters_of Tryd.func163 (by kernel_rfl) rfl
  eflag := enters_of Tryd.func161 (by kernel_rfl) rfl
  hkind := fun s w h => by rw [h.2.1.cell, ← h.1]; rfl
  hdrew := fun _ _ h => ⟨h.1, h.2.1.drew, h.2.2.drew⟩
  lim := fun s => s.2
  lnum := fun _ _ => rfl
  lvec := fun _ => rfl
  lflag := fun _ => rfl
  cnum := fun s w o h1 h2 _ h => (cleanNum cb o s.1 w h.2.1 h1 h2).mono (by
    rintro e w' ⟨rfl, hb, hk⟩
    exact ⟨rfl, by rw [Cmd.put_kind]; exact h.1, hb, h.2.2.trans hk⟩)
  cvec := fun s w _ h => (cleanVec cb s.1 w h.2.1).mono (by
    rintro e w' ⟨rfl, hb, hk⟩
    exact ⟨rfl, h.1, hb, h.2.2.trans hk⟩)
  cflag := fun s w _ h => (cleanFlag cb s.1 w h.2.1).mono (by
    rintro e w' ⟨rfl, hb, hk⟩
    exact ⟨rfl, h.1, hb, h.2.2.trans hk⟩)

/-- What the writer's invariant says. -/
def WrInv (cb ob g : Nat) (c : Cmd) (ws : World) (s : List UInt8 × Nat) (w : World) : Prop :=
  Blk w cb 27 c.cells ∧ Wrote 125 ob g s.1 ws w ∧ s.1.length ≤ 20 + 40 * s.2

theorem WrInv.step {cb ob g : Nat} {c : Cmd} {ws w w' : World} {s : List UInt8 × Nat} {bs : List UInt8} (h : WrInv cb ob g c ws s w) {g1 : Nat} (hb1 : Bld 125 ob g1 s.1 w) (hg1 : g1 = g ∨ ws.heap.size ≤ g1) (hW : Wrote 125 ob g1 bs w w') (hl : bs.length ≤ s.1.length + 40) : WrInv cb ob g c ws (bs, s.2 + 1) w' := by
  obtain ⟨h1, ⟨_, hk⟩, h3⟩ := h
  have hne : cb ≠ ob := by obtain ⟨p, v, hbk, _⟩ := hb1; exact h1.ne hbk (by decide)
  refine ⟨h1.keep hW.2 (nmem2 hne (hb1.gneT h1 (by decide) hne)), Wrote.trans hk hg1 hW, ?_⟩
  show bs.length ≤ 20 + 40 * (s.2 + 1)
  omega

def wrtM (cb ob g : Nat) (c : Cmd) (hc : c.Ok) (ws : World) : Mover (List UInt8 × Nat) where
  T := 171
  mv := .agg #[.pointer (some ⟨ob, 0, none⟩)]
  cb := cb
  kind := c.kind
  fnum := 158
  fvec := 159
  fflag := 157
  Inv := WrInv cb ob g c ws
  num o s := (s.1 ++ enc (zig (c.get o)), s.2 + 1)
  vec s := (s.1 ++ enc (zig c.v0) ++ enc (zig c.v1) ++ enc (zig c.v2) ++ enc (zig c.v3), s.2 + 1)
  flag s := (s.1 ++ enc (zig (if c.flag then 1 else 0)), s.2 + 1)
  nnum := fun _ => by kernel_rfl
  nvec := fun _ => by kernel_rfl
  nflag := fun _ => by kernel_rfl
  mnum := fun _ => by kernel_rfl
  mvec := fun _ => by kernel_rfl
  mflag := fun _ => by kernel_rfl
  enum := enters_of Tryd.func158 (by kernel_rfl) rfl
  evec := enters_of Tryd.func159 (by kernel_rfl) rfl
  eflag := enters_of Tryd.func157 (by kernel_rfl) rfl
  hkind := fun s w h => by rw [h.1.cell]; rfl
  hdrew := fun _ _ h => ⟨h.1.drew, ⟨h.2.1.1, h.2.1.2.drew⟩, h.2.2⟩
  lim := fun s => s.2
  lnum := fun _ _ => rfl
  lvec := fun _ => rfl
  lflag := fun _ => rfl
  cnum := fun s w o h1 h2 hl h => by
    obtain ⟨⟨g1, hb1, hg1⟩, _⟩ := h.2.1
    have h3 := h.2.2
    refine (writeNum cb ob g1 o c s.1 w h.1 hb1 h1 h2 (hc.2.1 o h1 h2) (by unfold Room; omega)).mono ?_
    rintro e w' ⟨rfl, hW⟩
    exact ⟨rfl, h.step hb1 hg1 hW (by have := len10 c hc o h1 h2; simp; omega)⟩
  cvec := fun s w hl h => by
    obtain ⟨⟨g1, hb1, hg1⟩, _⟩ := h.2.1
    have h3 := h.2.2
    refine (writeVec cb ob g1 c s.1 w h.1 hb1 hc (by unfold Room; omega)).mono ?_
    rintro e w' ⟨rfl, hW⟩
    obtain ⟨_, _, n0, n1, n2, n3⟩ := hc
    exact ⟨rfl, h.step hb1 hg1 hW (by have := len10' _ n0; have := len10' _ n1; have := len10' _ n2; have := len10' _ n3; simp; omega)⟩
  cflag := fun s w hl h => by
    obtain ⟨⟨g1, hb1, hg1⟩, _⟩ := h.2.1
    have h3 := h.2.2
    refine (writeFlag cb ob g1 c s.1 w h.1 hb1 (by unfold Room; omega)).mono ?_
    rintro e w' ⟨rfl, hW⟩
    exact ⟨rfl, h.step hb1 hg1 hW (by have := len10' (if c.flag then 1 else 0) (by split <;> (unfold I64; omega)); simp; omega)⟩

/-- What the reader's invariant says. -/
def RdInv (cb ib : Nat) (k : Int) (S : ByteArray) (ev : Addr) (ws : World) (s : (Cmd × RS) × Nat) (w : World) : Prop :=
  s.1.1.kind = k ∧ Blk w cb 27 s.1.1.cells ∧ InAt ib S s.1.2 ev w ∧ w.cell? ⟨1, 0, none⟩ = some (errv ev) ∧ Keeps [cb, ib] ws w

def rdrM (cb ib : Nat) (k : Int) (S : ByteArray) (ev : Addr) (ws : World) (hS : Room S.size) (hg : 1 < ib) (hg2 : 1 < cb) : Mover ((Cmd × RS) × Nat) where
  T := 107
  mv := .agg #[.pointer (some ⟨ib, 0, none⟩)]
  cb := cb
  kind := k
  fnum := 148
  fvec := 149
  fflag := 147
  Inv := RdInv cb ib k S ev ws
  num o s := ((s.1.1.put o (rdInt S s.1.2).1, (rdInt S s.1.2).2), s.2 + 1)
  vec s := ((s.1.1.putV (rdVec S s.1.2).1, (rdVec S s.1.2).2), s.2 + 1)
  flag s := ((s.1.1.putF (rdBool S s.1.2).1, (rdBool S s.1.2).2), s.2 + 1)
  nnum := fun _ => by kernel_rfl
  nvec := fun _ => by kernel_rfl
  nflag := fun _ => by kernel_rfl
  mnum := fun _ => by kernel_rfl
  mvec := fun _ => by kernel_rfl
  mflag := fun _ => by kernel_rfl
  enum := enters_of Tryd.func148 (by kernel_rfl) rfl
  evec := enters_of Tryd.func149 (by kernel_rfl) rfl
  eflag := enters_of Tryd.func147 (by kernel_rfl) rfl
  hkind := fun s w h => by rw [h.2.1.cell, ← h.1]; rfl
  hdrew := fun _ _ h => ⟨h.1, h.2.1.drew, h.2.2.1.drew, h.2.2.2.1, h.2.2.2.2.drew⟩
  lim := fun s => s.2
  lnum := fun _ _ => rfl
  lvec := fun _ => rfl
  lflag := fun _ => rfl
  cnum := fun s w o h1 h2 _ h => (readNum cb ib o s.1.1 S s.1.2 ev w h.2.1 h.2.2.1 hS h.2.2.2.1 hg h1 h2).mono (by
    rintro e w' ⟨rfl, hb, hI, hk⟩
    exact ⟨rfl, by rw [← h.1]; exact Cmd.put_kind _ _ _, hb, hI, hk.cellAt h.2.2.2.1 (nmem2 (by omega) (by omega)), h.2.2.2.2.trans hk⟩)
  cvec := fun s w _ h => (readVec cb ib s.1.1 S s.1.2 ev w h.2.1 h.2.2.1 hS h.2.2.2.1 hg).mono (by
    rintro e w' ⟨rfl, hb, hI, hk⟩
    exact ⟨rfl, h.1, hb, hI, hk.cellAt h.2.2.2.1 (nmem2 (by omega) (by omega)), h.2.2.2.2.trans hk⟩)
  cflag := fun s w _ h => (readFlag cb ib s.1.1 S s.1.2 ev w h.2.1 h.2.2.1 hS h.2.2.2.1 hg).mono (by
    rintro e w' ⟨rfl, hb, hI, hk⟩
    exact ⟨rfl, h.1, hb, hI, hk.cellAt h.2.2.2.1 (nmem2 (by omega) (by omega)), h.2.2.2.2.trans hk⟩)

end Go.Proofs.YtnlhmlgoipnekaaDoor
