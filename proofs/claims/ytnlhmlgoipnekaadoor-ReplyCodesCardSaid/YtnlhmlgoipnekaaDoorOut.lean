/- wire.Out, walked: Int, Vec, Bool, Bytes. -/
import Derived.Test.YtnlhmlgoipnekaaDoorBld
import Derived.Test.YtnlhmlgoipnekaaDoorZig
import Derived.WalkSpells
import Derived.WalkLawsBesides
import Derived.Handy
namespace Go.Proofs.YtnlhmlgoipnekaaDoor
open Go.RowKit

theorem liesOut : LiesB 125 := by unfold LiesB; kernel_rfl

/-- What a writing call leaves: the bytes bs, and the rest of memory as it was. -/
def Wrote (T : TypeId) (b g : Nat) (bs : List UInt8) (w w' : World) : Prop := (∃ g', Bld T b g' bs w' ∧ (g' = g ∨ w.heap.size ≤ g')) ∧ Keeps [b, g] w w'

theorem Wrote.start {T : TypeId} {b g : Nat} {bs : List UInt8} {w : World} (h : Bld T b g bs w) : Wrote T b g bs w w := ⟨⟨g, h, .inl rfl⟩, Keeps.refl _ _⟩

theorem Wrote.trans {T : TypeId} {b g g' : Nat} {bs' : List UInt8} {w w1 w2 : World} (hk : Keeps [b, g] w w1) (hg : g' = g ∨ w.heap.size ≤ g') (h : Wrote T b g' bs' w1 w2) : Wrote T b g bs' w w2 := by
  obtain ⟨⟨g2, hb, hg2⟩, hk2⟩ := h
  have := hk.size
  refine ⟨⟨g2, hb, ?_⟩, hk.trans' hk2 ?_⟩
  · rcases hg2 with rfl | h2
    · exact hg
    · right; omega
  · intro y hy hl
    simp at hy ⊢
    omega

/-- The relation of Out.Int's loop. -/
def OutRel (T : TypeId) (b g : Nat) (all : List UInt8) (w : World) (u : Nat) (w' : World) : Prop :=
  ∃ bs1, bs1 ++ enc u = all ∧ Wrote T b g bs1 w w'

set_option maxHeartbeats 1000000 in
set_option maxRecDepth 100000 in
theorem outInt_any (b g : Nat) (bs : List UInt8) (n : Int) (w : World) (h : Bld 125 b g bs w) (hn : I64 n) (hlen : Room (bs.length + 10)) :
    Calls Tryd.prog 69 #[.pointer (some ⟨b, 0, none⟩), .int .i64 n] w fun e w' => e = .returned (.tuple #[]) ∧ Wrote 125 b g (bs ++ enc (zig n)) w w' := by
  obtain ⟨h1, h2⟩ := hn
  have hz := zig_lt n h1 h2
  have hl10 := enc_len10 _ hz
  have key : ∀ (u : Nat), u < 18446744073709551616 → u = zig n →
    Calls Tryd.prog 69 #[.pointer (some ⟨b, 0, none⟩), .int .i64 n] w fun e w' => e = .returned (.tuple #[]) ∧ Wrote 125 b g (bs ++ enc (zig n)) w w' := by
    intro u hu hun
    have HU := Lib.hid hun
    clear hun
    have HS : Hid (OutRel 125 b g (bs ++ enc (zig n)) w (zig n) w) := Lib.hid ⟨bs, rfl, Wrote.start h⟩
    have HA : Hid (∃ all, all = bs ++ enc (zig n)) := Lib.hid ⟨_, rfl⟩
    clear hz hl10
    have HL : Hid (Room (bs ++ enc u).length) := by
      have := enc_len10 u hu
      apply Lib.hid
      unfold Room at hlen ⊢
      simp; omega
    clear hu hlen
    by_cases h0 : 0 ≤ n
    · go_enter Tryd.func69, Tryd.ntmps69
      go_wp2_with fail
      rw [zig_slot_pos n h0 h2]
      rw [← HU.out]
      rw [← HU.out] at HS
      clear h1 h2
      generalize n / 9223372036854775808 = q
      go_loopw [4] (fun v wr => ∃ k : Nat, v = .int .u64 k ∧ k ≤ u ∧ OutRel 125 b g (bs ++ enc u) w k wr) (fun v _ => (intOf v).toNat)
      case atStart => exact ⟨u, rfl, Nat.le_refl _, HS.out⟩
      case round =>
        obtain ⟨k, rfl, hk, hR⟩ := hrel
        obtain ⟨bs1, hbs, ⟨g1, hB, hg1⟩, hK⟩ := hR
        have HB := Lib.hid hbs
        clear hbs
        have hl1 : Room bs1.length := by
          have e := HL.out
          rw [← HB.out] at e
          unfold Room at e ⊢
          simp at e; omega
        by_cases hlt : k < 128
        · go_wp2_with fail
          refine (writeByte_any _ liesOut (by decide) _ _ _ _ _ hB (by omega) (by omega) hl1).mono ?_
          rintro e w1 ⟨rfl, hW⟩
          go_wp2_with fail
          go_end0
          refine ⟨rfl, ?_⟩
          rw [← HU.out]
          have e := HB.out
          rw [enc_small k hlt] at e
          rw [← e]
          exact Wrote.trans hK hg1 hW
        · have hge : 128 ≤ k := by omega
          clear hlt
          go_wp2_with fail
          rw [mark_slot]
          refine (writeByte_any _ liesOut (by decide) _ _ _ _ _ hB (by omega) (by omega) hl1).mono ?_
          rintro e w1 ⟨rfl, hW⟩
          rw [mark_toNat] at hW
          have hR2 := Lib.hid (show OutRel 125 b g (bs ++ enc u) w (k / 128) w1 from ⟨_, by rw [← HB.out, enc_great k (by omega)]; simp, Wrote.trans hK hg1 hW⟩)
          clear hW
          go_wp2_with fail
          go_roundw
          case rel => exact ⟨k / 128, by simp, by omega, hR2.out⟩
          case measure => simp [intOf]; omega
    · have h0' : n < 0 := by omega
      go_enter Tryd.func69, Tryd.ntmps69
      go_wp2_with fail
      rw [zig_slot_neg n h0' h1]
      rw [← HU.out]
      rw [← HU.out] at HS
      clear h1 h2
      generalize n / 9223372036854775808 = q
      go_loopw [4] (fun v wr => ∃ k : Nat, v = .int .u64 k ∧ k ≤ u ∧ OutRel 125 b g (bs ++ enc u) w k wr) (fun v _ => (intOf v).toNat)
      case atStart => exact ⟨u, rfl, Nat.le_refl _, HS.out⟩
      case round =>
        obtain ⟨k, rfl, hk, hR⟩ := hrel
        obtain ⟨bs1, hbs, ⟨g1, hB, hg1⟩, hK⟩ := hR
        have HB := Lib.hid hbs
        clear hbs
        have hl1 : Room bs1.length := by
          have e := HL.out
          rw [← HB.out] at e
          unfold Room at e ⊢
          simp at e; omega
        by_cases hlt : k < 128
        · go_wp2_with fail
          refine (writeByte_any _ liesOut (by decide) _ _ _ _ _ hB (by omega) (by omega) hl1).mono ?_
          rintro e w1 ⟨rfl, hW⟩
          go_wp2_with fail
          go_end0
          refine ⟨rfl, ?_⟩
          rw [← HU.out]
          have e := HB.out
          rw [enc_small k hlt] at e
          rw [← e]
          exact Wrote.trans hK hg1 hW
        · have hge : 128 ≤ k := by omega
          clear hlt
          go_wp2_with fail
          rw [mark_slot]
          refine (writeByte_any _ liesOut (by decide) _ _ _ _ _ hB (by omega) (by omega) hl1).mono ?_
          rintro e w1 ⟨rfl, hW⟩
          rw [mark_toNat] at hW
          have hR2 := Lib.hid (show OutRel 125 b g (bs ++ enc u) w (k / 128) w1 from ⟨_, by rw [← HB.out, enc_great k (by omega)]; simp, Wrote.trans hK hg1 hW⟩)
          clear hW
          go_wp2_with fail
          go_roundw
          case rel => exact ⟨k / 128, by simp, by omega, hR2.out⟩
          case measure => simp [intOf]; omega
  exact key _ hz rfl

def encs (l : List Int) : List UInt8 := l.flatMap fun n => enc (zig n)

set_option maxRecDepth 100000 in
theorem outVec_any (b g : Nat) (bs : List UInt8) (x0 x1 x2 x3 : Int) (w : World) (h : Bld 125 b g bs w) (n0 : I64 x0) (n1 : I64 x1) (n2 : I64 x2) (n3 : I64 x3) (hlen : Room (bs.length + 40)) :
    Calls Tryd.prog 160 #[.pointer (some ⟨b, 0, none⟩), .agg #[.int .i64 x0, .int .i64 x1, .int .i64 x2, .int .i64 x3]] w fun e w' => e = .returned (.tuple #[]) ∧ Wrote 125 b g (bs ++ enc (zig x0) ++ enc (zig x1) ++ enc (zig x2) ++ enc (zig x3)) w w' := by
  have i0 : ∀ w, (Instr.index 25 (.agg #[.int .i64 x0, .int .i64 x1, .int .i64 x2, .int .i64 x3]) (.int .i64 0)).run Tryd.prog w = .ok (.int .i64 x0) w := fun _ => by kernel_rfl
  have i1 : ∀ w, (Instr.index 25 (.agg #[.int .i64 x0, .int .i64 x1, .int .i64 x2, .int .i64 x3]) (.int .i64 1)).run Tryd.prog w = .ok (.int .i64 x1) w := fun _ => by kernel_rfl
  have i2 : ∀ w, (Instr.index 25 (.agg #[.int .i64 x0, .int .i64 x1, .int .i64 x2, .int .i64 x3]) (.int .i64 2)).run Tryd.prog w = .ok (.int .i64 x2) w := fun _ => by kernel_rfl
  have i3 : ∀ w, (Instr.index 25 (.agg #[.int .i64 x0, .int .i64 x1, .int .i64 x2, .int .i64 x3]) (.int .i64 3)).run Tryd.prog w = .ok (.int .i64 x3) w := fun _ => by kernel_rfl
  have l0 := enc_len10 _ (zig_lt x0 n0.1 n0.2)
  have l1 := enc_len10 _ (zig_lt x1 n1.1 n1.2)
  have l2 := enc_len10 _ (zig_lt x2 n2.1 n2.2)
  have r0 : Room (bs.length + 10) := by unfold Room at hlen ⊢; omega
  have r1 : Room ((bs ++ enc (zig x0)).length + 10) := by unfold Room at hlen ⊢; simp; omega
  have r2 : Room ((bs ++ enc (zig x0) ++ enc (zig x1)).length + 10) := by unfold Room at hlen ⊢; simp; omega
  have r3 : Room ((bs ++ enc (zig x0) ++ enc (zig x1) ++ enc (zig x2)).length + 10) := by unfold Room at hlen ⊢; simp; omega
  clear l0 l1 l2 hlen
  go_enter Tryd.func160, Tryd.ntmps160
  go_wp2_with fail
  refine wp_loop_rounds 5 ?_
  rw [rounds_succ]
  go_wp2_with fail
  refine (outInt_any b g bs x0 _ (h.alloc _) n0 r0).mono ?_
  rintro e w1 ⟨rfl, ⟨g1, h1, hg1⟩, k1⟩
  go_wp2_with fail
  rw [rounds_succ]
  go_wp2_with fail
  refine (outInt_any b g1 _ x1 _ h1 n1 r1).mono ?_
  rintro e w2 ⟨rfl, ⟨g2, h2, hg2⟩, k2⟩
  go_wp2_with fail
  rw [rounds_succ]
  go_wp2_with fail
  refine (outInt_any b g2 _ x2 _ h2 n2 r2).mono ?_
  rintro e w3 ⟨rfl, ⟨g3, h3, hg3⟩, k3⟩
  go_wp2_with fail
  rw [rounds_succ]
  go_wp2_with fail
  refine (outInt_any b g3 _ x3 _ h3 n3 r3).mono ?_
  rintro e w4 ⟨rfl, ⟨g4, h4, hg4⟩, k4⟩
  go_wp2_with fail
  rw [rounds_succ]
  go_wp2_with fail
  go_end0
  refine ⟨rfl, ?_⟩
  have W4 := Wrote.trans k3 hg3 ⟨⟨g4, h4, hg4⟩, k4⟩
  have W3 := Wrote.trans k2 hg2 W4
  have W2 := Wrote.trans k1 hg1 W3
  exact Wrote.trans ((Keeps.refl [b, g] w).alloc _) (.inl rfl) W2

set_option maxRecDepth 100000 in
theorem outBool_any (b g : Nat) (bs : List UInt8) (x : Bool) (w : World) (h : Bld 125 b g bs w) (hlen : Room (bs.length + 10)) :
    Calls Tryd.prog 153 #[.pointer (some ⟨b, 0, none⟩), .bool x] w fun e w' => e = .returned (.tuple #[]) ∧ Wrote 125 b g (bs ++ enc (zig (if x then 1 else 0))) w w' := by
  cases x
  · go_enter Tryd.func153, Tryd.ntmps153
    go_wp2_with fail
    refine (outInt_any b g bs 0 _ h (by unfold I64; omega) hlen).mono ?_
    rintro e w1 ⟨rfl, hW⟩
    go_wp2_with fail
    go_end0
    exact ⟨rfl, hW⟩
  · go_enter Tryd.func153, Tryd.ntmps153
    go_wp2_with fail
    refine (outInt_any b g bs 1 _ h (by unfold I64; omega) hlen).mono ?_
    rintro e w1 ⟨rfl, hW⟩
    go_wp2_with fail
    go_end0
    exact ⟨rfl, hW⟩

theorem outBytes_any (b g : Nat) (bs : List UInt8) (w : World) (h : Bld 125 b g bs w) (h0 : bs ≠ []) :
    Calls Tryd.prog 72 #[.pointer (some ⟨b, 0, none⟩)] w fun e w' => e = .returned (.string ⟨bs.toArray⟩) ∧ Keeps [b, g] w w' := by
  go_enter Tryd.func72, Tryd.ntmps72
  go_wp2_with fail
  refine (string_some _ b g bs _ h h0).mono ?_
  rintro e w1 ⟨rfl, hk⟩
  go_wp2_with fail
  go_ret
  exact ⟨rfl, hk⟩

end Go.Proofs.YtnlhmlgoipnekaaDoor
