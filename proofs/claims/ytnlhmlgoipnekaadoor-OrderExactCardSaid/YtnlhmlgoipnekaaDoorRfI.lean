/- The reference's Int, Vec, Bool, walked. -/
import Derived.Test.YtnlhmlgoipnekaaDoorBld
import Derived.Test.YtnlhmlgoipnekaaDoorZig
import Derived.Test.YtnlhmlgoipnekaaDoorQuiet
import Derived.Laws.OwnMore
import Derived.Laws.BytesString
import Derived.WalkSpells
import Derived.WalkLawsBesides
import Derived.Handy
namespace Go.Proofs.YtnlhmlgoipnekaaDoor
open Go.RowKit

/-- The relation of Int's loop. -/
def RfRel (B : Nat) (w : World) (all : List UInt8) (v : Value) (k : Nat) (w' : World) : Prop :=
  ∃ bs, bs ++ enc k = all ∧ w'.ownsRow B 5 1 v bs.length (Lib.byteCells bs) ∧ Keeps [] w w'

theorem keeps_own {B : Nat} {w w1 w2 : World} {v : Value} {e : TypeId} {n m : Nat} {xs : List Value} (hk : Keeps [] w w1) (hB : w.heap.size ≤ B) (ho : w1.ownsRow B e m v n xs) (hg : w1.grownBy w2 v.ownBlock) : Keeps [] w w2 :=
  hk.grown hg (fun k h hl => absurd (ho.lt k h).1 (by omega))

set_option maxHeartbeats 2000000 in
set_option maxRecDepth 100000 in
theorem rfInt_any (n : Int) (w : World) (hn : I64 n) :
    Calls Tryd.prog 53 #[.int .i64 n] w fun e w' => e = .returned (.string ⟨(enc (zig n)).toArray⟩) ∧ Keeps [] w w' := by
  obtain ⟨i0, hi, hz0, hz1, hz2⟩ := info_parts infoByte
  obtain ⟨h1, h2⟩ := hn
  have hz := zig_lt n h1 h2
  obtain ⟨u, hu⟩ : ∃ u, u = zig n := ⟨_, rfl⟩
  rw [← hu] at hz ⊢
  have hl10 := enc_len10 _ hz
  have HU := Lib.hid hu
  clear hu
  have HL := Lib.hid hl10
  clear hl10
  have hall : ∃ all, all = enc u := ⟨_, rfl⟩
  obtain ⟨all, hall⟩ := hall
  have HA := Lib.hid hall
  rw [← hall]
  clear hall
  have hmade : (w.alloc (.cells #[] 5)).ownsRow w.heap.size 5 1 (.slice (some ⟨w.heap.size, 0, none⟩) 0 0) 0 [] := World.ownsRow_made w #[] 0 (Nat.le_refl _) (by unfold maxLen; omega) (by simp)
  have HM := Lib.hid hmade
  clear hmade
  by_cases h0 : 0 ≤ n
  · have e0 : n * 2 = (u : Int) := by rw [HU.out]; unfold zig; rw [if_pos h0]; omega
    have E0 := Lib.hid e0
    clear e0
    go_enter Tryd.func53, Tryd.ntmps53
    go_wp2_with fail
    rw [E0.out]
    clear h1 h2 h0
    obtain ⟨w0, hw0⟩ : ∃ w0, w0 = w.alloc (.cells #[] 5) := ⟨_, rfl⟩
    rw [← hw0] at HM ⊢
    have hk0 : Keeps [] w w0 := by rw [hw0]; exact (Keeps.refl _ _).alloc _
    have HK := Lib.hid hk0
    clear hw0 hk0
    go_loopw [3, 4] (fun v s wr => ∃ k : Nat, v = .int .u64 k ∧ k ≤ u ∧ RfRel w.heap.size w all s k wr) (fun v _ _ => (intOf v).toNat)
    case atStart => exact ⟨u, rfl, Nat.le_refl _, [], by rw [HA.out]; rfl, HM.out, HK.out⟩
    case round =>
      obtain ⟨k, rfl, hk, bs, hbs, hown, hK⟩ := hrel
      have HB := Lib.hid hbs
      clear hbs
      have hl1 : bs.length ≤ 10 := by
        have := HL.out
        rw [← HA.out, ← HB.out] at this
        simp at this; omega
      by_cases hlt : k < 128
      · go_wp2_with (at_builtin; refine wpList_append_own_at _ rfl _ _ 121 rfl w.heap.size 5 i0 (.int .u8 0) 1 1 Tryd.underlying121 hi hz0 hz1 hz2 rfl (by decide) _ _ _ rfl (hown.alloc _) ⟨wr.heap.size, 0, none⟩ 1 1 [.int .u8 k] rfl rfl ?c1 ?c2 ?c3 ?c4 ?c5 ?_)
        case c1 =>
          intro j x hj
          match j, hj with
          | 0, hj => simp at hj; subst hj; simp [Addr.add]
        case c2 => intro x hx; simp at hx; subst hx; rfl
        case c3 => unfold maxLen; omega
        case c4 => omega
        case c5 => have := hK.size; simp; omega
        intro v' w2 hown' hgrow _ _
        have hk2 := keeps_own (hK.alloc _) (Nat.le_refl _) (hown.alloc _) hgrow
        have hbc : Lib.byteCells bs ++ [.int .u8 k] = Lib.byteCells (bs ++ [k.toUInt8]) := by simp [Lib.byteCells, Nat.mod_eq_of_lt (show k < 256 by omega)]
        have hba : bs ++ [k.toUInt8] = all := by rw [← HB.out, enc_small k hlt]
        have hbl : bs.length + 1 = all.length := by rw [← hba]; simp
        rw [hbc, hba, hbl] at hown'
        clear hbc hba hbl
        obtain ⟨g, cap, rfl⟩ : ∃ g cap, v' = .slice (some ⟨g, 0, none⟩) all.length cap := by
          rcases hown'.2 with ⟨_, h0⟩ | ⟨g, cap, cur, hv, _⟩
          · rw [HA.out] at h0; have := enc_pos u; simp at h0; exact absurd h0 this
          · exact ⟨g, cap, hv⟩
        have hconv := run_convert_bytes_back (P := Tryd.prog) w2 121 9 5 ⟨g, 0, none⟩ cap all Tryd.underlying121 Tryd.underlying5 Tryd.underlying9 (fun j hj => hown'.cells (g := g) rfl j _ (by simp [Lib.byteCells, hj]))
        clear hown' hown hgrow
        go_wp2_with fail
        go_ret
        exact ⟨rfl, hk2⟩
      · have hk64 : k < 18446744073709551616 := by omega
        go_wp2_with (at_builtin; refine wpList_append_own_at _ rfl _ _ 121 rfl w.heap.size 5 i0 (.int .u8 0) 1 1 Tryd.underlying121 hi hz0 hz1 hz2 rfl (by decide) _ _ _ rfl (hown.alloc _) ⟨wr.heap.size, 0, none⟩ 1 1 [.int .u8 ((k : Int) % 128 + 128)] rfl rfl ?c1 ?c2 ?c3 ?c4 ?c5 ?_)
        case c1 =>
          intro j x hj
          match j, hj with
          | 0, hj => simp at hj; subst hj; simp [Addr.add]
        case c2 => intro x hx; simp at hx; subst hx; rfl
        case c3 => unfold maxLen; omega
        case c4 => omega
        case c5 => have := hK.size; simp; omega
        intro v' w2 hown' hgrow _ _
        have hk2 := keeps_own (hK.alloc _) (Nat.le_refl _) (hown.alloc _) hgrow
        have hbc : Lib.byteCells bs ++ [.int .u8 ((k : Int) % 128 + 128)] = Lib.byteCells (bs ++ [(k % 128 + 128).toUInt8]) := by
          have : ((k : Int) % 128 + 128) = ((k % 128 + 128 : Nat) : Int) := by omega
          rw [this]
          simp [Lib.byteCells, Nat.mod_eq_of_lt (show k % 128 + 128 < 256 by omega)]
        rw [hbc] at hown'
        have HR : Hid (RfRel w.heap.size w all v' (k / 128) w2) := Lib.hid ⟨bs ++ [(k % 128 + 128).toUInt8], by rw [← HB.out, enc_great k hlt]; simp, by simpa using hown', hk2⟩
        clear hbc hown' hown hgrow hk2
        go_wp2_with fail
        go_roundw
        case rel => exact ⟨k / 128, by go_num, by omega, HR.out⟩
        case measure => simp [intOf]; omega
  · have h0 : n < 0 := by omega
    have e0 : -(n + 1) * 2 + 1 = (u : Int) := by rw [HU.out]; unfold zig; rw [if_neg (by omega)]; omega
    have E0 := Lib.hid e0
    clear e0
    go_enter Tryd.func53, Tryd.ntmps53
    go_wp2_with fail
    rw [E0.out]
    clear h1 h2 h0
    generalize IntKind.u64.wrap (IntKind.u64.wrap n * 2) = q1
    generalize IntKind.u64.wrap n = q2
    generalize -(n + 1) * 2 = q3
    generalize -(n + 1) = q4
    obtain ⟨w0, hw0⟩ : ∃ w0, w0 = w.alloc (.cells #[] 5) := ⟨_, rfl⟩
    rw [← hw0] at HM ⊢
    have hk0 : Keeps [] w w0 := by rw [hw0]; exact (Keeps.refl _ _).alloc _
    have HK := Lib.hid hk0
    clear hw0 hk0
    go_loopw [3, 4] (fun v s wr => ∃ k : Nat, v = .int .u64 k ∧ k ≤ u ∧ RfRel w.heap.size w all s k wr) (fun v _ _ => (intOf v).toNat)
    case atStart => exact ⟨u, rfl, Nat.le_refl _, [], by rw [HA.out]; rfl, HM.out, HK.out⟩
    case round =>
      obtain ⟨k, rfl, hk, bs, hbs, hown, hK⟩ := hrel
      have HB := Lib.hid hbs
      clear hbs
      have hl1 : bs.length ≤ 10 := by
        have := HL.out
        rw [← HA.out, ← HB.out] at this
        simp at this; omega
      by_cases hlt : k < 128
      · go_wp2_with (at_builtin; refine wpList_append_own_at _ rfl _ _ 121 rfl w.heap.size 5 i0 (.int .u8 0) 1 1 Tryd.underlying121 hi hz0 hz1 hz2 rfl (by decide) _ _ _ rfl (hown.alloc _) ⟨wr.heap.size, 0, none⟩ 1 1 [.int .u8 k] rfl rfl ?c1 ?c2 ?c3 ?c4 ?c5 ?_)
        case c1 =>
          intro j x hj
          match j, hj with
          | 0, hj => simp at hj; subst hj; simp [Addr.add]
        case c2 => intro x hx; simp at hx; subst hx; rfl
        case c3 => unfold maxLen; omega
        case c4 => omega
        case c5 => have := hK.size; simp; omega
        intro v' w2 hown' hgrow _ _
        have hk2 := keeps_own (hK.alloc _) (Nat.le_refl _) (hown.alloc _) hgrow
        have hbc : Lib.byteCells bs ++ [.int .u8 k] = Lib.byteCells (bs ++ [k.toUInt8]) := by simp [Lib.byteCells, Nat.mod_eq_of_lt (show k < 256 by omega)]
        have hba : bs ++ [k.toUInt8] = all := by rw [← HB.out, enc_small k hlt]
        have hbl : bs.length + 1 = all.length := by rw [← hba]; simp
        rw [hbc, hba, hbl] at hown'
        clear hbc hba hbl
        obtain ⟨g, cap, rfl⟩ : ∃ g cap, v' = .slice (some ⟨g, 0, none⟩) all.length cap := by
          rcases hown'.2 with ⟨_, h0⟩ | ⟨g, cap, cur, hv, _⟩
          · rw [HA.out] at h0; have := enc_pos u; simp at h0; exact absurd h0 this
          · exact ⟨g, cap, hv⟩
        have hconv := run_convert_bytes_back (P := Tryd.prog) w2 121 9 5 ⟨g, 0, none⟩ cap all Tryd.underlying121 Tryd.underlying5 Tryd.underlying9 (fun j hj => hown'.cells (g := g) rfl j _ (by simp [Lib.byteCells, hj]))
        clear hown' hown hgrow
        go_wp2_with fail
        go_ret
        exact ⟨rfl, hk2⟩
      · have hk64 : k < 18446744073709551616 := by omega
        go_wp2_with (at_builtin; refine wpList_append_own_at _ rfl _ _ 121 rfl w.heap.size 5 i0 (.int .u8 0) 1 1 Tryd.underlying121 hi hz0 hz1 hz2 rfl (by decide) _ _ _ rfl (hown.alloc _) ⟨wr.heap.size, 0, none⟩ 1 1 [.int .u8 ((k : Int) % 128 + 128)] rfl rfl ?c1 ?c2 ?c3 ?c4 ?c5 ?_)
        case c1 =>
          intro j x hj
          match j, hj with
          | 0, hj => simp at hj; subst hj; simp [Addr.add]
        case c2 => intro x hx; simp at hx; subst hx; rfl
        case c3 => unfold maxLen; omega
        case c4 => omega
        case c5 => have := hK.size; simp; omega
        intro v' w2 hown' hgrow _ _
        have hk2 := keeps_own (hK.alloc _) (Nat.le_refl _) (hown.alloc _) hgrow
        have hbc : Lib.byteCells bs ++ [.int .u8 ((k : Int) % 128 + 128)] = Lib.byteCells (bs ++ [(k % 128 + 128).toUInt8]) := by
          have : ((k : Int) % 128 + 128) = ((k % 128 + 128 : Nat) : Int) := by omega
          rw [this]
          simp [Lib.byteCells, Nat.mod_eq_of_lt (show k % 128 + 128 < 256 by omega)]
        rw [hbc] at hown'
        have HR : Hid (RfRel w.heap.size w all v' (k / 128) w2) := Lib.hid ⟨bs ++ [(k % 128 + 128).toUInt8], by rw [← HB.out, enc_great k hlt]; simp, by simpa using hown', hk2⟩
        clear hbc hown' hown hgrow hk2
        go_wp2_with fail
        go_roundw
        case rel => exact ⟨k / 128, by go_num, by omega, HR.out⟩
        case measure => simp [intOf]; omega

theorem rfBool_any (b : Bool) (w : World) :
    Calls Tryd.prog 55 #[.bool b] w fun e w' => e = .returned (.string ⟨(enc (zig (if b then 1 else 0))).toArray⟩) ∧ Keeps [] w w' := by
  cases b
  · go_enter Tryd.func55, Tryd.ntmps55
    go_wp2_with fail
    refine (rfInt_any 0 w (by unfold I64; omega)).mono ?_
    rintro e w1 ⟨rfl, hk⟩
    go_wp2_with fail
    go_ret
    exact ⟨rfl, hk⟩
  · go_enter Tryd.func55, Tryd.ntmps55
    go_wp2_with fail
    refine (rfInt_any 1 w (by unfold I64; omega)).mono ?_
    rintro e w1 ⟨rfl, hk⟩
    go_wp2_with fail
    go_ret
    exact ⟨rfl, hk⟩

theorem cat_run (x y : List UInt8) (h : x.length + y.length ≤ 140737488355328) (w : World) :
    (Op.stringOp .add ⟨x.toArray⟩ ⟨y.toArray⟩).run Tryd.prog w = .ok (.string ⟨(x ++ y).toArray⟩) w := by
  rw [run_string_add_sum w _ _ (by simp [ByteArray.size]; omega), ByteArray.mk_append_mk]

set_option maxHeartbeats 2000000 in
set_option maxRecDepth 100000 in
theorem rfVec_any (v0 v1 v2 v3 : Int) (w : World) (h0 : I64 v0) (h1 : I64 v1) (h2 : I64 v2) (h3 : I64 v3) :
    Calls Tryd.prog 54 #[.agg #[.int .i64 v0, .int .i64 v1, .int .i64 v2, .int .i64 v3]] w fun e w' => e = .returned (.string ⟨(enc (zig v0) ++ enc (zig v1) ++ enc (zig v2) ++ enc (zig v3)).toArray⟩) ∧ Keeps [] w w' := by
  obtain ⟨w0, hw0⟩ : ∃ w0, w.alloc (.cells #[.int .i64 v0, .int .i64 v1, .int .i64 v2, .int .i64 v3] 25) = w0 := ⟨_, rfl⟩
  have hb0 : Blk w0 w.heap.size 25 #[.int .i64 v0, .int .i64 v1, .int .i64 v2, .int .i64 v3] := by rw [← hw0]; exact Blk.new _ _ _
  have hk0 : Keeps [] w w0 := by rw [← hw0]; exact (Keeps.refl _ _).alloc _
  have c0 := fun p => kw_cell hb0 p
  have r0 := fun w => rfInt_any v0 w h0
  have r1 := fun w => rfInt_any v1 w h1
  have r2 := fun w => rfInt_any v2 w h2
  have r3 := fun w => rfInt_any v3 w h3
  have l0 := enc_len10 _ (zig_lt _ h0.1 h0.2)
  have l1 := enc_len10 _ (zig_lt _ h1.1 h1.2)
  have l2 := enc_len10 _ (zig_lt _ h2.1 h2.2)
  have l3 := enc_len10 _ (zig_lt _ h3.1 h3.2)
  generalize enc (zig v0) = a0 at *
  generalize enc (zig v1) = a1 at *
  generalize enc (zig v2) = a2 at *
  generalize enc (zig v3) = a3 at *
  have s1 := cat_run a0 a1 (by omega)
  have s2 := cat_run (a0 ++ a1) a2 (by simp; omega)
  have s3 := cat_run (a0 ++ (a1 ++ a2)) a3 (by simp; omega)
  clear l0 l1 l2 l3 h0 h1 h2 h3
  go_enter Tryd.func54, Tryd.ntmps54
  go_wp2_with fail
  clear hw0
  refine wp_region_kw (by kernel_rfl) (by kernel_rfl) ?_
  repeat (go_big_quiet_step ((first | (with_reducible refine calls_kw (r0 _)) | (with_reducible refine calls_kw (r1 _)) | (with_reducible refine calls_kw (r2 _)) | (with_reducible refine calls_kw (r3 _)))))
  refine wpQuiet_nil ?_
  intro w2 hw2
  obtain ⟨p, rfl⟩ := hw2
  go_wp2_with fail
  go_ret
  exact ⟨by simp only [List.append_assoc]; rfl, hk0.trans (kw_keeps w0 p)⟩

end Go.Proofs.YtnlhmlgoipnekaaDoor
