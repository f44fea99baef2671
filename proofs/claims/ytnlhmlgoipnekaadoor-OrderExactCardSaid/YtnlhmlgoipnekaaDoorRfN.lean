/- The reference's reader, walked: Of, fail, Int, Vec, Bool. -/
import Derived.Test.YtnlhmlgoipnekaaDoorRfI
import Derived.Test.YtnlhmlgoipnekaaDoorRfD
import Derived.Test.YtnlhmlgoipnekaaDoorIn2
import Derived.Test.YtnlhmlgoipnekaaDoorStore
import Derived.Test.YtnlhmlgoipnekaaDoorQLd
import Derived.Lib.Hide
import Derived.IntWalk
import Derived.Deep.Cut
namespace Go.Proofs.YtnlhmlgoipnekaaDoor
open Go.RowKit

def badI : Option Nat → Int
  | none => -1
  | some p => p

/-- Block ib is the reference's reader of S that stands at st. -/
def RAt (ib : Nat) (S : ByteArray) (st : RS) (w : World) : Prop :=
  st.pos ≤ S.size ∧ Blk w ib 112 #[.string S, .int .i64 st.pos, .int .i64 (badI st.bad)]

theorem RAt.lt {ib : Nat} {S : ByteArray} {st : RS} {w : World} (h : RAt ib S st w) : ib < w.heap.size := h.2.lt

theorem RAt.keep {ib : Nat} {S : ByteArray} {st : RS} {w w' : World} {X : List Nat} (h : RAt ib S st w) (k : Keeps X w w') (hb : ib ∉ X) : RAt ib S st w' := ⟨h.1, h.2.keep k hb⟩

theorem rfOf_any (S : ByteArray) (w : World) :
    Calls Tryd.prog 64 #[.string S] w fun e w' => e = .returned (.pointer (some ⟨w.heap.size, 0, none⟩)) ∧ RAt w.heap.size S ⟨0, none⟩ w' ∧ Keeps [] w w' := by
  go_enter Tryd.func64, Tryd.ntmps64
  go_wp2_with fail
  go_ret
  exact ⟨rfl, ⟨Nat.zero_le _, Blk.new _ _ _⟩, (Keeps.refl _ _).alloc _⟩

theorem rfFail_any (ib : Nat) (S : ByteArray) (a p : Nat) (x : Value) (w : World) (h : Blk w ib 112 #[.string S, .int .i64 a, x]) :
    Calls Tryd.prog 102 #[.pointer (some ⟨ib, 0, none⟩), .int .i64 p] w fun e w' => e = .returned (.tuple #[]) ∧ RAt ib S ⟨S.size, some p⟩ w' ∧ Keeps [ib] w w' := by
  have c := h.cell
  have f := h.frz
  have hl := h.lt
  go_enter Tryd.func102, Tryd.ntmps102
  go_wp2_with fail
  go_end0
  exact ⟨rfl, ⟨Nat.le_refl _, (h.set 2 _).set 1 _⟩, (((Keeps.refl [ib] w).setCell (p := ⟨ib, 2, none⟩) (by simp) _).setCell (p := ⟨ib, 1, none⟩) (by simp) _)⟩

/-- Seven bits more, as the reference's walk writes it. -/
theorem ref_slot (u n k : Nat) (hk : k ≤ 9) (hu : u < 128 ^ k) (h9 : k = 9 → n ≤ 1) :
    IntKind.u64.wrap ((u : Int) + IntKind.u64.wrap ((n : Int) % 128 * 2 ^ (7 * k))) = ((u + n % 128 * 128 ^ k : Nat) : Int) := by
  have hs := sh_lt n k hk (by omega)
  have e3 : ((n : Int) % 128) * 2 ^ (7 * k) = ((n % 128 * 128 ^ k : Nat) : Int) := by
    rw [← pow7]; push_cast; rfl
  rw [e3]
  have h1 := step_lt u n k hu
  have hb : u + n % 128 * 128 ^ k < 18446744073709551616 := by
    by_cases h9' : k = 9
    · subst h9'
      have := h9 rfl
      have : n % 128 ≤ 1 := by omega
      omega
    · have : 128 ^ (k + 1) ≤ 128 ^ 9 := Nat.pow_le_pow_right (by omega) (by omega)
      omega
  generalize n % 128 * 128 ^ k = x at *
  rw [wrap_u64, wrap_u64]
  omega

def rdOf (S : ByteArray) (a : Nat) : Option (Nat × Nat) → Int × RS
  | some (u, n) => (unzig u, ⟨a + n, none⟩)
  | none => (0, ⟨S.size, some a⟩)

set_option maxRecDepth 100000 in
set_option maxHeartbeats 4000000 in
theorem rfIn_any (ib : Nat) (S : ByteArray) (st : RS) (w : World) (h : RAt ib S st w) (hS : Room S.size) :
    Calls Tryd.prog 65 #[.pointer (some ⟨ib, 0, none⟩)] w fun e w' => e = .returned (.int .i64 (rdInt S st).1) ∧ RAt ib S (rdInt S st).2 w' ∧ Keeps [ib] w w' := by
  have hl := h.lt
  obtain ⟨a, bad⟩ := st
  cases bad with
  | some p =>
    have HI := h
    obtain ⟨ha, hb⟩ := h
    have c := hb.cell
    simp only [badI] at c
    go_enter Tryd.func65, Tryd.ntmps65
    go_wp2_with fail
    go_ret
    exact ⟨rfl, HI, Keeps.refl _ _⟩
  | none =>
    obtain ⟨ha, hb⟩ := h
    simp only at ha
    have hSz : S.size < 140737488355328 := hS
    obtain ⟨D, hD⟩ : ∃ D, D = rawDec 0 0 (S.data.toList.drop a) := ⟨_, rfl⟩
    have HR : Hid (rdInt S ⟨a, none⟩ = rdOf S a D) := by
      apply Lib.hid; rw [hD]; unfold rdInt rdOf; rfl
    have hDr : D = refDec (S.data.toList.drop a) 0 0 (S.data.toList.drop a) := by rw [refDec_raw, hD]
    have HD := Lib.hid hDr
    clear hD hDr
    have c := hb.cell
    simp only [badI] at c
    go_enter Tryd.func65, Tryd.ntmps65
    go_wp2_with fail
    go_loopw [3, 4] (fun v i wr => ∃ k u : Nat, v = .int .u64 u ∧ i = .int .i64 k ∧ k ≤ 9 ∧ u < 128 ^ k ∧ k ≤ S.size - a ∧ D = refDec (S.data.toList.drop a) k u (S.data.toList.drop (a + k)) ∧ Blk wr ib 112 #[.string S, .int .i64 a, .int .i64 (-1)] ∧ Keeps [] w wr) (fun _ i _ => S.size - a - (intOf i).toNat)
    case atStart => exact ⟨0, 0, rfl, rfl, by omega, by decide, by omega, HD.out, hb, Keeps.refl _ _⟩
    case round =>
      obtain ⟨k, u, rfl, rfl, hk9, hu, hk, hDk, hbr, hkr⟩ := hrel
      have HU := Lib.hid hu
      have HDk := Lib.hid hDk
      have HK := Lib.hid hkr
      clear hu hDk hkr c
      have hk10 : (k : Int) < 10 := by omega
      have c := hbr.cell
      by_cases hlt : k < S.size - a
      · have hlt2 : (a : Int) + k < S.size := by omega
        have hs1 : IntKind.i64.wrap ((a : Int) + k) = (a : Int) + k := IntWalk.i64_in _ (by omega)
        have hs2 : (0 : Int) ≤ (a : Int) + k := by omega
        have hs3 : ((a : Int) + k).toNat = a + k := by omega
        have HX := Lib.hid (drop_cons hlt)
        obtain ⟨n, hn⟩ : ∃ n, n = (S.data.toList.getD (a + k) 0).toNat := ⟨_, rfl⟩
        have hn1 : n < 256 := by rw [hn]; exact UInt8.toNat_lt _
        have hix : ∀ w : World, (Instr.index 9 (.string S) (.int .i64 ((a : Int) + k))).run Tryd.prog w = .ok (.int .u8 n) w := fun w => by
          rw [run_index_string w _ _ _ _ Tryd.underlying9, dif_pos ⟨hs2, hlt2⟩, hn]
          have e : S[((a : Int) + k).toNat]'(by omega) = S.data.toList.getD (a + k) 0 := by
            simp only [hs3]
            rw [List.getD_eq_getElem?_getD, List.getElem?_eq_getElem (by have := lenS S; omega)]
            rfl
          rw [e]
        have HN := Lib.hid hn
        clear hn
        go_wp2_with fail
        go_quiet (fail)
        have hb1 := hbr.drewN nq
        have hk1 := HK.out.drewN nq
        generalize wr.drewN nq = w1 at *
        have c1 := hb1.cell
        clear c hbr HK
        go_wp2_with fail
        go_quiet (fail)
        have hb2 := hb1.drewN nq
        have HK := Lib.hid (hk1.drewN nq)
        generalize w1.drewN nq = w2 at *
        have c2 := hb2.cell
        clear c1 hb1 hk1
        clear hs1 hs2 hs3 hlt2 hix
        by_cases hA : k = 9 ∧ 1 < n
        · have HF : Hid (D = none) := by
            apply Lib.hid
            rw [HDk.out, HX.out]; unfold refDec; rw [if_pos ⟨hA.1, by rw [← HN.out]; exact hA.2⟩]
          have hkb : ((k : Int) == 9) = true := by simp; omega
          have hnb : (1 : Int) < (n : Int) := by omega
          clear hA
          go_wp2_with fail
          refine (rfFail_any ib S a a _ w2 hb2).mono ?_
          rintro e w3 ⟨rfl, hI, hk3⟩
          go_wp2_with fail
          go_ret
          rw [HR.out, HF.out]
          exact ⟨rfl, hI, (HK.out.mono (by simp)).trans hk3⟩
        · have hcs : (((k : Int) == 9) = true ∧ decide ((1 : Int) < (n : Int)) = false ∨ ((k : Int) == 9) = false) := by
            by_cases h9 : k = 9
            · left; exact ⟨by simp; omega, by simp; omega⟩
            · right; simp; omega
          have HA := Lib.hid hA
          clear hA
          obtain ⟨hkb, hnb⟩ | hkb := hcs
          all_goals
            go_upto_region 10 with (fail)
            rw [ref_slot u n k hk9 HU.out (by have := HA.out; omega)]
            have hx64 : u + n % 128 * 128 ^ k < 18446744073709551616 := by
              have h1 := step_lt u n k HU.out
              by_cases h9' : k = 9
              · have := HA.out
                have hn2 : n % 128 ≤ 1 := by omega
                have := HU.out
                subst h9'; omega
              · have : 128 ^ (k + 1) ≤ 128 ^ 9 := Nat.pow_le_pow_right (by omega) (by omega)
                omega
            have HS := Lib.hid (step_lt u n k HU.out)
            obtain ⟨x, hx⟩ : ∃ x, x = u + n % 128 * 128 ^ k := ⟨_, rfl⟩
            rw [← hx] at hx64 ⊢
            have HXX := Lib.hid hx
            clear hx
            generalize IntKind.u64.wrap (↑n % 128 * 2 ^ (7 * k)) = q1
            by_cases h128 : n < 128
            · have hp : (x : Int) % 2 = 0 ∨ (x : Int) % 2 = 1 := by omega
              have hup := Lib.hid (unzig_range x hx64)
              have hcall : ∀ w, Calls Tryd.prog 53 #[.int .i64 (unzig x)] w fun e w' => e = .returned (.string ⟨(enc x).toArray⟩) ∧ Keeps [] w w' := fun w => by
                have := rfInt_any (unzig x) w hup.out
                rw [zig_unzig] at this
                exact this
              have hz0 : (x : Int) % 2 = 0 → ((x : Int) / 2) = unzig x := fun h => by unfold unzig; rw [if_pos (by omega)]; omega
              have hz1 : (x : Int) % 2 = 1 → (-((x : Int) / 2) - 1) = unzig x := fun h => by unfold unzig; rw [if_neg (by omega)]; omega
              have HZ0 := Lib.hid hz0
              have HZ1 := Lib.hid hz1
              clear hz0 hz1
              have hsx : ((S.extract a (a + k + 1)) : ByteArray) = ⟨((S.data.toList.drop a).take (k + 1)).toArray⟩ := by
                apply ByteArray.ext
                apply Array.ext'
                rw [Lib.extract_data]
                have e : a + k + 1 - a = k + 1 := by omega
                simp [e, List.take_drop]
              have HSX := Lib.hid hsx
              clear hsx
              have hi1 : IntKind.i64.wrap ((a : Int) + k) = (a : Int) + k := IntWalk.i64_in _ (by omega)
              have hi2 : IntKind.i64.wrap ((a : Int) + k + 1) = (a : Int) + k + 1 := IntWalk.i64_in _ (by omega)
              have hi3 : (0 : Int) ≤ (a : Int) + k + 1 := by omega
              have hi4 : (a : Int) ≤ (a : Int) + k + 1 := by omega
              have hi5 : (a : Int) + k + 1 ≤ S.size := by omega
              have hi6 : ((a : Int) + k + 1).toNat = a + k + 1 := by omega
              have hEQ : (S.extract a (a + k + 1)).toList = (S.data.toList.drop a).take (k + 1) := by rw [HSX.out, ByteArray.toList_eq]
              by_cases hq : enc x = (S.data.toList.drop a).take (k + 1)
              · have HF : Hid (D = some (x, k + 1)) := by
                  apply Lib.hid
                  rw [HDk.out, HX.out]; unfold refDec
                  rw [← HN.out, if_neg HA.out, if_neg (by omega), ← HXX.out, if_pos hq]
                have hqb : (enc x == (S.extract a (a + k + 1)).toList) = true := by rw [hEQ, hq]; simp
                clear hEQ hq
                rcases hp with hp | hp
                all_goals
                  go_upto_region 14 with (fail)
                  first | rw [HZ0.out hp] | rw [HZ1.out hp]
                  have c2' := fun p => kw_cell hb2 p
                  refine wp_region_kw (by kernel_rfl) (by kernel_rfl) ?_
                  repeat (go_big_quiet_step (with_reducible refine calls_kw (hcall _)))
                  refine wpQuiet_nil ?_
                  intro w3 hw3
                  obtain ⟨p, rfl⟩ := hw3
                  have hb3 := hb2.keep (kw_keeps w2 p) (by simp)
                  have hk3 := HK.out.trans (kw_keeps w2 p)
                  generalize kw w2 p = w3 at *
                  have c3 := hb3.cell
                  have f3 := hb3.frz
                  clear c2' c2
                  go_wp2_with fail
                  go_ret
                  rw [HR.out, HF.out]
                  refine ⟨rfl, ⟨by show a + (k + 1) ≤ S.size; omega, ?_⟩, (hk3.mono (by simp)).setCell (p := ⟨ib, 1, none⟩) (by simp) _⟩
                  have := hb3.set 1 (.int .i64 ((a : Int) + k + 1))
                  have e : ((a : Int) + k + 1) = ((a + (k + 1) : Nat) : Int) := by omega
                  rw [e] at this ⊢
                  exact this
              · have HF : Hid (D = none) := by
                  apply Lib.hid
                  rw [HDk.out, HX.out]; unfold refDec
                  rw [← HN.out, if_neg HA.out, if_neg (by omega), ← HXX.out, if_neg hq]
                have hqb : (enc x == (S.extract a (a + k + 1)).toList) = false := by rw [hEQ]; simpa using hq
                clear hEQ hq
                rcases hp with hp | hp
                all_goals
                  go_upto_region 14 with (fail)
                  first | rw [HZ0.out hp] | rw [HZ1.out hp]
                  have c2' := fun p => kw_cell hb2 p
                  refine wp_region_kw (by kernel_rfl) (by kernel_rfl) ?_
                  repeat (go_big_quiet_step (with_reducible refine calls_kw (hcall _)))
                  refine wpQuiet_nil ?_
                  intro w3 hw3
                  obtain ⟨p, rfl⟩ := hw3
                  have hb3 := hb2.keep (kw_keeps w2 p) (by simp)
                  have hk3 := HK.out.trans (kw_keeps w2 p)
                  generalize kw w2 p = w3 at *
                  have c3 := hb3.cell
                  clear c2' c2
                  go_wp2_with fail
                  refine (rfFail_any ib S a a _ w3 hb3).mono ?_
                  rintro e w4 ⟨rfl, hI, hk4⟩
                  go_wp2_with fail
                  go_ret
                  rw [HR.out, HF.out]
                  exact ⟨rfl, hI, (hk3.mono (by simp)).trans hk4⟩
            · have hk8 : k ≠ 9 := by have := HA.out; omega
              have HF : Hid (D = refDec (S.data.toList.drop a) (k + 1) x (S.data.toList.drop (a + (k + 1)))) := by
                apply Lib.hid
                rw [HDk.out, HX.out, HXX.out]
                conv => lhs; unfold refDec
                rw [← HN.out, if_neg (by omega), if_pos (by omega)]
              rw [← HXX.out] at HS
              go_wp2_with fail
              exact ⟨⟨k + 1, x, rfl, by go_num, by omega, HS.out, by omega, HF.out, hb2, HK.out⟩, by simp [intOf]; omega⟩
      · have HF : Hid (D = none) := by
          apply Lib.hid
          rw [HDk.out, drop_none hlt]; rfl
        have hlt2 : ¬ ((a : Int) + k < S.size) := by omega
        have hlt3 : decide ((a : Int) + k < S.size) = false := decide_eq_false hlt2
        have hs1 : IntKind.i64.wrap ((a : Int) + k) = (a : Int) + k := IntWalk.i64_in _ (by omega)
        go_wp2_with fail
        go_quiet (fail)
        have hb1 := hbr.drewN nq
        have hk1 := HK.out.drewN nq
        generalize wr.drewN nq = w1 at *
        have c1 := hb1.cell
        clear c hbr HK hs1
        go_wp2_with fail
        refine (rfFail_any ib S a a _ w1 hb1).mono ?_
        rintro e w2 ⟨rfl, hI, hk2⟩
        go_wp2_with fail
        go_ret
        rw [HR.out, HF.out]
        exact ⟨rfl, hI, (hk1.mono (by simp)).trans hk2⟩

set_option maxRecDepth 100000 in
set_option maxHeartbeats 2000000 in
theorem rfInVec_any (ib : Nat) (S : ByteArray) (st : RS) (w : World) (h : RAt ib S st w) (hS : Room S.size) :
    Calls Tryd.prog 66 #[.pointer (some ⟨ib, 0, none⟩)] w fun e w' => e = .returned (vecV (rdVec S st).1) ∧ RAt ib S (rdVec S st).2 w' ∧ Keeps [ib] w w' := by
  have HI := Lib.hid h
  have hl := h.lt
  clear h
  obtain ⟨a, ha⟩ : ∃ a, a = rdInt S st := ⟨_, rfl⟩
  obtain ⟨b, hb⟩ : ∃ b, b = rdInt S a.2 := ⟨_, rfl⟩
  obtain ⟨c, hc⟩ : ∃ c, c = rdInt S b.2 := ⟨_, rfl⟩
  obtain ⟨d, hd⟩ : ∃ d, d = rdInt S c.2 := ⟨_, rfl⟩
  have HV : Hid (rdVec S st = (match d.2.bad with | none => (a.1, b.1, c.1, d.1) | some _ => (0, 0, 0, 0), d.2)) := by
    apply Lib.hid
    subst hd hc hb ha
    rfl
  have A := Lib.hid ha
  have B := Lib.hid hb
  have C := Lib.hid hc
  have D := Lib.hid hd
  clear ha hb hc hd
  go_enter Tryd.func66, Tryd.ntmps66
  go_wp2_with fail
  obtain ⟨w0, hw0⟩ : ∃ w0, w0 = ((w.alloc (.cells #[.int .i64 0, .int .i64 0, .int .i64 0, .int .i64 0] 25)).alloc (.cells #[.int .i64 0, .int .i64 0, .int .i64 0, .int .i64 0] 25)) := ⟨_, rfl⟩
  rw [← hw0]
  have hk0 : Keeps [] w w0 := by rw [hw0]; exact ((Keeps.refl _ _).alloc _).alloc _
  have hB1 : Blk w0 w.heap.size 25 #[.int .i64 0, .int .i64 0, .int .i64 0, .int .i64 0] := by rw [hw0]; exact (Blk.new _ _ _).alloc _
  have hB2 : Blk w0 (w.heap.size + 1) 25 #[.int .i64 0, .int .i64 0, .int .i64 0, .int .i64 0] := by rw [hw0]; exact Blk.newAt _ _ (by simp)
  have hI0 : RAt ib S st w0 := HI.out.keep hk0 (by simp)
  clear hw0 HI
  refine wp_loop_rounds 5 ?_
  rw [rounds_succ]
  go_wp2_with fail
  have hne : ib ≠ w.heap.size + 1 := by omega
  have hne0 : ib ≠ w.heap.size := by omega
  refine (rfIn_any ib S st _ hI0 hS).mono ?_
  rintro e w1 ⟨rfl, hI1, hk1⟩
  rw [← A.out] at hI1
  rw [← A.out]
  have hP1 := hB2.keep hk1 (by simp; omega)
  have c1 := hP1.cell
  have f1 := hP1.frz
  go_wp2_with fail
  rw [rounds_succ]
  go_wp2_with fail
  have hs1 := (Keeps.refl [w.heap.size + 1] w1).setCell (p := ⟨w.heap.size + 1, 0, none⟩) (by simp) (.int .i64 a.1)
  have hJ1 : RAt ib S a.2 (w1.setCell ⟨w.heap.size + 1, 0, none⟩ (.int .i64 a.1)) := hI1.keep hs1 (nmem1 hne)
  clear c1 f1
  refine (rfIn_any ib S a.2 _ hJ1 hS).mono ?_
  rintro e w2 ⟨rfl, hI2, hk2⟩
  rw [← B.out] at hI2
  rw [← B.out]
  have hP2 := (hP1.set 0 (.int .i64 a.1)).keep hk2 (by simp; omega)
  have c2 := hP2.cell
  have f2 := hP2.frz
  go_wp2_with fail
  rw [rounds_succ]
  go_wp2_with fail
  have hs2 := (Keeps.refl [w.heap.size + 1] w2).setCell (p := ⟨w.heap.size + 1, 1, none⟩) (by simp) (.int .i64 b.1)
  have hJ2 : RAt ib S b.2 (w2.setCell ⟨w.heap.size + 1, 1, none⟩ (.int .i64 b.1)) := hI2.keep hs2 (nmem1 hne)
  clear c2 f2
  refine (rfIn_any ib S b.2 _ hJ2 hS).mono ?_
  rintro e w3 ⟨rfl, hI3, hk3⟩
  rw [← C.out] at hI3
  rw [← C.out]
  have hP3 := (hP2.set 1 (.int .i64 b.1)).keep hk3 (by simp; omega)
  have c3 := hP3.cell
  have f3 := hP3.frz
  go_wp2_with fail
  rw [rounds_succ]
  go_wp2_with fail
  have hs3 := (Keeps.refl [w.heap.size + 1] w3).setCell (p := ⟨w.heap.size + 1, 2, none⟩) (by simp) (.int .i64 c.1)
  have hJ3 : RAt ib S c.2 (w3.setCell ⟨w.heap.size + 1, 2, none⟩ (.int .i64 c.1)) := hI3.keep hs3 (nmem1 hne)
  clear c3 f3
  refine (rfIn_any ib S c.2 _ hJ3 hS).mono ?_
  rintro e w4 ⟨rfl, hI4, hk4⟩
  rw [← D.out] at hI4
  rw [← D.out]
  have hP4 := (hP3.set 2 (.int .i64 c.1)).keep hk4 (by simp; omega)
  have c4 := hP4.cell
  have f4 := hP4.frz
  have hkk : Keeps [ib] w w4 := by
    have hz0 := hk0.size
    have hz1 := hk1.size
    have q1 : Keeps [ib] w w1 := (hk0.mono (by simp)).trans hk1
    have q2 := q1.trans' hs1 (by simp; omega)
    have q3 := (q2.trans hk2).trans' hs2 (by simp; omega)
    have q4 := (q3.trans hk3).trans' hs3 (by simp; omega)
    exact q4.trans hk4
  have hK0 : Keeps [ib, w.heap.size + 1] w0 w4 := by
    have q2 := (hk1.mono (Y := [ib, w.heap.size + 1]) (by simp)).trans (hs1.mono (by simp))
    have q3 := (q2.trans (hk2.mono (by simp))).trans (hs2.mono (by simp))
    have q4 := (q3.trans (hk3.mono (by simp))).trans (hs3.mono (by simp))
    exact q4.trans (hk4.mono (by simp))
  have hR4 := hB1.keep hK0 (nmem2 (Ne.symm hne0) (by omega))
  have r4 := hR4.cell
  have g4 := hR4.frz
  have hI42 := hI4.2
  have hlR := hR4.lt
  clear hI0 hI1 hI2 hI3 hJ1 hJ2 hJ3 hs1 hs2 hs3 hk0 hk1 hk2 hk3 hk4 hP1 hP2 hP3 hK0 hB1 hB2
  have HI := Lib.hid hI4
  have hfin : ∀ x0 x1 x2 x3 x4 : Value, Keeps [w.heap.size, w.heap.size + 1] w4 (((((w4.setCell ⟨w.heap.size + 1, 3, none⟩ x4).setCell ⟨w.heap.size, 0, none⟩ x0).setCell ⟨w.heap.size, 1, none⟩ x1).setCell ⟨w.heap.size, 2, none⟩ x2).setCell ⟨w.heap.size, 3, none⟩ x3) := fun x0 x1 x2 x3 x4 =>
    (((((Keeps.refl _ _).setCell (p := ⟨w.heap.size + 1, 3, none⟩) (by simp) _).setCell (p := ⟨w.heap.size, 0, none⟩) (by simp) _).setCell (p := ⟨w.heap.size, 1, none⟩) (by simp) _).setCell (p := ⟨w.heap.size, 2, none⟩) (by simp) _).setCell (p := ⟨w.heap.size, 3, none⟩) (by simp) _
  have HFIN := Lib.hid hfin
  have HP4 := Lib.hid hP4
  clear hfin hI4 hP4
  cases hbad : d.2.bad with
  | none =>
    have HR : Hid (rdVec S st = ((a.1, b.1, c.1, d.1), d.2)) := by apply Lib.hid; rw [HV.out, hbad]
    rw [hbad] at hI42
    have i4 := hI42.cell
    simp only [badI] at i4
    clear hbad hI42
    go_wp2_with fail
    rw [rounds_succ]
    go_wp2_with fail
    refine bodyPost_ret (v := vecV (a.1, b.1, c.1, d.1)) (by simp [results, Tryd.results66, go_sem, r4, vecV]) rfl ?_
    rw [HR.out]
    exact ⟨rfl, HI.out.keep (HFIN.out _ _ _ _ _) (nmem2 hne0 hne), hkk.trans' (HFIN.out _ _ _ _ _) (by simp; omega)⟩
  | some p =>
    have HR : Hid (rdVec S st = ((0, 0, 0, 0), d.2)) := by apply Lib.hid; rw [HV.out, hbad]
    rw [hbad] at hI42
    have i4 := hI42.cell
    simp only [badI] at i4
    clear hbad hI42
    go_wp2_with fail
    rw [rounds_succ]
    go_wp2_with fail
    refine bodyPost_ret (v := vecV (0, 0, 0, 0)) (by simp [results, Tryd.results66, go_sem, r4, vecV]) rfl ?_
    rw [HR.out]
    exact ⟨rfl, HI.out.keep (HFIN.out _ _ _ _ _) (nmem2 hne0 hne), hkk.trans' (HFIN.out _ _ _ _ _) (by simp; omega)⟩

set_option maxRecDepth 100000 in
set_option maxHeartbeats 1000000 in
theorem rfInBool_any (ib : Nat) (S : ByteArray) (st : RS) (w : World) (h : RAt ib S st w) (hS : Room S.size) :
    Calls Tryd.prog 67 #[.pointer (some ⟨ib, 0, none⟩)] w fun e w' => e = .returned (.bool (rdBool S st).1) ∧ RAt ib S (rdBool S st).2 w' ∧ Keeps [ib] w w' := by
  have HI := Lib.hid h
  have c := h.2.cell
  have hl := h.lt
  clear h
  obtain ⟨R, hR⟩ : ∃ R, R = rdInt S st := ⟨_, rfl⟩
  have HN := Lib.hid hR
  have hbd : R.2.bad = none ∨ ∃ p, R.2.bad = some p ∧ R.1 = 0 := by
    rw [hR]; unfold rdInt
    split
    · rename_i p hp; exact .inr ⟨p, hp, rfl⟩
    · split
      · exact .inl rfl
      · exact .inr ⟨_, rfl, rfl⟩
  clear hR
  go_enter Tryd.func67, Tryd.ntmps67
  go_wp2_with fail
  refine (rfIn_any ib S st _ HI.out hS).mono ?_
  rintro e w1 ⟨rfl, hI, hk⟩
  rw [← HN.out] at hI
  rw [← HN.out]
  obtain ⟨n, st1⟩ := R
  have c1 := hI.2.cell
  have HI1 := Lib.hid hI
  have HB1 := Lib.hid hI.2
  clear hI c
  rcases hbd with hbad | ⟨p, hbad, hn⟩
  · simp only at hbad
    simp only [hbad, badI] at c1
    have HBD := Lib.hid hbad
    clear hbad
    by_cases h0 : n = 0
    · have HR : Hid (rdBool S st = (false, st1)) := by apply Lib.hid; unfold rdBool; rw [← HN.out, if_pos h0]
      obtain rfl := h0
      go_wp2_with fail
      go_ret
      rw [HR.out]
      exact ⟨rfl, HI1.out, hk⟩
    · by_cases h1 : n = 1
      · have HR : Hid (rdBool S st = (true, st1)) := by apply Lib.hid; unfold rdBool; rw [← HN.out, if_neg h0, if_pos h1]
        obtain rfl := h1
        go_wp2_with fail
        go_ret
        rw [HR.out]
        exact ⟨rfl, HI1.out, hk⟩
      · have HR : Hid (rdBool S st = (false, ⟨S.size, some st.pos⟩)) := by apply Lib.hid; unfold rdBool; rw [← HN.out, if_neg h0, if_neg h1]
        have hb0 : (n != 0) = true := by simpa using h0
        have hb1 : (n != 1) = true := by simpa using h1
        go_wp2_with fail
        refine (rfFail_any ib S st1.pos st.pos _ w1 HB1.out).mono ?_
        rintro e w2 ⟨rfl, hI2, hk2⟩
        go_wp2_with fail
        go_ret
        rw [HR.out]
        exact ⟨rfl, hI2, hk.trans hk2⟩
  · simp only at hbad hn
    simp only [hbad, badI] at c1
    obtain rfl := hn
    have HR : Hid (rdBool S st = (false, st1)) := by apply Lib.hid; unfold rdBool; rw [← HN.out, if_pos rfl]
    clear hbad
    go_wp2_with fail
    go_ret
    rw [HR.out]
    exact ⟨rfl, HI1.out, hk⟩

end Go.Proofs.YtnlhmlgoipnekaaDoor
