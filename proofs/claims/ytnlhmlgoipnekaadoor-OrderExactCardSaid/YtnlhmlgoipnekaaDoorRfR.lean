/- The reference's commands: Read, walked; the law's form. -/
import Derived.Test.YtnlhmlgoipnekaaDoorRfB
import Derived.Test.YtnlhmlgoipnekaaDoorRfN
import Derived.Test.YtnlhmlgoipnekaaDoorRd
import Derived.Test.YtnlhmlgoipnekaaDoorQSt
import Derived.Deep.RegionWith
namespace Go.Proofs.YtnlhmlgoipnekaaDoor
open Go.RowKit

set_option maxRecDepth 100000 in
set_option maxHeartbeats 1000000 in
theorem form_any (c : Cmd) (w : World) :
    Calls Tryd.prog 11 #[.agg c.cells] w fun e w' => e = .returned (.agg c.cells) ∧ Keeps [] w w' := by
  obtain ⟨wa, hwa⟩ : ∃ wa, w.alloc (.cells c.cells 27) = wa := ⟨_, rfl⟩
  have hba : Blk wa w.heap.size 27 c.cells := by rw [← hwa]; exact Blk.new _ _ _
  have hka : Keeps [] w wa := by rw [← hwa]; exact (Keeps.refl _ _).alloc _
  have hsa : wa.heap.size = w.heap.size + 1 := by rw [← hwa]; simp
  obtain ⟨w0, hw0⟩ : ∃ w0, wa.alloc (.cells (Cmd.zero 0).cells 29) = w0 := ⟨_, rfl⟩
  have hz0 : Blk w0 (w.heap.size + 1) 29 (Cmd.zero 0).cells := by rw [← hw0, ← hsa]; exact Blk.new _ _ _
  have hc0 : Blk w0 w.heap.size 27 c.cells := by rw [← hw0]; exact hba.alloc _
  have hk0 : Keeps [] w w0 := by rw [← hw0]; exact hka.alloc _
  unfold Cmd.zero Cmd.cells at hw0
  have cc := hc0.cell
  unfold Cmd.cells at cc
  clear hba hka hc0
  go_enter Tryd.func11, Tryd.ntmps11
  go_wp2_with (refine wpList_store_blk rfl 29 _ _ rfl (w.heap.size + 1) 29 (Cmd.zero 0).cells c.cells rfl rfl hz0 rfl (by kernel_rfl) (Cmd.one _) ?_)
  intro w5 hz5 hk5
  have hK5 : Keeps [] w w5 := hk0.trans' hk5 (by simp)
  clear cc hwa hw0
  go_wp2_with fail
  refine bodyPost_ret (results_cell_row rfl _ _ (w.heap.size + 1) 29 c.cells (0, 0) _ rfl hz5 Tryd.underlying29 rfl (by kernel_rfl)) rfl ?_
  exact ⟨rfl, hK5⟩

theorem rdF_kind (S : ByteArray) (s : Cmd × RS) (f : Fld) : (rdF S s f).1.kind = s.1.kind := by
  cases f
  · exact Cmd.put_kind _ _ _
  · rfl
  · rfl

/-- What the reference's Read says of a place. -/
def badV (o : Option Nat) : Value := .int .i64 (badI o)

/-- The relation of Read's loop. -/
def RdRel (cb ib rb : Nat) (S : ByteArray) (K : Int × RS) (w : World) (k : Nat) (w' : World) : Prop :=
  Blk w' cb 29 (((overF K.1).take k).foldl (rdF S) (Cmd.zero K.1, K.2)).1.cells ∧ RAt ib S (((overF K.1).take k).foldl (rdF S) (Cmd.zero K.1, K.2)).2 w' ∧ Blk w' rb 29 (Cmd.zero 0).cells ∧ Keeps [] w w'

theorem RdRel.step {cb ib rb : Nat} {S : ByteArray} {K : Int × RS} {w w1 w2 : World} {k : Nat} {f : Fld} (h : RdRel cb ib rb S K w k w1) (hf : (overF K.1)[k]? = some f) (hk : Keeps [cb, ib] w1 w2) (hcb : w.heap.size ≤ cb) (hib : w.heap.size ≤ ib) (h1 : rb ≠ cb) (h2 : rb ≠ ib)
    (hb : Blk w2 cb 29 (rdF S (((overF K.1).take k).foldl (rdF S) (Cmd.zero K.1, K.2)) f).1.cells) (hr : RAt ib S (rdF S (((overF K.1).take k).foldl (rdF S) (Cmd.zero K.1, K.2)) f).2 w2) : RdRel cb ib rb S K w (k + 1) w2 := by
  obtain ⟨a1, a2, a3, a4⟩ := h
  refine ⟨?_, ?_, a3.keep hk (nmem2 h1 h2), a4.trans' hk (by simp; omega)⟩
  · rw [foldl_snoc _ _ _ _ _ hf]; exact hb
  · rw [foldl_snoc _ _ _ _ _ hf]; exact hr

set_option maxRecDepth 100000 in
set_option maxHeartbeats 20000000 in
theorem rfRead_any (S : ByteArray) (w : World) (hS : Room S.size) :
    Calls Tryd.prog 22 #[.string S] w fun e w' => e = .returned (.tuple #[.agg (readC S).1.cells, badV (readC S).2]) ∧ Keeps [] w w' := by
  obtain ⟨R, hR⟩ : ∃ R, R = readC S := ⟨_, rfl⟩
  rw [← hR]
  have HR := Lib.hid hR
  clear hR
  obtain ⟨K, hK⟩ : ∃ K, K = readK S := ⟨_, rfl⟩
  have HK := Lib.hid hK
  clear hK
  obtain ⟨w0, hw0⟩ : ∃ w0, w.alloc (.cells (Cmd.zero 0).cells 29) = w0 := ⟨_, rfl⟩
  have hz0 : Blk w0 w.heap.size 29 (Cmd.zero 0).cells := by rw [← hw0]; exact Blk.new _ _ _
  have hk0 : Keeps [] w w0 := by rw [← hw0]; exact (Keeps.refl _ _).alloc _
  have hs0 : w0.heap.size = w.heap.size + 1 := by rw [← hw0]; simp
  unfold Cmd.zero Cmd.cells at hw0
  go_enter Tryd.func22, Tryd.ntmps22
  go_wp2_with fail
  clear hw0
  refine (rfOf_any S _).mono ?_
  rintro e w1 ⟨rfl, hI1, hk1⟩
  rw [hs0] at hI1
  rw [hs0]
  go_wp2_with fail
  refine (rfIn_any _ S _ w1 hI1 hS).mono ?_
  rintro e w2 ⟨rfl, hI2, hk2⟩
  rw [show rdInt S ⟨0, none⟩ = K from HK.out.symm] at hI2
  rw [show rdInt S ⟨0, none⟩ = K from HK.out.symm]
  have hz2 := (hz0.keep hk1 (by simp)).keep hk2 (nmem1 (by omega))
  have hK2 : Keeps [] w w2 := (hk0.trans hk1).trans' hk2 (by simp)
  obtain ⟨w3, hw3⟩ : ∃ w3, w2.alloc (.cells (Cmd.zero 0).cells 29) = w3 := ⟨_, rfl⟩
  have hb3 : Blk w3 w2.heap.size 29 (Cmd.zero 0).cells := by rw [← hw3]; exact Blk.new _ _ _
  have hk3 : Keeps [] w2 w3 := by rw [← hw3]; exact (Keeps.refl _ _).alloc _
  unfold Cmd.zero Cmd.cells at hw3
  have hlt2 := hI2.lt
  clear hI1 hk1 hk2 hz0 hk0
  go_wp2_with (refine wpList_store_blk rfl 29 _ _ rfl w2.heap.size 29 (Cmd.zero 0).cells (Cmd.zero K.1).cells rfl rfl hb3 rfl (by kernel_rfl) (Cmd.one _) ?_)
  intro w4 hb4 hk4
  have hI4 := (hI2.keep hk3 (by simp)).keep hk4 (nmem1 (by omega))
  have hz4 := (hz2.keep hk3 (by simp)).keep hk4 (nmem1 (by omega))
  have hK4 : Keeps [] w w4 := (hK2.trans hk3).trans' hk4 (by simp; omega)
  have hs2 := hK2.size
  obtain ⟨cb, hcb⟩ : ∃ cb, cb = w2.heap.size := ⟨_, rfl⟩
  rw [← hcb] at hb4 hlt2 ⊢
  have hs2' : w.heap.size + 1 < cb := hlt2
  have HCB := Lib.hid hcb
  clear hw3 hb3 hk3 hk4 hz2 hI2 hK2 hcb
  have ck : w4.cell? ⟨cb, 0, none⟩ = some (.int .i64 K.1) := by rw [hb4.cell]; rfl
  have ci := hI4.2.cell
  by_cases hgo : K.2.bad = none ∧ 1 ≤ K.1 ∧ K.1 ≤ 21
  · have HF : Hid (R = match endP S ((overF K.1).foldl (rdF S) (Cmd.zero K.1, K.2)).2 with | some p => (Cmd.zero 0, some p) | none => (((overF K.1).foldl (rdF S) (Cmd.zero K.1, K.2)).1, none)) := by
      apply Lib.hid; rw [HR.out]; unfold readC; rw [← HK.out, if_pos hgo]; rfl
    obtain ⟨hbad, h1, h2⟩ := hgo
    simp only [hbad, badI] at ci
    clear hbad
    go_wp2_with fail
    refine (has_any K.1 w4).mono ?_
    rintro e w5 ⟨rfl, hk5⟩
    have HL : Hid (RdRel cb (w.heap.size + 1) w.heap.size S K w 0 w5) := Lib.hid ⟨hb4.keep hk5 (by simp), hI4.keep hk5 (by simp), hz4.keep hk5 (by simp), hK4.trans hk5⟩
    have hl10 := hasL_len K.1
    have hov := hasL_over K.1 h1 h2
    have hin := hasL_in K.1
    generalize hasL K.1 = l at *
    have HOV := Lib.hid hov
    have HIN := Lib.hid hin
    clear hk5 hK4 hb4 hI4 hz4 ck ci hov hin
    go_wp2_with fail
    go_loopw [7] (fun i wr => ∃ k : Nat, i = .int .i64 k ∧ k ≤ l.length ∧ RdRel cb (w.heap.size + 1) w.heap.size S K w k wr) (fun i _ => l.length - (intOf i).toNat)
    case atStart => exact ⟨0, rfl, by omega, HL.out⟩
    case round =>
      obtain ⟨k, rfl, hk, hT⟩ := hrel
      have HT := Lib.hid hT
      by_cases hlt : k < l.length
      · obtain ⟨b, hb⟩ : ∃ b, l[k]? = some b := ⟨_, List.getElem?_eq_getElem hlt⟩
        have hix := idx_run l k b hb
        have HFL : Hid ((overF K.1)[k]? = some (letF b)) := by apply Lib.hid; rw [← HOV.out, List.getElem?_map, hb]; rfl
        have hbl : b ∈ letters := HIN.out b (List.mem_of_getElem? hb)
        have HB := Lib.hid hb
        obtain ⟨s, hs⟩ : ∃ s, s = ((overF K.1).take k).foldl (rdF S) (Cmd.zero K.1, K.2) := ⟨_, rfl⟩
        obtain ⟨hcr, hor, hzr, hkr⟩ := hT
        rw [← hs] at hcr hor
        have HSS := Lib.hid hs
        clear hb hs
        obtain ⟨dk, st⟩ := s
        simp only at hcr hor
        by_cases hv : b = 118
        · subst hv
          go_wp2_with fail
          refine (rfInVec_any _ S st wr hor hS).mono ?_
          rintro e w6 ⟨rfl, hI6, hk6⟩
          have hc6 := hcr.keep hk6 (nmem1 (by omega))
          obtain ⟨r, hr⟩ : ∃ r, r = rdVec S st := ⟨_, rfl⟩
          rw [← hr] at hI6 ⊢
          have hst := ((((hc6.set 10 (.int .i64 r.1.1)).set 11 (.int .i64 r.1.2.1)).set 12 (.int .i64 r.1.2.2.1)).set 13 (.int .i64 r.1.2.2.2))
          have hkp := ((((Keeps.refl [cb] w6).setCell (p := ⟨cb, 10, none⟩) (by simp) (.int .i64 r.1.1)).setCell (p := ⟨cb, 11, none⟩) (by simp) (.int .i64 r.1.2.1)).setCell (p := ⟨cb, 12, none⟩) (by simp) (.int .i64 r.1.2.2.1)).setCell (p := ⟨cb, 13, none⟩) (by simp) (.int .i64 r.1.2.2.2)
          have HN := Lib.hid (HT.out.step HFL.out ((hk6.mono (Y := [cb, w.heap.size + 1]) (by simp)).trans (hkp.mono (by simp))) (by omega) (by omega) (by omega) (by omega) (by rw [← HSS.out]; unfold rdF; rw [← hr]; exact hst) (by rw [← HSS.out]; unfold rdF; rw [← hr]; exact hI6.keep hkp (nmem1 (by omega))))
          have oc := hc6.cell
          have of := hc6.frz
          unfold Cmd.cells at oc
          unfold vecV
          clear hst hkp hcr hor hzr hkr hI6 hc6 hk6 hr
          go_wp2_with fail
          go_roundw
          case rel => exact ⟨k + 1, by go_num, by omega, HN.out⟩
          case measure => simp [intOf]; omega
        · by_cases hf : b = 102
          · subst hf
            go_wp2_with fail
            refine (rfInBool_any _ S st wr hor hS).mono ?_
            rintro e w6 ⟨rfl, hI6, hk6⟩
            have hc6 := hcr.keep hk6 (nmem1 (by omega))
            obtain ⟨r, hr⟩ : ∃ r, r = rdBool S st := ⟨_, rfl⟩
            rw [← hr] at hI6 ⊢
            have hst := hc6.set 14 (.bool r.1)
            have hkp := (Keeps.refl [cb] w6).setCell (p := ⟨cb, 14, none⟩) (by simp) (.bool r.1)
            have HN := Lib.hid (HT.out.step HFL.out ((hk6.mono (Y := [cb, w.heap.size + 1]) (by simp)).trans (hkp.mono (by simp))) (by omega) (by omega) (by omega) (by omega) (by rw [← HSS.out]; unfold rdF; rw [← hr]; exact hst) (by rw [← HSS.out]; unfold rdF; rw [← hr]; exact hI6.keep hkp (nmem1 (by omega))))
            have oc := hc6.cell
            have of := hc6.frz
            unfold Cmd.cells at oc
            clear hst hkp hcr hor hzr hkr hI6 hc6 hk6 hr
            go_wp2_with fail
            go_roundw
            case rel => exact ⟨k + 1, by go_num, by omega, HN.out⟩
            case measure => simp [intOf]; omega
          · have hnum := numL_of b hbl hv hf
            have hv2 : (((b.toNat : Nat) : Int) == 118) = false := by
              have : b.toNat ≠ 118 := fun e => hv (UInt8.toNat.inj (by simpa using e))
              simp; omega
            have hf2 : (((b.toNat : Nat) : Int) == 102) = false := by
              have : b.toNat ≠ 102 := fun e => hf (UInt8.toNat.inj (by simpa using e))
              simp; omega
            go_wp2_with fail
            go_region_with (first
              | (go_at_call 65; refine (rfIn_any (w.heap.size + 1) S st _ ?_ hS).mono ?_; exact hor; rintro e w6 ⟨rfl, hI6, hk6⟩)
              | (go_at_call 51; refine (rfPut_any cb dk b (rdInt S st).1 _ ?_ hnum).mono ?_; exact (hcr.drew).keep hk6 (nmem1 (by omega)); rintro e w7 ⟨rfl, hc7, hk7⟩))
            all_goals
              have HN := Lib.hid (HT.out.step HFL.out ((((Keeps.refl _ wr).drew.trans (hk6.mono (Y := [cb, w.heap.size + 1]) (by simp)))).trans (hk7.mono (by simp))) (by omega) (by omega) (by omega) (by omega) (by rw [← HSS.out, letF_num b hv hf]; exact hc7) (by rw [← HSS.out, letF_num b hv hf]; exact hI6.keep hk7 (nmem1 (by omega))))
              clear hcr hor hzr hkr hI6 hk6 hc7 hk7
              go_wp2_with fail
              exact ⟨⟨k + 1, by go_num, by omega, HN.out⟩, by simp [intOf]; omega⟩
      · obtain ⟨hcr, hor, hzr, hkr⟩ := hT
        have hall : (overF K.1).take k = overF K.1 := List.take_of_length_le (by rw [← HOV.out, List.length_map]; omega)
        rw [hall] at hcr hor
        clear hall
        generalize (overF K.1).foldl (rdF S) (Cmd.zero K.1, K.2) = s at *
        obtain ⟨d, st⟩ := s
        have ci := hor.2.cell
        have cp := fun p => kw_cell hor.2 p
        cases hbad : st.bad with
        | some p =>
          have HG : Hid (R = (Cmd.zero 0, some p)) := by apply Lib.hid; rw [HF.out]; unfold endP; simp only [hbad]
          simp only [hbad, badI] at ci cp
          clear hbad hcr
          go_wp2_with fail
          refine wp_region_kw (by kernel_rfl) (by kernel_rfl) ?_
          repeat (first | (refine wpQuiet_store_same rfl 29 _ _ rfl w.heap.size 29 (Cmd.zero 0).cells rfl rfl (blk_kw hzr) (by kernel_rfl) (Cmd.one _) ?_; go_simp) | (go_big_quiet_step (fail)))
          refine wpQuiet_nil ?_
          intro q
          have hzq := hzr.keep (kw_keeps wr q) (by simp)
          have hKq := hkr.trans (kw_keeps wr q)
          generalize kw wr q = wz at *
          clear ci cp
          go_wp2_with fail
          have rz := hzq.cell
          unfold Cmd.zero Cmd.cells at rz
          refine bodyPost_ret (v := .tuple #[.agg (Cmd.zero 0).cells, .int .i64 p]) (by simp [results, Tryd.results22, go_sem, rz, Cmd.cells, Cmd.zero]) rfl ?_
          rw [HG.out]
          exact ⟨rfl, hKq⟩
        | none =>
          simp only [hbad, badI] at ci cp
          by_cases hp : st.pos < S.size
          · have HG : Hid (R = (Cmd.zero 0, some st.pos)) := by apply Lib.hid; rw [HF.out]; unfold endP; simp only [hbad]; rw [if_pos hp]
            have hp2 : (st.pos : Int) < S.size := by omega
            clear hbad hcr
            go_wp2_with fail
            refine wp_region_kw (by kernel_rfl) (by kernel_rfl) ?_
            repeat (first | (refine wpQuiet_store_same rfl 29 _ _ rfl w.heap.size 29 (Cmd.zero 0).cells rfl rfl (blk_kw hzr) (by kernel_rfl) (Cmd.one _) ?_; go_simp) | (go_big_quiet_step (fail)))
            refine wpQuiet_nil ?_
            intro q
            have hzq := hzr.keep (kw_keeps wr q) (by simp)
            have hKq := hkr.trans (kw_keeps wr q)
            generalize kw wr q = wz at *
            clear ci cp
            go_wp2_with fail
            have rz := hzq.cell
            unfold Cmd.zero Cmd.cells at rz
            refine bodyPost_ret (v := .tuple #[.agg (Cmd.zero 0).cells, .int .i64 st.pos]) (by simp [results, Tryd.results22, go_sem, rz, Cmd.cells, Cmd.zero]) rfl ?_
            rw [HG.out]
            exact ⟨rfl, hKq⟩
          · have HG : Hid (R = (d, none)) := by apply Lib.hid; rw [HF.out]; unfold endP; simp only [hbad]; rw [if_neg hp]
            have hp2 : ¬ ((st.pos : Int) < S.size) := by omega
            go_wp2_with (first | (refine wpList_load_blk rfl 29 _ rfl cb 29 d.cells rfl hcr _ Tryd.underlying29 rfl (by kernel_rfl) ?_) | (refine wpList_store_blk rfl 29 _ _ rfl w.heap.size 29 (Cmd.zero 0).cells d.cells rfl rfl hzr rfl (by kernel_rfl) (Cmd.one _) ?_))
            intro w5 hz5 hk5
            have hK5 : Keeps [] w w5 := hkr.trans' hk5 (by simp)
            have rz := hz5.cell
            unfold Cmd.cells at rz
            go_wp2_with fail
            refine bodyPost_ret (v := .tuple #[.agg d.cells, .int .i64 (-1)]) (by simp [results, Tryd.results22, go_sem, rz, Cmd.cells]) rfl ?_
            rw [HG.out]
            exact ⟨rfl, hK5⟩
  · have HG : Hid (R = (Cmd.zero 0, some 0)) := by apply Lib.hid; rw [HR.out]; unfold readC; rw [← HK.out, if_neg hgo]
    have z0 := hz4.cell
    have z1 := hz4.frz
    unfold Cmd.zero Cmd.cells at z0
    have hcs : (∃ p, K.2.bad = some p) ∨ (K.2.bad = none ∧ K.1 < 1) ∨ (K.2.bad = none ∧ 1 ≤ K.1 ∧ 21 < K.1) := by
      cases hb : K.2.bad with
      | some p => exact .inl ⟨p, rfl⟩
      | none =>
        by_cases h1 : 1 ≤ K.1
        · right; right; exact ⟨rfl, h1, by
            have := mt (fun h2 => (⟨hb, h1, h2⟩ : K.2.bad = none ∧ 1 ≤ K.1 ∧ K.1 ≤ 21)) hgo
            omega⟩
        · right; left; exact ⟨rfl, by omega⟩
    clear hgo
    rcases hcs with ⟨p, hb⟩ | ⟨hb, h1⟩ | ⟨hb, h1, h2⟩
    all_goals
      simp only [hb, badI] at ci
      clear hb
      go_wp2_with fail
      change bodyPost _ _ _ _ _ (setFrom w4 w.heap.size 0 (Cmd.zero 0).cells.toList)
      have q1 := setFrom_whole (ds := (Cmd.zero 0).cells) hz4 rfl
      have q2 := setFrom_keeps (b := w.heap.size) (Cmd.zero 0).cells.toList 0 w w4 hK4 (by simp)
      clear z0 z1 ci
      generalize setFrom w4 w.heap.size 0 (Cmd.zero 0).cells.toList = wz at *
      have rz := q1.cell
      unfold Cmd.zero Cmd.cells at rz
      refine bodyPost_ret (v := .tuple #[.agg (Cmd.zero 0).cells, .int .i64 0]) (by simp [results, Tryd.results22, go_sem, rz, Cmd.cells, Cmd.zero]) rfl ?_
      rw [HG.out]
      exact ⟨rfl, q2⟩

end Go.Proofs.YtnlhmlgoipnekaaDoor
