/- The reference's commands: Trim, Good, walked. -/
import Derived.Test.YtnlhmlgoipnekaaDoorRfH
import Derived.Test.YtnlhmlgoipnekaaDoorRfG
import Derived.Test.YtnlhmlgoipnekaaDoorRfI
import Derived.Test.YtnlhmlgoipnekaaDoorQTail
import Derived.Test.YtnlhmlgoipnekaaDoorQLd
import Derived.Test.YtnlhmlgoipnekaaDoorStore
import Derived.Test.YtnlhmlgoipnekaaDoorPln
import Derived.IntWalk
import Derived.Deep.Cut
namespace Go.Proofs.YtnlhmlgoipnekaaDoor
open Go.RowKit

/-- The byte at a place of a string, as the walk reads it. -/
theorem idx_run (l : List UInt8) (k : Nat) (b : UInt8) (h : l[k]? = some b) (w : World) :
    (Instr.index 9 (.string ⟨l.toArray⟩) (.int .i64 k)).run Tryd.prog w = .ok (.int .u8 b.toNat) w := by
  obtain ⟨hk, hb⟩ := List.getElem?_eq_some_iff.1 h
  have hs : (⟨l.toArray⟩ : ByteArray).size = l.length := by simp [ByteArray.size]
  rw [run_index_string w _ _ _ _ Tryd.underlying9, dif_pos ⟨by omega, by omega⟩]
  have e : (⟨l.toArray⟩ : ByteArray)[(k : Int).toNat]'(by omega) = b := by
    simp only [Int.toNat_natCast]
    rw [← hb]; rfl
  rw [e]

theorem foldl_snoc {α β : Type} (f : α → β → α) (a : α) (l : List β) (k : Nat) (x : β) (h : l[k]? = some x) : (l.take (k + 1)).foldl f a = f ((l.take k).foldl f a) x := by
  obtain ⟨hk, hx⟩ := List.getElem?_eq_some_iff.1 h
  rw [List.take_succ_eq_append_getElem hk, List.foldl_append, hx]; rfl

/-- The relation of Trim's loop. -/
def TrRel (cb ob rb : Nat) (c : Cmd) (w : World) (k : Nat) (w' : World) : Prop :=
  Blk w' cb 29 c.cells ∧ Blk w' ob 29 (((overF c.kind).take k).foldl (cpF c) (Cmd.zero c.kind)).cells ∧ Blk w' rb 29 (Cmd.zero 0).cells ∧ Keeps [] w w'

theorem TrRel.step {cb ob rb : Nat} {c : Cmd} {w w1 w2 : World} {k : Nat} {f : Fld} (h : TrRel cb ob rb c w k w1) (hf : (overF c.kind)[k]? = some f) (hk : Keeps [ob] w1 w2) (hob : w.heap.size ≤ ob) (h1 : cb ≠ ob) (h2 : rb ≠ ob)
    (hb : Blk w2 ob 29 (cpF c (((overF c.kind).take k).foldl (cpF c) (Cmd.zero c.kind)) f).cells) : TrRel cb ob rb c w (k + 1) w2 := by
  obtain ⟨a1, a2, a3, a4⟩ := h
  refine ⟨a1.keep hk (nmem1 h1), ?_, a3.keep hk (nmem1 h2), a4.trans' hk (by simp; omega)⟩
  rw [foldl_snoc _ _ _ _ _ hf]; exact hb

set_option maxRecDepth 100000 in
set_option maxHeartbeats 4000000 in
theorem rfTrim_in (c : Cmd) (w : World) (h1 : 1 ≤ c.kind) (h2 : c.kind ≤ 21) :
    Calls Tryd.prog 16 #[.agg c.cells] w fun e w' => e = .returned (.agg c.proj.cells) ∧ Keeps [] w w' := by
  obtain ⟨d, hd⟩ : ∃ d, d = c.proj := ⟨_, rfl⟩
  rw [← hd]
  have HD := Lib.hid hd
  clear hd
  obtain ⟨wa, hwa⟩ : ∃ wa, w.alloc (.cells c.cells 29) = wa := ⟨_, rfl⟩
  have hba : Blk wa w.heap.size 29 c.cells := by rw [← hwa]; exact Blk.new _ _ _
  have hka : Keeps [] w wa := by rw [← hwa]; exact (Keeps.refl _ _).alloc _
  have hsa : wa.heap.size = w.heap.size + 1 := by rw [← hwa]; simp
  obtain ⟨w0, hw0⟩ : ∃ w0, wa.alloc (.cells (Cmd.zero 0).cells 29) = w0 := ⟨_, rfl⟩
  have hz0 : Blk w0 (w.heap.size + 1) 29 (Cmd.zero 0).cells := by rw [← hw0, ← hsa]; exact Blk.new _ _ _
  have hc0 : Blk w0 w.heap.size 29 c.cells := by rw [← hw0]; exact hba.alloc _
  have hk0 : Keeps [] w w0 := by rw [← hw0]; exact hka.alloc _
  have hs0 : w0.heap.size = w.heap.size + 2 := by rw [← hw0]; simp [hsa]
  obtain ⟨w1, hw1⟩ : ∃ w1, w0.alloc (.cells (Cmd.zero 0).cells 29) = w1 := ⟨_, rfl⟩
  have ho1 : Blk w1 (w.heap.size + 2) 29 (Cmd.zero 0).cells := by rw [← hw1, ← hs0]; exact Blk.new _ _ _
  have hz1 : Blk w1 (w.heap.size + 1) 29 (Cmd.zero 0).cells := by rw [← hw1]; exact hz0.alloc _
  have hc1 : Blk w1 w.heap.size 29 c.cells := by rw [← hw1]; exact hc0.alloc _
  have hk1 : Keeps [] w w1 := by rw [← hw1]; exact hk0.alloc _
  unfold Cmd.zero Cmd.cells at hw0 hw1
  have ck : w0.cell? ⟨w.heap.size, 0, none⟩ = some (.int .i64 c.kind) := by rw [hc0.cell]; rfl
  clear hba hka hz0 hc0 hk0
  go_enter Tryd.func16, Tryd.ntmps16
  go_wp2_with (refine wpList_store_blk rfl 29 _ _ rfl (w.heap.size + 2) 29 (Cmd.zero 0).cells (Cmd.zero c.kind).cells rfl rfl ho1 rfl (by kernel_rfl) (Cmd.one _) ?_)
  intro w2 ho2 hk2
  have hz2 := hz1.keep hk2 (nmem1 (by omega))
  have hc2 := hc1.keep hk2 (nmem1 (by omega))
  have hK2 : Keeps [] w w2 := hk1.trans' hk2 (by simp)
  have ck2 : w2.cell? ⟨w.heap.size, 0, none⟩ = some (.int .i64 c.kind) := by rw [hc2.cell]; rfl
  clear hwa hw0 hw1 ho1 hz1 hc1 hk1 hk2 ck
  go_wp2_with fail
  refine (has_any c.kind w2).mono ?_
  rintro e w3 ⟨rfl, hk3⟩
  have HR : Hid (TrRel w.heap.size (w.heap.size + 2) (w.heap.size + 1) c w 0 w3) := Lib.hid ⟨hc2.keep hk3 (by simp), ho2.keep hk3 (by simp), hz2.keep hk3 (by simp), hK2.trans hk3⟩
  have hl10 := hasL_len c.kind
  have hov := hasL_over c.kind h1 h2
  have hin := hasL_in c.kind
  generalize hasL c.kind = l at *
  have HOV := Lib.hid hov
  have HIN := Lib.hid hin
  clear hk3 hK2 hc2 ho2 hz2 ck2 hov hin
  go_wp2_with fail
  go_loopw [5] (fun i wr => ∃ k : Nat, i = .int .i64 k ∧ k ≤ l.length ∧ TrRel w.heap.size (w.heap.size + 2) (w.heap.size + 1) c w k wr) (fun i _ => l.length - (intOf i).toNat)
  case atStart => exact ⟨0, rfl, by omega, HR.out⟩
  case round =>
    obtain ⟨k, rfl, hk, hT⟩ := hrel
    have HT := Lib.hid hT
    by_cases hlt : k < l.length
    · obtain ⟨b, hb⟩ : ∃ b, l[k]? = some b := ⟨_, List.getElem?_eq_getElem hlt⟩
      have hix := idx_run l k b hb
      have HF : Hid ((overF c.kind)[k]? = some (letF b)) := by apply Lib.hid; rw [← HOV.out, List.getElem?_map, hb]; rfl
      have hbl : b ∈ letters := HIN.out b (List.mem_of_getElem? hb)
      have HB := Lib.hid hb
      obtain ⟨dk, hdk⟩ : ∃ dk, dk = ((overF c.kind).take k).foldl (cpF c) (Cmd.zero c.kind) := ⟨_, rfl⟩
      obtain ⟨hcr, hor, hzr, hkr⟩ := hT
      rw [← hdk] at hor
      have HDK := Lib.hid hdk
      clear hb hdk
      by_cases hv : b = 118
      · subst hv
        have hst := ((((hor.set 10 (.int .i64 c.v0)).set 11 (.int .i64 c.v1)).set 12 (.int .i64 c.v2)).set 13 (.int .i64 c.v3))
        have hkp := ((((Keeps.refl [w.heap.size + 2] wr).setCell (p := ⟨w.heap.size + 2, 10, none⟩) (by simp) (.int .i64 c.v0)).setCell (p := ⟨w.heap.size + 2, 11, none⟩) (by simp) (.int .i64 c.v1)).setCell (p := ⟨w.heap.size + 2, 12, none⟩) (by simp) (.int .i64 c.v2)).setCell (p := ⟨w.heap.size + 2, 13, none⟩) (by simp) (.int .i64 c.v3)
        have HN := Lib.hid (HT.out.step HF.out hkp (by omega) (by omega) (by omega) (by rw [← HDK.out]; exact hst))
        have cc := hcr.cell
        have oc := hor.cell
        have of := hor.frz
        unfold Cmd.cells at cc oc
        clear hst hkp hcr hor hzr hkr
        go_wp2_with fail
        go_roundw
        case rel => exact ⟨k + 1, by go_num, by omega, HN.out⟩
        case measure => simp [intOf]; omega
      · by_cases hf : b = 102
        · subst hf
          have hst := hor.set 14 (.bool c.flag)
          have hkp := (Keeps.refl [w.heap.size + 2] wr).setCell (p := ⟨w.heap.size + 2, 14, none⟩) (by simp) (.bool c.flag)
          have HN := Lib.hid (HT.out.step HF.out hkp (by omega) (by omega) (by omega) (by rw [← HDK.out]; exact hst))
          have cc := hcr.cell
          have oc := hor.cell
          have of := hor.frz
          unfold Cmd.cells at cc oc
          clear hst hkp hcr hor hzr hkr
          go_wp2_with fail
          go_roundw
          case rel => exact ⟨k + 1, by go_num, by omega, HN.out⟩
          case measure => simp [intOf]; omega
        · have hnum := numL_of b hbl hv hf
          have hv2 : (((b.toNat : Nat) : Int) == 118) = false := by
            have : b.toNat ≠ 118 := fun e => hv (UInt8.toNat.inj (by simpa using e))
            simp; omega
          have hf2 : (((b.toNat : Nat) : Int) == 102) = false := by
            have : b.toNat ≠ 102 := fun e => hf (UInt8.toNat.inj (by simpa using e))
            simp; omega
          go_wp2_with fail
          refine wp_region_kw_tail 8 (by kernel_rfl) (by kernel_rfl) ?_
          simp only [List.take_succ_cons, List.take_zero, List.drop_succ_cons, List.drop_zero]
          have hget : ∀ w, Calls Tryd.prog 52 #[.agg c.cells, .int .u8 b.toNat] w fun e w' => e = .returned (.int .i64 (c.get (letO b))) ∧ Keeps [] w w' := fun w => rfGet_any c b w hnum
          repeat (first | (refine wpQuiet_load_blk rfl 29 _ rfl w.heap.size 29 c.cells rfl (blk_kw hcr) _ Tryd.underlying29 rfl (by kernel_rfl) ?_; go_simp) | (go_big_quiet_step (with_reducible refine calls_kw (hget _))))
          refine wpQuiet_nil ?_
          intro p
          have hkw := kw_keeps wr p
          have hoq := hor.keep hkw (by simp)
          generalize kw wr p = w4 at *
          go_wp2_with fail
          refine (rfPut_any (w.heap.size + 2) dk b (c.get (letO b)) w4 hoq hnum).mono ?_
          rintro e w5 ⟨rfl, ho5, hk5⟩
          have HN := Lib.hid (HT.out.step HF.out ((hkw.mono (by simp)).trans hk5) (by omega) (by omega) (by omega) (by rw [← HDK.out, letF_num b hv hf]; exact ho5))
          clear hoq hkw ho5 hk5 hcr hor hzr hkr
          go_wp2_with fail
          go_roundw
          case rel => exact ⟨k + 1, by go_num, by omega, HN.out⟩
          case measure => simp [intOf]; omega
    · obtain ⟨hcr, hor, hzr, hkr⟩ := hT
      have hall : ((overF c.kind).take k).foldl (cpF c) (Cmd.zero c.kind) = d := by
        rw [HD.out, List.take_of_length_le (by rw [← HOV.out, List.length_map]; omega)]; rfl
      rw [hall] at hor
      clear hall
      go_wp2_with (first | (refine wpList_load_blk rfl 29 _ rfl (w.heap.size + 2) 29 d.cells rfl hor _ Tryd.underlying29 rfl (by kernel_rfl) ?_) | (refine wpList_store_blk rfl 29 _ _ rfl (w.heap.size + 1) 29 (Cmd.zero 0).cells d.cells rfl rfl hzr rfl (by kernel_rfl) (Cmd.one _) ?_))
      intro w5 hz5 hk5
      have hK5 : Keeps [] w w5 := hkr.trans' hk5 (by simp)
      go_wp2_with fail
      refine bodyPost_ret (results_cell_row rfl _ _ (w.heap.size + 1) 29 d.cells (0, 0) _ rfl hz5 Tryd.underlying29 rfl (by kernel_rfl)) rfl ?_
      exact ⟨rfl, hK5⟩

set_option maxRecDepth 100000 in
set_option maxHeartbeats 1000000 in
theorem rfTrim_out (c : Cmd) (w : World) (h : ¬ (1 ≤ c.kind ∧ c.kind ≤ 21)) :
    Calls Tryd.prog 16 #[.agg c.cells] w fun e w' => e = .returned (.agg (Cmd.zero 0).cells) ∧ Keeps [] w w' := by
  obtain ⟨wa, hwa⟩ : ∃ wa, w.alloc (.cells c.cells 29) = wa := ⟨_, rfl⟩
  have hba : Blk wa w.heap.size 29 c.cells := by rw [← hwa]; exact Blk.new _ _ _
  have hka : Keeps [] w wa := by rw [← hwa]; exact (Keeps.refl _ _).alloc _
  have hsa : wa.heap.size = w.heap.size + 1 := by rw [← hwa]; simp
  obtain ⟨w0, hw0⟩ : ∃ w0, wa.alloc (.cells (Cmd.zero 0).cells 29) = w0 := ⟨_, rfl⟩
  have hz0 : Blk w0 (w.heap.size + 1) 29 (Cmd.zero 0).cells := by rw [← hw0, ← hsa]; exact Blk.new _ _ _
  have hc0 : Blk w0 w.heap.size 29 c.cells := by rw [← hw0]; exact hba.alloc _
  have hk0 : Keeps [] w w0 := by rw [← hw0]; exact hka.alloc _
  unfold Cmd.zero Cmd.cells at hw0
  have ck : w0.cell? ⟨w.heap.size, 0, none⟩ = some (.int .i64 c.kind) := by rw [hc0.cell]; rfl
  clear hba hka hc0
  have hcs : c.kind < 1 ∨ (1 ≤ c.kind ∧ 21 < c.kind) := by omega
  clear h
  rcases hcs with h | ⟨h, h'⟩
  all_goals
    go_enter Tryd.func16, Tryd.ntmps16
    go_wp2_with (refine wpList_store_blk rfl 29 _ _ rfl (w.heap.size + 1) 29 (Cmd.zero 0).cells (Cmd.zero 0).cells rfl rfl hz0 rfl (by kernel_rfl) (Cmd.one _) ?_)
    intro w5 hz5 hk5
    have hK5 : Keeps [] w w5 := hk0.trans' hk5 (by simp)
    go_wp2_with fail
    refine bodyPost_ret (results_cell_row rfl _ _ (w.heap.size + 1) 29 (Cmd.zero 0).cells (0, 0) _ rfl hz5 Tryd.underlying29 rfl (by kernel_rfl)) rfl ?_
    exact ⟨rfl, hK5⟩

theorem rfTrim_any (c : Cmd) (w : World) :
    Calls Tryd.prog 16 #[.agg c.cells] w fun e w' => e = .returned (.agg c.trim.cells) ∧ Keeps [] w w' := by
  by_cases h : 1 ≤ c.kind ∧ c.kind ≤ 21
  · rw [trim_in c h.1 h.2]; exact rfTrim_in c w h.1 h.2
  · rw [trim_out c h]; exact rfTrim_out c w h

set_option maxRecDepth 100000 in
set_option maxHeartbeats 1000000 in
theorem rfGood_any (c : Cmd) (w : World) :
    Calls Tryd.prog 12 #[.agg c.cells] w fun e w' => e = .returned (.bool c.good) ∧ Keeps [] w w' := by
  obtain ⟨w0, hw0⟩ : ∃ w0, w.alloc (.cells c.cells 29) = w0 := ⟨_, rfl⟩
  have hb0 : Blk w0 w.heap.size 29 c.cells := by rw [← hw0]; exact Blk.new _ _ _
  have hk0 : Keeps [] w w0 := by rw [← hw0]; exact (Keeps.refl _ _).alloc _
  have ck := fun p => kw_cellAt (w := w0) (b := w.heap.size) (o := 0) (v := .int .i64 c.kind) (by rw [hb0.cell]; rfl) p
  by_cases h : 1 ≤ c.kind ∧ c.kind ≤ 21
  · have hg : c.good = decide (c.proj = c) := by
      rw [good_iff_proj]
      by_cases e : c.proj = c
      · rw [decide_eq_true e, decide_eq_true ⟨h.1, h.2, e⟩]
      · rw [decide_eq_false e, decide_eq_false (fun h' => e h'.2.2)]
    rw [hg]
    obtain ⟨q, hq⟩ : ∃ q, q = decide (c.proj = c) := ⟨_, rfl⟩
    rw [← hq]
    have heq : ∀ w : World, (binOp .eql 29 (.agg c.proj.cells) (.agg c.cells)).run Tryd.prog w = .ok (.bool q) w := fun w => by rw [hq]; exact eql_ref c.proj c w
    have htr := fun w => rfTrim_in c w h.1 h.2
    obtain ⟨h1, h2⟩ := h
    clear hg hq
    generalize c.proj = d at *
    go_enter Tryd.func12, Tryd.ntmps12
    go_wp2_with fail
    clear hw0
    refine wp_region_kw (by kernel_rfl) (by kernel_rfl) ?_
    repeat (first | (refine wpQuiet_load_blk rfl 29 _ rfl w.heap.size 29 c.cells rfl (blk_kw hb0) _ Tryd.underlying29 rfl (by kernel_rfl) ?_; go_simp) | (go_big_quiet_step (with_reducible refine calls_kw (htr _))))
    refine wpQuiet_nil ?_
    intro p
    go_wp2_with fail
    go_ret
    exact ⟨rfl, hk0.trans (kw_keeps w0 p)⟩
  · rw [good_out c h]
    have hcs : (c.kind < 1 ∧ decide (1 ≤ c.kind) = false) ∨ (1 ≤ c.kind ∧ 21 < c.kind ∧ decide (c.kind ≤ 21) = false) := by
      by_cases h1 : 1 ≤ c.kind
      · right; exact ⟨h1, by omega, decide_eq_false (by omega)⟩
      · left; exact ⟨by omega, decide_eq_false h1⟩
    clear h
    rcases hcs with ⟨h, h'⟩ | ⟨h, h', h''⟩
    all_goals
      go_enter Tryd.func12, Tryd.ntmps12
      go_wp2_with fail
      refine wp_region_kw (by kernel_rfl) (by kernel_rfl) ?_
      repeat (go_big_quiet_step (fail))
      refine wpQuiet_nil ?_
      intro w2 hw2
      obtain ⟨p, rfl⟩ := hw2
      go_wp2_with fail
      go_ret
      exact ⟨rfl, hk0.trans (kw_keeps w0 p)⟩

end Go.Proofs.YtnlhmlgoipnekaaDoor
