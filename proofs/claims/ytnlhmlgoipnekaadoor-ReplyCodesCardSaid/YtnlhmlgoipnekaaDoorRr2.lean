/- package reply: the reader's tasks, ints, walked. -/
import Derived.Test.YtnlhmlgoipnekaaDoorRr1
import Derived.Test.YtnlhmlgoipnekaaDoorStore
import Derived.IntWalk
namespace Go.Proofs.YtnlhmlgoipnekaaDoor
open Go.RowKit

theorem infoTask : (Tryd.prog.info? 128).map (fun i => (i.zero, i.size, i.bytes)) = some (some (.agg #[.int .i64 0, .int .i64 0]), 2, 16) := by kernel_rfl
theorem infoInt : (Tryd.prog.info? 3).map (fun i => (i.zero, i.size, i.bytes)) = some (some (.int .i64 0), 1, 8) := by kernel_rfl

set_option maxRecDepth 100000 in
set_option maxHeartbeats 4000000 in
theorem tasksR_any (rb ib : Nat) (S : ByteArray) (st : RS) (bad : Bool) (ev : Addr) (w : World) (h : RdAt rb ib S st bad ev w) (hS : S.size ≤ 1000000) :
    Calls Tryd.prog 79 #[.pointer (some ⟨rb, 0, none⟩)] w (ListPost rb ib S 2 st bad ev w) := by
  obtain ⟨i0, hi, hz0, hz1, hz2⟩ := info_parts infoTask
  have hRm : Room S.size := by unfold Room; omega
  have hl := h.blk.lt
  have hli := h.inn.lt
  have hlow := h.low
  have H := Lib.hid h
  clear h
  obtain ⟨n, hn⟩ : ∃ n, n = cntOf S st := ⟨_, rfl⟩
  obtain ⟨B, hB⟩ : ∃ B, B = (bad || badCount S (rdInt S st).1 (rdInt S st).2) := ⟨_, rfl⟩
  obtain ⟨s1, hs1⟩ : ∃ s1, s1 = (rdInt S st).2 := ⟨_, rfl⟩
  have hnS : n ≤ S.size := by rw [hn]; exact cnt_le S st
  have HN := Lib.hid hn
  have HBB := Lib.hid hB
  have HS1 := Lib.hid hs1
  clear hn hB hs1
  have HRM := Lib.hid hRm
  clear hRm
  go_enter Tryd.func79, Tryd.ntmps79
  go_wp2_with fail
  refine (count_any rb ib S st bad ev w H.out HRM.out).mono ?_
  rintro e w1 ⟨rfl, hR1, hk1⟩
  rw [← HN.out]
  rw [← HBB.out, ← HS1.out] at hR1
  have HL : Hid (ListRel rb ib S 2 128 s1 B ev w 0 (.slice none 0 0) w1) := Lib.hid ⟨World.ownsRow_nil _ _ _ _, hR1, hk1, fun h => absurd h (by omega)⟩
  clear hR1 hk1
  go_wp2_with fail
  go_loopw [2, 4] (fun v i wr => ∃ k : Nat, i = .int .i64 k ∧ k ≤ n.toNat ∧ ListRel rb ib S 2 128 s1 B ev w k v wr) (fun _ i _ => n.toNat - (intOf i).toNat)
  case atStart => exact ⟨0, rfl, by omega, HL.out⟩
  case round =>
    obtain ⟨k, rfl, hk, hL⟩ := hrel
    have HLk := Lib.hid hL
    clear hL
    by_cases hgo : (k : Int) < n ∧ B = false ∧ (rdE S 2 s1 k).2.bad = none
    · have hm : (decide ((k : Int) < n) && !B && decide ((rdE S 2 s1 k).2.bad = none)) = true := by simp [hgo.1, hgo.2.1, hgo.2.2]
      have HG := Lib.hid hgo
      clear hgo
      have hkn : (k : Int) < n := HG.out.1
      go_wp2_with fail
      refine (more_any rb ib S _ B ev k n wr HLk.out.rd).mono ?_
      rintro e w2 ⟨rfl, rfl⟩
      rw [hm]
      clear hm
      go_wp2_with fail
      refine (task_any rb ib S _ B ev wr HLk.out.rd HRM.out).mono ?_
      rintro e w2 ⟨rfl, hR2, hk2⟩
      have hown2 := own_keep HLk.out.own hk2 (by simp; omega)
      have hK2 : Keeps [rb, ib] w w2 := HLk.out.keep.trans (hk2.mono (by simp))
      have hs2 := hK2.size
      have HR2 := Lib.hid hR2
      have HK2 := Lib.hid hK2
      obtain ⟨a, ha⟩ : ∃ a, a = (rdInt S (rdE S 2 s1 k).2).1 := ⟨_, rfl⟩
      obtain ⟨b, hb⟩ : ∃ b, b = (rdInt S (rdInt S (rdE S 2 s1 k).2).2).1 := ⟨_, rfl⟩
      rw [← ha, ← hb]
      have hab : Hid ((rdInts S 2 (rdE S 2 s1 k).2).1 = [a, b]) := by apply Lib.hid; rw [ha, hb]; rfl
      have HO := Lib.hid hown2
      clear ha hb hR2 hk2 hK2 hown2
      go_wp2_with (at_builtin; refine wpList_append_own_at _ rfl _ _ 57 rfl w.heap.size 128 i0 (.agg #[.int .i64 0, .int .i64 0]) 2 16 Tryd.underlying57 hi hz0 hz1 hz2 rfl (by decide) _ _ _ rfl (HO.out.alloc _) ⟨w2.heap.size, 0, none⟩ 1 1 [.int .i64 a, .int .i64 b] rfl rfl ?c1 ?c2 ?c3 ?c4 ?c5 ?_)
      case c1 =>
        intro j x hj
        match j, hj with
        | 0, hj => simp at hj; subst hj; simp [Addr.add]
        | 1, hj => simp at hj; subst hj; simp [Addr.add]
      case c2 => intro x hx; simp at hx; rcases hx with rfl | rfl <;> rfl
      case c3 => unfold maxLen; omega
      case c4 => omega
      case c5 => simp; omega
      intro v' w3 hown3 hgr3 _ _
      have hN := HLk.out.next HG.out.2.1 HG.out.2.2 ⟨by decide, by decide, by decide⟩ (by omega) (HR2.out.keep0 ((Keeps.refl _ _).alloc _)) (HK2.out.alloc _) (HO.out.alloc _) (by rw [hab.out]; exact hown3) hgr3
      have HN2 := Lib.hid hN
      clear hown3 hgr3 hN
      go_wp2_with fail
      go_roundw
      case rel => exact ⟨k + 1, by go_num, by omega, HN2.out⟩
      case measure => simp [intOf]; omega
    · have hm : (decide ((k : Int) < n) && !B && decide ((rdE S 2 s1 k).2.bad = none)) = false := by
        rw [Bool.eq_false_iff]
        intro h
        simp at h
        exact hgo ⟨h.1.1, h.1.2, h.2⟩
      have hstop : ¬ (k : Int) < n ∨ B = true ∨ (rdE S 2 s1 k).2.bad ≠ none := by
        by_cases h1 : (k : Int) < n
        · cases hBv : B with
          | true => exact .inr (.inl rfl)
          | false => exact .inr (.inr fun h3 => hgo ⟨h1, hBv, h3⟩)
        · exact .inl h1
      have HF : Hid (ListPost rb ib S 2 st bad ev w (.returned u2) wr) := by
        apply Lib.hid
        have hL := HLk.out
        rw [HS1.out, HBB.out] at hL
        refine hL.done (by omega) (by rw [← HN.out]; exact hk) ?_
        rw [← HN.out, ← HBB.out, ← HS1.out]
        exact hstop
      clear hgo hstop
      go_wp2_with fail
      refine (more_any rb ib S _ B ev k n wr HLk.out.rd).mono ?_
      rintro e w2 ⟨rfl, rfl⟩
      rw [hm]
      clear hm
      go_wp2_with fail
      go_ret
      exact HF.out

set_option maxRecDepth 100000 in
set_option maxHeartbeats 4000000 in
theorem intsR_any (rb ib : Nat) (S : ByteArray) (st : RS) (bad : Bool) (ev : Addr) (w : World) (h : RdAt rb ib S st bad ev w) (hS : S.size ≤ 1000000) :
    Calls Tryd.prog 81 #[.pointer (some ⟨rb, 0, none⟩)] w (ListPost rb ib S 1 st bad ev w) := by
  obtain ⟨i0, hi, hz0, hz1, hz2⟩ := info_parts infoInt
  have hRm : Room S.size := by unfold Room; omega
  have hl := h.blk.lt
  have hli := h.inn.lt
  have hlow := h.low
  have H := Lib.hid h
  clear h
  obtain ⟨n, hn⟩ : ∃ n, n = cntOf S st := ⟨_, rfl⟩
  obtain ⟨B, hB⟩ : ∃ B, B = (bad || badCount S (rdInt S st).1 (rdInt S st).2) := ⟨_, rfl⟩
  obtain ⟨s1, hs1⟩ : ∃ s1, s1 = (rdInt S st).2 := ⟨_, rfl⟩
  have hnS : n ≤ S.size := by rw [hn]; exact cnt_le S st
  have HN := Lib.hid hn
  have HBB := Lib.hid hB
  have HS1 := Lib.hid hs1
  clear hn hB hs1
  have HRM := Lib.hid hRm
  clear hRm
  go_enter Tryd.func81, Tryd.ntmps81
  go_wp2_with fail
  refine (count_any rb ib S st bad ev w H.out HRM.out).mono ?_
  rintro e w1 ⟨rfl, hR1, hk1⟩
  rw [← HN.out]
  rw [← HBB.out, ← HS1.out] at hR1
  have HL : Hid (ListRel rb ib S 1 3 s1 B ev w 0 (.slice none 0 0) w1) := Lib.hid ⟨World.ownsRow_nil _ _ _ _, hR1, hk1, fun h => absurd h (by omega)⟩
  clear hR1 hk1
  go_wp2_with fail
  go_loopw [2, 4] (fun v i wr => ∃ k : Nat, i = .int .i64 k ∧ k ≤ n.toNat ∧ ListRel rb ib S 1 3 s1 B ev w k v wr) (fun _ i _ => n.toNat - (intOf i).toNat)
  case atStart => exact ⟨0, rfl, by omega, HL.out⟩
  case round =>
    obtain ⟨k, rfl, hk, hL⟩ := hrel
    have HLk := Lib.hid hL
    clear hL
    by_cases hgo : (k : Int) < n ∧ B = false ∧ (rdE S 1 s1 k).2.bad = none
    · have hm : (decide ((k : Int) < n) && !B && decide ((rdE S 1 s1 k).2.bad = none)) = true := by simp [hgo.1, hgo.2.1, hgo.2.2]
      have HG := Lib.hid hgo
      clear hgo
      have hkn : (k : Int) < n := HG.out.1
      go_wp2_with fail
      refine (more_any rb ib S _ B ev k n wr HLk.out.rd).mono ?_
      rintro e w2 ⟨rfl, rfl⟩
      rw [hm]
      clear hm
      have cr := HLk.out.rd.blk.cell
      go_wp2_with fail
      refine (int_any ib S _ ev wr HLk.out.rd.inn HRM.out HLk.out.rd.form hlow.1).mono ?_
      rintro e w2 ⟨rfl, hI2, hk2⟩
      have hR2 := HLk.out.rd.step hI2 hk2
      have hown2 := own_keep HLk.out.own hk2 (by simp; omega)
      have hK2 : Keeps [rb, ib] w w2 := HLk.out.keep.trans (hk2.mono (by simp))
      have hs2 := hK2.size
      have HR2 := Lib.hid hR2
      have HK2 := Lib.hid hK2
      obtain ⟨a, ha⟩ : ∃ a, a = (rdInt S (rdE S 1 s1 k).2).1 := ⟨_, rfl⟩
      rw [← ha]
      have hab : Hid ((rdInts S 1 (rdE S 1 s1 k).2).1 = [a]) := by apply Lib.hid; rw [ha]; rfl
      have HO := Lib.hid hown2
      clear ha hR2 hk2 hK2 hown2 hI2 cr
      go_wp2_with (at_builtin; refine wpList_append_own_at _ rfl _ _ 49 rfl w.heap.size 3 i0 (.int .i64 0) 1 8 Tryd.underlying49 hi hz0 hz1 hz2 rfl (by decide) _ _ _ rfl (HO.out.alloc _) ⟨w2.heap.size, 0, none⟩ 1 1 [.int .i64 a] rfl rfl ?c1 ?c2 ?c3 ?c4 ?c5 ?_)
      case c1 =>
        intro j x hj
        match j, hj with
        | 0, hj => simp at hj; subst hj; simp [Addr.add]
      case c2 => intro x hx; simp at hx; subst hx; rfl
      case c3 => unfold maxLen; omega
      case c4 => omega
      case c5 => simp; omega
      intro v' w3 hown3 hgr3 _ _
      have hN := HLk.out.next HG.out.2.1 HG.out.2.2 ⟨by decide, by decide, by decide⟩ (by omega) (HR2.out.keep0 ((Keeps.refl _ _).alloc _)) (HK2.out.alloc _) (HO.out.alloc _) (by rw [hab.out]; exact hown3) hgr3
      have HN2 := Lib.hid hN
      clear hown3 hgr3 hN
      go_wp2_with fail
      go_roundw
      case rel => exact ⟨k + 1, by go_num, by omega, HN2.out⟩
      case measure => simp [intOf]; omega
    · have hm : (decide ((k : Int) < n) && !B && decide ((rdE S 1 s1 k).2.bad = none)) = false := by
        rw [Bool.eq_false_iff]
        intro h
        simp at h
        exact hgo ⟨h.1.1, h.1.2, h.2⟩
      have hstop : ¬ (k : Int) < n ∨ B = true ∨ (rdE S 1 s1 k).2.bad ≠ none := by
        by_cases h1 : (k : Int) < n
        · cases hBv : B with
          | true => exact .inr (.inl rfl)
          | false => exact .inr (.inr fun h3 => hgo ⟨h1, hBv, h3⟩)
        · exact .inl h1
      have HF : Hid (ListPost rb ib S 1 st bad ev w (.returned u2) wr) := by
        apply Lib.hid
        have hL := HLk.out
        rw [HS1.out, HBB.out] at hL
        refine hL.done (by omega) (by rw [← HN.out]; exact hk) ?_
        rw [← HN.out, ← HBB.out, ← HS1.out]
        exact hstop
      clear hgo hstop
      go_wp2_with fail
      refine (more_any rb ib S _ B ev k n wr HLk.out.rd).mono ?_
      rintro e w2 ⟨rfl, rfl⟩
      rw [hm]
      clear hm
      go_wp2_with fail
      go_ret
      exact HF.out

end Go.Proofs.YtnlhmlgoipnekaaDoor
