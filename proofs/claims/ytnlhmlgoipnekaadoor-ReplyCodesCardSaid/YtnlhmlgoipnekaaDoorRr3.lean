/- package reply: the reader's seats, walked. -/
import Derived.Test.YtnlhmlgoipnekaaDoorRr2
import Derived.Deep.AppendLies
import Derived.Deep.RegionLaw
namespace Go.Proofs.YtnlhmlgoipnekaaDoor
open Go.RowKit

theorem infoSeat : (Tryd.prog.info? 130).map (fun i => (i.zero, i.size, i.bytes)) = some (some (.agg #[.int .i64 0, .int .i64 0, .int .i64 0]), 3, 24) := by kernel_rfl

theorem news3 (w : World) (T : TypeId) (a b c : Value) : ∀ j u, [a, b, c][j]? = some u → (w.alloc (.cells #[a, b, c] T)).cell? ((⟨w.heap.size, 0, none⟩ : Addr).add j) = some u := by
  intro j x hj
  match j, hj with
  | 0, hj => simp at hj; subst hj; simp [Addr.add]
  | 1, hj => simp at hj; subst hj; simp [Addr.add]
  | 2, hj => simp at hj; subst hj; simp [Addr.add]

theorem ones3 (a b c : Int) : ∀ u ∈ [Value.int .i64 a, .int .i64 b, .int .i64 c], u.oneCell' = true := by
  intro x hx
  simp at hx
  rcases hx with rfl | rfl | rfl <;> rfl

set_option maxRecDepth 100000 in
set_option maxHeartbeats 4000000 in
theorem seatsR_any (rb ib : Nat) (S : ByteArray) (st : RS) (bad : Bool) (ev : Addr) (w : World) (h : RdAt rb ib S st bad ev w) (hS : S.size ≤ 1000000) :
    Calls Tryd.prog 78 #[.pointer (some ⟨rb, 0, none⟩)] w (ListPost rb ib S 3 st bad ev w) := by
  obtain ⟨i0, hi, hz0, hz1, hz2⟩ := info_parts infoSeat
  have hRm : Room S.size := by unfold Room; omega
  have hl := h.blk.lt
  have hli := h.inn.lt
  have hlow := h.low
  have H := Lib.hid h
  clear h
  obtain ⟨n, hn⟩ : ∃ n, n = cntOf S st := ⟨_, rfl⟩
  obtain ⟨B, hB⟩ : ∃ B, B = (bad || badCount S (rdInt S st).1 (rdInt S st).2) := ⟨_, rfl⟩
  obtain ⟨s1, hs1⟩ : ∃ s1, s1 = (rdInt S st).2 := ⟨_, rfl⟩
  have hnS : n ≤ S.size := by rw [hn]; exact cnt_le S st
  have HN := Lib.hid hn
  have HBB := Lib.hid hB
  have HS1 := Lib.hid hs1
  clear hn hB hs1
  have HRM := Lib.hid hRm
  clear hRm
  go_enter Tryd.func78, Tryd.ntmps78
  go_wp2_with fail
  refine (count_any rb ib S st bad ev w H.out HRM.out).mono ?_
  rintro e w1 ⟨rfl, hR1, hk1⟩
  rw [← HN.out]
  rw [← HBB.out, ← HS1.out] at hR1
  have HL : Hid (ListRel rb ib S 3 130 s1 B ev w 0 (.slice none 0 0) w1) := Lib.hid ⟨World.ownsRow_nil _ _ _ _, hR1, hk1, fun h => absurd h (by omega)⟩
  clear hR1 hk1
  go_wp2_with fail
  go_loopw [2, 4] (fun v i wr => ∃ k : Nat, i = .int .i64 k ∧ k ≤ n.toNat ∧ ListRel rb ib S 3 130 s1 B ev w k v wr) (fun _ i _ => n.toNat - (intOf i).toNat)
  case atStart => exact ⟨0, rfl, by omega, HL.out⟩
  case round =>
    obtain ⟨k, rfl, hk, hL⟩ := hrel
    have HLk := Lib.hid hL
    clear hL
    by_cases hgo : (k : Int) < n ∧ B = false ∧ (rdE S 3 s1 k).2.bad = none
    · have hm : (decide ((k : Int) < n) && !B && decide ((rdE S 3 s1 k).2.bad = none)) = true := by simp [hgo.1, hgo.2.1, hgo.2.2]
      have HG := Lib.hid hgo
      clear hgo
      have hkn : (k : Int) < n := HG.out.1
      go_wp2_with fail
      refine (more_any rb ib S _ B ev k n wr HLk.out.rd).mono ?_
      rintro e w2 ⟨rfl, rfl⟩
      rw [hm]
      clear hm
      go_wp2_with fail
      refine (task_any rb ib S _ B ev wr HLk.out.rd HRM.out).mono ?_
      rintro e w2 ⟨rfl, hR2, hk2⟩
      have hown2 := own_keep HLk.out.own hk2 (by simp; omega)
      have hK2 : Keeps [rb, ib] w w2 := HLk.out.keep.trans (hk2.mono (by simp))
      have hs2 := hK2.size
      have HR2 := Lib.hid hR2
      have HK2 := Lib.hid hK2
      obtain ⟨a, ha⟩ : ∃ a, a = (rdInt S (rdE S 3 s1 k).2).1 := ⟨_, rfl⟩
      obtain ⟨b, hb⟩ : ∃ b, b = (rdInt S (rdInt S (rdE S 3 s1 k).2).2).1 := ⟨_, rfl⟩
      obtain ⟨s2, hs2'⟩ : ∃ s2, s2 = (rdInt S (rdInt S (rdE S 3 s1 k).2).2).2 := ⟨_, rfl⟩
      obtain ⟨c, hc⟩ : ∃ c, c = (rdInt S s2).1 := ⟨_, rfl⟩
      have hab : Hid ((rdInts S 3 (rdE S 3 s1 k).2).1 = [a, b, c] ∧ (rdInts S 3 (rdE S 3 s1 k).2).2 = (rdInt S s2).2) := by apply Lib.hid; rw [hc, hs2', ha, hb]; exact ⟨rfl, rfl⟩
      rw [← ha, ← hb]
      have HO := Lib.hid hown2
      have HC := Lib.hid hc
      have HSS := Lib.hid hs2'
      obtain ⟨wt, hwt⟩ : ∃ wt, w2.alloc (.cells #[.int .i64 a, .int .i64 b] 128) = wt := ⟨_, rfl⟩
      have hbt : Blk wt w2.heap.size 128 #[.int .i64 a, .int .i64 b] := by rw [← hwt]; exact Blk.new _ _ _
      have hkt : Keeps [] w2 wt := by rw [← hwt]; exact (Keeps.refl _ _).alloc _
      have HRt := Lib.hid (HR2.out.keep0 hkt)
      have HOt := Lib.hid (own_keep hown2 hkt (by simp))
      have HKt := Lib.hid (HK2.out.trans' hkt (by simp))
      have ct := hbt.cell
      have cr := HRt.out.blk.cell
      have HBT := Lib.hid hbt
      have hlt2 : w2.heap.size < wt.heap.size := hbt.lt
      clear ha hb hR2 hk2 hK2 hown2 hs2' hc hbt hkt
      go_wp2_with fail
      clear hwt
      have HRs : Hid (RdAt rb ib S s2 B ev wt) := by have h := HRt.out; rw [← HSS.out] at h; exact Lib.hid h
      have hsw : w.heap.size ≤ wt.heap.size := HKt.out.size
      have HOd : Hid (wt.drew.ownsRow w.heap.size 130 3 u2 k (intsV (rdE S 3 s1 k).1)) := Lib.hid HOt.out
      have HBd := Lib.hid HBT.out.drew
      have HKd := Lib.hid HKt.out.drew
      have HRd : Hid (RdAt rb ib S s2 B ev wt.drew) := Lib.hid (HRs.out.keep0 (Keeps.refl _ _).drew)
      have HM1 : Hid (k + 1 ≤ maxLen) := Lib.hid (by unfold maxLen; omega)
      have HM2 : Hid ((k + 1) * 24 ≤ 140737488355328) := Lib.hid (by omega)
      go_region_law (first
        | (go_simp; go_at_call 59; refine (int_any ib S s2 ev _ ?_ HRM.out ?_ hlow.1).mono ?_; exact HRd.out.inn; exact HRd.out.form; rintro e w3 ⟨rfl, hI3, hk3⟩; rw [← HC.out]; have HO3 := Lib.hid (own_keep HOd.out hk3 (by simp; omega)); have c3 := (HBd.out.keep hk3 (nmem1 (by omega))).cell; have HB3 : Hid (∀ o, w.heap.size ≤ (w3.alloc o).heap.size) := Lib.hid (fun o => by have := hk3.size; have := HKd.out.size; simp; omega))
        | (refine step_append_lies _ rfl _ _ 56 rfl w.heap.size 130 i0 (.agg #[.int .i64 0, .int .i64 0, .int .i64 0]) 3 24 Tryd.underlying56 hi hz0 hz1 hz2 rfl (by decide) _ _ _ rfl (HO3.out.alloc _) ⟨w3.heap.size, 0, none⟩ 1 1 [.int .i64 a, .int .i64 b, .int .i64 c] rfl rfl (news3 _ _ _ _ _) (ones3 _ _ _) (by omega) HM1.out HM2.out (HB3.out _) _ rfl ?_; intro g cap w4 hown4 hgr4 _ _))
      all_goals
        have hR3 : RdAt rb ib S (rdInts S 3 (rdE S 3 s1 k).2).2 B ev w3 := by rw [hab.out.2]; exact HRd.out.step hI3 hk3
        have hK3 : Keeps [rb, ib] w w3 := HKd.out.trans (hk3.mono (by simp))
        have hN := HLk.out.next HG.out.2.1 HG.out.2.2 ⟨by decide, by decide, by decide⟩ (by omega) (hR3.keep0 ((Keeps.refl _ _).alloc _)) (hK3.alloc _) (HO3.out.alloc _) (by rw [hab.out.1]; exact hown4) hgr4
        have HN2 := Lib.hid hN
        clear hown4 hgr4 hN hR3 hK3 hI3 hk3 c3 ct cr
        go_wp2_with fail
        exact ⟨⟨k + 1, by go_num, by omega, HN2.out⟩, by simp [intOf]; omega⟩
    · have hm : (decide ((k : Int) < n) && !B && decide ((rdE S 3 s1 k).2.bad = none)) = false := by
        rw [Bool.eq_false_iff]
        intro h
        simp at h
        exact hgo ⟨h.1.1, h.1.2, h.2⟩
      have hstop : ¬ (k : Int) < n ∨ B = true ∨ (rdE S 3 s1 k).2.bad ≠ none := by
        by_cases h1 : (k : Int) < n
        · cases hBv : B with
          | true => exact .inr (.inl rfl)
          | false => exact .inr (.inr fun h3 => hgo ⟨h1, hBv, h3⟩)
        · exact .inl h1
      have HF : Hid (ListPost rb ib S 3 st bad ev w (.returned u2) wr) := by
        apply Lib.hid
        have hL := HLk.out
        rw [HS1.out, HBB.out] at hL
        refine hL.done (by omega) (by rw [← HN.out]; exact hk) ?_
        rw [← HN.out, ← HBB.out, ← HS1.out]
        exact hstop
      clear hgo hstop
      go_wp2_with fail
      refine (more_any rb ib S _ B ev k n wr HLk.out.rd).mono ?_
      rintro e w2 ⟨rfl, rfl⟩
      rw [hm]
      clear hm
      go_wp2_with fail
      go_ret
      exact HF.out


end Go.Proofs.YtnlhmlgoipnekaaDoor
