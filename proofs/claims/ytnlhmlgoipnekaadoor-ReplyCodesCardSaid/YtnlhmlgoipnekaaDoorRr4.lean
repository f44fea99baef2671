/- package reply: the reader's fills, walked. -/
import Derived.Test.YtnlhmlgoipnekaaDoorRr2
namespace Go.Proofs.YtnlhmlgoipnekaaDoor
open Go.RowKit

theorem infoFill : (Tryd.prog.info? 138).map (fun i => (i.zero, i.size, i.bytes)) = some (some (.agg #[.int .i64 0, .int .i64 0, .int .i64 0, .int .i64 0, .int .i64 0, .int .i64 0]), 6, 48) := by kernel_rfl

/-- A fill half read: the numbers so far, then zeros. -/
def fillC (xs : List Int) : Array Value := (intsV xs ++ List.replicate (6 - xs.length) (Value.int .i64 0)).toArray

theorem fillC_at (xs : List Int) (h : xs.length < 6) : (fillC xs)[xs.length]? = some (.int .i64 0) := by
  unfold fillC intsV
  simp only [List.getElem?_toArray]
  rw [List.getElem?_append_right (by simp), List.length_map, Nat.sub_self, List.getElem?_replicate, if_pos (by omega)]

theorem fillC_set (xs : List Int) (x : Int) (h : xs.length < 6) : (fillC xs).setIfInBounds xs.length (.int .i64 x) = fillC (xs ++ [x]) := by
  unfold fillC intsV
  apply Array.ext'
  obtain ⟨m, hm⟩ : ∃ m, 6 - xs.length = m + 1 := ⟨5 - xs.length, by omega⟩
  have hm2 : 6 - (xs ++ [x]).length = m := by simp; omega
  rw [hm2, hm]
  simp only [Array.toList_setIfInBounds]
  rw [List.set_append_right _ _ (by simp)]
  simp [List.replicate_succ]

def ptrC (b : Nat) : Array Value := #[.pointer (some ⟨b, 0, none⟩), .pointer (some ⟨b, 1, none⟩), .pointer (some ⟨b, 2, none⟩), .pointer (some ⟨b, 3, none⟩), .pointer (some ⟨b, 4, none⟩), .pointer (some ⟨b, 5, none⟩)]

theorem ptrC_at (b j : Nat) (h : j < 6) : (ptrC b)[j]? = some (.pointer (some ⟨b, j, none⟩)) := by
  have h : j = 0 ∨ j = 1 ∨ j = 2 ∨ j = 3 ∨ j = 4 ∨ j = 5 := by omega
  rcases h with rfl | rfl | rfl | rfl | rfl | rfl <;> rfl

theorem rdInts_succ (S : ByteArray) : ∀ (j : Nat) (s : RS), rdInts S (j + 1) s = ((rdInts S j s).1 ++ [(rdInt S (rdInts S j s).2).1], (rdInt S (rdInts S j s).2).2) := by
  intro j
  induction j with
  | zero => intro s; rfl
  | succ j ih =>
    intro s
    have := ih (rdInt S s).2
    show ((rdInt S s).1 :: (rdInts S (j + 1) (rdInt S s).2).1, (rdInts S (j + 1) (rdInt S s).2).2) = _
    rw [this]
    rfl

/-- The relation of a fill's loop. -/
structure FillRel (rb ib : Nat) (S : ByteArray) (s : RS) (B : Bool) (ev : Addr) (w : World) (fb : Nat) (v : Value) (k : Nat) (xs : List Value) (j : Nat) (w' : World) : Prop where
  fill : Blk w' fb 138 (fillC (rdInts S j s).1)
  ptr : Blk w' (fb + 1) 191 (ptrC fb)
  rd : RdAt rb ib S (rdInts S j s).2 B ev w'
  own : w'.ownsRow w.heap.size 138 6 v k xs
  keep : Keeps [rb, ib] w w'
  low : ∀ g, v.ownBlock = some g → g < fb

theorem own_keep2 {B : Nat} {w w' : World} {v : Value} {E : TypeId} {k n : Nat} {xs : List Value} {X : List Nat} (ho : w.ownsRow B E k v n xs) (hk : Keeps X w w') (hX : ∀ g, v.ownBlock = some g → g ∉ X) : w'.ownsRow B E k v n xs := by
  refine ⟨ho.1, ?_⟩
  rcases ho.2 with h0 | ⟨g, cap, cur, rfl, h1, h2, r⟩
  · exact .inl h0
  · refine .inr ⟨g, cap, cur, rfl, h1, ?_, r⟩
    rw [hk.block g (Array.getElem?_eq_some_iff.1 h2).1 (hX g rfl)]
    exact h2

set_option maxRecDepth 100000 in
set_option maxHeartbeats 4000000 in
theorem fillsR_any (rb ib : Nat) (S : ByteArray) (st : RS) (bad : Bool) (ev : Addr) (w : World) (h : RdAt rb ib S st bad ev w) (hS : S.size ≤ 1000000) :
    Calls Tryd.prog 80 #[.pointer (some ⟨rb, 0, none⟩)] w (ListPost rb ib S 6 st bad ev w) := by
  obtain ⟨i0, hi, hz0, hz1, hz2⟩ := info_parts infoFill
  have hRm : Room S.size := by unfold Room; omega
  have hl := h.blk.lt
  have hli := h.inn.lt
  have hlow := h.low
  have H := Lib.hid h
  clear h
  obtain ⟨n, hn⟩ : ∃ n, n = cntOf S st := ⟨_, rfl⟩
  obtain ⟨B, hB⟩ : ∃ B, B = (bad || badCount S (rdInt S st).1 (rdInt S st).2) := ⟨_, rfl⟩
  obtain ⟨s1, hs1⟩ : ∃ s1, s1 = (rdInt S st).2 := ⟨_, rfl⟩
  have hnS : n ≤ S.size := by rw [hn]; exact cnt_le S st
  have HN := Lib.hid hn
  have HBB := Lib.hid hB
  have HS1 := Lib.hid hs1
  clear hn hB hs1
  have HRM := Lib.hid hRm
  clear hRm
  go_enter Tryd.func80, Tryd.ntmps80
  go_wp2_with fail
  refine (count_any rb ib S st bad ev w H.out HRM.out).mono ?_
  rintro e w1 ⟨rfl, hR1, hk1⟩
  rw [← HN.out]
  rw [← HBB.out, ← HS1.out] at hR1
  have HL : Hid (ListRel rb ib S 6 138 s1 B ev w 0 (.slice none 0 0) w1) := Lib.hid ⟨World.ownsRow_nil _ _ _ _, hR1, hk1, fun h => absurd h (by omega)⟩
  clear hR1 hk1
  go_wp2_with fail
  go_loopw [2, 4] (fun v i wr => ∃ k : Nat, i = .int .i64 k ∧ k ≤ n.toNat ∧ ListRel rb ib S 6 138 s1 B ev w k v wr) (fun _ i _ => n.toNat - (intOf i).toNat)
  case atStart => exact ⟨0, rfl, by omega, HL.out⟩
  case round =>
    obtain ⟨k, rfl, hk, hL⟩ := hrel
    have HLk := Lib.hid hL
    clear hL
    by_cases hgo : (k : Int) < n ∧ B = false ∧ (rdE S 6 s1 k).2.bad = none
    · have hm : (decide ((k : Int) < n) && !B && decide ((rdE S 6 s1 k).2.bad = none)) = true := by simp [hgo.1, hgo.2.1, hgo.2.2]
      have HG := Lib.hid hgo
      clear hgo
      have hkn : (k : Int) < n := HG.out.1
      go_wp2_with fail
      refine (more_any rb ib S _ B ev k n wr HLk.out.rd).mono ?_
      rintro e w2 ⟨rfl, rfl⟩
      rw [hm]
      clear hm
      obtain ⟨wo, rfl⟩ : ∃ wo : World, wo = wr := ⟨_, rfl⟩
      obtain ⟨sk, hsk⟩ : ∃ sk, sk = (rdE S 6 s1 k).2 := ⟨_, rfl⟩
      have HSK := Lib.hid hsk
      obtain ⟨wf, hwf⟩ : ∃ wf, wo.alloc (.cells #[.int .i64 0, .int .i64 0, .int .i64 0, .int .i64 0, .int .i64 0, .int .i64 0] 138) = wf := ⟨_, rfl⟩
      have hsf : wf.heap.size = wo.heap.size + 1 := by rw [← hwf]; simp
      have hbf : Blk wf wo.heap.size 138 (fillC []) := by rw [← hwf]; exact Blk.new _ _ _
      have hkf : Keeps [] wo wf := by rw [← hwf]; exact (Keeps.refl _ _).alloc _
      obtain ⟨wp, hwp⟩ : ∃ wp, wf.alloc (.cells #[.pointer (some ⟨wo.heap.size, 0, none⟩), .pointer (some ⟨wo.heap.size, 1, none⟩), .pointer (some ⟨wo.heap.size, 2, none⟩), .pointer (some ⟨wo.heap.size, 3, none⟩), .pointer (some ⟨wo.heap.size, 4, none⟩), .pointer (some ⟨wo.heap.size, 5, none⟩)] 191) = wp := ⟨_, rfl⟩
      have hbp : Blk wp (wo.heap.size + 1) 191 (ptrC wo.heap.size) := by rw [← hwp, ← hsf]; exact Blk.new _ _ _
      have hkp : Keeps [] wo wp := by rw [← hwp]; exact hkf.alloc _
      have hbf2 : Blk wp wo.heap.size 138 (fillC []) := by rw [← hwp]; exact hbf.alloc _
      have hsw : w.heap.size ≤ wo.heap.size := HLk.out.keep.size
      have HF0 : Hid (FillRel rb ib S sk B ev w wo.heap.size u2 k (intsV (rdE S 6 s1 k).1) 0 wp) := Lib.hid ⟨hbf2, hbp, by rw [hsk]; exact HLk.out.rd.keep0 hkp, own_keep HLk.out.own hkp (by simp), HLk.out.keep.trans' hkp (by simp), fun g hg => (HLk.out.own.lt g hg).2⟩
      have cr := HLk.out.rd.blk.cell
      clear hbf hkf hbp hkp hbf2 hsk
      go_wp2_with fail
      clear hwf hwp hsf cr
      go_loopw [24] (fun i wq => ∃ j : Nat, i = .int .i64 j ∧ j ≤ 6 ∧ FillRel rb ib S sk B ev w wo.heap.size u2 k (intsV (rdE S 6 s1 k).1) j wq) (fun i _ => 6 - (intOf i).toNat)
      case atStart => exact ⟨0, rfl, by omega, HF0.out⟩
      case round =>
        obtain ⟨j, rfl, hj, hF⟩ := hrel
        have HF := Lib.hid hF
        by_cases hj6 : j < 6
        · have hlen := rdInts_len S j sk
          have p1 : wr.cell? ⟨wo.heap.size + 1, j, none⟩ = some (.pointer (some ⟨wo.heap.size, j, none⟩)) := by rw [hF.ptr.cell]; exact ptrC_at _ j hj6
          have cr := hF.rd.blk.cell
          clear hF
          go_wp2_with fail
          refine (int_any ib S _ ev wr HF.out.rd.inn HRM.out HF.out.rd.form hlow.1).mono ?_
          rintro e w2 ⟨rfl, hI2, hk2⟩
          have hfl2 := HF.out.fill.keep hk2 (nmem1 (by omega))
          have hR2 := HF.out.rd.step hI2 hk2
          have hp2 := HF.out.ptr.keep hk2 (nmem1 (by omega))
          have ho2 := own_keep HF.out.own hk2 (by simp; omega)
          have hK2 := HF.out.keep.trans (hk2.mono (by simp))
          have hsuc := rdInts_succ S j sk
          have hx0 : (fillC (rdInts S j sk).1)[j]? = some (.int .i64 0) := by have := fillC_at (rdInts S j sk).1 (by omega); rw [hlen] at this; exact this
          have hx1 : (fillC (rdInts S j sk).1).setIfInBounds j (.int .i64 (rdInt S (rdInts S j sk).2).1) = fillC (rdInts S (j + 1) sk).1 := by rw [hsuc]; have := fillC_set (rdInts S j sk).1 (rdInt S (rdInts S j sk).2).1 (by omega); rw [hlen] at this; exact this
          have hst := hfl2.set j (.int .i64 (rdInt S (rdInts S j sk).2).1)
          rw [hx1] at hst
          have hks := (Keeps.refl [wo.heap.size] w2).setCell (p := ⟨wo.heap.size, j, none⟩) (by simp) (.int .i64 (rdInt S (rdInts S j sk).2).1)
          have hR3 : RdAt rb ib S (rdInts S (j + 1) sk).2 B ev (w2.setCell ⟨wo.heap.size, j, none⟩ (.int .i64 (rdInt S (rdInts S j sk).2).1)) := by
            rw [hsuc]
            exact hR2.keep hks (nmem1 (by omega)) (nmem1 (by omega)) (nmem1 (by omega)) (fun fb cs hfb => nmem1 (hfb.ne hfl2 (by decide)))
          have HN : Hid (FillRel rb ib S sk B ev w wo.heap.size u2 k (intsV (rdE S 6 s1 k).1) (j + 1) (w2.setCell ⟨wo.heap.size, j, none⟩ (.int .i64 (rdInt S (rdInts S j sk).2).1))) := Lib.hid ⟨hst, hp2.keep hks (nmem1 (by omega)), hR3, own_keep2 ho2 hks (fun g hg => nmem1 (by have := HF.out.low g hg; omega)), hK2.trans' hks (by simp; omega), HF.out.low⟩
          have e2 : w2.cell? ⟨wo.heap.size, j, none⟩ = some (.int .i64 0) := by rw [hfl2.cell]; exact hx0
          have f2 : w2.frozen? ⟨wo.heap.size, j, none⟩ = false := hfl2.frz j
          clear hfl2 hR2 hp2 ho2 hK2 hsuc hx0 hx1 hst hks hR3 hI2 hk2 p1 cr hlen
          generalize (rdInt S (rdInts S j sk).2).1 = x at *
          go_wp2_with fail
          go_roundw
          case rel => exact ⟨j + 1, by go_num, by omega, HN.out⟩
          case measure => simp [intOf]; omega
        · obtain rfl : j = 6 := by omega
          have hlen := rdInts_len S 6 sk
          obtain ⟨l, hl6⟩ : ∃ l, l = (rdInts S 6 sk).1 := ⟨_, rfl⟩
          rw [← hl6] at hlen
          obtain ⟨x0, x1, x2, x3, x4, x5, hx⟩ : ∃ x0 x1 x2 x3 x4 x5, l = [x0, x1, x2, x3, x4, x5] := by
            match l, hlen with
            | [x0, x1, x2, x3, x4, x5], _ => exact ⟨x0, x1, x2, x3, x4, x5, rfl⟩
          have hfl : Blk wr wo.heap.size 138 #[.int .i64 x0, .int .i64 x1, .int .i64 x2, .int .i64 x3, .int .i64 x4, .int .i64 x5] := by
            have := hF.fill
            rw [← hl6, hx] at this
            exact this
          have hab : Hid ((rdInts S 6 (rdE S 6 s1 k).2).1 = [x0, x1, x2, x3, x4, x5]) := by apply Lib.hid; rw [← HSK.out, ← hl6, hx]
          have hR2 : RdAt rb ib S (rdInts S 6 (rdE S 6 s1 k).2).2 B ev wr := by rw [← HSK.out]; exact hF.rd
          have HR2 := Lib.hid hR2
          have hs2 := hF.keep.size
          have cf := hfl.cell
          have HO := Lib.hid hF.own
          have HK2 := Lib.hid hF.keep
          clear hF hfl hR2 hx hl6 hlen HF HF0
          go_wp2_with (at_builtin; refine wpList_append_own_at _ rfl _ _ 58 rfl w.heap.size 138 i0 (.agg #[.int .i64 0, .int .i64 0, .int .i64 0, .int .i64 0, .int .i64 0, .int .i64 0]) 6 48 Tryd.underlying58 hi hz0 hz1 hz2 rfl (by decide) _ _ _ rfl (HO.out.alloc _) ⟨wr.heap.size, 0, none⟩ 1 1 [.int .i64 x0, .int .i64 x1, .int .i64 x2, .int .i64 x3, .int .i64 x4, .int .i64 x5] rfl rfl ?c1 ?c2 ?c3 ?c4 ?c5 ?_)
          case c1 =>
            intro j x hj
            match j, hj with
            | 0, hj => simp at hj; subst hj; simp [Addr.add]
            | 1, hj => simp at hj; subst hj; simp [Addr.add]
            | 2, hj => simp at hj; subst hj; simp [Addr.add]
            | 3, hj => simp at hj; subst hj; simp [Addr.add]
            | 4, hj => simp at hj; subst hj; simp [Addr.add]
            | 5, hj => simp at hj; subst hj; simp [Addr.add]
          case c2 => intro x hx; simp at hx; rcases hx with rfl | rfl | rfl | rfl | rfl | rfl <;> rfl
          case c3 => unfold maxLen; omega
          case c4 => omega
          case c5 => simp; omega
          intro v' w3 hown3 hgr3 _ _
          have hN := HLk.out.next HG.out.2.1 HG.out.2.2 ⟨by decide, by decide, by decide⟩ (by omega) (HR2.out.keep0 ((Keeps.refl _ _).alloc _)) (HK2.out.alloc _) (HO.out.alloc _) (by rw [hab.out]; exact hown3) hgr3
          have HN2 := Lib.hid hN
          clear hown3 hgr3 hN
          go_wp2_with fail
          go_roundw
          case rel => exact ⟨k + 1, by go_num, by omega, HN2.out⟩
          case measure => simp [intOf]; omega
    · have hm : (decide ((k : Int) < n) && !B && decide ((rdE S 6 s1 k).2.bad = none)) = false := by
        rw [Bool.eq_false_iff]
        intro h
        simp at h
        exact hgo ⟨h.1.1, h.1.2, h.2⟩
      have hstop : ¬ (k : Int) < n ∨ B = true ∨ (rdE S 6 s1 k).2.bad ≠ none := by
        by_cases h1 : (k : Int) < n
        · cases hBv : B with
          | true => exact .inr (.inl rfl)
          | false => exact .inr (.inr fun h3 => hgo ⟨h1, hBv, h3⟩)
        · exact .inl h1
      have HF : Hid (ListPost rb ib S 6 st bad ev w (.returned u2) wr) := by
        apply Lib.hid
        have hL := HLk.out
        rw [HS1.out, HBB.out] at hL
        refine hL.done (by omega) (by rw [← HN.out]; exact hk) ?_
        rw [← HN.out, ← HBB.out, ← HS1.out]
        exact hstop
      clear hgo hstop
      go_wp2_with fail
      refine (more_any rb ib S _ B ev k n wr HLk.out.rd).mono ?_
      rintro e w2 ⟨rfl, rfl⟩
      rw [hm]
      clear hm
      go_wp2_with fail
      go_ret
      exact HF.out


end Go.Proofs.YtnlhmlgoipnekaaDoor
