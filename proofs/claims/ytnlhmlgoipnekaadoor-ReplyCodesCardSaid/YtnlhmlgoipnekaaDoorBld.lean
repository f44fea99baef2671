/- A strings.Builder that lies at the head of a block of type T (strings.Builder itself, or wire.Out): copyCheck, WriteByte, WriteString, String. After the shelf's own proofs; here the block's type is a variable, and the frame is exact: the block and its buffer alone. -/
import Derived.Test.YtnlhmlgoipnekaaDoorProg
import Derived.Test.YtnlhmlgoipnekaaDoorMem
import Derived.Lib.Builder
import Derived.Lib.AppendStr
import Derived.Lib.UnsafeStr
import Derived.Laws.Externs
import Derived.RegionTactic
import Derived.ChangeAlike
import Derived.Maps.AppendAt
namespace Go.Proofs.YtnlhmlgoipnekaaDoor
open Go.RowKit

/-- Block b, of type T, begins with a builder that holds the bytes bs; its buffer is block g (b itself: there is none). -/
def Bld (T : TypeId) (b g : Nat) (bs : List UInt8) (w : World) : Prop :=
  ∃ p v, Blk w b T #[p, v] ∧ (p = .pointer none ∨ p = .pointer (some ⟨b, 0, none⟩)) ∧ w.ownsRow 0 5 1 v bs.length (Lib.byteCells bs) ∧ v.ownBlock ≠ some b ∧ (v.ownBlock = none ∧ g = b ∨ v.ownBlock = some g)

theorem Bld.lt {T : TypeId} {b g : Nat} {bs : List UInt8} {w : World} (h : Bld T b g bs w) : b < w.heap.size := by
  obtain ⟨p, v, hb, _⟩ := h; exact hb.lt

theorem Bld.glt {T : TypeId} {b g : Nat} {bs : List UInt8} {w : World} (h : Bld T b g bs w) : g < w.heap.size := by
  obtain ⟨p, v, hb, _, ho, _, ⟨_, rfl⟩ | hg⟩ := h
  · exact hb.lt
  · exact (ho.lt g hg).2

theorem Bld.gneT {T : TypeId} {b g : Nat} {bs : List UInt8} {w : World} (h : Bld T b g bs w) {c : Nat} {T' : TypeId} {cs : Array Value} (hc : Blk w c T' cs) (hT : T' ≠ 5) (hb : c ≠ b) : c ≠ g := by
  obtain ⟨p, v, hbk, _, ho, _, ⟨_, rfl⟩ | hg⟩ := h
  · exact hb
  · rintro rfl
    rcases ho.2 with ⟨rfl, _⟩ | ⟨g', cap, cur, rfl, _, hg', _⟩
    · simp [Value.ownBlock] at hg
    · simp only [Value.ownBlock, Option.some.injEq] at hg
      subst hg
      unfold Blk at hc
      rw [hc] at hg'
      simp only [Option.some.injEq, Obj.cells.injEq] at hg'
      exact hT hg'.2.1

theorem Bld.new (T : TypeId) (w : World) : Bld T w.heap.size w.heap.size [] (w.alloc (.cells #[.pointer none, .slice none 0 0] T)) :=
  ⟨_, _, Blk.new w T _, .inl rfl, World.ownsRow_nil _ _ _ _, by simp [Value.ownBlock], .inl ⟨by simp [Value.ownBlock], rfl⟩⟩

theorem Bld.keep {T : TypeId} {b g : Nat} {bs : List UInt8} {w w' : World} {X : List Nat} (h : Bld T b g bs w) (k : Keeps X w w') (hb : b ∉ X) (hg : g ∉ X) : Bld T b g bs w' := by
  have hgl := h.glt
  obtain ⟨p, v, hbk, hp, ho, hne, hgg⟩ := h
  refine ⟨p, v, hbk.keep k hb, hp, ?_, hne, hgg⟩
  refine ⟨ho.1, ?_⟩
  rcases ho.2 with h0 | ⟨g', cap, cur, rfl, h1, h2, r⟩
  · exact .inl h0
  · refine .inr ⟨g', cap, cur, rfl, h1, ?_, r⟩
    rcases hgg with ⟨hgg, _⟩ | hgg
    · simp [Value.ownBlock] at hgg
    · simp only [Value.ownBlock, Option.some.injEq] at hgg
      subst hgg
      rw [k.block g' hgl hg]; exact h2

theorem Bld.alloc {T : TypeId} {b g : Nat} {bs : List UInt8} {w : World} (h : Bld T b g bs w) (o : Obj) : Bld T b g bs (w.alloc o) :=
  h.keep ((Keeps.refl [] w).alloc o) (by simp) (by simp)

theorem Bld.drew {T : TypeId} {b g : Nat} {bs : List UInt8} {w : World} (h : Bld T b g bs w) : Bld T b g bs w.drew := h

/-- What the two pointers' turning asks of the block's type. -/
def LiesB (T : TypeId) : Prop := liesAt Tryd.prog Tryd.prog.depth T (2 / Tryd.prog.cellsOf T) 0 123 1 = true

theorem infoBuilder : (Tryd.prog.info? 123).map (fun i => i.size) = some 2 := by kernel_rfl
theorem infoByte : (Tryd.prog.info? 5).map (fun i => (i.zero, i.size, i.bytes)) = some (some (.int .u8 0), 1, 1) := by kernel_rfl

set_option maxHeartbeats 1000000 in
set_option maxRecDepth 100000 in
theorem copyCheck_used (b : Nat) (w : World) (h0 : w.cell? ⟨b, 0, none⟩ = some (.pointer (some ⟨b, 0, none⟩))) :
    Calls Tryd.prog 110 #[.pointer (some ⟨b, 0, none⟩)] w fun e w' => e = .returned (.tuple #[]) ∧ w = w' := by
  obtain ⟨j, hj, _⟩ := Option.map_eq_some_iff.1 infoBuilder
  go_enter Tryd.func110, Tryd.ntmps110
  go_wp2
  rw [Lib.run_neq_ptr_same w _ Tryd.underlying120 hj]
  go_wp2
  go_end0
  exact ⟨rfl, rfl⟩

set_option maxHeartbeats 1000000 in
set_option maxRecDepth 100000 in
theorem copyCheck_fresh (T : TypeId) (hT : LiesB T) (b : Nat) (w : World) (h0 : w.cell? ⟨b, 0, none⟩ = some (.pointer none)) (hsh : w.shape? b = some (T, 2)) (hfz : w.frozen? ⟨b, 0, none⟩ = false) :
    Calls Tryd.prog 110 #[.pointer (some ⟨b, 0, none⟩)] w fun e w' => e = .returned (.tuple #[]) ∧ w.setCell ⟨b, 0, none⟩ (.pointer (some ⟨b, 0, none⟩)) = w' := by
  obtain ⟨j, hj, hjs⟩ := Option.map_eq_some_iff.1 infoBuilder
  have HT := Lib.hid hT
  clear hT
  go_enter Tryd.func110, Tryd.ntmps110
  go_wp2
  rw [Lib.run_to_unsafe w ⟨b, 0, none⟩ Tryd.underlying120 Tryd.underlying160 hj (by rw [hjs]; decide) hsh (Nat.zero_lt_succ 1)]
  simp only [Result.andThen]
  rw [Oper.upon_value]
  go_wp2
  rw [run_callFunc_extern Tryd.func114 (by kernel_rfl) (by kernel_rfl) (by kernel_rfl) (e := Extern.AbiNoEscape.same) (by kernel_rfl)]
  rw [Lib.run_noEscape]
  simp only [Result.andThen]
  rw [Oper.upon_value]
  go_wp2
  rw [Lib.run_from_unsafe w ⟨b, 0, none⟩ Tryd.underlying160 Tryd.underlying120 hj hsh HT.out]
  simp only [Result.andThen]
  rw [Oper.upon_value]
  go_wp2
  go_end0
  exact ⟨rfl, rfl⟩

/-- copyCheck: behind it the builder is used. -/
theorem copyCheck_any (T : TypeId) (hT : LiesB T) (b g : Nat) (bs : List UInt8) (w : World) (h : Bld T b g bs w) :
    Calls Tryd.prog 110 #[.pointer (some ⟨b, 0, none⟩)] w fun e w' => e = .returned (.tuple #[]) ∧ (∃ v, Blk w' b T #[.pointer (some ⟨b, 0, none⟩), v] ∧ w'.ownsRow 0 5 1 v bs.length (Lib.byteCells bs) ∧ v.ownBlock ≠ some b ∧ (v.ownBlock = none ∧ g = b ∨ v.ownBlock = some g)) ∧ Keeps [b] w w' := by
  obtain ⟨p, v, hb, hp, ho, hne, hg⟩ := h
  rcases hp with rfl | rfl
  · refine (copyCheck_fresh T hT b w (by rw [hb.cell]; rfl) hb.shape (hb.frz 0)).mono ?_
    rintro e w' ⟨rfl, rfl⟩
    refine ⟨rfl, ⟨v, hb.set 0 _, ?_, hne, hg⟩, (Keeps.refl [b] w).setCell (p := ⟨b, 0, none⟩) (by simp) _⟩
    refine ho.kept (row := some b) ⟨rfl, rfl, rfl, by simp [World.setCell], fun k _ hk => Below.heap_setCell _ _ _ _ (fun e => hk (by simp [e]))⟩ (.inr hne)
  · refine (copyCheck_used b w (by rw [hb.cell]; rfl)).mono ?_
    rintro e w' ⟨rfl, rfl⟩
    exact ⟨rfl, ⟨v, hb, ho, hne, hg⟩, Keeps.refl _ _⟩

set_option maxHeartbeats 2000000 in
set_option maxRecDepth 100000 in
theorem writeByte_any (T : TypeId) (hT : LiesB T) (hTe : T ≠ 5) (b g : Nat) (bs : List UInt8) (c : Int) (w : World) (h : Bld T b g bs w) (h0 : 0 ≤ c) (h1 : c < 256) (hR : Room bs.length) :
    Calls Tryd.prog 103 #[.pointer (some ⟨b, 0, none⟩), .int .u8 c] w fun e w' => e = .returned .nilIface ∧ (∃ g', Bld T b g' (bs ++ [c.toNat.toUInt8]) w' ∧ (g' = g ∨ w.heap.size ≤ g')) ∧ Keeps [b, g] w w' := by
  obtain ⟨i0, hi, hz0, hz1, hz2⟩ := info_parts infoByte
  have hbl := h.lt
  have hlen : bs.length < 140737488355328 := hR
  go_enter Tryd.func103, Tryd.ntmps103
  go_wp2_with (go_at_call 110; refine (copyCheck_any T hT b g bs _ h).mono ?_)
  rintro e w1 ⟨rfl, ⟨v, hbk, hown, hne, hg⟩, hk1⟩
  have c0 : w1.cell? ⟨b, 0, none⟩ = some (.pointer (some ⟨b, 0, none⟩)) := by rw [hbk.cell]; rfl
  have c1 : w1.cell? ⟨b, 1, none⟩ = some v := by rw [hbk.cell]; rfl
  go_wp2_with (at_builtin; refine wpList_append_own_at _ rfl _ _ 121 rfl 0 5 i0 (.int .u8 0) 1 1 Tryd.underlying121 hi hz0 hz1 hz2 rfl (by decide) _ _ _ rfl (hown.alloc _) ⟨w1.heap.size, 0, none⟩ 1 1 [.int .u8 c] rfl rfl ?c1 ?c2 ?c3 ?c4 ?c5 ?_)
  case c1 =>
    intro j u hj
    match j, hj with
    | 0, hj => simp at hj; subst hj; simp [Addr.add]
  case c2 => intro u hu; simp at hu; subst hu; rfl
  case c3 => unfold maxLen; omega
  case c4 => omega
  case c5 => exact Nat.zero_le _
  intro v' w2 hown' hgrow _ hat
  have hb2 : Blk w2 b T #[.pointer (some ⟨b, 0, none⟩), v] := by
    have := hgrow.block b (by simp; have := hbk.lt; omega) (fun e => hne e.symm)
    unfold Blk; rw [this]; exact hbk.alloc _
  have d0 : w2.cell? ⟨b, 0, none⟩ = some (.pointer (some ⟨b, 0, none⟩)) := by rw [hb2.cell]; rfl
  have d1 : w2.cell? ⟨b, 1, none⟩ = some v := by rw [hb2.cell]; rfl
  have f1 : w2.frozen? ⟨b, 1, none⟩ = false := hb2.frz 1
  obtain ⟨g', cap, rfl⟩ : ∃ g cap, v' = .slice (some ⟨g, 0, none⟩) (bs.length + 1) cap := by
    rcases hown'.2 with ⟨_, h0⟩ | ⟨g, cap, cur, hv, _⟩
    · omega
    · exact ⟨g, cap, hv⟩
  go_wp2
  go_ret
  have hne' := Lib.ownBlock_ne hown' hb2 hTe
  have hbc : Lib.byteCells (bs ++ [c.toNat.toUInt8]) = Lib.byteCells bs ++ [.int .u8 c] := by
    obtain ⟨n, rfl⟩ := Int.eq_ofNat_of_zero_le h0
    have hn : n < 256 := by omega
    simp [Lib.byteCells, Nat.mod_eq_of_lt hn]
  have hs1 := hk1.size
  have hgk : Keeps [b, g] w w2 := by
    refine ((hk1.mono (by simp)).alloc _).grown hgrow ?_
    intro k hk _
    rcases hg with ⟨hg, _⟩ | hg
    · rw [hg] at hk; cases hk
    · rw [hg] at hk; cases hk; simp
  refine ⟨rfl, ⟨g', ⟨_, _, hb2.set 1 _, .inr rfl, ?_, hne', .inr rfl⟩, ?_⟩, hgk.setCell (p := ⟨b, 1, none⟩) (by simp) _⟩
  · rw [List.length_append, hbc]
    exact hown'.kept (row := some b) ⟨rfl, rfl, rfl, by simp [World.setCell], fun k _ hk => Below.heap_setCell _ _ _ _ (fun e => hk (by simp [e]))⟩ (.inr hne')
  · rcases hat with hat | hat
    · rcases hg with ⟨hg, _⟩ | hg
      · rw [hg] at hat; simp [Value.ownBlock] at hat
      · rw [hg] at hat; simp only [Value.ownBlock, Option.some.injEq] at hat; exact .inl hat
    · simp [Value.ownBlock] at hat; right; omega

set_option maxHeartbeats 1000000 in
set_option maxRecDepth 100000 in
theorem string_some (T : TypeId) (b g : Nat) (l : List UInt8) (w : World) (h : Bld T b g l w) (h0 : l ≠ []) :
    Calls Tryd.prog 88 #[.pointer (some ⟨b, 0, none⟩)] w fun e w' => e = .returned (.string ⟨l.toArray⟩) ∧ Keeps [b, g] w w' := by
  obtain ⟨p, v, hbk, hp, hown, hne, hgg⟩ := h
  have hl0 : l.length ≠ 0 := by simpa using h0
  obtain ⟨g', cap, cur, rfl, hbg, hg, hnc, hcm, hcs, htake⟩ : ∃ g cap cur, v = .slice (some ⟨g, 0, none⟩) l.length cap ∧ 0 ≤ g ∧ w.heap[g]? = some (.cells cur 5 (0, 0)) ∧ l.length ≤ cap ∧ cap ≤ maxLen ∧ cur.size = cap * 1 ∧ cur.toList.take (l.length * 1) = Lib.byteCells l := by
    rcases hown.2 with ⟨_, hz⟩ | ⟨g, cap, cur, hv, r⟩
    · exact absurd hz hl0
    · exact ⟨g, cap, cur, hv, r⟩
  obtain rfl : g' = g := by
    rcases hgg with ⟨hgg, _⟩ | hgg
    · simp [Value.ownBlock] at hgg
    · simpa [Value.ownBlock] using hgg
  have c1 : w.drew.cell? ⟨b, 1, none⟩ = some (.slice (some ⟨g', 0, none⟩) l.length cap) := by
    rw [hbk.drew.cell]; rfl
  have hSD : (Builtin.unsafeSliceData_ #[121] 202 #[.slice (some ⟨g', 0, none⟩) l.length cap]).run Tryd.prog w.drew = .ok (.pointer (some ⟨g', 0, none⟩)) w.drew :=
    Lib.run_unsafeSliceData_row _ _ _ _ _ _ (by omega)
  have hUS : (Builtin.unsafeString_ #[202, 3] 9 #[.pointer (some ⟨g', 0, none⟩), .int .i64 l.length]).run Tryd.prog w.drew = .ok (.string ⟨l.toArray⟩) (w.drew.freeze ⟨g', 0, none⟩ l.length) := by
    refine Lib.run_unsafeString_row w.drew 202 3 9 5 Tryd.underlying202 (by kernel_rfl) g' cur.size (by have hg' : w.drew.heap[g']? = some (.cells cur 5 (0, 0)) := hg; simp [World.shape?, hg']) l h0 (by omega) (by unfold maxLen at hcm; omega) ?_
    intro j x hx
    exact hown.cells (g := g') rfl j (.int .u8 x.toNat) (by simp [Lib.byteCells, hx])
  have hfin : Keeps [b, g'] w (w.drew.freeze ⟨g', 0, none⟩ l.length) := by
    have hb' := Lib.below_freeze (B := 0) (Below.refl 0 w.drew) (p := ⟨g', 0, none⟩) (Nat.zero_le _) l.length
    refine ⟨hb'.os, hb'.tape, hb'.output, hb'.size, fun k hk hx => ?_⟩
    unfold World.freeze
    split
    · rfl
    · simp only [Array.getElem?_modify]
      rw [if_neg (by simp at hx; omega)]
      rfl
  have HF := Lib.hid hfin
  clear hfin
  clear hown hgg hcs htake hg hbk hne hp hbg hnc hcm
  go_enter Tryd.func88, Tryd.ntmps88
  go_wp2
  go_region
  all_goals (go_wp2; go_ret; exact ⟨rfl, HF.out⟩)

end Go.Proofs.YtnlhmlgoipnekaaDoor
