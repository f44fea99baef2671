/- package order: Trim. -/
import Derived.Test.YtnlhmlgoipnekaaDoorRW
import Derived.Test.YtnlhmlgoipnekaaDoorStore
namespace Go.Proofs.YtnlhmlgoipnekaaDoor
open Go.RowKit

theorem wrF_len (c : Cmd) (hc : c.Ok) (f : Fld) (hf : f.ok) : (wrF c f).length ≤ 40 := by
  cases f with
  | num o => have := len10 c hc o (Fld.ok_num hf).1 (Fld.ok_num hf).2; simp only [wrF]; omega
  | vec =>
    obtain ⟨_, _, n0, n1, n2, n3⟩ := hc
    have := len10' _ n0; have := len10' _ n1; have := len10' _ n2; have := len10' _ n3
    unfold wrF; simp; omega
  | flag => have := len10' (if c.flag then 1 else 0) (by split <;> (unfold I64; omega)); simp only [wrF]; omega

theorem wrF_lens (c : Cmd) (hc : c.Ok) : ∀ l : List Fld, (∀ f ∈ l, f.ok) → (l.flatMap (wrF c)).length ≤ 40 * l.length := by
  intro l
  induction l with
  | nil => simp
  | cons f l ih =>
    intro h
    have := ih (fun g hg => h g (by simp [hg]))
    have := wrF_len c hc f (h f (by simp))
    simp only [List.flatMap_cons, List.length_append, List.length_cons]
    omega

theorem overF_len (k : Int) : (overF k).length ≤ 20 := by
  have h : (tailF k).length ≤ 10 := by
    unfold tailF
    repeat' split
    all_goals decide
  unfold overF
  repeat' split
  all_goals (try simp only [List.length_cons]); omega

theorem bytes_len (c : Cmd) (hc : c.Ok) : c.bytes.length ≤ 1000 := by
  have h1 := wrF_lens c hc (overF c.kind) (overF_ok _)
  have h2 := overF_len c.kind
  have h3 := len10' _ hc.1
  unfold Cmd.bytes
  simp only [List.length_append]
  omega

theorem Cmd.one (c : Cmd) : c.cells.all (·.oneCell') = true := by
  unfold Cmd.cells
  simp [Value.oneCell']

/-- What Trim leaves. -/
def Cmd.trim (c : Cmd) : Cmd := if 1 ≤ c.kind ∧ c.kind ≤ 21 then c.proj else Cmd.zero 0

set_option maxRecDepth 100000 in
set_option maxHeartbeats 2000000 in
theorem trim_any {B : Nat} {ea ef : Addr} (c : Cmd) (w : World) (hG : Glob B ea ef w) (hc : c.Ok) :
    Calls Tryd.prog 15 #[.agg c.cells] w fun e w' => e = .returned (.agg c.trim.cells) ∧ Keeps [] w w' := by
  obtain ⟨d, hd⟩ : ∃ d, d = c.trim := ⟨_, rfl⟩
  rw [← hd]
  have HD := Lib.hid hd
  clear hd
  have cc : c.cells[0]? = some (.int .i64 c.kind) := rfl
  obtain ⟨wa, hwa⟩ : ∃ wa, w.alloc (.cells c.cells 27) = wa := ⟨_, rfl⟩
  have hba : Blk wa w.heap.size 27 c.cells := by rw [← hwa]; exact Blk.new _ _ _
  have hka : Keeps [] w wa := by rw [← hwa]; exact (Keeps.refl _ _).alloc _
  obtain ⟨w0, hw0⟩ : ∃ w0, wa.alloc (.cells (Cmd.zero 0).cells 27) = w0 := ⟨_, rfl⟩
  have hz0 : Blk w0 wa.heap.size 27 (Cmd.zero 0).cells := by rw [← hw0]; exact Blk.new _ _ _
  have hk0 : Keeps [] w w0 := by rw [← hw0]; exact hka.alloc _
  have hb0 : Blk w0 w.heap.size 27 c.cells := by rw [← hw0]; exact hba.alloc _
  have hsz : wa.heap.size = w.heap.size + 1 := by rw [← hwa]; simp
  rw [hsz] at hz0
  unfold Cmd.zero Cmd.cells at hw0
  by_cases hkd : 1 ≤ c.kind ∧ c.kind ≤ 21
  · have HT : Hid (d = c.proj) := by apply Lib.hid; rw [HD.out]; unfold Cmd.trim; rw [if_pos hkd]
    obtain ⟨h1, h2⟩ := hkd
    have c0 : w0.cell? ⟨w.heap.size, 0, none⟩ = some (.int .i64 c.kind) := by rw [hb0.cell]; rfl
    go_enter Tryd.func15, Tryd.ntmps15
    go_wp2_with fail
    clear hwa hw0
    refine (isKind_yes _ _ h1 h2).mono ?_
    rintro e w1 ⟨rfl, rfl⟩
    go_wp2_with (refine wpList_load_blk rfl 27 _ rfl w.heap.size 27 c.cells rfl hb0 _ Tryd.underlying27 rfl (by kernel_rfl) ?_)
    refine (written_any c _ hc h1 h2).mono ?_
    rintro e w1 ⟨rfl, hk1⟩
    go_wp2_with fail
    have hG1 := (hG.keep0 hk0).keep0 hk1
    refine (read_any ⟨c.bytes.toArray⟩ _ hG1 (by have := bytes_len c hc; unfold Room; simp [ByteArray.size]; omega)).mono ?_
    rintro e w2 ⟨⟨x, rfl, hx⟩, hk2⟩
    rw [readC_bytes c hc h1 h2] at hx
    rw [readC_bytes c hc h1 h2]
    simp only [ReadErr] at hx
    subst hx
    rw [← HT.out]
    have hK2 := (hk0.trans hk1).trans hk2
    have hz2 := (hz0.keep hk1 (by simp)).keep hk2 (by simp)
    obtain ⟨w3, hw3⟩ : ∃ w3, w2.alloc (.cells (Cmd.zero 0).cells 27) = w3 := ⟨_, rfl⟩
    have hb3 : Blk w3 w2.heap.size 27 (Cmd.zero 0).cells := by rw [← hw3]; exact Blk.new _ _ _
    have hk3 : Keeps [] w2 w3 := by rw [← hw3]; exact (Keeps.refl _ _).alloc _
    have hz3 := hz2.keep hk3 (by simp)
    have hl2 := hz2.lt
    have hs2 := hK2.size
    unfold Cmd.zero Cmd.cells at hw3
    clear hk1 hk2 hG1 hz2 hb0 hz0 c0
    go_wp2_with (refine wpList_store_blk rfl 27 _ _ rfl w2.heap.size 27 (Cmd.zero 0).cells d.cells rfl rfl hb3 rfl (by kernel_rfl) (Cmd.one _) ?_)
    intro w4 hb4 hk4
    have hz4 := hz3.keep hk4 (nmem1 (by omega))
    have hK4 : Keeps [] w w4 := (hK2.trans hk3).trans' hk4 (by simp; omega)
    clear hw3
    go_wp2_with (first | (refine wpList_load_blk rfl 27 _ rfl w2.heap.size 27 d.cells rfl hb4 _ Tryd.underlying27 rfl (by kernel_rfl) ?_) | (refine wpList_store_blk rfl 27 _ _ rfl (w.heap.size + 1) 27 (Cmd.zero 0).cells d.cells rfl rfl hz4 rfl (by kernel_rfl) (Cmd.one _) ?_))
    intro w5 hz5 hk5
    have hK5 : Keeps [] w w5 := hK4.trans' hk5 (by simp)
    go_wp2_with fail
    refine bodyPost_ret (results_cell_row rfl _ _ (w.heap.size + 1) 27 d.cells (0, 0) _ rfl hz5 Tryd.underlying27 rfl (by kernel_rfl)) rfl ?_
    exact ⟨rfl, hK5⟩
  · have HT : Hid (d = Cmd.zero 0) := by apply Lib.hid; rw [HD.out]; unfold Cmd.trim; rw [if_neg hkd]
    have HN := Lib.hid hkd
    clear hkd
    have e := HT.out
    subst e
    have c0 : w0.cell? ⟨w.heap.size, 0, none⟩ = some (.int .i64 c.kind) := by rw [hb0.cell]; rfl
    go_enter Tryd.func15, Tryd.ntmps15
    go_wp2_with fail
    clear hwa hw0
    refine (isKind_no _ _ HN.out).mono ?_
    rintro e w1 ⟨rfl, rfl⟩
    go_wp2_with (refine wpList_store_blk rfl 27 _ _ rfl (w.heap.size + 1) 27 (Cmd.zero 0).cells (Cmd.zero 0).cells rfl rfl hz0 rfl (by kernel_rfl) (Cmd.one _) ?_)
    intro w5 hz5 hk5
    have hK5 : Keeps [] w w5 := hk0.trans' hk5 (by simp)
    go_wp2_with fail
    refine bodyPost_ret (results_cell_row rfl _ _ (w.heap.size + 1) 27 (Cmd.zero 0).cells (0, 0) _ rfl hz5 Tryd.underlying27 rfl (by kernel_rfl)) rfl ?_
    exact ⟨rfl, hK5⟩

end Go.Proofs.YtnlhmlgoipnekaaDoor
