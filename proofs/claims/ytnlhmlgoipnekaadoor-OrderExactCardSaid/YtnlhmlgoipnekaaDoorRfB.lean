/- The reference's commands: Bytes, walked. -/
import Derived.Test.YtnlhmlgoipnekaaDoorRfT
namespace Go.Proofs.YtnlhmlgoipnekaaDoor
open Go.RowKit

theorem flatMap_snoc {α β : Type} (f : α → List β) (l : List α) (k : Nat) (x : α) (h : l[k]? = some x) : (l.take (k + 1)).flatMap f = (l.take k).flatMap f ++ f x := by
  obtain ⟨hk, hx⟩ := List.getElem?_eq_some_iff.1 h
  rw [List.take_succ_eq_append_getElem hk, List.flatMap_append, hx]; simp

/-- What Bytes has written behind k of its fields. -/
def byK (c : Cmd) (k : Nat) : List UInt8 := enc (zig c.kind) ++ ((overF c.kind).take k).flatMap (wrF c)

theorem byK_len (c : Cmd) (hc : c.Ok) (k : Nat) : (byK c k).length ≤ 1000 := by
  have h1 := wrF_lens c hc ((overF c.kind).take k) (fun f hf => overF_ok c.kind f (List.mem_of_mem_take hf))
  have h2 := overF_len c.kind
  have h3 := len10' _ hc.1
  have h4 : ((overF c.kind).take k).length ≤ (overF c.kind).length := List.length_take_le' _ _
  unfold byK
  simp only [List.length_append]
  omega

theorem byK_succ (c : Cmd) (k : Nat) (f : Fld) (h : (overF c.kind)[k]? = some f) : byK c (k + 1) = byK c k ++ wrF c f := by
  unfold byK
  rw [flatMap_snoc _ _ _ _ h, List.append_assoc]

set_option maxRecDepth 100000 in
set_option maxHeartbeats 4000000 in
theorem rfBytes_any (c : Cmd) (w : World) (hc : c.Ok) (h1 : 1 ≤ c.kind) (h2 : c.kind ≤ 21) :
    Calls Tryd.prog 19 #[.agg c.cells] w fun e w' => e = .returned (.string ⟨c.bytes.toArray⟩) ∧ Keeps [] w w' := by
  obtain ⟨d, hd⟩ : ∃ d, d = c.bytes := ⟨_, rfl⟩
  rw [← hd]
  have HD := Lib.hid hd
  clear hd
  obtain ⟨w0, hw0⟩ : ∃ w0, w.alloc (.cells c.cells 29) = w0 := ⟨_, rfl⟩
  have hc0 : Blk w0 w.heap.size 29 c.cells := by rw [← hw0]; exact Blk.new _ _ _
  have hk0 : Keeps [] w w0 := by rw [← hw0]; exact (Keeps.refl _ _).alloc _
  have ck : w0.cell? ⟨w.heap.size, 0, none⟩ = some (.int .i64 c.kind) := by rw [hc0.cell]; rfl
  go_enter Tryd.func19, Tryd.ntmps19
  go_wp2_with fail
  clear hw0
  refine (rfInt_any c.kind w0 hc.1).mono ?_
  rintro e w1 ⟨rfl, hk1⟩
  have hc1 := hc0.keep hk1 (by simp)
  have ck1 : w1.cell? ⟨w.heap.size, 0, none⟩ = some (.int .i64 c.kind) := by rw [hc1.cell]; rfl
  have hs0 : enc (zig c.kind) = byK c 0 := by simp [byK]
  rw [hs0]
  clear ck hs0
  go_wp2_with fail
  refine (has_any c.kind w1).mono ?_
  rintro e w2 ⟨rfl, hk2⟩
  have HR : Hid (Blk w2 w.heap.size 29 c.cells ∧ Keeps [] w w2) := Lib.hid ⟨hc1.keep hk2 (by simp), (hk0.trans hk1).trans hk2⟩
  have hl10 := hasL_len c.kind
  have hov := hasL_over c.kind h1 h2
  have hin := hasL_in c.kind
  generalize hasL c.kind = l at *
  have HOV := Lib.hid hov
  have HIN := Lib.hid hin
  have HC := Lib.hid hc
  clear hk0 hk1 hk2 hc0 hc1 ck1 hov hin hc
  go_wp2_with fail
  go_loopw [3, 5] (fun s i wr => ∃ k : Nat, i = .int .i64 k ∧ k ≤ l.length ∧ s = .string ⟨(byK c k).toArray⟩ ∧ Blk wr w.heap.size 29 c.cells ∧ Keeps [] w wr) (fun _ i _ => l.length - (intOf i).toNat)
  case atStart => exact ⟨0, rfl, by omega, rfl, HR.out⟩
  case round =>
    obtain ⟨k, rfl, hk, rfl, hcr, hkr⟩ := hrel
    by_cases hlt : k < l.length
    · obtain ⟨b, hb⟩ : ∃ b, l[k]? = some b := ⟨_, List.getElem?_eq_getElem hlt⟩
      have hix := idx_run l k b hb
      have HF : Hid ((overF c.kind)[k]? = some (letF b)) := by apply Lib.hid; rw [← HOV.out, List.getElem?_map, hb]; rfl
      have hbl : b ∈ letters := HIN.out b (List.mem_of_getElem? hb)
      have HS : Hid (byK c (k + 1) = byK c k ++ wrF c (letF b)) := Lib.hid (byK_succ c k _ HF.out)
      have hn1 := byK_len c HC.out k
      have hn2 := byK_len c HC.out (k + 1)
      rw [HS.out, List.length_append] at hn2
      clear hb
      generalize byK c k = sk at *
      have HX : Hid (∃ x, x = wrF c (letF b)) := Lib.hid ⟨_, rfl⟩
      by_cases hv : b = 118
      · subst hv
        obtain ⟨x, hx⟩ := HX.out
        rw [← hx] at hn2 HS
        have hcat := cat_run sk x (by omega)
        have hcall : ∀ w, Calls Tryd.prog 54 #[.agg #[.int .i64 c.v0, .int .i64 c.v1, .int .i64 c.v2, .int .i64 c.v3]] w fun e w' => e = .returned (.string ⟨x.toArray⟩) ∧ Keeps [] w w' := fun w => by
          rw [hx]; exact rfVec_any c.v0 c.v1 c.v2 c.v3 w HC.out.2.2.1 HC.out.2.2.2.1 HC.out.2.2.2.2.1 HC.out.2.2.2.2.2
        have cc := hcr.cell
        unfold Cmd.cells at cc
        clear hx hn1 hn2
        go_wp2_with fail
        refine (hcall wr).mono ?_
        rintro e w3 ⟨rfl, hk3⟩
        have hN := hcr.keep hk3 (by simp)
        have hK := hkr.trans hk3
        have HB := Lib.hid hN
        clear cc hcr hk3 hkr hN
        go_wp2_with fail
        go_roundw
        case rel => exact ⟨k + 1, by go_num, by omega, by rw [HS.out], HB.out, hK⟩
        case measure => simp [intOf]; omega
      · by_cases hf : b = 102
        · subst hf
          obtain ⟨x, hx⟩ := HX.out
          rw [← hx] at hn2 HS
          have hcat := cat_run sk x (by omega)
          have hcall : ∀ w, Calls Tryd.prog 55 #[.bool c.flag] w fun e w' => e = .returned (.string ⟨x.toArray⟩) ∧ Keeps [] w w' := fun w => by
            rw [hx]; exact rfBool_any c.flag w
          have cc := hcr.cell
          unfold Cmd.cells at cc
          clear hx hn1 hn2
          go_wp2_with fail
          refine (hcall wr).mono ?_
          rintro e w3 ⟨rfl, hk3⟩
          have hN := hcr.keep hk3 (by simp)
          have hK := hkr.trans hk3
          have HB := Lib.hid hN
          clear cc hcr hk3 hkr hN
          go_wp2_with fail
          go_roundw
          case rel => exact ⟨k + 1, by go_num, by omega, by rw [HS.out], HB.out, hK⟩
          case measure => simp [intOf]; omega
        · have hnum := numL_of b hbl hv hf
          have hv2 : (((b.toNat : Nat) : Int) == 118) = false := by
            have : b.toNat ≠ 118 := fun e => hv (UInt8.toNat.inj (by simpa using e))
            simp; omega
          have hf2 : (((b.toNat : Nat) : Int) == 102) = false := by
            have : b.toNat ≠ 102 := fun e => hf (UInt8.toNat.inj (by simpa using e))
            simp; omega
          obtain ⟨x, hx⟩ := HX.out
          rw [← hx] at hn2 HS
          have hcat := cat_run sk x (by omega)
          have hget : ∀ w, Calls Tryd.prog 52 #[.agg c.cells, .int .u8 b.toNat] w fun e w' => e = .returned (.int .i64 (c.get (letO b))) ∧ Keeps [] w w' := fun w => rfGet_any c b w hnum
          have hint : ∀ w, Calls Tryd.prog 53 #[.int .i64 (c.get (letO b))] w fun e w' => e = .returned (.string ⟨x.toArray⟩) ∧ Keeps [] w w' := fun w => by
            rw [hx, letF_num b hv hf]
            exact rfInt_any _ w (HC.out.2.1 _ (letO_in b).1 (letO_in b).2)
          clear hx hn1 hn2
          go_wp2_with fail
          refine wp_region_kw (by kernel_rfl) (by kernel_rfl) ?_
          repeat (first | (refine wpQuiet_load_blk rfl 29 _ rfl w.heap.size 29 c.cells rfl (blk_kw hcr) _ Tryd.underlying29 rfl (by kernel_rfl) ?_; go_simp) | (go_big_quiet_step (first | (with_reducible refine calls_kw (hget _)) | (with_reducible refine calls_kw (hint _)))))
          refine wpQuiet_nil ?_
          intro p
          have HB := Lib.hid (hcr.keep (kw_keeps wr p) (by simp))
          have hK := hkr.trans (kw_keeps wr p)
          generalize kw wr p = w3 at *
          clear hcr hkr
          go_wp2_with fail
          go_roundw
          case rel => exact ⟨k + 1, by go_num, by omega, by rw [HS.out], HB.out, hK⟩
          case measure => simp [intOf]; omega
    · have hall : byK c k = d := by
        rw [HD.out]; unfold byK Cmd.bytes
        rw [List.take_of_length_le (by rw [← HOV.out, List.length_map]; omega)]
      rw [hall]
      clear hall
      go_wp2_with fail
      go_ret
      exact ⟨rfl, hkr⟩

end Go.Proofs.YtnlhmlgoipnekaaDoor
