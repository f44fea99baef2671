/- quitrentlaw24.awake, walked. -/
import Derived.Test.YtnlhmlgoipnekaaDoorRr5
import Derived.Test.YtnlhmlgoipnekaaDoorAt24
import Derived.Test.YtnlhmlgoipnekaaDoorCode
import Derived.Test.YtnlhmlgoipnekaaDoorQLd
namespace Go.Proofs.YtnlhmlgoipnekaaDoor
open Go.RowKit

theorem first_of {B : Nat} {E : Nat → Addr} {w : World} (hG : GlobE B E w) (i : Nat) (hi : i < 14) : First E (some (E i)) i :=
  ⟨by omega, fun j hj h => hG.ne i j hi (by omega) (by omega) (Option.some.inj h), .inr rfl⟩

def aw24S : ByteArray := ⟨#[0, 0, 0, 0, 0, 0, 2, 10]⟩
theorem aw24_ok : readOk aw24S = true := by decide +kernel
theorem aw24_n : (readR aw24S).rep.n = [5] := by decide +kernel
def rep0 : Rep := ⟨0, 0, [], [], [], [], []⟩
theorem rep0_bytes : rep0.bytes.toArray = #[0, 0, 0, 0, 0, 0, 0] := by decide +kernel
theorem rep0_at (w : World) : RepAt w (.slice none 0 0) (.slice none 0 0) (.slice none 0 0) (.slice none 0 0) (.slice none 0 0) rep0 :=
  ⟨by show I64 0; unfold I64; omega, by show I64 0; unfold I64; omega, IntRow.nil w 3, IntRow.nil w 2, IntRow.nil w 2, IntRow.nil w 6, IntRow.nil w 1⟩
theorem rep0_small : rep0.Small := ⟨by decide, by decide, by decide, by decide, by decide⟩

set_option maxRecDepth 100000 in
set_option maxHeartbeats 4000000 in
theorem awake24_any {B : Nat} {E : Nat → Addr} (w : World) (hG : GlobE B E w) :
    Calls Tryd.prog 24 #[] w fun e w' => e = .returned (.bool true) ∧ Keeps [] w w' := by
  have h2 : w.cell? ⟨2, 0, none⟩ = some (errv (E 8)) := hG.cell 8 (by omega)
  obtain ⟨w0, hw0⟩ : ∃ w0, w.alloc (.cells #[.string ⟨#[120]⟩, .int .i64 7, errv (E 8)] 53) = w0 := ⟨_, rfl⟩
  have hF0 : Blk w0 w.heap.size 53 #[.string ⟨#[120]⟩, .int .i64 7, errv (E 8)] := by rw [← hw0]; exact Blk.new _ _ _
  have hk0 : Keeps [] w w0 := by rw [← hw0]; exact (Keeps.refl _ _).alloc _
  have hG0 := hG.keep0 hk0
  go_enter Tryd.func24, Tryd.ntmps24
  go_wp2_with fail
  clear hw0 h2
  refine (rRead_any aw24S w0 hG0.glob (by decide)).mono ?_
  rintro e w1 ⟨hk1, ⟨_, v0, v1, v2, v3, v4, rfl, hR⟩ | ⟨hno, _⟩⟩
  · have hF1 := hF0.keep hk1 (by simp)
    have hG1 := hG0.keep0 hk1
    have hK1 := hk0.trans hk1
    have h4 := hR.s4
    rw [aw24_n] at h4
    obtain ⟨q0, m0, p0, rfl⟩ := hR.s0.shape
    obtain ⟨q1, m1, p1, rfl⟩ := hR.s1.shape
    obtain ⟨q2, m2, p2, rfl⟩ := hR.s2.shape
    obtain ⟨q3, m3, p3, rfl⟩ := hR.s3.shape
    obtain ⟨_, ⟨_, h0⟩ | ⟨⟨b, off, sp⟩, n, cap, rfl, hn, hcap, hsp, hcell⟩⟩ := h4
    · cases h0
    · obtain rfl : sp = none := hsp (by simp)
      obtain rfl : n = 1 := by simpa using hn.symm
      have c0 : w1.cell? ⟨b, off, none⟩ = some (.int .i64 5) := hcell 0 (by simp)
      obtain ⟨cs, hcs⟩ : ∃ cs, cs = repV (readR aw24S).rep.code (readR aw24S).rep.at' (.slice q0 m0 p0) (.slice q1 m1 p1) (.slice q2 m2 p2) (.slice q3 m3 p3) (.slice (some ⟨b, off, none⟩) 1 cap) := ⟨_, rfl⟩
      have hc6 : cs[6]? = some (.slice (some ⟨b, off, none⟩) 1 cap) := by rw [hcs]; rfl
      have hone : cs.all (·.oneCell') = true := by rw [hcs]; simp [repV, Value.oneCell']
      have hsz : cs.size = 7 := by rw [hcs]; rfl
      rw [← hcs]
      have HON := Lib.hid hone
      have HSZ := Lib.hid hsz
      clear hcs hone hsz hR hF0 hG0 hk0 hk1 hcell hn
      obtain ⟨w2, hw2⟩ : ∃ w2, w1.alloc (.cells zeroV 60) = w2 := ⟨_, rfl⟩
      have hb2 : Blk w2 w1.heap.size 60 zeroV := by rw [← hw2]; exact Blk.new _ _ _
      have hk2 : Keeps [] w1 w2 := by rw [← hw2]; exact (Keeps.refl _ _).alloc _
      unfold zeroV repV at hw2
      have hlb := cell_lt c0
      have hlF := hF1.lt
      go_wp2_with (refine wpList_store_blk rfl 60 _ _ rfl w1.heap.size 60 zeroV cs rfl rfl hb2 HSZ.out (by rw [HSZ.out]; kernel_rfl) HON.out ?_)
      intro w3 hb3 hk3
      have hF3 := (hF1.keep hk2 (by simp)).keep hk3 (nmem1 (by omega))
      have hG3 := (hG1.keep0 hk2).keep hk3 (by have := hG1.size; simp; omega)
      have c3 : w3.cell? ⟨b, off, none⟩ = some (.int .i64 5) := hk3.cellAt (hk2.cellAt c0 (by simp)) (nmem1 (by omega))
      have hs1 := hK1.size
      have hK3 : Keeps [] w w3 := (hK1.trans hk2).trans' hk3 (by simp; omega)
      clear hw2 hb2 hk2 hk3 hF1 hG1 hK1 c0
      have HG3 := Lib.hid hG3
      have kn : ∀ p o, o = 6 → (kw w3 p).cell? ⟨w1.heap.size, o, none⟩ = some (.slice (some ⟨b, off, none⟩) 1 cap) := fun p o ho => by subst ho; rw [kw_cell hb3, hc6]
      have k6 := fun p => kn p 6 rfl
      have k5 := fun p => kw_cellAt c3 p
      have kf := fun p => kw_cellAt (w := w3) (b := 3) (o := 0) (v := errv (E 11)) (hG3.cell 11 (by omega)) p
      have hby : ∀ w, Calls Tryd.prog 31 #[.agg #[.int .i64 0, .int .i64 0, .slice none 0 0, .slice none 0 0, .slice none 0 0, .slice none 0 0, .slice none 0 0]] w fun e w' => e = .returned (.string ⟨#[0, 0, 0, 0, 0, 0, 0]⟩) ∧ Keeps [] w w' := fun w => by
        have := rBytes_any _ _ _ _ _ rep0 w (rep0_at w) rep0_small
        rw [rep0_bytes] at this
        exact this
      have hcd : ∀ p, Calls Tryd.prog 27 #[.iface 51 (.pointer (some ⟨w.heap.size, 0, none⟩))] (kw w3 p) fun e w' => e = .returned (.int .i64 9) ∧ Keeps [] (kw w3 p) w' := fun p =>
        code_any _ [(⟨#[120]⟩, 7)] (some (E 8)) 8 _ (HG3.out.keep0 (kw_keeps w3 p)) (by simp) ⟨_, _, rfl, hF3.keep (kw_keeps w3 p) (by simp), rfl⟩ (by rintro a ⟨⟩; exact (HG3.out.keep0 (kw_keeps w3 p)).own 8 (by omega)) (first_of HG3.out 8 (by omega))
      have hat : ∀ p, Calls Tryd.prog 28 #[.iface 51 (.pointer (some ⟨w.heap.size, 0, none⟩))] (kw w3 p) fun e w' => e = .returned (.int .i64 7) ∧ Keeps [] (kw w3 p) w' := fun p =>
        at24_fault _ _ _ _ _ (HG3.out.keep0 (kw_keeps w3 p)) (hF3.keep (kw_keeps w3 p) (by simp))
      have her : ∀ p, Calls Tryd.prog 25 #[.int .i64 12] (kw w3 p) fun e w' => e = .returned (errv (E 11)) ∧ Keeps [] (kw w3 p) w' := fun p =>
        err_code 12 _ (HG3.out.keep0 (kw_keeps w3 p))
      have his : ∀ p, Calls Tryd.prog 20 #[errv (E 11), errv (E 11)] (kw w3 p) fun e w' => e = .returned (.bool true) ∧ kw w3 p = w' := fun p =>
        is_any (E 11) _ ((HG3.out.keep0 (kw_keeps w3 p)).own 11 (by omega)) true [] _ (some (E 11)) rfl (by simp) (by rintro a ⟨⟩; exact (HG3.out.keep0 (kw_keeps w3 p)).own 11 (by omega))
      clear hF3 hb3 kn hG3 c3 hc6
      go_wp2_with fail
      refine wp_region_kw (by kernel_rfl) (by kernel_rfl) ?_
      repeat (go_big_quiet_step ((first | (go_at_call 31; refine calls_kw (hby _)) | (with_reducible refine calls_kw (hcd _)) | (go_at_call 27; refine calls_kw_same (code_nil _)) | (go_at_call 28; refine calls_kw (hat _)) | (go_at_call 25; refine calls_kw (her _)) | (go_at_call 20; refine calls_kw_same (his _)))))
      refine wpQuiet_nil ?_
      intro w4 hw4
      obtain ⟨p, rfl⟩ := hw4
      go_wp2_with fail
      go_ret
      exact ⟨rfl, hK3.trans (kw_keeps w3 p)⟩
  · rw [aw24_ok] at hno
    cases hno

end Go.Proofs.YtnlhmlgoipnekaaDoor
