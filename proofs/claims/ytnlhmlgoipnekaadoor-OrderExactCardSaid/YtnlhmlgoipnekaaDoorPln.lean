/- Plain facts on commands: what trimming leaves. -/
import Derived.Test.YtnlhmlgoipnekaaDoorTrim
import Derived.Test.YtnlhmlgoipnekaaDoorGood
import Derived.Test.YtnlhmlgoipnekaaDoorName
namespace Go.Proofs.YtnlhmlgoipnekaaDoor
open Go.RowKit

theorem kinds {k : Int} (h1 : 1 ≤ k) (h2 : k ≤ 21) : k = 1 ∨ k = 2 ∨ k = 3 ∨ k = 4 ∨ k = 5 ∨ k = 6 ∨ k = 7 ∨ k = 8 ∨ k = 9 ∨ k = 10 ∨ k = 11 ∨ k = 12 ∨ k = 13 ∨ k = 14 ∨ k = 15 ∨ k = 16 ∨ k = 17 ∨ k = 18 ∨ k = 19 ∨ k = 20 ∨ k = 21 := by omega

theorem proj_kind (c : Cmd) (h1 : 1 ≤ c.kind) (h2 : c.kind ≤ 21) : c.proj.kind = c.kind := by
  obtain ⟨k, a1, a2, a3, a4, a5, a6, a7, a8, a9, b0, b1, b2, b3, f⟩ := c
  rcases kinds h1 h2 with h | h | h | h | h | h | h | h | h | h | h | h | h | h | h | h | h | h | h | h | h <;> (simp only at h; subst h; rfl)

theorem proj_proj (c : Cmd) (h1 : 1 ≤ c.kind) (h2 : c.kind ≤ 21) : c.proj.proj = c.proj := by
  obtain ⟨k, a1, a2, a3, a4, a5, a6, a7, a8, a9, b0, b1, b2, b3, f⟩ := c
  rcases kinds h1 h2 with h | h | h | h | h | h | h | h | h | h | h | h | h | h | h | h | h | h | h | h | h <;> (simp only at h; subst h; rfl)

theorem proj_clean (c : Cmd) (h1 : 1 ≤ c.kind) (h2 : c.kind ≤ 21) : c.proj.clean = Cmd.zero c.kind := by
  obtain ⟨k, a1, a2, a3, a4, a5, a6, a7, a8, a9, b0, b1, b2, b3, f⟩ := c
  rcases kinds h1 h2 with h | h | h | h | h | h | h | h | h | h | h | h | h | h | h | h | h | h | h | h | h <;> (simp only at h; subst h; rfl)

theorem proj_good (c : Cmd) (h1 : 1 ≤ c.kind) (h2 : c.kind ≤ 21) : c.proj.good = true := by
  unfold Cmd.good
  rw [proj_kind c h1 h2, proj_clean c h1 h2]
  exact decide_eq_true ⟨h1, h2, rfl⟩

theorem good_proj (c : Cmd) (h : c.good = true) : c.proj = c := by
  unfold Cmd.good at h
  obtain ⟨h1, h2, hc⟩ := of_decide_eq_true h
  clear h
  obtain ⟨k, a1, a2, a3, a4, a5, a6, a7, a8, a9, b0, b1, b2, b3, f⟩ := c
  rcases kinds h1 h2 with h | h | h | h | h | h | h | h | h | h | h | h | h | h | h | h | h | h | h | h | h <;>
    (simp only at h; subst h
     simp [Cmd.clean, overF, tailF, stepClean, Cmd.put, Cmd.putV, Cmd.putF, Cmd.zero] at hc
     simp [Cmd.proj, overF, tailF, cpF, Cmd.put, Cmd.get, Cmd.putV, Cmd.putF, Cmd.zero, hc])

theorem proj_ok (c : Cmd) (hc : c.Ok) (h1 : 1 ≤ c.kind) (h2 : c.kind ≤ 21) : c.proj.Ok := by
  obtain ⟨hk, hn, v0, v1, v2, v3⟩ := hc
  have n1 := hn 1 (by omega) (by omega)
  have n2 := hn 2 (by omega) (by omega)
  have n3 := hn 3 (by omega) (by omega)
  have n4 := hn 4 (by omega) (by omega)
  have n5 := hn 5 (by omega) (by omega)
  have n6 := hn 6 (by omega) (by omega)
  have n7 := hn 7 (by omega) (by omega)
  have n8 := hn 8 (by omega) (by omega)
  have n9 := hn 9 (by omega) (by omega)
  clear hn
  refine ⟨by rw [proj_kind c h1 h2]; exact hk, ?_, ?_⟩
  · intro o ho1 ho9
    obtain ⟨k, a1, a2, a3, a4, a5, a6, a7, a8, a9, b0, b1, b2, b3, f⟩ := c
    have ho : o = 1 ∨ o = 2 ∨ o = 3 ∨ o = 4 ∨ o = 5 ∨ o = 6 ∨ o = 7 ∨ o = 8 ∨ o = 9 := by omega
    rcases kinds h1 h2 with h | h | h | h | h | h | h | h | h | h | h | h | h | h | h | h | h | h | h | h | h <;>
      (simp only at h; subst h; rcases ho with h | h | h | h | h | h | h | h | h <;> subst h <;> (first | exact I64.zero | assumption))
  · obtain ⟨k, a1, a2, a3, a4, a5, a6, a7, a8, a9, b0, b1, b2, b3, f⟩ := c
    rcases kinds h1 h2 with h | h | h | h | h | h | h | h | h | h | h | h | h | h | h | h | h | h | h | h | h <;>
      (simp only at h; subst h; refine ⟨?_, ?_, ?_, ?_⟩ <;> first | exact I64.zero | assumption)

theorem trim_in (c : Cmd) (h1 : 1 ≤ c.kind) (h2 : c.kind ≤ 21) : c.trim = c.proj := if_pos ⟨h1, h2⟩
theorem trim_out (c : Cmd) (h : ¬ (1 ≤ c.kind ∧ c.kind ≤ 21)) : c.trim = Cmd.zero 0 := if_neg h
theorem trim_trim (c : Cmd) : c.trim.trim = c.trim := by
  by_cases h : 1 ≤ c.kind ∧ c.kind ≤ 21
  · rw [trim_in c h.1 h.2, trim_in _ (by rw [proj_kind c h.1 h.2]; exact h.1) (by rw [proj_kind c h.1 h.2]; exact h.2), proj_proj c h.1 h.2]
  · rw [trim_out c h]; rfl
theorem good_out (c : Cmd) (h : ¬ (1 ≤ c.kind ∧ c.kind ≤ 21)) : c.good = false := decide_eq_false fun h' => h ⟨h'.1, h'.2.1⟩
theorem trim_17 (c : Cmd) : ({ c with kind := 17 } : Cmd).trim = Cmd.zero 17 := by
  obtain ⟨k, a1, a2, a3, a4, a5, a6, a7, a8, a9, b0, b1, b2, b3, f⟩ := c
  rfl
theorem trim_ok (c : Cmd) (hc : c.Ok) : c.trim.Ok := by
  by_cases h : 1 ≤ c.kind ∧ c.kind ≤ 21
  · rw [trim_in c h.1 h.2]; exact proj_ok c hc h.1 h.2
  · rw [trim_out c h]; exact Cmd.zero_ok 0 I64.zero
theorem nameOf_some (k : Int) (h1 : 1 ≤ k) (h2 : k ≤ 21) : nameOf k ≠ [] := by
  rcases kinds h1 h2 with rfl | rfl | rfl | rfl | rfl | rfl | rfl | rfl | rfl | rfl | rfl | rfl | rfl | rfl | rfl | rfl | rfl | rfl | rfl | rfl | rfl <;> decide
theorem bytes_ne (c : Cmd) : c.bytes ≠ [] := by
  unfold Cmd.bytes
  intro h
  exact enc_pos _ (List.append_eq_nil_iff.1 h).1

end Go.Proofs.YtnlhmlgoipnekaaDoor
