/- order.over, once, over any mover: one theorem for each kind. -/
import Derived.Test.YtnlhmlgoipnekaaDoorTail
namespace Go.Proofs.YtnlhmlgoipnekaaDoor
open Go.RowKit

/-- All that commands of a kind have, in order. -/
def overF (k : Int) : List Fld :=
  if k = 17 ∨ k = 18 then tailF k else if k = 1 ∨ k = 10 ∨ k = 13 ∨ k = 15 then .num 1 :: .num 2 :: tailF k else .num 1 :: tailF k

set_option maxRecDepth 100000 in
set_option maxHeartbeats 1000000 in
theorem over_1 {σ : Type} (M : Mover σ) (s : σ) (w0 : World) (hi0 : M.Inv s w0) (hk : M.kind = 1) (hl : M.lim s ≤ 3) :
    Calls Tryd.prog 62 #[.iface M.T M.mv, .pointer (some ⟨M.cb, 0, none⟩)] w0 fun e w' => e = .returned (.tuple #[]) ∧ M.Inv (M.run (overF 1) s) w' := by
  have HK := Lib.hid hk
  have hc := M.hkind s w0 hi0
  rw [hk] at hc
  clear hk
  have nn := M.nnum
  have mn := M.mnum
  have en := M.enum
  go_enter Tryd.func62, Tryd.ntmps62
  go_wp2_with fail
  go_still_tail 7, (by kernel_rfl)
  change wpList _ _ _ _ _ w0.drew
  go_wp2_with fail
  refine (M.cnum _ _ 1 (by omega) (by omega) (by omega) (M.hdrew _ _ hi0)).mono ?_
  rintro e w1 ⟨rfl, hi1⟩
  have hc1 := M.hkind _ w1 hi1
  rw [HK.out] at hc1
  go_wp2_with fail
  go_still_tail 7, (by kernel_rfl)
  change wpList _ _ _ _ _ w1.drew
  go_wp2_with fail
  refine (M.cnum _ _ 2 (by omega) (by omega) (by simp only [M.lnum]; omega) (M.hdrew _ _ hi1)).mono ?_
  rintro e w2 ⟨rfl, hi2⟩
  have hc2 := M.hkind _ w2 hi2
  rw [HK.out] at hc2
  go_wp2_with fail
  refine (tail_any M _ w2 hi2 (by rw [HK.out]; decide) (by rw [HK.out]; decide) (by simp only [M.lnum]; omega)).mono ?_
  rintro e w3 ⟨rfl, hi3⟩
  rw [HK.out] at hi3
  go_wp2_with fail
  go_end0
  exact ⟨rfl, hi3⟩

set_option maxRecDepth 100000 in
set_option maxHeartbeats 1000000 in
theorem over_2 {σ : Type} (M : Mover σ) (s : σ) (w0 : World) (hi0 : M.Inv s w0) (hk : M.kind = 2) (hl : M.lim s ≤ 3) :
    Calls Tryd.prog 62 #[.iface M.T M.mv, .pointer (some ⟨M.cb, 0, none⟩)] w0 fun e w' => e = .returned (.tuple #[]) ∧ M.Inv (M.run (overF 2) s) w' := by
  have HK := Lib.hid hk
  have hc := M.hkind s w0 hi0
  rw [hk] at hc
  clear hk
  have nn := M.nnum
  have mn := M.mnum
  have en := M.enum
  go_enter Tryd.func62, Tryd.ntmps62
  go_wp2_with fail
  go_still_tail 7, (by kernel_rfl)
  change wpList _ _ _ _ _ w0.drew
  go_wp2_with fail
  refine (M.cnum _ _ 1 (by omega) (by omega) (by omega) (M.hdrew _ _ hi0)).mono ?_
  rintro e w1 ⟨rfl, hi1⟩
  have hc1 := M.hkind _ w1 hi1
  rw [HK.out] at hc1
  go_wp2_with fail
  refine (tail_any M _ w1 hi1 (by rw [HK.out]; decide) (by rw [HK.out]; decide) (by simp only [M.lnum]; omega)).mono ?_
  rintro e w2 ⟨rfl, hi2⟩
  rw [HK.out] at hi2
  go_wp2_with fail
  go_end0
  exact ⟨rfl, hi2⟩

set_option maxRecDepth 100000 in
set_option maxHeartbeats 1000000 in
theorem over_3 {σ : Type} (M : Mover σ) (s : σ) (w0 : World) (hi0 : M.Inv s w0) (hk : M.kind = 3) (hl : M.lim s ≤ 3) :
    Calls Tryd.prog 62 #[.iface M.T M.mv, .pointer (some ⟨M.cb, 0, none⟩)] w0 fun e w' => e = .returned (.tuple #[]) ∧ M.Inv (M.run (overF 3) s) w' := by
  have HK := Lib.hid hk
  have hc := M.hkind s w0 hi0
  rw [hk] at hc
  clear hk
  have nn := M.nnum
  have mn := M.mnum
  have en := M.enum
  go_enter Tryd.func62, Tryd.ntmps62
  go_wp2_with fail
  go_still_tail 7, (by kernel_rfl)
  change wpList _ _ _ _ _ w0.drew
  go_wp2_with fail
  refine (M.cnum _ _ 1 (by omega) (by omega) (by omega) (M.hdrew _ _ hi0)).mono ?_
  rintro e w1 ⟨rfl, hi1⟩
  have hc1 := M.hkind _ w1 hi1
  rw [HK.out] at hc1
  go_wp2_with fail
  refine (tail_any M _ w1 hi1 (by rw [HK.out]; decide) (by rw [HK.out]; decide) (by simp only [M.lnum]; omega)).mono ?_
  rintro e w2 ⟨rfl, hi2⟩
  rw [HK.out] at hi2
  go_wp2_with fail
  go_end0
  exact ⟨rfl, hi2⟩

set_option maxRecDepth 100000 in
set_option maxHeartbeats 1000000 in
theorem over_4 {σ : Type} (M : Mover σ) (s : σ) (w0 : World) (hi0 : M.Inv s w0) (hk : M.kind = 4) (hl : M.lim s ≤ 3) :
    Calls Tryd.prog 62 #[.iface M.T M.mv, .pointer (some ⟨M.cb, 0, none⟩)] w0 fun e w' => e = .returned (.tuple #[]) ∧ M.Inv (M.run (overF 4) s) w' := by
  have HK := Lib.hid hk
  have hc := M.hkind s w0 hi0
  rw [hk] at hc
  clear hk
  have nn := M.nnum
  have mn := M.mnum
  have en := M.enum
  go_enter Tryd.func62, Tryd.ntmps62
  go_wp2_with fail
  go_still_tail 7, (by kernel_rfl)
  change wpList _ _ _ _ _ w0.drew
  go_wp2_with fail
  refine (M.cnum _ _ 1 (by omega) (by omega) (by omega) (M.hdrew _ _ hi0)).mono ?_
  rintro e w1 ⟨rfl, hi1⟩
  have hc1 := M.hkind _ w1 hi1
  rw [HK.out] at hc1
  go_wp2_with fail
  refine (tail_any M _ w1 hi1 (by rw [HK.out]; decide) (by rw [HK.out]; decide) (by simp only [M.lnum]; omega)).mono ?_
  rintro e w2 ⟨rfl, hi2⟩
  rw [HK.out] at hi2
  go_wp2_with fail
  go_end0
  exact ⟨rfl, hi2⟩

set_option maxRecDepth 100000 in
set_option maxHeartbeats 1000000 in
theorem over_5 {σ : Type} (M : Mover σ) (s : σ) (w0 : World) (hi0 : M.Inv s w0) (hk : M.kind = 5) (hl : M.lim s ≤ 3) :
    Calls Tryd.prog 62 #[.iface M.T M.mv, .pointer (some ⟨M.cb, 0, none⟩)] w0 fun e w' => e = .returned (.tuple #[]) ∧ M.Inv (M.run (overF 5) s) w' := by
  have HK := Lib.hid hk
  have hc := M.hkind s w0 hi0
  rw [hk] at hc
  clear hk
  have nn := M.nnum
  have mn := M.mnum
  have en := M.enum
  go_enter Tryd.func62, Tryd.ntmps62
  go_wp2_with fail
  go_still_tail 7, (by kernel_rfl)
  change wpList _ _ _ _ _ w0.drew
  go_wp2_with fail
  refine (M.cnum _ _ 1 (by omega) (by omega) (by omega) (M.hdrew _ _ hi0)).mono ?_
  rintro e w1 ⟨rfl, hi1⟩
  have hc1 := M.hkind _ w1 hi1
  rw [HK.out] at hc1
  go_wp2_with fail
  refine (tail_any M _ w1 hi1 (by rw [HK.out]; decide) (by rw [HK.out]; decide) (by simp only [M.lnum]; omega)).mono ?_
  rintro e w2 ⟨rfl, hi2⟩
  rw [HK.out] at hi2
  go_wp2_with fail
  go_end0
  exact ⟨rfl, hi2⟩

set_option maxRecDepth 100000 in
set_option maxHeartbeats 1000000 in
theorem over_6 {σ : Type} (M : Mover σ) (s : σ) (w0 : World) (hi0 : M.Inv s w0) (hk : M.kind = 6) (hl : M.lim s ≤ 3) :
    Calls Tryd.prog 62 #[.iface M.T M.mv, .pointer (some ⟨M.cb, 0, none⟩)] w0 fun e w' => e = .returned (.tuple #[]) ∧ M.Inv (M.run (overF 6) s) w' := by
  have HK := Lib.hid hk
  have hc := M.hkind s w0 hi0
  rw [hk] at hc
  clear hk
  have nn := M.nnum
  have mn := M.mnum
  have en := M.enum
  go_enter Tryd.func62, Tryd.ntmps62
  go_wp2_with fail
  go_still_tail 7, (by kernel_rfl)
  change wpList _ _ _ _ _ w0.drew
  go_wp2_with fail
  refine (M.cnum _ _ 1 (by omega) (by omega) (by omega) (M.hdrew _ _ hi0)).mono ?_
  rintro e w1 ⟨rfl, hi1⟩
  have hc1 := M.hkind _ w1 hi1
  rw [HK.out] at hc1
  go_wp2_with fail
  refine (tail_any M _ w1 hi1 (by rw [HK.out]; decide) (by rw [HK.out]; decide) (by simp only [M.lnum]; omega)).mono ?_
  rintro e w2 ⟨rfl, hi2⟩
  rw [HK.out] at hi2
  go_wp2_with fail
  go_end0
  exact ⟨rfl, hi2⟩

set_option maxRecDepth 100000 in
set_option maxHeartbeats 1000000 in
theorem over_7 {σ : Type} (M : Mover σ) (s : σ) (w0 : World) (hi0 : M.Inv s w0) (hk : M.kind = 7) (hl : M.lim s ≤ 3) :
    Calls Tryd.prog 62 #[.iface M.T M.mv, .pointer (some ⟨M.cb, 0, none⟩)] w0 fun e w' => e = .returned (.tuple #[]) ∧ M.Inv (M.run (overF 7) s) w' := by
  have HK := Lib.hid hk
  have hc := M.hkind s w0 hi0
  rw [hk] at hc
  clear hk
  have nn := M.nnum
  have mn := M.mnum
  have en := M.enum
  go_enter Tryd.func62, Tryd.ntmps62
  go_wp2_with fail
  go_still_tail 7, (by kernel_rfl)
  change wpList _ _ _ _ _ w0.drew
  go_wp2_with fail
  refine (M.cnum _ _ 1 (by omega) (by omega) (by omega) (M.hdrew _ _ hi0)).mono ?_
  rintro e w1 ⟨rfl, hi1⟩
  have hc1 := M.hkind _ w1 hi1
  rw [HK.out] at hc1
  go_wp2_with fail
  refine (tail_any M _ w1 hi1 (by rw [HK.out]; decide) (by rw [HK.out]; decide) (by simp only [M.lnum]; omega)).mono ?_
  rintro e w2 ⟨rfl, hi2⟩
  rw [HK.out] at hi2
  go_wp2_with fail
  go_end0
  exact ⟨rfl, hi2⟩

set_option maxRecDepth 100000 in
set_option maxHeartbeats 1000000 in
theorem over_8 {σ : Type} (M : Mover σ) (s : σ) (w0 : World) (hi0 : M.Inv s w0) (hk : M.kind = 8) (hl : M.lim s ≤ 3) :
    Calls Tryd.prog 62 #[.iface M.T M.mv, .pointer (some ⟨M.cb, 0, none⟩)] w0 fun e w' => e = .returned (.tuple #[]) ∧ M.Inv (M.run (overF 8) s) w' := by
  have HK := Lib.hid hk
  have hc := M.hkind s w0 hi0
  rw [hk] at hc
  clear hk
  have nn := M.nnum
  have mn := M.mnum
  have en := M.enum
  go_enter Tryd.func62, Tryd.ntmps62
  go_wp2_with fail
  go_still_tail 7, (by kernel_rfl)
  change wpList _ _ _ _ _ w0.drew
  go_wp2_with fail
  refine (M.cnum _ _ 1 (by omega) (by omega) (by omega) (M.hdrew _ _ hi0)).mono ?_
  rintro e w1 ⟨rfl, hi1⟩
  have hc1 := M.hkind _ w1 hi1
  rw [HK.out] at hc1
  go_wp2_with fail
  refine (tail_any M _ w1 hi1 (by rw [HK.out]; decide) (by rw [HK.out]; decide) (by simp only [M.lnum]; omega)).mono ?_
  rintro e w2 ⟨rfl, hi2⟩
  rw [HK.out] at hi2
  go_wp2_with fail
  go_end0
  exact ⟨rfl, hi2⟩

set_option maxRecDepth 100000 in
set_option maxHeartbeats 1000000 in
theorem over_9 {σ : Type} (M : Mover σ) (s : σ) (w0 : World) (hi0 : M.Inv s w0) (hk : M.kind = 9) (hl : M.lim s ≤ 3) :
    Calls Tryd.prog 62 #[.iface M.T M.mv, .pointer (some ⟨M.cb, 0, none⟩)] w0 fun e w' => e = .returned (.tuple #[]) ∧ M.Inv (M.run (overF 9) s) w' := by
  have HK := Lib.hid hk
  have hc := M.hkind s w0 hi0
  rw [hk] at hc
  clear hk
  have nn := M.nnum
  have mn := M.mnum
  have en := M.enum
  go_enter Tryd.func62, Tryd.ntmps62
  go_wp2_with fail
  go_still_tail 7, (by kernel_rfl)
  change wpList _ _ _ _ _ w0.drew
  go_wp2_with fail
  refine (M.cnum _ _ 1 (by omega) (by omega) (by omega) (M.hdrew _ _ hi0)).mono ?_
  rintro e w1 ⟨rfl, hi1⟩
  have hc1 := M.hkind _ w1 hi1
  rw [HK.out] at hc1
  go_wp2_with fail
  refine (tail_any M _ w1 hi1 (by rw [HK.out]; decide) (by rw [HK.out]; decide) (by simp only [M.lnum]; omega)).mono ?_
  rintro e w2 ⟨rfl, hi2⟩
  rw [HK.out] at hi2
  go_wp2_with fail
  go_end0
  exact ⟨rfl, hi2⟩

set_option maxRecDepth 100000 in
set_option maxHeartbeats 1000000 in
theorem over_10 {σ : Type} (M : Mover σ) (s : σ) (w0 : World) (hi0 : M.Inv s w0) (hk : M.kind = 10) (hl : M.lim s ≤ 3) :
    Calls Tryd.prog 62 #[.iface M.T M.mv, .pointer (some ⟨M.cb, 0, none⟩)] w0 fun e w' => e = .returned (.tuple #[]) ∧ M.Inv (M.run (overF 10) s) w' := by
  have HK := Lib.hid hk
  have hc := M.hkind s w0 hi0
  rw [hk] at hc
  clear hk
  have nn := M.nnum
  have mn := M.mnum
  have en := M.enum
  go_enter Tryd.func62, Tryd.ntmps62
  go_wp2_with fail
  go_still_tail 7, (by kernel_rfl)
  change wpList _ _ _ _ _ w0.drew
  go_wp2_with fail
  refine (M.cnum _ _ 1 (by omega) (by omega) (by omega) (M.hdrew _ _ hi0)).mono ?_
  rintro e w1 ⟨rfl, hi1⟩
  have hc1 := M.hkind _ w1 hi1
  rw [HK.out] at hc1
  go_wp2_with fail
  go_still_tail 7, (by kernel_rfl)
  change wpList _ _ _ _ _ w1.drew
  go_wp2_with fail
  refine (M.cnum _ _ 2 (by omega) (by omega) (by simp only [M.lnum]; omega) (M.hdrew _ _ hi1)).mono ?_
  rintro e w2 ⟨rfl, hi2⟩
  have hc2 := M.hkind _ w2 hi2
  rw [HK.out] at hc2
  go_wp2_with fail
  refine (tail_any M _ w2 hi2 (by rw [HK.out]; decide) (by rw [HK.out]; decide) (by simp only [M.lnum]; omega)).mono ?_
  rintro e w3 ⟨rfl, hi3⟩
  rw [HK.out] at hi3
  go_wp2_with fail
  go_end0
  exact ⟨rfl, hi3⟩

set_option maxRecDepth 100000 in
set_option maxHeartbeats 1000000 in
theorem over_11 {σ : Type} (M : Mover σ) (s : σ) (w0 : World) (hi0 : M.Inv s w0) (hk : M.kind = 11) (hl : M.lim s ≤ 3) :
    Calls Tryd.prog 62 #[.iface M.T M.mv, .pointer (some ⟨M.cb, 0, none⟩)] w0 fun e w' => e = .returned (.tuple #[]) ∧ M.Inv (M.run (overF 11) s) w' := by
  have HK := Lib.hid hk
  have hc := M.hkind s w0 hi0
  rw [hk] at hc
  clear hk
  have nn := M.nnum
  have mn := M.mnum
  have en := M.enum
  go_enter Tryd.func62, Tryd.ntmps62
  go_wp2_with fail
  go_still_tail 7, (by kernel_rfl)
  change wpList _ _ _ _ _ w0.drew
  go_wp2_with fail
  refine (M.cnum _ _ 1 (by omega) (by omega) (by omega) (M.hdrew _ _ hi0)).mono ?_
  rintro e w1 ⟨rfl, hi1⟩
  have hc1 := M.hkind _ w1 hi1
  rw [HK.out] at hc1
  go_wp2_with fail
  refine (tail_any M _ w1 hi1 (by rw [HK.out]; decide) (by rw [HK.out]; decide) (by simp only [M.lnum]; omega)).mono ?_
  rintro e w2 ⟨rfl, hi2⟩
  rw [HK.out] at hi2
  go_wp2_with fail
  go_end0
  exact ⟨rfl, hi2⟩

set_option maxRecDepth 100000 in
set_option maxHeartbeats 1000000 in
theorem over_12 {σ : Type} (M : Mover σ) (s : σ) (w0 : World) (hi0 : M.Inv s w0) (hk : M.kind = 12) (hl : M.lim s ≤ 3) :
    Calls Tryd.prog 62 #[.iface M.T M.mv, .pointer (some ⟨M.cb, 0, none⟩)] w0 fun e w' => e = .returned (.tuple #[]) ∧ M.Inv (M.run (overF 12) s) w' := by
  have HK := Lib.hid hk
  have hc := M.hkind s w0 hi0
  rw [hk] at hc
  clear hk
  have nn := M.nnum
  have mn := M.mnum
  have en := M.enum
  go_enter Tryd.func62, Tryd.ntmps62
  go_wp2_with fail
  go_still_tail 7, (by kernel_rfl)
  change wpList _ _ _ _ _ w0.drew
  go_wp2_with fail
  refine (M.cnum _ _ 1 (by omega) (by omega) (by omega) (M.hdrew _ _ hi0)).mono ?_
  rintro e w1 ⟨rfl, hi1⟩
  have hc1 := M.hkind _ w1 hi1
  rw [HK.out] at hc1
  go_wp2_with fail
  refine (tail_any M _ w1 hi1 (by rw [HK.out]; decide) (by rw [HK.out]; decide) (by simp only [M.lnum]; omega)).mono ?_
  rintro e w2 ⟨rfl, hi2⟩
  rw [HK.out] at hi2
  go_wp2_with fail
  go_end0
  exact ⟨rfl, hi2⟩

set_option maxRecDepth 100000 in
set_option maxHeartbeats 1000000 in
theorem over_13 {σ : Type} (M : Mover σ) (s : σ) (w0 : World) (hi0 : M.Inv s w0) (hk : M.kind = 13) (hl : M.lim s ≤ 3) :
    Calls Tryd.prog 62 #[.iface M.T M.mv, .pointer (some ⟨M.cb, 0, none⟩)] w0 fun e w' => e = .returned (.tuple #[]) ∧ M.Inv (M.run (overF 13) s) w' := by
  have HK := Lib.hid hk
  have hc := M.hkind s w0 hi0
  rw [hk] at hc
  clear hk
  have nn := M.nnum
  have mn := M.mnum
  have en := M.enum
  go_enter Tryd.func62, Tryd.ntmps62
  go_wp2_with fail
  go_still_tail 7, (by kernel_rfl)
  change wpList _ _ _ _ _ w0.drew
  go_wp2_with fail
  refine (M.cnum _ _ 1 (by omega) (by omega) (by omega) (M.hdrew _ _ hi0)).mono ?_
  rintro e w1 ⟨rfl, hi1⟩
  have hc1 := M.hkind _ w1 hi1
  rw [HK.out] at hc1
  go_wp2_with fail
  go_still_tail 7, (by kernel_rfl)
  change wpList _ _ _ _ _ w1.drew
  go_wp2_with fail
  refine (M.cnum _ _ 2 (by omega) (by omega) (by simp only [M.lnum]; omega) (M.hdrew _ _ hi1)).mono ?_
  rintro e w2 ⟨rfl, hi2⟩
  have hc2 := M.hkind _ w2 hi2
  rw [HK.out] at hc2
  go_wp2_with fail
  refine (tail_any M _ w2 hi2 (by rw [HK.out]; decide) (by rw [HK.out]; decide) (by simp only [M.lnum]; omega)).mono ?_
  rintro e w3 ⟨rfl, hi3⟩
  rw [HK.out] at hi3
  go_wp2_with fail
  go_end0
  exact ⟨rfl, hi3⟩

set_option maxRecDepth 100000 in
set_option maxHeartbeats 1000000 in
theorem over_14 {σ : Type} (M : Mover σ) (s : σ) (w0 : World) (hi0 : M.Inv s w0) (hk : M.kind = 14) (hl : M.lim s ≤ 3) :
    Calls Tryd.prog 62 #[.iface M.T M.mv, .pointer (some ⟨M.cb, 0, none⟩)] w0 fun e w' => e = .returned (.tuple #[]) ∧ M.Inv (M.run (overF 14) s) w' := by
  have HK := Lib.hid hk
  have hc := M.hkind s w0 hi0
  rw [hk] at hc
  clear hk
  have nn := M.nnum
  have mn := M.mnum
  have en := M.enum
  go_enter Tryd.func62, Tryd.ntmps62
  go_wp2_with fail
  go_still_tail 7, (by kernel_rfl)
  change wpList _ _ _ _ _ w0.drew
  go_wp2_with fail
  refine (M.cnum _ _ 1 (by omega) (by omega) (by omega) (M.hdrew _ _ hi0)).mono ?_
  rintro e w1 ⟨rfl, hi1⟩
  have hc1 := M.hkind _ w1 hi1
  rw [HK.out] at hc1
  go_wp2_with fail
  refine (tail_any M _ w1 hi1 (by rw [HK.out]; decide) (by rw [HK.out]; decide) (by simp only [M.lnum]; omega)).mono ?_
  rintro e w2 ⟨rfl, hi2⟩
  rw [HK.out] at hi2
  go_wp2_with fail
  go_end0
  exact ⟨rfl, hi2⟩

set_option maxRecDepth 100000 in
set_option maxHeartbeats 1000000 in
theorem over_15 {σ : Type} (M : Mover σ) (s : σ) (w0 : World) (hi0 : M.Inv s w0) (hk : M.kind = 15) (hl : M.lim s ≤ 3) :
    Calls Tryd.prog 62 #[.iface M.T M.mv, .pointer (some ⟨M.cb, 0, none⟩)] w0 fun e w' => e = .returned (.tuple #[]) ∧ M.Inv (M.run (overF 15) s) w' := by
  have HK := Lib.hid hk
  have hc := M.hkind s w0 hi0
  rw [hk] at hc
  clear hk
  have nn := M.nnum
  have mn := M.mnum
  have en := M.enum
  go_enter Tryd.func62, Tryd.ntmps62
  go_wp2_with fail
  go_still_tail 7, (by kernel_rfl)
  change wpList _ _ _ _ _ w0.drew
  go_wp2_with fail
  refine (M.cnum _ _ 1 (by omega) (by omega) (by omega) (M.hdrew _ _ hi0)).mono ?_
  rintro e w1 ⟨rfl, hi1⟩
  have hc1 := M.hkind _ w1 hi1
  rw [HK.out] at hc1
  go_wp2_with fail
  go_still_tail 7, (by kernel_rfl)
  change wpList _ _ _ _ _ w1.drew
  go_wp2_with fail
  refine (M.cnum _ _ 2 (by omega) (by omega) (by simp only [M.lnum]; omega) (M.hdrew _ _ hi1)).mono ?_
  rintro e w2 ⟨rfl, hi2⟩
  have hc2 := M.hkind _ w2 hi2
  rw [HK.out] at hc2
  go_wp2_with fail
  refine (tail_any M _ w2 hi2 (by rw [HK.out]; decide) (by rw [HK.out]; decide) (by simp only [M.lnum]; omega)).mono ?_
  rintro e w3 ⟨rfl, hi3⟩
  rw [HK.out] at hi3
  go_wp2_with fail
  go_end0
  exact ⟨rfl, hi3⟩

set_option maxRecDepth 100000 in
set_option maxHeartbeats 1000000 in
theorem over_16 {σ : Type} (M : Mover σ) (s : σ) (w0 : World) (hi0 : M.Inv s w0) (hk : M.kind = 16) (hl : M.lim s ≤ 3) :
    Calls Tryd.prog 62 #[.iface M.T M.mv, .pointer (some ⟨M.cb, 0, none⟩)] w0 fun e w' => e = .returned (.tuple #[]) ∧ M.Inv (M.run (overF 16) s) w' := by
  have HK := Lib.hid hk
  have hc := M.hkind s w0 hi0
  rw [hk] at hc
  clear hk
  have nn := M.nnum
  have mn := M.mnum
  have en := M.enum
  go_enter Tryd.func62, Tryd.ntmps62
  go_wp2_with fail
  go_still_tail 7, (by kernel_rfl)
  change wpList _ _ _ _ _ w0.drew
  go_wp2_with fail
  refine (M.cnum _ _ 1 (by omega) (by omega) (by omega) (M.hdrew _ _ hi0)).mono ?_
  rintro e w1 ⟨rfl, hi1⟩
  have hc1 := M.hkind _ w1 hi1
  rw [HK.out] at hc1
  go_wp2_with fail
  refine (tail_any M _ w1 hi1 (by rw [HK.out]; decide) (by rw [HK.out]; decide) (by simp only [M.lnum]; omega)).mono ?_
  rintro e w2 ⟨rfl, hi2⟩
  rw [HK.out] at hi2
  go_wp2_with fail
  go_end0
  exact ⟨rfl, hi2⟩

set_option maxRecDepth 100000 in
set_option maxHeartbeats 1000000 in
theorem over_17 {σ : Type} (M : Mover σ) (s : σ) (w0 : World) (hi0 : M.Inv s w0) (hk : M.kind = 17) (hl : M.lim s ≤ 3) :
    Calls Tryd.prog 62 #[.iface M.T M.mv, .pointer (some ⟨M.cb, 0, none⟩)] w0 fun e w' => e = .returned (.tuple #[]) ∧ M.Inv (M.run (overF 17) s) w' := by
  have HK := Lib.hid hk
  have hc := M.hkind s w0 hi0
  rw [hk] at hc
  clear hk
  have nn := M.nnum
  have mn := M.mnum
  have en := M.enum
  go_enter Tryd.func62, Tryd.ntmps62
  go_wp2_with fail
  refine (tail_any M _ w0 hi0 (by rw [HK.out]; decide) (by rw [HK.out]; decide) (by omega)).mono ?_
  rintro e w1 ⟨rfl, hi1⟩
  rw [HK.out] at hi1
  go_wp2_with fail
  (try simp only [Exit.inBlock, Exit.then]); refine bodyPost_ret (results_none rfl _ _ _) rfl ?_
  exact ⟨rfl, hi1⟩

set_option maxRecDepth 100000 in
set_option maxHeartbeats 1000000 in
theorem over_18 {σ : Type} (M : Mover σ) (s : σ) (w0 : World) (hi0 : M.Inv s w0) (hk : M.kind = 18) (hl : M.lim s ≤ 3) :
    Calls Tryd.prog 62 #[.iface M.T M.mv, .pointer (some ⟨M.cb, 0, none⟩)] w0 fun e w' => e = .returned (.tuple #[]) ∧ M.Inv (M.run (overF 18) s) w' := by
  have HK := Lib.hid hk
  have hc := M.hkind s w0 hi0
  rw [hk] at hc
  clear hk
  have nn := M.nnum
  have mn := M.mnum
  have en := M.enum
  go_enter Tryd.func62, Tryd.ntmps62
  go_wp2_with fail
  refine (tail_any M _ w0 hi0 (by rw [HK.out]; decide) (by rw [HK.out]; decide) (by omega)).mono ?_
  rintro e w1 ⟨rfl, hi1⟩
  rw [HK.out] at hi1
  go_wp2_with fail
  (try simp only [Exit.inBlock, Exit.then]); refine bodyPost_ret (results_none rfl _ _ _) rfl ?_
  exact ⟨rfl, hi1⟩

set_option maxRecDepth 100000 in
set_option maxHeartbeats 1000000 in
theorem over_19 {σ : Type} (M : Mover σ) (s : σ) (w0 : World) (hi0 : M.Inv s w0) (hk : M.kind = 19) (hl : M.lim s ≤ 3) :
    Calls Tryd.prog 62 #[.iface M.T M.mv, .pointer (some ⟨M.cb, 0, none⟩)] w0 fun e w' => e = .returned (.tuple #[]) ∧ M.Inv (M.run (overF 19) s) w' := by
  have HK := Lib.hid hk
  have hc := M.hkind s w0 hi0
  rw [hk] at hc
  clear hk
  have nn := M.nnum
  have mn := M.mnum
  have en := M.enum
  go_enter Tryd.func62, Tryd.ntmps62
  go_wp2_with fail
  go_still_tail 7, (by kernel_rfl)
  change wpList _ _ _ _ _ w0.drew
  go_wp2_with fail
  refine (M.cnum _ _ 1 (by omega) (by omega) (by omega) (M.hdrew _ _ hi0)).mono ?_
  rintro e w1 ⟨rfl, hi1⟩
  have hc1 := M.hkind _ w1 hi1
  rw [HK.out] at hc1
  go_wp2_with fail
  refine (tail_any M _ w1 hi1 (by rw [HK.out]; decide) (by rw [HK.out]; decide) (by simp only [M.lnum]; omega)).mono ?_
  rintro e w2 ⟨rfl, hi2⟩
  rw [HK.out] at hi2
  go_wp2_with fail
  go_end0
  exact ⟨rfl, hi2⟩

set_option maxRecDepth 100000 in
set_option maxHeartbeats 1000000 in
theorem over_20 {σ : Type} (M : Mover σ) (s : σ) (w0 : World) (hi0 : M.Inv s w0) (hk : M.kind = 20) (hl : M.lim s ≤ 3) :
    Calls Tryd.prog 62 #[.iface M.T M.mv, .pointer (some ⟨M.cb, 0, none⟩)] w0 fun e w' => e = .returned (.tuple #[]) ∧ M.Inv (M.run (overF 20) s) w' := by
  have HK := Lib.hid hk
  have hc := M.hkind s w0 hi0
  rw [hk] at hc
  clear hk
  have nn := M.nnum
  have mn := M.mnum
  have en := M.enum
  go_enter Tryd.func62, Tryd.ntmps62
  go_wp2_with fail
  go_still_tail 7, (by kernel_rfl)
  change wpList _ _ _ _ _ w0.drew
  go_wp2_with fail
  refine (M.cnum _ _ 1 (by omega) (by omega) (by omega) (M.hdrew _ _ hi0)).mono ?_
  rintro e w1 ⟨rfl, hi1⟩
  have hc1 := M.hkind _ w1 hi1
  rw [HK.out] at hc1
  go_wp2_with fail
  refine (tail_any M _ w1 hi1 (by rw [HK.out]; decide) (by rw [HK.out]; decide) (by simp only [M.lnum]; omega)).mono ?_
  rintro e w2 ⟨rfl, hi2⟩
  rw [HK.out] at hi2
  go_wp2_with fail
  go_end0
  exact ⟨rfl, hi2⟩

set_option maxRecDepth 100000 in
set_option maxHeartbeats 1000000 in
theorem over_21 {σ : Type} (M : Mover σ) (s : σ) (w0 : World) (hi0 : M.Inv s w0) (hk : M.kind = 21) (hl : M.lim s ≤ 3) :
    Calls Tryd.prog 62 #[.iface M.T M.mv, .pointer (some ⟨M.cb, 0, none⟩)] w0 fun e w' => e = .returned (.tuple #[]) ∧ M.Inv (M.run (overF 21) s) w' := by
  have HK := Lib.hid hk
  have hc := M.hkind s w0 hi0
  rw [hk] at hc
  clear hk
  have nn := M.nnum
  have mn := M.mnum
  have en := M.enum
  go_enter Tryd.func62, Tryd.ntmps62
  go_wp2_with fail
  go_still_tail 7, (by kernel_rfl)
  change wpList _ _ _ _ _ w0.drew
  go_wp2_with fail
  refine (M.cnum _ _ 1 (by omega) (by omega) (by omega) (M.hdrew _ _ hi0)).mono ?_
  rintro e w1 ⟨rfl, hi1⟩
  have hc1 := M.hkind _ w1 hi1
  rw [HK.out] at hc1
  go_wp2_with fail
  refine (tail_any M _ w1 hi1 (by rw [HK.out]; decide) (by rw [HK.out]; decide) (by simp only [M.lnum]; omega)).mono ?_
  rintro e w2 ⟨rfl, hi2⟩
  rw [HK.out] at hi2
  go_wp2_with fail
  go_end0
  exact ⟨rfl, hi2⟩

/-- order.over: all that the kind has is gone over, in order. -/
theorem over_any {σ : Type} (M : Mover σ) (s : σ) (w0 : World) (hi0 : M.Inv s w0) (h1 : 1 ≤ M.kind) (h2 : M.kind ≤ 21) (hl : M.lim s ≤ 3) :
    Calls Tryd.prog 62 #[.iface M.T M.mv, .pointer (some ⟨M.cb, 0, none⟩)] w0 fun e w' => e = .returned (.tuple #[]) ∧ M.Inv (M.run (overF M.kind) s) w' := by
  have h : M.kind = 1 ∨ M.kind = 2 ∨ M.kind = 3 ∨ M.kind = 4 ∨ M.kind = 5 ∨ M.kind = 6 ∨ M.kind = 7 ∨ M.kind = 8 ∨ M.kind = 9 ∨ M.kind = 10 ∨ M.kind = 11 ∨ M.kind = 12 ∨ M.kind = 13 ∨ M.kind = 14 ∨ M.kind = 15 ∨ M.kind = 16 ∨ M.kind = 17 ∨ M.kind = 18 ∨ M.kind = 19 ∨ M.kind = 20 ∨ M.kind = 21 := by omega
  rcases h with h | h | h | h | h | h | h | h | h | h | h | h | h | h | h | h | h | h | h | h | h
  · rw [h]; exact over_1 M s w0 hi0 h hl
  · rw [h]; exact over_2 M s w0 hi0 h hl
  · rw [h]; exact over_3 M s w0 hi0 h hl
  · rw [h]; exact over_4 M s w0 hi0 h hl
  · rw [h]; exact over_5 M s w0 hi0 h hl
  · rw [h]; exact over_6 M s w0 hi0 h hl
  · rw [h]; exact over_7 M s w0 hi0 h hl
  · rw [h]; exact over_8 M s w0 hi0 h hl
  · rw [h]; exact over_9 M s w0 hi0 h hl
  · rw [h]; exact over_10 M s w0 hi0 h hl
  · rw [h]; exact over_11 M s w0 hi0 h hl
  · rw [h]; exact over_12 M s w0 hi0 h hl
  · rw [h]; exact over_13 M s w0 hi0 h hl
  · rw [h]; exact over_14 M s w0 hi0 h hl
  · rw [h]; exact over_15 M s w0 hi0 h hl
  · rw [h]; exact over_16 M s w0 hi0 h hl
  · rw [h]; exact over_17 M s w0 hi0 h hl
  · rw [h]; exact over_18 M s w0 hi0 h hl
  · rw [h]; exact over_19 M s w0 hi0 h hl
  · rw [h]; exact over_20 M s w0 hi0 h hl
  · rw [h]; exact over_21 M s w0 hi0 h hl

end Go.Proofs.YtnlhmlgoipnekaaDoor
