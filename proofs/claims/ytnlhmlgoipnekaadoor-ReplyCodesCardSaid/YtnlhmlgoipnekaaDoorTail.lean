/- order.tail and order.over, once, over any mover. -/
import Derived.Test.YtnlhmlgoipnekaaDoorProg
import Derived.Test.YtnlhmlgoipnekaaDoorMem
import Derived.WalkSpells
import Derived.WalkLawsBesides
import Derived.Handy
import Derived.Deep.RegionWith
import Derived.StillTailTactics
namespace Go.Proofs.YtnlhmlgoipnekaaDoor
open Go.RowKit

structure Mover (σ : Type) where
  T : TypeId
  mv : Value
  cb : Nat
  kind : Int
  fnum : FuncId
  fvec : FuncId
  fflag : FuncId
  Inv : σ → World → Prop
  num : Nat → σ → σ
  vec : σ → σ
  flag : σ → σ
  nnum : ∀ w : World, (nilAhead 358 T mv "quitrent/order.num").run Tryd.prog w = .ok (some false) w
  nvec : ∀ w : World, (nilAhead 358 T mv "quitrent/order.vec").run Tryd.prog w = .ok (some false) w
  nflag : ∀ w : World, (nilAhead 358 T mv "quitrent/order.flag").run Tryd.prog w = .ok (some false) w
  mnum : ∀ w : World, (Go.method 358 T mv "quitrent/order.num").run Tryd.prog w = .ok (fnum, mv) w
  mvec : ∀ w : World, (Go.method 358 T mv "quitrent/order.vec").run Tryd.prog w = .ok (fvec, mv) w
  mflag : ∀ w : World, (Go.method 358 T mv "quitrent/order.flag").run Tryd.prog w = .ok (fflag, mv) w
  enum : ∀ args (w : World), (callFunc fnum args).run Tryd.prog w = .ok (.enter fnum args) w
  evec : ∀ args (w : World), (callFunc fvec args).run Tryd.prog w = .ok (.enter fvec args) w
  eflag : ∀ args (w : World), (callFunc fflag args).run Tryd.prog w = .ok (.enter fflag args) w
  hkind : ∀ s w, Inv s w → w.cell? ⟨cb, 0, none⟩ = some (.int .i64 kind)
  hdrew : ∀ s w, Inv s w → Inv s w.drew
  lim : σ → Nat
  lnum : ∀ o s, lim (num o s) = lim s + 1
  lvec : ∀ s, lim (vec s) = lim s + 1
  lflag : ∀ s, lim (flag s) = lim s + 1
  cnum : ∀ s w o, 1 ≤ o → o ≤ 9 → lim s < 20 → Inv s w → Calls Tryd.prog fnum #[mv, .pointer (some ⟨cb, o, none⟩)] w fun e w' => e = .returned (.tuple #[]) ∧ Inv (num o s) w'
  cvec : ∀ s w, lim s < 20 → Inv s w → Calls Tryd.prog fvec #[mv, .pointer (some ⟨cb, 10, none⟩)] w fun e w' => e = .returned (.tuple #[]) ∧ Inv (vec s) w'
  cflag : ∀ s w, lim s < 20 → Inv s w → Calls Tryd.prog fflag #[mv, .pointer (some ⟨cb, 14, none⟩)] w fun e w' => e = .returned (.tuple #[]) ∧ Inv (flag s) w'

set_option maxRecDepth 100000 in
set_option maxHeartbeats 1000000 in
theorem tail_8 {σ : Type} (M : Mover σ) (s : σ) (w0 : World) (hi0 : M.Inv s w0) (hk : M.kind = 8) (hl : M.lim s ≤ 5) :
    Calls Tryd.prog 100 #[.iface M.T M.mv, .pointer (some ⟨M.cb, 0, none⟩)] w0 fun e w' => e = .returned (.tuple #[]) ∧ M.Inv (M.vec (M.num 5 (M.num 4 (M.num 3 s)))) w' := by
  have hc := M.hkind s w0 hi0
  rw [hk] at hc
  clear hk
  have nn := M.nnum
  have mn := M.mnum
  have en := M.enum
  have nv := M.nvec
  have mv := M.mvec
  have ev := M.evec
  have nf := M.nflag
  have mf := M.mflag
  have ef := M.eflag
  go_enter Tryd.func100, Tryd.ntmps100
  go_wp2_with fail
  go_still_tail 8, (by kernel_rfl)
  change wpList _ _ _ _ _ w0.drew
  go_wp2_with fail
  refine (M.cnum _ _ 3 (by omega) (by omega) (by omega) (M.hdrew _ _ hi0)).mono ?_
  rintro e w1 ⟨rfl, hi1⟩
  go_wp2_with fail
  go_still_tail 8, (by kernel_rfl)
  change wpList _ _ _ _ _ w1.drew
  go_wp2_with fail
  refine (M.cnum _ _ 4 (by omega) (by omega) (by simp only [M.lnum]; omega) (M.hdrew _ _ hi1)).mono ?_
  rintro e w2 ⟨rfl, hi2⟩
  go_wp2_with fail
  go_still_tail 8, (by kernel_rfl)
  change wpList _ _ _ _ _ w2.drew
  go_wp2_with fail
  refine (M.cnum _ _ 5 (by omega) (by omega) (by simp only [M.lnum]; omega) (M.hdrew _ _ hi2)).mono ?_
  rintro e w3 ⟨rfl, hi3⟩
  go_wp2_with fail
  go_still_tail 7, (by kernel_rfl)
  change wpList _ _ _ _ _ w3.drew
  go_wp2_with fail
  refine (M.cvec _ _ (by simp only [M.lnum]; omega) (M.hdrew _ _ hi3)).mono ?_
  rintro e w4 ⟨rfl, hi4⟩
  go_wp2_with fail
  go_end0
  exact ⟨rfl, hi4⟩

set_option maxRecDepth 100000 in
set_option maxHeartbeats 1000000 in
theorem tail_9 {σ : Type} (M : Mover σ) (s : σ) (w0 : World) (hi0 : M.Inv s w0) (hk : M.kind = 9) (hl : M.lim s ≤ 5) :
    Calls Tryd.prog 100 #[.iface M.T M.mv, .pointer (some ⟨M.cb, 0, none⟩)] w0 fun e w' => e = .returned (.tuple #[]) ∧ M.Inv (M.vec (M.num 5 (M.num 4 (M.num 3 s)))) w' := by
  have hc := M.hkind s w0 hi0
  rw [hk] at hc
  clear hk
  have nn := M.nnum
  have mn := M.mnum
  have en := M.enum
  have nv := M.nvec
  have mv := M.mvec
  have ev := M.evec
  have nf := M.nflag
  have mf := M.mflag
  have ef := M.eflag
  go_enter Tryd.func100, Tryd.ntmps100
  go_wp2_with fail
  go_still_tail 8, (by kernel_rfl)
  change wpList _ _ _ _ _ w0.drew
  go_wp2_with fail
  refine (M.cnum _ _ 3 (by omega) (by omega) (by omega) (M.hdrew _ _ hi0)).mono ?_
  rintro e w1 ⟨rfl, hi1⟩
  go_wp2_with fail
  go_still_tail 8, (by kernel_rfl)
  change wpList _ _ _ _ _ w1.drew
  go_wp2_with fail
  refine (M.cnum _ _ 4 (by omega) (by omega) (by simp only [M.lnum]; omega) (M.hdrew _ _ hi1)).mono ?_
  rintro e w2 ⟨rfl, hi2⟩
  go_wp2_with fail
  go_still_tail 8, (by kernel_rfl)
  change wpList _ _ _ _ _ w2.drew
  go_wp2_with fail
  refine (M.cnum _ _ 5 (by omega) (by omega) (by simp only [M.lnum]; omega) (M.hdrew _ _ hi2)).mono ?_
  rintro e w3 ⟨rfl, hi3⟩
  go_wp2_with fail
  go_still_tail 7, (by kernel_rfl)
  change wpList _ _ _ _ _ w3.drew
  go_wp2_with fail
  refine (M.cvec _ _ (by simp only [M.lnum]; omega) (M.hdrew _ _ hi3)).mono ?_
  rintro e w4 ⟨rfl, hi4⟩
  go_wp2_with fail
  go_end0
  exact ⟨rfl, hi4⟩

set_option maxRecDepth 100000 in
set_option maxHeartbeats 1000000 in
theorem tail_10 {σ : Type} (M : Mover σ) (s : σ) (w0 : World) (hi0 : M.Inv s w0) (hk : M.kind = 10) (hl : M.lim s ≤ 5) :
    Calls Tryd.prog 100 #[.iface M.T M.mv, .pointer (some ⟨M.cb, 0, none⟩)] w0 fun e w' => e = .returned (.tuple #[]) ∧ M.Inv (M.vec (M.num 5 (M.num 4 (M.num 3 s)))) w' := by
  have hc := M.hkind s w0 hi0
  rw [hk] at hc
  clear hk
  have nn := M.nnum
  have mn := M.mnum
  have en := M.enum
  have nv := M.nvec
  have mv := M.mvec
  have ev := M.evec
  have nf := M.nflag
  have mf := M.mflag
  have ef := M.eflag
  go_enter Tryd.func100, Tryd.ntmps100
  go_wp2_with fail
  go_still_tail 8, (by kernel_rfl)
  change wpList _ _ _ _ _ w0.drew
  go_wp2_with fail
  refine (M.cnum _ _ 3 (by omega) (by omega) (by omega) (M.hdrew _ _ hi0)).mono ?_
  rintro e w1 ⟨rfl, hi1⟩
  go_wp2_with fail
  go_still_tail 8, (by kernel_rfl)
  change wpList _ _ _ _ _ w1.drew
  go_wp2_with fail
  refine (M.cnum _ _ 4 (by omega) (by omega) (by simp only [M.lnum]; omega) (M.hdrew _ _ hi1)).mono ?_
  rintro e w2 ⟨rfl, hi2⟩
  go_wp2_with fail
  go_still_tail 8, (by kernel_rfl)
  change wpList _ _ _ _ _ w2.drew
  go_wp2_with fail
  refine (M.cnum _ _ 5 (by omega) (by omega) (by simp only [M.lnum]; omega) (M.hdrew _ _ hi2)).mono ?_
  rintro e w3 ⟨rfl, hi3⟩
  go_wp2_with fail
  go_still_tail 7, (by kernel_rfl)
  change wpList _ _ _ _ _ w3.drew
  go_wp2_with fail
  refine (M.cvec _ _ (by simp only [M.lnum]; omega) (M.hdrew _ _ hi3)).mono ?_
  rintro e w4 ⟨rfl, hi4⟩
  go_wp2_with fail
  go_end0
  exact ⟨rfl, hi4⟩

set_option maxRecDepth 100000 in
set_option maxHeartbeats 1000000 in
theorem tail_3 {σ : Type} (M : Mover σ) (s : σ) (w0 : World) (hi0 : M.Inv s w0) (hk : M.kind = 3) (hl : M.lim s ≤ 5) :
    Calls Tryd.prog 100 #[.iface M.T M.mv, .pointer (some ⟨M.cb, 0, none⟩)] w0 fun e w' => e = .returned (.tuple #[]) ∧ M.Inv (M.vec (M.num 3 s)) w' := by
  have hc := M.hkind s w0 hi0
  rw [hk] at hc
  clear hk
  have nn := M.nnum
  have mn := M.mnum
  have en := M.enum
  have nv := M.nvec
  have mv := M.mvec
  have ev := M.evec
  have nf := M.nflag
  have mf := M.mflag
  have ef := M.eflag
  go_enter Tryd.func100, Tryd.ntmps100
  go_wp2_with fail
  go_still_tail 8, (by kernel_rfl)
  change wpList _ _ _ _ _ w0.drew
  go_wp2_with fail
  refine (M.cnum _ _ 3 (by omega) (by omega) (by omega) (M.hdrew _ _ hi0)).mono ?_
  rintro e w1 ⟨rfl, hi1⟩
  go_wp2_with fail
  go_still_tail 7, (by kernel_rfl)
  change wpList _ _ _ _ _ w1.drew
  go_wp2_with fail
  refine (M.cvec _ _ (by simp only [M.lnum]; omega) (M.hdrew _ _ hi1)).mono ?_
  rintro e w2 ⟨rfl, hi2⟩
  go_wp2_with fail
  go_end0
  exact ⟨rfl, hi2⟩

set_option maxRecDepth 100000 in
set_option maxHeartbeats 1000000 in
theorem tail_19 {σ : Type} (M : Mover σ) (s : σ) (w0 : World) (hi0 : M.Inv s w0) (hk : M.kind = 19) (hl : M.lim s ≤ 5) :
    Calls Tryd.prog 100 #[.iface M.T M.mv, .pointer (some ⟨M.cb, 0, none⟩)] w0 fun e w' => e = .returned (.tuple #[]) ∧ M.Inv (M.num 5 (M.num 4 (M.num 3 s))) w' := by
  have hc := M.hkind s w0 hi0
  rw [hk] at hc
  clear hk
  have nn := M.nnum
  have mn := M.mnum
  have en := M.enum
  have nv := M.nvec
  have mv := M.mvec
  have ev := M.evec
  have nf := M.nflag
  have mf := M.mflag
  have ef := M.eflag
  go_enter Tryd.func100, Tryd.ntmps100
  go_wp2_with fail
  go_still_tail 8, (by kernel_rfl)
  change wpList _ _ _ _ _ w0.drew
  go_wp2_with fail
  refine (M.cnum _ _ 3 (by omega) (by omega) (by omega) (M.hdrew _ _ hi0)).mono ?_
  rintro e w1 ⟨rfl, hi1⟩
  go_wp2_with fail
  go_still_tail 8, (by kernel_rfl)
  change wpList _ _ _ _ _ w1.drew
  go_wp2_with fail
  refine (M.cnum _ _ 4 (by omega) (by omega) (by simp only [M.lnum]; omega) (M.hdrew _ _ hi1)).mono ?_
  rintro e w2 ⟨rfl, hi2⟩
  go_wp2_with fail
  go_still_tail 8, (by kernel_rfl)
  change wpList _ _ _ _ _ w2.drew
  go_wp2_with fail
  refine (M.cnum _ _ 5 (by omega) (by omega) (by simp only [M.lnum]; omega) (M.hdrew _ _ hi2)).mono ?_
  rintro e w3 ⟨rfl, hi3⟩
  go_wp2_with fail
  go_end0
  exact ⟨rfl, hi3⟩

set_option maxRecDepth 100000 in
set_option maxHeartbeats 1000000 in
theorem tail_13 {σ : Type} (M : Mover σ) (s : σ) (w0 : World) (hi0 : M.Inv s w0) (hk : M.kind = 13) (hl : M.lim s ≤ 5) :
    Calls Tryd.prog 100 #[.iface M.T M.mv, .pointer (some ⟨M.cb, 0, none⟩)] w0 fun e w' => e = .returned (.tuple #[]) ∧ M.Inv (M.flag (M.num 7 (M.num 6 (M.num 5 (M.num 4 (M.num 3 s)))))) w' := by
  have hc := M.hkind s w0 hi0
  rw [hk] at hc
  clear hk
  have nn := M.nnum
  have mn := M.mnum
  have en := M.enum
  have nv := M.nvec
  have mv := M.mvec
  have ev := M.evec
  have nf := M.nflag
  have mf := M.mflag
  have ef := M.eflag
  go_enter Tryd.func100, Tryd.ntmps100
  go_wp2_with fail
  go_still_tail 8, (by kernel_rfl)
  change wpList _ _ _ _ _ w0.drew
  go_wp2_with fail
  refine (M.cnum _ _ 3 (by omega) (by omega) (by omega) (M.hdrew _ _ hi0)).mono ?_
  rintro e w1 ⟨rfl, hi1⟩
  go_wp2_with fail
  go_still_tail 8, (by kernel_rfl)
  change wpList _ _ _ _ _ w1.drew
  go_wp2_with fail
  refine (M.cnum _ _ 4 (by omega) (by omega) (by simp only [M.lnum]; omega) (M.hdrew _ _ hi1)).mono ?_
  rintro e w2 ⟨rfl, hi2⟩
  go_wp2_with fail
  go_still_tail 8, (by kernel_rfl)
  change wpList _ _ _ _ _ w2.drew
  go_wp2_with fail
  refine (M.cnum _ _ 5 (by omega) (by omega) (by simp only [M.lnum]; omega) (M.hdrew _ _ hi2)).mono ?_
  rintro e w3 ⟨rfl, hi3⟩
  go_wp2_with fail
  go_still_tail 7, (by kernel_rfl)
  change wpList _ _ _ _ _ w3.drew
  go_wp2_with fail
  refine (M.cnum _ _ 6 (by omega) (by omega) (by simp only [M.lnum]; omega) (M.hdrew _ _ hi3)).mono ?_
  rintro e w4 ⟨rfl, hi4⟩
  go_wp2_with fail
  go_still_tail 7, (by kernel_rfl)
  change wpList _ _ _ _ _ w4.drew
  go_wp2_with fail
  refine (M.cnum _ _ 7 (by omega) (by omega) (by simp only [M.lnum]; omega) (M.hdrew _ _ hi4)).mono ?_
  rintro e w5 ⟨rfl, hi5⟩
  go_wp2_with fail
  go_still_tail 7, (by kernel_rfl)
  change wpList _ _ _ _ _ w5.drew
  go_wp2_with fail
  refine (M.cflag _ _ (by simp only [M.lnum]; omega) (M.hdrew _ _ hi5)).mono ?_
  rintro e w6 ⟨rfl, hi6⟩
  go_wp2_with fail
  go_end0
  exact ⟨rfl, hi6⟩

set_option maxRecDepth 100000 in
set_option maxHeartbeats 1000000 in
theorem tail_15 {σ : Type} (M : Mover σ) (s : σ) (w0 : World) (hi0 : M.Inv s w0) (hk : M.kind = 15) (hl : M.lim s ≤ 5) :
    Calls Tryd.prog 100 #[.iface M.T M.mv, .pointer (some ⟨M.cb, 0, none⟩)] w0 fun e w' => e = .returned (.tuple #[]) ∧ M.Inv (M.flag (M.vec (M.num 9 (M.num 8 (M.num 7 (M.num 6 (M.num 4 (M.num 3 s)))))))) w' := by
  have hc := M.hkind s w0 hi0
  rw [hk] at hc
  clear hk
  have nn := M.nnum
  have mn := M.mnum
  have en := M.enum
  have nv := M.nvec
  have mv := M.mvec
  have ev := M.evec
  have nf := M.nflag
  have mf := M.mflag
  have ef := M.eflag
  go_enter Tryd.func100, Tryd.ntmps100
  go_wp2_with fail
  go_still_tail 8, (by kernel_rfl)
  change wpList _ _ _ _ _ w0.drew
  go_wp2_with fail
  refine (M.cnum _ _ 3 (by omega) (by omega) (by omega) (M.hdrew _ _ hi0)).mono ?_
  rintro e w1 ⟨rfl, hi1⟩
  go_wp2_with fail
  go_still_tail 8, (by kernel_rfl)
  change wpList _ _ _ _ _ w1.drew
  go_wp2_with fail
  refine (M.cnum _ _ 4 (by omega) (by omega) (by simp only [M.lnum]; omega) (M.hdrew _ _ hi1)).mono ?_
  rintro e w2 ⟨rfl, hi2⟩
  go_wp2_with fail
  go_still_tail 7, (by kernel_rfl)
  change wpList _ _ _ _ _ w2.drew
  go_wp2_with fail
  refine (M.cnum _ _ 6 (by omega) (by omega) (by simp only [M.lnum]; omega) (M.hdrew _ _ hi2)).mono ?_
  rintro e w3 ⟨rfl, hi3⟩
  go_wp2_with fail
  go_still_tail 7, (by kernel_rfl)
  change wpList _ _ _ _ _ w3.drew
  go_wp2_with fail
  refine (M.cnum _ _ 7 (by omega) (by omega) (by simp only [M.lnum]; omega) (M.hdrew _ _ hi3)).mono ?_
  rintro e w4 ⟨rfl, hi4⟩
  go_wp2_with fail
  go_still_tail 7, (by kernel_rfl)
  change wpList _ _ _ _ _ w4.drew
  go_wp2_with fail
  refine (M.cnum _ _ 8 (by omega) (by omega) (by simp only [M.lnum]; omega) (M.hdrew _ _ hi4)).mono ?_
  rintro e w5 ⟨rfl, hi5⟩
  go_wp2_with fail
  go_still_tail 7, (by kernel_rfl)
  change wpList _ _ _ _ _ w5.drew
  go_wp2_with fail
  refine (M.cnum _ _ 9 (by omega) (by omega) (by simp only [M.lnum]; omega) (M.hdrew _ _ hi5)).mono ?_
  rintro e w6 ⟨rfl, hi6⟩
  go_wp2_with fail
  go_still_tail 7, (by kernel_rfl)
  change wpList _ _ _ _ _ w6.drew
  go_wp2_with fail
  refine (M.cvec _ _ (by simp only [M.lnum]; omega) (M.hdrew _ _ hi6)).mono ?_
  rintro e w7 ⟨rfl, hi7⟩
  go_wp2_with fail
  go_still_tail 7, (by kernel_rfl)
  change wpList _ _ _ _ _ w7.drew
  go_wp2_with fail
  refine (M.cflag _ _ (by simp only [M.lnum, M.lvec]; omega) (M.hdrew _ _ hi7)).mono ?_
  rintro e w8 ⟨rfl, hi8⟩
  go_wp2_with fail
  go_end0
  exact ⟨rfl, hi8⟩

set_option maxRecDepth 100000 in
set_option maxHeartbeats 1000000 in
theorem tail_11 {σ : Type} (M : Mover σ) (s : σ) (w0 : World) (hi0 : M.Inv s w0) (hk : M.kind = 11) (hl : M.lim s ≤ 5) :
    Calls Tryd.prog 100 #[.iface M.T M.mv, .pointer (some ⟨M.cb, 0, none⟩)] w0 fun e w' => e = .returned (.tuple #[]) ∧ M.Inv (M.num 6 s) w' := by
  have hc := M.hkind s w0 hi0
  rw [hk] at hc
  clear hk
  have nn := M.nnum
  have mn := M.mnum
  have en := M.enum
  have nv := M.nvec
  have mv := M.mvec
  have ev := M.evec
  have nf := M.nflag
  have mf := M.mflag
  have ef := M.eflag
  go_enter Tryd.func100, Tryd.ntmps100
  go_wp2_with fail
  go_still_tail 7, (by kernel_rfl)
  change wpList _ _ _ _ _ w0.drew
  go_wp2_with fail
  refine (M.cnum _ _ 6 (by omega) (by omega) (by omega) (M.hdrew _ _ hi0)).mono ?_
  rintro e w1 ⟨rfl, hi1⟩
  go_wp2_with fail
  go_end0
  exact ⟨rfl, hi1⟩

set_option maxRecDepth 100000 in
set_option maxHeartbeats 1000000 in
theorem tail_12 {σ : Type} (M : Mover σ) (s : σ) (w0 : World) (hi0 : M.Inv s w0) (hk : M.kind = 12) (hl : M.lim s ≤ 5) :
    Calls Tryd.prog 100 #[.iface M.T M.mv, .pointer (some ⟨M.cb, 0, none⟩)] w0 fun e w' => e = .returned (.tuple #[]) ∧ M.Inv (M.num 6 s) w' := by
  have hc := M.hkind s w0 hi0
  rw [hk] at hc
  clear hk
  have nn := M.nnum
  have mn := M.mnum
  have en := M.enum
  have nv := M.nvec
  have mv := M.mvec
  have ev := M.evec
  have nf := M.nflag
  have mf := M.mflag
  have ef := M.eflag
  go_enter Tryd.func100, Tryd.ntmps100
  go_wp2_with fail
  go_still_tail 7, (by kernel_rfl)
  change wpList _ _ _ _ _ w0.drew
  go_wp2_with fail
  refine (M.cnum _ _ 6 (by omega) (by omega) (by omega) (M.hdrew _ _ hi0)).mono ?_
  rintro e w1 ⟨rfl, hi1⟩
  go_wp2_with fail
  go_end0
  exact ⟨rfl, hi1⟩

set_option maxRecDepth 100000 in
set_option maxHeartbeats 1000000 in
theorem tail_18 {σ : Type} (M : Mover σ) (s : σ) (w0 : World) (hi0 : M.Inv s w0) (hk : M.kind = 18) (hl : M.lim s ≤ 5) :
    Calls Tryd.prog 100 #[.iface M.T M.mv, .pointer (some ⟨M.cb, 0, none⟩)] w0 fun e w' => e = .returned (.tuple #[]) ∧ M.Inv (M.num 6 s) w' := by
  have hc := M.hkind s w0 hi0
  rw [hk] at hc
  clear hk
  have nn := M.nnum
  have mn := M.mnum
  have en := M.enum
  have nv := M.nvec
  have mv := M.mvec
  have ev := M.evec
  have nf := M.nflag
  have mf := M.mflag
  have ef := M.eflag
  go_enter Tryd.func100, Tryd.ntmps100
  go_wp2_with fail
  go_still_tail 7, (by kernel_rfl)
  change wpList _ _ _ _ _ w0.drew
  go_wp2_with fail
  refine (M.cnum _ _ 6 (by omega) (by omega) (by omega) (M.hdrew _ _ hi0)).mono ?_
  rintro e w1 ⟨rfl, hi1⟩
  go_wp2_with fail
  go_end0
  exact ⟨rfl, hi1⟩

set_option maxRecDepth 100000 in
set_option maxHeartbeats 1000000 in
theorem tail_1 {σ : Type} (M : Mover σ) (s : σ) (w0 : World) (hi0 : M.Inv s w0) (hk : M.kind = 1) (hl : M.lim s ≤ 5) :
    Calls Tryd.prog 100 #[.iface M.T M.mv, .pointer (some ⟨M.cb, 0, none⟩)] w0 fun e w' => e = .returned (.tuple #[]) ∧ M.Inv s w' := by
  have hc := M.hkind s w0 hi0
  rw [hk] at hc
  clear hk
  have nn := M.nnum
  have mn := M.mnum
  have en := M.enum
  have nv := M.nvec
  have mv := M.mvec
  have ev := M.evec
  have nf := M.nflag
  have mf := M.mflag
  have ef := M.eflag
  go_enter Tryd.func100, Tryd.ntmps100
  go_wp2_with fail
  go_end0
  exact ⟨rfl, hi0⟩

set_option maxRecDepth 100000 in
set_option maxHeartbeats 1000000 in
theorem tail_2 {σ : Type} (M : Mover σ) (s : σ) (w0 : World) (hi0 : M.Inv s w0) (hk : M.kind = 2) (hl : M.lim s ≤ 5) :
    Calls Tryd.prog 100 #[.iface M.T M.mv, .pointer (some ⟨M.cb, 0, none⟩)] w0 fun e w' => e = .returned (.tuple #[]) ∧ M.Inv s w' := by
  have hc := M.hkind s w0 hi0
  rw [hk] at hc
  clear hk
  have nn := M.nnum
  have mn := M.mnum
  have en := M.enum
  have nv := M.nvec
  have mv := M.mvec
  have ev := M.evec
  have nf := M.nflag
  have mf := M.mflag
  have ef := M.eflag
  go_enter Tryd.func100, Tryd.ntmps100
  go_wp2_with fail
  go_end0
  exact ⟨rfl, hi0⟩

set_option maxRecDepth 100000 in
set_option maxHeartbeats 1000000 in
theorem tail_4 {σ : Type} (M : Mover σ) (s : σ) (w0 : World) (hi0 : M.Inv s w0) (hk : M.kind = 4) (hl : M.lim s ≤ 5) :
    Calls Tryd.prog 100 #[.iface M.T M.mv, .pointer (some ⟨M.cb, 0, none⟩)] w0 fun e w' => e = .returned (.tuple #[]) ∧ M.Inv s w' := by
  have hc := M.hkind s w0 hi0
  rw [hk] at hc
  clear hk
  have nn := M.nnum
  have mn := M.mnum
  have en := M.enum
  have nv := M.nvec
  have mv := M.mvec
  have ev := M.evec
  have nf := M.nflag
  have mf := M.mflag
  have ef := M.eflag
  go_enter Tryd.func100, Tryd.ntmps100
  go_wp2_with fail
  go_end0
  exact ⟨rfl, hi0⟩

set_option maxRecDepth 100000 in
set_option maxHeartbeats 1000000 in
theorem tail_5 {σ : Type} (M : Mover σ) (s : σ) (w0 : World) (hi0 : M.Inv s w0) (hk : M.kind = 5) (hl : M.lim s ≤ 5) :
    Calls Tryd.prog 100 #[.iface M.T M.mv, .pointer (some ⟨M.cb, 0, none⟩)] w0 fun e w' => e = .returned (.tuple #[]) ∧ M.Inv s w' := by
  have hc := M.hkind s w0 hi0
  rw [hk] at hc
  clear hk
  have nn := M.nnum
  have mn := M.mnum
  have en := M.enum
  have nv := M.nvec
  have mv := M.mvec
  have ev := M.evec
  have nf := M.nflag
  have mf := M.mflag
  have ef := M.eflag
  go_enter Tryd.func100, Tryd.ntmps100
  go_wp2_with fail
  go_end0
  exact ⟨rfl, hi0⟩

set_option maxRecDepth 100000 in
set_option maxHeartbeats 1000000 in
theorem tail_6 {σ : Type} (M : Mover σ) (s : σ) (w0 : World) (hi0 : M.Inv s w0) (hk : M.kind = 6) (hl : M.lim s ≤ 5) :
    Calls Tryd.prog 100 #[.iface M.T M.mv, .pointer (some ⟨M.cb, 0, none⟩)] w0 fun e w' => e = .returned (.tuple #[]) ∧ M.Inv s w' := by
  have hc := M.hkind s w0 hi0
  rw [hk] at hc
  clear hk
  have nn := M.nnum
  have mn := M.mnum
  have en := M.enum
  have nv := M.nvec
  have mv := M.mvec
  have ev := M.evec
  have nf := M.nflag
  have mf := M.mflag
  have ef := M.eflag
  go_enter Tryd.func100, Tryd.ntmps100
  go_wp2_with fail
  go_end0
  exact ⟨rfl, hi0⟩

set_option maxRecDepth 100000 in
set_option maxHeartbeats 1000000 in
theorem tail_7 {σ : Type} (M : Mover σ) (s : σ) (w0 : World) (hi0 : M.Inv s w0) (hk : M.kind = 7) (hl : M.lim s ≤ 5) :
    Calls Tryd.prog 100 #[.iface M.T M.mv, .pointer (some ⟨M.cb, 0, none⟩)] w0 fun e w' => e = .returned (.tuple #[]) ∧ M.Inv s w' := by
  have hc := M.hkind s w0 hi0
  rw [hk] at hc
  clear hk
  have nn := M.nnum
  have mn := M.mnum
  have en := M.enum
  have nv := M.nvec
  have mv := M.mvec
  have ev := M.evec
  have nf := M.nflag
  have mf := M.mflag
  have ef := M.eflag
  go_enter Tryd.func100, Tryd.ntmps100
  go_wp2_with fail
  go_end0
  exact ⟨rfl, hi0⟩

set_option maxRecDepth 100000 in
set_option maxHeartbeats 1000000 in
theorem tail_14 {σ : Type} (M : Mover σ) (s : σ) (w0 : World) (hi0 : M.Inv s w0) (hk : M.kind = 14) (hl : M.lim s ≤ 5) :
    Calls Tryd.prog 100 #[.iface M.T M.mv, .pointer (some ⟨M.cb, 0, none⟩)] w0 fun e w' => e = .returned (.tuple #[]) ∧ M.Inv s w' := by
  have hc := M.hkind s w0 hi0
  rw [hk] at hc
  clear hk
  have nn := M.nnum
  have mn := M.mnum
  have en := M.enum
  have nv := M.nvec
  have mv := M.mvec
  have ev := M.evec
  have nf := M.nflag
  have mf := M.mflag
  have ef := M.eflag
  go_enter Tryd.func100, Tryd.ntmps100
  go_wp2_with fail
  go_end0
  exact ⟨rfl, hi0⟩

set_option maxRecDepth 100000 in
set_option maxHeartbeats 1000000 in
theorem tail_16 {σ : Type} (M : Mover σ) (s : σ) (w0 : World) (hi0 : M.Inv s w0) (hk : M.kind = 16) (hl : M.lim s ≤ 5) :
    Calls Tryd.prog 100 #[.iface M.T M.mv, .pointer (some ⟨M.cb, 0, none⟩)] w0 fun e w' => e = .returned (.tuple #[]) ∧ M.Inv s w' := by
  have hc := M.hkind s w0 hi0
  rw [hk] at hc
  clear hk
  have nn := M.nnum
  have mn := M.mnum
  have en := M.enum
  have nv := M.nvec
  have mv := M.mvec
  have ev := M.evec
  have nf := M.nflag
  have mf := M.mflag
  have ef := M.eflag
  go_enter Tryd.func100, Tryd.ntmps100
  go_wp2_with fail
  go_end0
  exact ⟨rfl, hi0⟩

set_option maxRecDepth 100000 in
set_option maxHeartbeats 1000000 in
theorem tail_17 {σ : Type} (M : Mover σ) (s : σ) (w0 : World) (hi0 : M.Inv s w0) (hk : M.kind = 17) (hl : M.lim s ≤ 5) :
    Calls Tryd.prog 100 #[.iface M.T M.mv, .pointer (some ⟨M.cb, 0, none⟩)] w0 fun e w' => e = .returned (.tuple #[]) ∧ M.Inv s w' := by
  have hc := M.hkind s w0 hi0
  rw [hk] at hc
  clear hk
  have nn := M.nnum
  have mn := M.mnum
  have en := M.enum
  have nv := M.nvec
  have mv := M.mvec
  have ev := M.evec
  have nf := M.nflag
  have mf := M.mflag
  have ef := M.eflag
  go_enter Tryd.func100, Tryd.ntmps100
  go_wp2_with fail
  go_end0
  exact ⟨rfl, hi0⟩

set_option maxRecDepth 100000 in
set_option maxHeartbeats 1000000 in
theorem tail_20 {σ : Type} (M : Mover σ) (s : σ) (w0 : World) (hi0 : M.Inv s w0) (hk : M.kind = 20) (hl : M.lim s ≤ 5) :
    Calls Tryd.prog 100 #[.iface M.T M.mv, .pointer (some ⟨M.cb, 0, none⟩)] w0 fun e w' => e = .returned (.tuple #[]) ∧ M.Inv s w' := by
  have hc := M.hkind s w0 hi0
  rw [hk] at hc
  clear hk
  have nn := M.nnum
  have mn := M.mnum
  have en := M.enum
  have nv := M.nvec
  have mv := M.mvec
  have ev := M.evec
  have nf := M.nflag
  have mf := M.mflag
  have ef := M.eflag
  go_enter Tryd.func100, Tryd.ntmps100
  go_wp2_with fail
  go_end0
  exact ⟨rfl, hi0⟩

set_option maxRecDepth 100000 in
set_option maxHeartbeats 1000000 in
theorem tail_21 {σ : Type} (M : Mover σ) (s : σ) (w0 : World) (hi0 : M.Inv s w0) (hk : M.kind = 21) (hl : M.lim s ≤ 5) :
    Calls Tryd.prog 100 #[.iface M.T M.mv, .pointer (some ⟨M.cb, 0, none⟩)] w0 fun e w' => e = .returned (.tuple #[]) ∧ M.Inv s w' := by
  have hc := M.hkind s w0 hi0
  rw [hk] at hc
  clear hk
  have nn := M.nnum
  have mn := M.mnum
  have en := M.enum
  have nv := M.nvec
  have mv := M.mvec
  have ev := M.evec
  have nf := M.nflag
  have mf := M.mflag
  have ef := M.eflag
  go_enter Tryd.func100, Tryd.ntmps100
  go_wp2_with fail
  go_end0
  exact ⟨rfl, hi0⟩

inductive Fld where
  | num (o : Nat)
  | vec
  | flag

def Mover.step {σ : Type} (M : Mover σ) (s : σ) : Fld → σ
  | .num o => M.num o s
  | .vec => M.vec s
  | .flag => M.flag s

def Mover.run {σ : Type} (M : Mover σ) (l : List Fld) (s : σ) : σ := l.foldl M.step s

/-- What commands of a kind have behind their first numbers. -/
def tailF (k : Int) : List Fld :=
  if k = 8 ∨ k = 9 ∨ k = 10 then [.num 3, .num 4, .num 5, .vec] else if k = 3 then [.num 3, .vec] else if k = 19 then [.num 3, .num 4, .num 5] else if k = 13 then [.num 3, .num 4, .num 5, .num 6, .num 7, .flag] else if k = 15 then [.num 3, .num 4, .num 6, .num 7, .num 8, .num 9, .vec, .flag] else if k = 11 ∨ k = 12 ∨ k = 18 then [.num 6] else []

/-- order.tail: what the kind has is gone over. -/
theorem tail_any {σ : Type} (M : Mover σ) (s : σ) (w0 : World) (hi0 : M.Inv s w0) (h1 : 1 ≤ M.kind) (h2 : M.kind ≤ 21) (hl : M.lim s ≤ 5) :
    Calls Tryd.prog 100 #[.iface M.T M.mv, .pointer (some ⟨M.cb, 0, none⟩)] w0 fun e w' => e = .returned (.tuple #[]) ∧ M.Inv (M.run (tailF M.kind) s) w' := by
  have h : M.kind = 1 ∨ M.kind = 2 ∨ M.kind = 3 ∨ M.kind = 4 ∨ M.kind = 5 ∨ M.kind = 6 ∨ M.kind = 7 ∨ M.kind = 8 ∨ M.kind = 9 ∨ M.kind = 10 ∨ M.kind = 11 ∨ M.kind = 12 ∨ M.kind = 13 ∨ M.kind = 14 ∨ M.kind = 15 ∨ M.kind = 16 ∨ M.kind = 17 ∨ M.kind = 18 ∨ M.kind = 19 ∨ M.kind = 20 ∨ M.kind = 21 := by omega
  rcases h with h | h | h | h | h | h | h | h | h | h | h | h | h | h | h | h | h | h | h | h | h
  · rw [h]; exact tail_1 M s w0 hi0 h hl
  · rw [h]; exact tail_2 M s w0 hi0 h hl
  · rw [h]; exact tail_3 M s w0 hi0 h hl
  · rw [h]; exact tail_4 M s w0 hi0 h hl
  · rw [h]; exact tail_5 M s w0 hi0 h hl
  · rw [h]; exact tail_6 M s w0 hi0 h hl
  · rw [h]; exact tail_7 M s w0 hi0 h hl
  · rw [h]; exact tail_8 M s w0 hi0 h hl
  · rw [h]; exact tail_9 M s w0 hi0 h hl
  · rw [h]; exact tail_10 M s w0 hi0 h hl
  · rw [h]; exact tail_11 M s w0 hi0 h hl
  · rw [h]; exact tail_12 M s w0 hi0 h hl
  · rw [h]; exact tail_13 M s w0 hi0 h hl
  · rw [h]; exact tail_14 M s w0 hi0 h hl
  · rw [h]; exact tail_15 M s w0 hi0 h hl
  · rw [h]; exact tail_16 M s w0 hi0 h hl
  · rw [h]; exact tail_17 M s w0 hi0 h hl
  · rw [h]; exact tail_18 M s w0 hi0 h hl
  · rw [h]; exact tail_19 M s w0 hi0 h hl
  · rw [h]; exact tail_20 M s w0 hi0 h hl
  · rw [h]; exact tail_21 M s w0 hi0 h hl

end Go.Proofs.YtnlhmlgoipnekaaDoor
