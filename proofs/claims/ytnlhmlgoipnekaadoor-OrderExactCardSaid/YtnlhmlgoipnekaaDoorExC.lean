/- OrderExact returns true for every command and every bytes: the given card, on the condition that the row lays (the package-level errors and the error type's handle as the program's text lays them). -/
import Derived.Test.YtnlhmlgoipnekaaDoorRowW
import Derived.Test.YtnlhmlgoipnekaaDoorExgn
import Derived.Test.YtnlhmlgoipnekaaDoorExgp
import Derived.Test.YtnlhmlgoipnekaaDoorExbn
import Derived.Test.YtnlhmlgoipnekaaDoorExbp
import Derived.Test.YtnlhmlgoipnekaaDoorCards
import Derived.Test.YtnlhmlgoipnekaaDoorTie
import Derived.SevenTiedAt
import Derived.ChangeMaps5
namespace Go.Proofs.YtnlhmlgoipnekaaDoor
open Go.ChangeShapes Go.WideShapes Go.RowKit Go.ChangeMaps

set_option maxRecDepth 100000 in
set_option maxHeartbeats 2000000 in
theorem exact_long {B : Nat} {ea ef : Addr} (c : Cmd) (s : ByteArray) (w : World) (hG : Glob B ea ef w) (hs : 512 < s.size) :
    Calls Tryd.prog 3 #[.agg c.cells, .string s] w fun e w' => e = .returned (.bool true) ∧ Keeps [] w w' := by
  have hsz : (512 : Int) < (s.size : Int) := by omega
  obtain ⟨w0, hw0⟩ : ∃ w0, w.alloc (.cells c.cells 27) = w0 := ⟨_, rfl⟩
  have hk0 : Keeps [] w w0 := by rw [← hw0]; exact (Keeps.refl _ _).alloc _
  go_enter Tryd.func3, Tryd.ntmps3
  go_wp2_with fail
  clear hw0
  refine (awake_any w0 (hG.keep0 hk0)).mono ?_
  rintro e w1 ⟨rfl, hk1⟩
  go_wp2_with fail
  go_ret
  exact ⟨rfl, hk0.trans hk1⟩

theorem exact_any {B : Nat} {ea ef : Addr} (c : Cmd) (s : ByteArray) (w : World) (hG : Glob B ea ef w) (hc : c.Ok) :
    Calls Tryd.prog 3 #[.agg c.cells, .string s] w fun e w' => e = .returned (.bool true) ∧ Keeps [] w w' := by
  by_cases hs : s.size ≤ 512
  · cases hg : c.good with
    | true =>
      cases hr : (readC s).2 with
      | none => exact exact_gn c s w hG hc hs hg hr
      | some p => exact exact_gp c s w hG hc hs hg p hr
    | false =>
      cases hr : (readC s).2 with
      | none => exact exact_bn c s w hG hc hs hg hr
      | some p => exact exact_bp c s w hG hc hs hg p hr
  · exact exact_long c s w hG (by omega)

set_option maxRecDepth 100000 in
theorem exact_lifted (os : Os) (started : os.Started) (H : Type) (enc : TypeId × Value → H) :
    ReturnsInHanded {} Tryd.checked os 3 .any (fun w args => (Rows.orderExactSpec.pre enc Tryd.prog Tryd.f3 [] false w args ∧ laidMetH Tryd.prog Rows.orderExactRow.laid w) ∧ sizedMet enc Tryd.prog Tryd.f3 (OpenSpec.ofChange Rows.orderExactSpec) false w args)
      (Rows.orderExactSpec.post enc Tryd.prog Tryd.f3 false true false false) := by
  refine returnsInHanded_of_change_and (C := Tryd.checked) (X := fun w _ => laidMetH Tryd.prog Rows.orderExactRow.laid w) (fun _ _ _ hh h => h.of_heap hh) rowOwn started (by kernel_rfl) Tryd.func3
    (ChangeSpec.witness_at (enc := enc) (C := Tryd.checked) (os := os) (X := fun w _ => laidMetH Tryd.prog Rows.orderExactRow.laid w) false (ordersWorld os) #[.agg (Cmd.zero 0).cells, .string ⟨#[]⟩] 8 rfl (by kernel_rfl) (by kernel_rfl) (by kernel_rfl) (by kernel_rfl) (by kernel_rfl) (ordersWorld_met os _)) ?_
  intro W base args ds gs before hval0 hW _ _ hL _
  have hval : ∀ (j : Nat) t v, Tryd.f3.params[j]? = some t → args[j]? = some v → Value.okWide Tryd.prog W .any base t v := hval0
  have hW' := hW
  obtain ⟨p, q, hA0, hV0, rfl, hfz, hnd⟩ := hW
  have hA : DataW.TrodAll enc Tryd.prog W 0 (fun _ => true) true Tryd.f3.params.toList args.toList ds p := hA0
  rw [Tryd.params3] at hA hval
  obtain ⟨v0, v1, d0, d1, p0, p1, rfl, rfl, rfl, h0, h1⟩ := trodAll_two hA
  obtain ⟨c, rfl, hc⟩ := open_cmd (hval 0 27 v0 rfl rfl) h0
  obtain ⟨s, rfl, rfl, rfl, ws⟩ := open_string Tryd.underlying9 (hval 1 9 v1 rfl rfl) h1
  obtain ⟨ea, ef, hG⟩ := glob_of_laid hL
  have hlt : ∀ x ∈ p0 ++ [], x.block < W.heap.size := fun x hx => by simpa using hW'.lt x (List.mem_append_left _ (by simpa using hx))
  have hV : DataW.TrodVars enc Tryd.prog W (fun _ => true) [] gs q := hV0
  obtain ⟨rfl, rfl⟩ := trodVars_none hV
  refine (exact_any c s W hG hc).mono fun e W' ⟨he, hk⟩ => ?_
  subst he
  refine ⟨_, rfl, _, _, _, [], p0 ++ [], [], hW', trodAll_mk1 (shut_bool Tryd.underlying4 true), ?_, rfl, hk.below.frame _, fun h => by cases h⟩
  exact trodAll_mk2 (Below.trod rowLaidOut (by kernel_rfl) (of_decide_eq_true (by kernel_rfl)) h0 hk.below (fun x hx => hlt x (List.mem_append_left _ hx)))
    (shut_string Tryd.underlying9 ws)

theorem exact_row : Rows.OrderExactSaid :=
  OpenClaim.holds_of_wide 3 Tryd.f3 rfl rfl rfl rfl rfl rfl rfl ⟨rfl, rfl, rfl, rfl, rfl⟩ rfl rfl rfl rfl rfl (by kernel_rfl) Tryd.func3 (by kernel_rfl)
    (of_decide_eq_true (by kernel_rfl)) (by unfold Func.isWrapper; rw [if_neg (of_decide_eq_false (by kernel_rfl))]; exact ⟨rfl, rfl⟩)
    (fun os started H enc _ => exact_lifted os started H enc)

theorem exact_card : Rows.OrderExactCardSaid :=
  Claim7.holds_tied_plain_at .later [] [.handle, .sentinel, .sentinel, .sentinel] true (true, "2e8e4ca67073f1a49c24d0015a47b79954c26b1688ef841cb62d3199c19bc5f6") true
    exact_row (fun _ h => by cases h) (by kernel_rfl) (fun _ h => by cases h) orderExact_row_tie rfl ⟨rfl, rfl⟩ (by kernel_rfl) rfl
    (fun f fn hf hfn => by
      obtain rfl : f = 3 := Option.some.inj ((show Tryd.prog.funcNamed "quitrent/quitrentlaw23.OrderExact" = some 3 by kernel_rfl).symm.trans hf) |>.symm
      obtain rfl : fn = Tryd.f3 := (Option.some.inj (Tryd.func3.symm.trans hfn)).symm
      exact ⟨by kernel_rfl, fun j t ht => by
        rw [Tryd.params3] at ht
        have h3 : t = 27 ∨ t = 9 := by
          rcases j with _ | _ | j
          · left; simpa using ht.symm
          · right; simpa using ht.symm
          · simp at ht
        rcases h3 with rfl | rfl
        · exact (show Tryd.prog.wantsStandIn 27 = false by kernel_rfl)
        · exact (show Tryd.prog.wantsStandIn 9 = false by kernel_rfl)⟩)
    (by kernel_rfl)
#print axioms exact_card

end Go.Proofs.YtnlhmlgoipnekaaDoor
