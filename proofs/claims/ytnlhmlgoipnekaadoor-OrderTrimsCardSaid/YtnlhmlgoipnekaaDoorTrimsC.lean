/- OrderTrims returns true for every command: the given card, on the condition that the row lays (the package-level errors and the error type's handle as the program's text lays them). -/
import Derived.Test.YtnlhmlgoipnekaaDoorRowW
import Derived.Test.YtnlhmlgoipnekaaDoorTrm0
import Derived.Test.YtnlhmlgoipnekaaDoorTrm1
import Derived.Test.YtnlhmlgoipnekaaDoorTrm2
import Derived.Test.YtnlhmlgoipnekaaDoorCards
import Derived.Test.YtnlhmlgoipnekaaDoorTie
import Derived.SevenTiedAt
namespace Go.Proofs.YtnlhmlgoipnekaaDoor
open Go.ChangeShapes Go.WideShapes Go.RowKit

theorem trims_any {B : Nat} {ea ef : Addr} (c : Cmd) (w : World) (hG : Glob B ea ef w) (hc : c.Ok) :
    Calls Tryd.prog 5 #[.agg c.cells] w fun e w' => e = .returned (.bool true) ∧ Keeps [] w w' := by
  by_cases h : 1 ≤ c.kind ∧ c.kind ≤ 21
  · by_cases hg : c.good = true
    · exact trims_in1 c w hG hc h.1 h.2 hg
    · exact trims_in2 c w hG hc h.1 h.2 (by simpa using hg)
  · exact trims_out c w hG hc h

set_option maxRecDepth 100000 in
theorem trims_lifted (os : Os) (started : os.Started) (H : Type) (enc : TypeId × Value → H) :
    ReturnsInHanded {} Tryd.checked os 5 .any (fun w args => (Rows.orderTrimsSpec.pre enc Tryd.prog Tryd.f5 [] false w args ∧ laidMetH Tryd.prog Rows.orderTrimsRow.laid w) ∧ sizedMet enc Tryd.prog Tryd.f5 (OpenSpec.ofChange Rows.orderTrimsSpec) false w args)
      (Rows.orderTrimsSpec.post enc Tryd.prog Tryd.f5 false true false false) := by
  refine returnsInHanded_of_change_and (C := Tryd.checked) (X := fun w _ => laidMetH Tryd.prog Rows.orderTrimsRow.laid w) (fun _ _ _ hh h => h.of_heap hh) rowOwn started (by kernel_rfl) Tryd.func5
    (ChangeSpec.witness_at (enc := enc) (C := Tryd.checked) (os := os) (X := fun w _ => laidMetH Tryd.prog Rows.orderTrimsRow.laid w) false (ordersWorld os) #[.agg (Cmd.zero 0).cells] 8 rfl (by kernel_rfl) (by kernel_rfl) (by kernel_rfl) (by kernel_rfl) (by kernel_rfl) (ordersWorld_met os _)) ?_
  intro W base args ds gs before hval0 hW _ _ hL _
  have hval : ∀ (j : Nat) t v, Tryd.f5.params[j]? = some t → args[j]? = some v → Value.okWide Tryd.prog W .any base t v := hval0
  have hW' := hW
  obtain ⟨p, q, hA0, hV0, rfl, hfz, hnd⟩ := hW
  have hA : DataW.TrodAll enc Tryd.prog W 0 (fun _ => true) true Tryd.f5.params.toList args.toList ds p := hA0
  rw [Tryd.params5] at hA hval
  obtain ⟨v0, d0, rfl, rfl, h0⟩ := trodAll_one hA
  obtain ⟨c, rfl, hc⟩ := open_cmd (hval 0 27 v0 rfl rfl) h0
  obtain ⟨ea, ef, hG⟩ := glob_of_laid hL
  have hlt : ∀ x ∈ p, x.block < W.heap.size := fun x hx => by simpa using hW'.lt x (List.mem_append_left _ hx)
  have hV : DataW.TrodVars enc Tryd.prog W (fun _ => true) [] gs q := hV0
  obtain ⟨rfl, rfl⟩ := trodVars_none hV
  refine (trims_any c W hG hc).mono fun e W' ⟨he, hk⟩ => ?_
  subst he
  refine ⟨_, rfl, _, _, _, [], p, [], hW', trodAll_mk1 (shut_bool Tryd.underlying4 true), ?_, rfl, hk.below.frame _, fun h => by cases h⟩
  exact trodAll_mk1 (Below.trod rowLaidOut (by kernel_rfl) (of_decide_eq_true (by kernel_rfl)) h0 hk.below hlt)

theorem trims_row : Rows.OrderTrimsSaid :=
  OpenClaim.holds_of_wide 5 Tryd.f5 rfl rfl rfl rfl rfl rfl rfl ⟨rfl, rfl, rfl, rfl, rfl⟩ rfl rfl rfl rfl rfl (by kernel_rfl) Tryd.func5 (by kernel_rfl)
    (of_decide_eq_true (by kernel_rfl)) (by unfold Func.isWrapper; rw [if_neg (of_decide_eq_false (by kernel_rfl))]; exact ⟨rfl, rfl⟩)
    (fun os started H enc _ => trims_lifted os started H enc)

theorem trims_card : Rows.OrderTrimsCardSaid :=
  Claim7.holds_tied_plain_at .later [] [.handle, .sentinel, .sentinel, .sentinel] true (true, "2e8e4ca67073f1a49c24d0015a47b79954c26b1688ef841cb62d3199c19bc5f6") true
    trims_row (fun _ h => by cases h) (by kernel_rfl) (fun _ h => by cases h) orderTrims_row_tie rfl ⟨rfl, rfl⟩ (by kernel_rfl) rfl
    (fun f fn hf hfn => by
      obtain rfl : f = 5 := Option.some.inj ((show Tryd.prog.funcNamed "quitrent/quitrentlaw23.OrderTrims" = some 5 by kernel_rfl).symm.trans hf) |>.symm
      obtain rfl : fn = Tryd.f5 := (Option.some.inj (Tryd.func5.symm.trans hfn)).symm
      exact ⟨by kernel_rfl, fun j t ht => by
        rw [Tryd.params5] at ht
        have h3 : t = 27 := by
          rcases j with _ | j
          · simpa using ht.symm
          · simp at ht
        subst h3
        exact (show Tryd.prog.wantsStandIn 27 = false by kernel_rfl)⟩)
    (by kernel_rfl)
#print axioms trims_card

end Go.Proofs.YtnlhmlgoipnekaaDoor
