/- ReplyCodes returns true for every number and every row of places: the given card, on the condition that the row lays (the package-level errors and the error type's handle as the program's text lays them). -/
import Derived.Test.YtnlhmlgoipnekaaDoorRow14
import Derived.Test.YtnlhmlgoipnekaaDoorRcd
import Derived.Test.YtnlhmlgoipnekaaDoorCards
import Derived.Test.YtnlhmlgoipnekaaDoorTie
import Derived.SevenTiedAt
namespace Go.Proofs.YtnlhmlgoipnekaaDoor
open Go.ChangeShapes Go.WideShapes Go.RowKit

theorem codes_any {B : Nat} {E : Nat → Addr} (code : Int) (v : Value) (xs : List Int) (w : World) (hG : GlobE B E w) (hR : IntRow w v 1 xs) :
    Calls Tryd.prog 6 #[.int .i64 code, v] w fun e w' => e = .returned (.bool true) ∧ Keeps [] w w' := by
  by_cases hl : xs.length ≤ 10
  · by_cases hc : 1 ≤ code ∧ code ≤ 14
    · exact codes_in code v xs w hG hR hl hc.1 hc.2
    · exact codes_none code v xs w hG hR hl hc
  · exact codes_long code v xs w hG hR (by omega)

set_option maxRecDepth 100000 in
theorem codes_lifted (os : Os) (started : os.Started) (H : Type) (enc : TypeId × Value → H) :
    ReturnsInHanded {} Tryd.checked os 6 .any (fun w args => (Rows.replyCodesSpec.pre enc Tryd.prog Tryd.f6 [] false w args ∧ laidMetH Tryd.prog Rows.replyCodesRow.laid w) ∧ sizedMet enc Tryd.prog Tryd.f6 (OpenSpec.ofChange Rows.replyCodesSpec) false w args)
      (Rows.replyCodesSpec.post enc Tryd.prog Tryd.f6 false true false false) := by
  refine returnsInHanded_of_change_and (C := Tryd.checked) (X := fun w _ => laidMetH Tryd.prog Rows.replyCodesRow.laid w) (fun _ _ _ hh h => h.of_heap hh) rowOwn started (by kernel_rfl) Tryd.func6
    (ChangeSpec.witness_at (enc := enc) (C := Tryd.checked) (os := os) (X := fun w _ => laidMetH Tryd.prog Rows.replyCodesRow.laid w) false (world14 os) #[.int .i64 0, .slice none 0 0] 8 rfl (by kernel_rfl) (by kernel_rfl) (by kernel_rfl) (by kernel_rfl) (by kernel_rfl) (world14_met os _)) ?_
  intro W base args ds gs before hval0 hW _ _ hL _
  have hval : ∀ (j : Nat) t v, Tryd.f6.params[j]? = some t → args[j]? = some v → Value.okWide Tryd.prog W .any base t v := hval0
  have hW' := hW
  obtain ⟨p, q, hA0, hV0, rfl, hfz, hnd⟩ := hW
  have hA : DataW.TrodAll enc Tryd.prog W 0 (fun _ => true) true Tryd.f6.params.toList args.toList ds p := hA0
  rw [Tryd.params6] at hA hval
  obtain ⟨v0, v1, d0, d1, p0, p1, rfl, rfl, rfl, h0, h1⟩ := trodAll_two hA
  obtain ⟨c, rfl, rfl, rfl, hc⟩ := open_int Tryd.underlying3 (hval 0 3 v0 rfl rfl) h0
  obtain ⟨xs, hR⟩ := open_row (hval 1 49 v1 rfl rfl) h1
  obtain ⟨E, hG⟩ := globE_of_laid hL
  simp only [List.append_nil, List.nil_append] at hW'
  have hlt : ∀ x ∈ [] ++ p1, x.block < W.heap.size := fun x hx => by simpa using hW'.lt x (List.mem_append_left _ (by simpa using hx))
  have hV : DataW.TrodVars enc Tryd.prog W (fun _ => true) [] gs q := hV0
  obtain ⟨rfl, rfl⟩ := trodVars_none hV
  refine (codes_any c v1 xs W hG hR).mono fun e W' ⟨he, hk⟩ => ?_
  subst he
  refine ⟨_, rfl, _, _, _, [], [] ++ p1, [], hW', trodAll_mk1 (shut_bool Tryd.underlying4 true), ?_, rfl, hk.below.frame _, fun h => by cases h⟩
  exact trodAll_mk2 (shut_int Tryd.underlying3 hc) (Below.trod rowLaidOut (by kernel_rfl) (of_decide_eq_true (by kernel_rfl)) h1 hk.below (fun x hx => hlt x (by simpa using hx)))

theorem codes_row : Rows.ReplyCodesSaid :=
  OpenClaim.holds_of_wide 6 Tryd.f6 rfl rfl rfl rfl rfl rfl rfl ⟨rfl, rfl, rfl, rfl, rfl⟩ rfl rfl rfl rfl rfl (by kernel_rfl) Tryd.func6 (by kernel_rfl)
    (of_decide_eq_true (by kernel_rfl)) (by unfold Func.isWrapper; rw [if_neg (of_decide_eq_false (by kernel_rfl))]; exact ⟨rfl, rfl⟩)
    (fun os started H enc _ => codes_lifted os started H enc)

theorem codes_card : Rows.ReplyCodesCardSaid :=
  Claim7.holds_tied_plain_at .later [] [.handle, .sentinel, .sentinel, .sentinel, .sentinel, .sentinel, .sentinel, .sentinel, .sentinel, .sentinel, .sentinel, .sentinel, .sentinel, .sentinel, .sentinel] true (true, "2e8e4ca67073f1a49c24d0015a47b79954c26b1688ef841cb62d3199c19bc5f6") true
    codes_row (fun _ h => by cases h) (by kernel_rfl) (fun _ h => by cases h) replyCodes_row_tie rfl ⟨rfl, rfl⟩ (by kernel_rfl) rfl
    (fun f fn hf hfn => by
      obtain rfl : f = 6 := Option.some.inj ((show Tryd.prog.funcNamed "quitrent/quitrentlaw24.ReplyCodes" = some 6 by kernel_rfl).symm.trans hf) |>.symm
      obtain rfl : fn = Tryd.f6 := (Option.some.inj (Tryd.func6.symm.trans hfn)).symm
      exact ⟨by kernel_rfl, fun j t ht => by
        rw [Tryd.params6] at ht
        have h3 : t = 3 ∨ t = 49 := by
          rcases j with _ | _ | j
          · left; simpa using ht.symm
          · right; simpa using ht.symm
          · simp at ht
        rcases h3 with rfl | rfl
        · exact (show Tryd.prog.wantsStandIn 3 = false by kernel_rfl)
        · exact (show Tryd.prog.wantsStandIn 49 = false by kernel_rfl)⟩)
    (by kernel_rfl)
#print axioms codes_card

end Go.Proofs.YtnlhmlgoipnekaaDoor
