/- OrderBack returns true for every two commands and every bytes: the given card, on the condition that the row lays (the package-level errors and the error type's handle as the program's text lays them). -/
import Derived.Test.YtnlhmlgoipnekaaDoorRowW
import Derived.Test.YtnlhmlgoipnekaaDoorBk0
import Derived.Test.YtnlhmlgoipnekaaDoorBkeb
import Derived.Test.YtnlhmlgoipnekaaDoorBkeg
import Derived.Test.YtnlhmlgoipnekaaDoorBksb
import Derived.Test.YtnlhmlgoipnekaaDoorBksg
import Derived.Test.YtnlhmlgoipnekaaDoorBklb
import Derived.Test.YtnlhmlgoipnekaaDoorBklg
import Derived.Test.YtnlhmlgoipnekaaDoorCards
import Derived.Test.YtnlhmlgoipnekaaDoorTie
import Derived.SevenTiedAt
import Derived.ChangeMaps5
namespace Go.Proofs.YtnlhmlgoipnekaaDoor
open Go.ChangeShapes Go.WideShapes Go.RowKit Go.ChangeMaps

theorem back_any {B : Nat} {ea ef : Addr} (c c' : Cmd) (s : ByteArray) (w : World) (hG : Glob B ea ef w) (hc : c.Ok) (hc' : c'.Ok) :
    Calls Tryd.prog 4 #[.agg c.cells, .agg c'.cells, .string s] w fun e w' => e = .returned (.bool true) ∧ Keeps [] w w' := by
  by_cases hs : s.size ≤ 512
  · by_cases h : 1 ≤ c.kind ∧ c.kind ≤ 21
    · by_cases h' : 1 ≤ c'.kind ∧ c'.kind ≤ 21
      · obtain ⟨h1, h2⟩ := h
        obtain ⟨h1', h2'⟩ := h'
        by_cases hxy : c.trim = c'.trim
        · cases hr : (readC s).2 with
          | none => exact back_eg c c' s w hG hc hc' hs h1 h2 h1' h2' hxy hr
          | some p => exact back_eb c c' s w hG hc hc' hs h1 h2 h1' h2' hxy p hr
        · by_cases hl : c'.trim.bytes.length < c.trim.bytes.length
          · cases hr : (readC s).2 with
            | none => exact back_sg c c' s w hG hc hc' hs h1 h2 h1' h2' hxy hl hr
            | some p => exact back_sb c c' s w hG hc hc' hs h1 h2 h1' h2' hxy hl p hr
          · cases hr : (readC s).2 with
            | none => exact back_lg c c' s w hG hc hc' hs h1 h2 h1' h2' hxy (by omega) hr
            | some p => exact back_lb c c' s w hG hc hc' hs h1 h2 h1' h2' hxy (by omega) p hr
      · exact back_out2 c c' s w hG hc hc' hs h.1 h.2 h'
    · exact back_out1 c c' s w hG hc hc' hs h
  · exact back_long c c' s w hG (by omega)

set_option maxRecDepth 100000 in
theorem back_lifted (os : Os) (started : os.Started) (H : Type) (enc : TypeId × Value → H) :
    ReturnsInHanded {} Tryd.checked os 4 .any (fun w args => (Rows.orderBackSpec.pre enc Tryd.prog Tryd.f4 [] false w args ∧ laidMetH Tryd.prog Rows.orderBackRow.laid w) ∧ sizedMet enc Tryd.prog Tryd.f4 (OpenSpec.ofChange Rows.orderBackSpec) false w args)
      (Rows.orderBackSpec.post enc Tryd.prog Tryd.f4 false true false false) := by
  refine returnsInHanded_of_change_and (C := Tryd.checked) (X := fun w _ => laidMetH Tryd.prog Rows.orderBackRow.laid w) (fun _ _ _ hh h => h.of_heap hh) rowOwn started (by kernel_rfl) Tryd.func4
    (ChangeSpec.witness_at (enc := enc) (C := Tryd.checked) (os := os) (X := fun w _ => laidMetH Tryd.prog Rows.orderBackRow.laid w) false (ordersWorld os) #[.agg (Cmd.zero 0).cells, .agg (Cmd.zero 0).cells, .string ⟨#[]⟩] 8 rfl (by kernel_rfl) (by kernel_rfl) (by kernel_rfl) (by kernel_rfl) (by kernel_rfl) (ordersWorld_met os _)) ?_
  intro W base args ds gs before hval0 hW _ _ hL _
  have hval : ∀ (j : Nat) t v, Tryd.f4.params[j]? = some t → args[j]? = some v → Value.okWide Tryd.prog W .any base t v := hval0
  have hW' := hW
  obtain ⟨p, q, hA0, hV0, rfl, hfz, hnd⟩ := hW
  have hA : DataW.TrodAll enc Tryd.prog W 0 (fun _ => true) true Tryd.f4.params.toList args.toList ds p := hA0
  rw [Tryd.params4] at hA hval
  obtain ⟨v0, v1, v2, d0, d1, d2, p0, p1, p2, rfl, rfl, rfl, h0, h1, h2⟩ := trodAll_three hA
  obtain ⟨c, rfl, hc⟩ := open_cmd (hval 0 27 v0 rfl rfl) h0
  obtain ⟨c', rfl, hc'⟩ := open_cmd (hval 1 27 v1 rfl rfl) h1
  obtain ⟨s, rfl, rfl, rfl, ws⟩ := open_string Tryd.underlying9 (hval 2 9 v2 rfl rfl) h2
  obtain ⟨ea, ef, hG⟩ := glob_of_laid hL
  have hlt : ∀ x ∈ p0 ++ (p1 ++ []), x.block < W.heap.size := fun x hx => by simpa using hW'.lt x (List.mem_append_left _ (by simpa using hx))
  have hV : DataW.TrodVars enc Tryd.prog W (fun _ => true) [] gs q := hV0
  obtain ⟨rfl, rfl⟩ := trodVars_none hV
  refine (back_any c c' s W hG hc hc').mono fun e W' ⟨he, hk⟩ => ?_
  subst he
  refine ⟨_, rfl, _, _, _, [], p0 ++ (p1 ++ []), [], hW', trodAll_mk1 (shut_bool Tryd.underlying4 true), ?_, rfl, hk.below.frame _, fun h => by cases h⟩
  exact trodAll_mk3 (Below.trod rowLaidOut (by kernel_rfl) (of_decide_eq_true (by kernel_rfl)) h0 hk.below (fun x hx => hlt x (List.mem_append_left _ hx)))
    (Below.trod rowLaidOut (by kernel_rfl) (of_decide_eq_true (by kernel_rfl)) h1 hk.below (fun x hx => hlt x (List.mem_append_right _ (List.mem_append_left _ hx)))) (shut_string Tryd.underlying9 ws)

theorem back_row : Rows.OrderBackSaid :=
  OpenClaim.holds_of_wide 4 Tryd.f4 rfl rfl rfl rfl rfl rfl rfl ⟨rfl, rfl, rfl, rfl, rfl⟩ rfl rfl rfl rfl rfl (by kernel_rfl) Tryd.func4 (by kernel_rfl)
    (of_decide_eq_true (by kernel_rfl)) (by unfold Func.isWrapper; rw [if_neg (of_decide_eq_false (by kernel_rfl))]; exact ⟨rfl, rfl⟩)
    (fun os started H enc _ => back_lifted os started H enc)

theorem back_card : Rows.OrderBackCardSaid :=
  Claim7.holds_tied_plain_at .later [] [.handle, .sentinel, .sentinel, .sentinel] true (true, "2e8e4ca67073f1a49c24d0015a47b79954c26b1688ef841cb62d3199c19bc5f6") true
    back_row (fun _ h => by cases h) (by kernel_rfl) (fun _ h => by cases h) orderBack_row_tie rfl ⟨rfl, rfl⟩ (by kernel_rfl) rfl
    (fun f fn hf hfn => by
      obtain rfl : f = 4 := Option.some.inj ((show Tryd.prog.funcNamed "quitrent/quitrentlaw23.OrderBack" = some 4 by kernel_rfl).symm.trans hf) |>.symm
      obtain rfl : fn = Tryd.f4 := (Option.some.inj (Tryd.func4.symm.trans hfn)).symm
      exact ⟨by kernel_rfl, fun j t ht => by
        rw [Tryd.params4] at ht
        have h3 : t = 27 ∨ t = 9 := by
          rcases j with _ | _ | _ | j
          · left; simpa using ht.symm
          · left; simpa using ht.symm
          · right; simpa using ht.symm
          · simp at ht
        rcases h3 with rfl | rfl
        · exact (show Tryd.prog.wantsStandIn 27 = false by kernel_rfl)
        · exact (show Tryd.prog.wantsStandIn 9 = false by kernel_rfl)⟩)
    (by kernel_rfl)
#print axioms back_card

end Go.Proofs.YtnlhmlgoipnekaaDoor
