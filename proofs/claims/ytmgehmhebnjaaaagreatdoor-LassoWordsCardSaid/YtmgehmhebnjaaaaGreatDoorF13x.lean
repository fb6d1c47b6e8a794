/- F13x: the statement LassoWordsCardSaid holds for every word of the Go program, with no condition. -/
import Derived.Test.YtmgehmhebnjaaaaGreatDoorCards
import Derived.Test.YtmgehmhebnjaaaaGreatDoorTie
import Derived.Test.YtmgehmhebnjaaaaGreatDoorM12
import Derived.Test.YtmgehmhebnjaaaaGreatDoorM16
import Derived.SevenTiedAt
set_option linter.all false
set_option maxRecDepth 1000000
set_option linter.unusedVariables false
namespace Go.Proofs.YtmgehmhebnjaaaaGreatDoor
open Go
theorem lassoWords_holds : Rows.LassoWordsSaid := lassoWords_over fun a b _ _ => Dm.YtmgehmhebnjaaaaGreatDoor.lassoWords_c a b
theorem lassoWords_card : Rows.LassoWordsCardSaid :=
  Claim7.holds_tied_plain_at .later [] [.data, .data, .data, .sentinel, .sentinel] true (true, "98bef7c5375844f969da89516d037819b1a57239a7494585b2bb93910f3c950f") true
    lassoWords_holds (fun _ h => by cases h) (by kernel_rfl) (fun _ h => by cases h) lassoWords_row_tie rfl ⟨rfl, rfl⟩ (by kernel_rfl) rfl
    (fun f fn hf hfn => by
      obtain rfl : f = 5 := Option.some.inj ((show Tryz.prog.funcNamed "stutter/stutterlaw13.LassoWords" = some 5 by kernel_rfl).symm.trans hf) |>.symm
      obtain rfl : fn = Tryz.f5 := (Option.some.inj (Tryz.func5.symm.trans hfn)).symm
      exact ⟨by kernel_rfl, fun j t ht => by
        rw [(by kernel_rfl : Tryz.f5.params = #[26])] at ht
        have hm : t ∈ [26] := by simpa using Array.mem_of_getElem? ht
        have hall : ([26].all fun u => !Tryz.prog.wantsStandIn u) = true := by kernel_rfl
        exact (show Tryz.prog.wantsStandIn t = false by simpa using List.all_eq_true.1 hall t hm)⟩)
    (by kernel_rfl)
#print axioms lassoWords_card
end Go.Proofs.YtmgehmhebnjaaaaGreatDoor
