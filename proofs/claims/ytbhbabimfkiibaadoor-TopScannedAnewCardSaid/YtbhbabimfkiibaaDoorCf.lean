/- The card of TopScannedAnew: the law's row, with its two listed variables tied to the program's text. -/
import Derived.Test.YtbhbabimfkiibaaDoorCe
import Derived.Test.YtbhbabimfkiibaaDoorCards
import Derived.Test.YtbhbabimfkiibaaDoorTie
import Derived.SevenTiedAt
namespace Go.Proofs.YtbhbabimfkiibaaDoor
open Go
theorem topScannedAnew_holds : Rows.TopScannedAnewCardSaid :=
  Claim7.holds_tied_plain_at .later [] [.data, .data] true Rows.topScannedAnewCard.stood.harness false
    Anew.over (fun _ h => by cases h) (by kernel_rfl) (fun _ h => by cases h) topScannedAnew_row_tie rfl ⟨rfl, rfl⟩ (by kernel_rfl) rfl
    (fun f fn hf hfn => by
      obtain rfl : f = 3 := Option.some.inj (hf.symm.trans (by kernel_rfl))
      obtain rfl : fn = Tryd.f3 := (Option.some.inj (Tryd.func3.symm.trans hfn)).symm
      exact ⟨by kernel_rfl, fun j t ht => by
        rw [Tryd.params3] at ht
        have hm : t ∈ [23, 24, 3] := by simpa using Array.mem_of_getElem? ht
        have hall : ([23, 24, 3].all fun u => !Tryd.prog.wantsStandIn u) = true := by kernel_rfl
        exact (show Tryd.prog.wantsStandIn t = false by simpa using List.all_eq_true.1 hall t hm)⟩)
    (by kernel_rfl)
#print axioms topScannedAnew_holds
end Go.Proofs.YtbhbabimfkiibaaDoor
