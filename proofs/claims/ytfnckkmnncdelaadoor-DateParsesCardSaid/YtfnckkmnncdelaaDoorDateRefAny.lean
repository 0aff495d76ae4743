/-
  cubbyref06.Parse, walked.
-/
import Derived.Test.YtfnckkmnncdelaaDoorDateRefBP
import Derived.Test.YtfnckkmnncdelaaDoorDateRefBM
import Derived.Test.YtfnckkmnncdelaaDoorDateRefPP
import Derived.Test.YtfnckkmnncdelaaDoorDateRefPM
namespace Go.Proofs.YtfnckkmnncdelaaDoor
open Go.RowKit
theorem refParse_any (s : ByteArray) (hs : s.size ≤ 1000) (w : World) :
    Calls Tryd.prog 21 #[.string s] w fun e w' => e = .returned (.tuple #[.int .i64 (refParseV s).1, .bool (refParseV s).2]) ∧ Below w.heap.size w w' := by
  by_cases h26 : s.size = 26
  · have hne : ((s.size : Int) != 26) = false := by simp [h26]
    have hsz : 26 ≤ s.size := by omega
    have hp0 : 0 < (s.extract 0 2).size := by simp; omega
    rcases Bool.eq_false_or_eq_true (signsV s) with hg | hg
    · rcases Bool.eq_false_or_eq_true ((((s.extract 0 2)[0]'hp0).toNat : Int) == 32) with hz | hz
      · rcases Bool.eq_false_or_eq_true ((s[21].toNat : Int) == 43) with hm | hm
        · exact refParse_BP s hs hsz hne hg hp0 hz hm w
        · exact refParse_BM s hs hsz hne hg hp0 hz hm w
      · rcases Bool.eq_false_or_eq_true ((s[21].toNat : Int) == 43) with hm | hm
        · exact refParse_PP s hs hsz hne hg hp0 hz hm w
        · exact refParse_PM s hs hsz hne hg hp0 hz hm w
    · exact refParse_bad s hs hsz hne hg w
  · exact refParse_short s hs h26 w
end Go.Proofs.YtfnckkmnncdelaaDoor
