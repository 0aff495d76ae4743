/-
  date.Parse, walked.
-/
import Derived.Test.YtfnckkmnncdelaaDoorDateParseB
import Derived.Test.YtfnckkmnncdelaaDoorDateParseP
namespace Go.Proofs.YtfnckkmnncdelaaDoor
open Go.RowKit
set_option maxRecDepth 100000 in
set_option maxHeartbeats 20000000 in
theorem parse_any (s : ByteArray) (hs : s.size ≤ 1000) (w : World) :
    Calls Tryd.prog 20 #[.string s] w fun e w' => e = .returned (.tuple #[.int .i64 (parseV s).1, .bool (parseV s).2]) ∧ Below w.heap.size w w' := by
  by_cases h26 : s.size = 26
  · rcases Bool.eq_false_or_eq_true (asciiV s) with ha | ha
    · rcases Bool.eq_false_or_eq_true (signsV s) with hg | hg
      · have hp0 : 0 < (s.extract 0 2).size := by simp; omega
        rcases Bool.eq_false_or_eq_true ((((s.extract 0 2)[0]'hp0).toNat : Int) == 32) with hz | hz
        · exact parse_B s hs h26 ha hg hp0 hz w
        · exact parse_P s hs h26 ha hg hp0 hz w
      · have Hv : Hid (parseV s = (0, false)) := by show parseV s = _; unfold parseV; rw [if_neg (by rw [hg]; simp)]
        have h27 : 26 ≤ s.size := by omega
        have hne : ((s.size : Int) != 26) = false := by simp [h26]
        have H26 := Lib.hid h26; clear h26
        go_enter Tryd.func20, Tryd.ntmps20
        go_wp2_with (first | (go_at_call 38; refine (ascii_any s hs _).mono ?_; rintro e w' ⟨rfl, rfl⟩; rw [ha]) | (go_at_call 39; refine (signs_any s h27 _).mono ?_; rintro e w' ⟨rfl, rfl⟩; rw [hg]))
        go_ret2
        exact ⟨ret_ib Hv.out, Below.refl _ _⟩
    · have Hv : Hid (parseV s = (0, false)) := by show parseV s = _; unfold parseV; rw [if_neg (by rw [ha]; simp)]
      have hne : ((s.size : Int) != 26) = false := by simp [h26]
      have H26 := Lib.hid h26; clear h26
      go_enter Tryd.func20, Tryd.ntmps20
      go_wp2_with (go_at_call 38; refine (ascii_any s hs _).mono ?_; rintro e w' ⟨rfl, rfl⟩; rw [ha])
      go_ret2
      exact ⟨ret_ib Hv.out, Below.refl _ _⟩
  · have Hv : Hid (parseV s = (0, false)) := by show parseV s = _; unfold parseV; rw [if_neg (fun h => h26 h.1)]
    have hne : ((s.size : Int) != 26) = true := by simp; omega
    have H26 := Lib.hid h26; clear h26
    go_enter Tryd.func20, Tryd.ntmps20
    go_wp2
    go_ret2
    exact ⟨ret_ib Hv.out, Below.refl _ _⟩
end Go.Proofs.YtfnckkmnncdelaaDoor
