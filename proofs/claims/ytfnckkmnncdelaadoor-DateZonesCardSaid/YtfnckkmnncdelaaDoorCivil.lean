/-
  date.civil, date.since, date.Day, walked.
-/
import Derived.Test.YtfnckkmnncdelaaDoorProg
import Derived.Test.YtfnckkmnncdelaaDoorCalLaw
import Derived.Deep.Cut
namespace Go.Proofs.YtfnckkmnncdelaaDoor
open Go.RowKit
theorem ret_tup3 {y y' m m' d d' : Int} (h1 : y = y') (h2 : m = m') (h3 : d = d') : Ending.returned (.tuple #[.int .i64 y, .int .i64 m, .int .i64 d]) = .returned (.tuple #[.int .i64 y', .int .i64 m', .int .i64 d']) := by rw [h1, h2, h3]
set_option maxHeartbeats 1000000 in
theorem civil_any (n : Int) (h0 : -719468 ≤ n) (h1 : n ≤ 4000000) (w : World) :
    Calls Tryd.prog 43 #[.int .i64 n] w fun e w' => e = .returned (.tuple #[.int .i64 (civY n), .int .i64 (civM n), .int .i64 (civD n)]) ∧ w' = w := by
  go_enter Tryd.func43, Tryd.ntmps43
  go_upto_region 3 with (fail)
  have bE : 0 ≤ (n + 719468) / 146097 ∧ (n + 719468) / 146097 ≤ 40 := by omega
  have bO : 0 ≤ n + 719468 - (n + 719468) / 146097 * 146097 ∧ n + 719468 - (n + 719468) / 146097 * 146097 < 146097 := by omega
  have eE : Hid (cEra n = (n + 719468) / 146097) := rfl
  have eO : Hid (cOf n = n + 719468 - (n + 719468) / 146097 * 146097) := rfl
  generalize (n + 719468) / 146097 = E at *
  go_upto_region 4 with (fail)
  generalize n + 719468 - E * 146097 = O at *
  have bY : 0 ≤ (O - O / 1460 + O / 36524 - O / 146096) / 365 ∧ (O - O / 1460 + O / 36524 - O / 146096) / 365 ≤ 400 := by omega
  have eY : Hid (cYoe n = (O - O / 1460 + O / 36524 - O / 146096) / 365) := by show _ = _; unfold cYoe; rw [eO.out]
  go_upto_region 5 with (fail)
  generalize (O - O / 1460 + O / 36524 - O / 146096) / 365 = Y at *
  have eD : Hid (cDay n = O - (365 * Y + Y / 4 - Y / 100)) := by show _ = _; unfold cDay; rw [eO.out, eY.out]
  have bD : 0 ≤ O - (365 * Y + Y / 4 - Y / 100) ∧ O - (365 * Y + Y / 4 - Y / 100) ≤ 365 := by have := cDay_bd n; rw [eD.out] at this; exact this
  go_upto_region 6 with (fail)
  generalize O - (365 * Y + Y / 4 - Y / 100) = D at *
  have bM : 0 ≤ (5 * D + 2) / 153 ∧ (5 * D + 2) / 153 ≤ 11 := by omega
  have eM : Hid (cMp n = (5 * D + 2) / 153) := by show _ = _; unfold cMp; rw [eD.out]
  go_upto_region 7 with (fail)
  generalize (5 * D + 2) / 153 = M at *
  have hY : Hid (civY n = if M < 10 then Y + E * 400 else Y + E * 400 + 1) := by show _ = _; unfold civY; rw [eM.out, eY.out, eE.out]
  have hM : Hid (civM n = if M < 10 then M + 3 else M - 9) := by show _ = _; unfold civM; rw [eM.out]
  have hD : Hid (civD n = D - (153 * M + 2) / 5 + 1) := by show _ = _; unfold civD; rw [eM.out, eD.out]
  by_cases hlt : M < 10
  · go_wp2
    go_ret3
    exact ⟨ret_tup3 (by rw [hY.out, if_pos hlt]) (by rw [hM.out, if_pos hlt]) (by rw [hD.out]), rfl⟩
  · go_wp2
    go_ret3
    exact ⟨ret_tup3 (by rw [hY.out, if_neg (by omega)]) (by rw [hM.out, if_neg (by omega)]) (by rw [hD.out]), rfl⟩
theorem since_calc (y' m' d : Int) : y' / 400 * 146097 + (y' - y' / 400 * 400) * 365 + (y' - y' / 400 * 400) / 4 - (y' - y' / 400 * 400) / 100 + ((153 * (m' - 3) + 2) / 5 + d - 1) - 719468 =
    365 * y' + y' / 4 - y' / 100 + y' / 400 + (153 * (m' - 3) + 2) / 5 + d - 1 - 719468 := by omega
set_option maxHeartbeats 1000000 in
theorem since_any (y m d : Int) (h0 : 0 ≤ y) (h2 : m ≤ 2 → 1 ≤ y) (h1 : y ≤ 9999) (hm1 : 1 ≤ m) (hm2 : m ≤ 12) (hd1 : 1 ≤ d) (hd2 : d ≤ 99) (w : World) :
    Calls Tryd.prog 42 #[.int .i64 y, .int .i64 m, .int .i64 d] w fun e w' => e = .returned (.int .i64 (sinceN y m d)) ∧ w' = w := by
  by_cases hm : m ≤ 2
  · have hv : Hid (sinceN y m d = 365 * (y - 1) + (y - 1) / 4 - (y - 1) / 100 + (y - 1) / 400 + (153 * (m + 12 - 3) + 2) / 5 + d - 1 - 719468) := by
      show _ = _; unfold sinceN; simp only [hm, if_true]
    have hc := since_calc (y - 1) (m + 12) d
    rw [← hv.out] at hc
    have Hc := Lib.hid hc; clear hc hv
    go_enter Tryd.func42, Tryd.ntmps42
    go_upto_region 4 with (fail)
    have h3 := h2 hm
    clear h2
    have bY : 0 ≤ y - 1 ∧ y - 1 ≤ 9998 := by omega
    have bM : 13 ≤ m + 12 ∧ m + 12 ≤ 14 := by omega
    generalize y - 1 = Y at *
    generalize m + 12 = M at *
    go_wp2
    go_ret
    exact ⟨ret_int (by rw [← Hc.out]), rfl⟩
  · have hv : Hid (sinceN y m d = 365 * y + y / 4 - y / 100 + y / 400 + (153 * (m - 3) + 2) / 5 + d - 1 - 719468) := by
      show _ = _; unfold sinceN; simp only [hm, if_false]
    have hc := since_calc y m d
    rw [← hv.out] at hc
    have Hc := Lib.hid hc; clear hc hv h2
    go_enter Tryd.func42, Tryd.ntmps42
    go_wp2
    go_ret
    exact ⟨ret_int (by rw [← Hc.out]), rfl⟩
/-- what date.since answers, at the year 0 too -/
def sinceP (y m d : Int) : Int := if y = 0 ∧ m ≤ 2 then (153 * (m + 9) + 2) / 5 + d - 719834 else sinceN y m d
set_option maxHeartbeats 1000000 in
theorem since_zero (m d : Int) (hm1 : 1 ≤ m) (hm2 : m ≤ 2) (hd1 : 1 ≤ d) (hd2 : d ≤ 99) (w : World) :
    Calls Tryd.prog 42 #[.int .i64 0, .int .i64 m, .int .i64 d] w fun e w' => e = .returned (.int .i64 ((153 * (m + 9) + 2) / 5 + d - 719834)) ∧ w' = w := by
  go_enter Tryd.func42, Tryd.ntmps42
  go_wp2
  go_ret
  exact ⟨ret_int (by omega), rfl⟩
theorem since_all (y m d : Int) (h0 : 0 ≤ y) (h1 : y ≤ 9999) (hm1 : 1 ≤ m) (hm2 : m ≤ 12) (hd1 : 1 ≤ d) (hd2 : d ≤ 99) (w : World) :
    Calls Tryd.prog 42 #[.int .i64 y, .int .i64 m, .int .i64 d] w fun e w' => e = .returned (.int .i64 (sinceP y m d)) ∧ w' = w := by
  by_cases hz : y = 0 ∧ m ≤ 2
  · obtain ⟨rfl, hm⟩ := hz
    have e : sinceP 0 m d = (153 * (m + 9) + 2) / 5 + d - 719834 := by unfold sinceP; rw [if_pos ⟨rfl, hm⟩]
    rw [e]
    exact since_zero m d hm1 hm hd1 hd2 w
  · have e : sinceP y m d = sinceN y m d := by unfold sinceP; rw [if_neg hz]
    rw [e]
    exact since_any y m d h0 (by omega) h1 hm1 hm2 hd1 hd2 w
set_option maxHeartbeats 400000 in
theorem day_any (t : Int) (h0 : 0 ≤ t) (h1 : t ≤ 253402300799) (w : World) :
    Calls Tryd.prog 24 #[.int .i64 t] w fun e w' => e = .returned (.int .i64 (t / 86400)) ∧ w' = w := by
  go_enter Tryd.func24, Tryd.ntmps24
  go_wp2
  go_ret
  exact ⟨rfl, rfl⟩
end Go.Proofs.YtfnckkmnncdelaaDoor
