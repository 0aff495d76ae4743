/-
  Plain laws of days: the day that so many days since 1970 is, and back.
-/
import Derived.Test.YtmjikfeaopmejaaDoorBase
namespace Go.Proofs.YtmjikfeaopmejaaDoor
/-- days ahead of a year of an era that begins in March -/
def cS (y : Nat) : Nat := 365 * y + y / 4 - y / 100
def cF (o : Nat) : Nat := o - o / 1460 + o / 36524 - o / 146096
theorem cF_mono (a b : Nat) (h : a ≤ b) (hb : b ≤ 146095) : cF a ≤ cF b := by
  unfold cF
  have e1 : a / 146096 = 0 := Nat.div_eq_of_lt (by omega)
  have e2 : b / 146096 = 0 := Nat.div_eq_of_lt (by omega)
  have h2 : a / 36524 ≤ b / 36524 := Nat.div_le_div_right h
  have h3 : a - a / 1460 ≤ b - b / 1460 := by omega
  omega
theorem cS_table : ((List.range 400).all fun y => cF (cS y) / 365 == y && cF (cS (y + 1) - 1) / 365 == y && decide (cS y < cS (y + 1))) = true := by decide +kernel
theorem cS_find (o : Nat) : ∀ n, o < cS n → ∃ y, y < n ∧ cS y ≤ o ∧ o < cS (y + 1)
  | 0, h => by simp [cS] at h
  | n + 1, h => by
    by_cases hn : o < cS n
    · obtain ⟨y, h1, h2, h3⟩ := cS_find o n hn
      exact ⟨y, by omega, h2, h3⟩
    · exact ⟨n, by omega, by omega, h⟩
theorem cS_step (a : Nat) : cS a ≤ cS (a + 1) := by unfold cS; omega
theorem cS_mono (a b : Nat) (h : a ≤ b) : cS a ≤ cS b := by
  obtain ⟨k, rfl⟩ : ∃ k, b = a + k := ⟨b - a, by omega⟩
  clear h
  induction k with
  | zero => exact Nat.le_refl _
  | succ k ih => exact Nat.le_trans ih (cS_step _)
theorem yoe_of (o y : Nat) (hy : y < 400) (h1 : cS y ≤ o) (h2 : o < cS (y + 1)) : cF o / 365 = y := by
  have ht := List.all_eq_true.1 cS_table y (by simpa using hy)
  simp only [Bool.and_eq_true, beq_iff_eq, decide_eq_true_eq] at ht
  have hm : cS (y + 1) ≤ cS 400 := cS_mono _ _ (by omega)
  have h400 : cS 400 = 146096 := by decide
  have a1 := cF_mono (cS y) o h1 (by omega)
  have a2 := cF_mono o (cS (y + 1) - 1) (by omega) (by omega)
  omega
theorem yoe_spec (o : Nat) (h : o < 146097) : cF o / 365 ≤ 399 ∧ cS (cF o / 365) ≤ o ∧ (o < cS (cF o / 365 + 1) ∨ (cF o / 365 = 399 ∧ o = 146096)) := by
  by_cases h1 : o = 146096
  · subst h1; decide
  · have h400 : cS 400 = 146096 := by decide
    obtain ⟨y, hy, a1, a2⟩ := cS_find o 400 (by omega)
    rw [yoe_of o y hy a1 a2]
    exact ⟨by omega, a1, .inl a2⟩
def leapN (y : Int) : Bool := (y % 4 == 0) && ((y % 100 != 0) || (y % 400 == 0))
/-- the days of a month -/
def dimN (y m : Int) : Int := if m = 2 then (if leapN y then 29 else 28) else if m = 4 ∨ m = 6 ∨ m = 9 ∨ m = 11 then 30 else 31
theorem leap_table : ((List.range 400).all fun y => decide (cS (y + 1) ≤ cS y + 365) || leapN ((y : Int) + 1)) = true := by decide +kernel
theorem leap_back : ((List.range 400).all fun y => !leapN ((y : Int) + 1) || decide (cS y + 365 < cS (y + 1)) || y == 399) = true := by decide +kernel
theorem cS_year (a : Nat) : cS a + 365 ≤ cS (a + 1) := by unfold cS; omega
/-- month and day of a day of such a year -/
theorem mp_table : ((List.range 366).all fun d => decide ((5 * d + 2) / 153 ≤ 11) && decide ((153 * ((5 * d + 2) / 153) + 2) / 5 ≤ d) &&
    decide (d + 1 - (153 * ((5 * d + 2) / 153) + 2) / 5 ≤ (if (5 * d + 2) / 153 = 11 then 29 else if (5 * d + 2) / 153 = 1 ∨ (5 * d + 2) / 153 = 3 ∨ (5 * d + 2) / 153 = 6 ∨ (5 * d + 2) / 153 = 8 then 30 else 31)) &&
    decide ((5 * d + 2) / 153 = 11 → d + 1 - (153 * ((5 * d + 2) / 153) + 2) / 5 = 29 → d = 365)) = true := by decide +kernel
theorem mp_back : ((List.range 12).all fun m => (List.range 31).all fun d => !(decide (d < (if m = 11 then 29 else if m = 1 ∨ m = 3 ∨ m = 6 ∨ m = 8 then 30 else 31))) || ((5 * ((153 * m + 2) / 5 + d) + 2) / 153 == m && decide ((153 * m + 2) / 5 + d ≤ 365) && decide ((153 * m + 2) / 5 + d = 365 → m = 11 ∧ d = 28))) = true := by decide +kernel
/-- days since 1970 of a day -/
def sinceN (y m d : Int) : Int :=
  let y' := if m ≤ 2 then y - 1 else y
  let m' := if m ≤ 2 then m + 12 else m
  365 * y' + y' / 4 - y' / 100 + y' / 400 + (153 * (m' - 3) + 2) / 5 + d - 1 - 719468
def Valid (y m d : Int) : Prop := 1 ≤ m ∧ m ≤ 12 ∧ 1 ≤ d ∧ d ≤ dimN y m
theorem era_split (e q : Int) (h0 : 0 ≤ q) (h1 : q ≤ 399) : 365 * (q + e * 400) + (q + e * 400) / 4 - (q + e * 400) / 100 + (q + e * 400) / 400 = 146097 * e + (365 * q + q / 4 - q / 100) := by omega
/-- the steps of date.civil -/
def cEra (n : Int) : Int := (n + 719468) / 146097
def cOf (n : Int) : Int := n + 719468 - cEra n * 146097
def cYoe (n : Int) : Int := (cOf n - cOf n / 1460 + cOf n / 36524 - cOf n / 146096) / 365
def cDay (n : Int) : Int := cOf n - (365 * cYoe n + cYoe n / 4 - cYoe n / 100)
def cMp (n : Int) : Int := (5 * cDay n + 2) / 153
def civY (n : Int) : Int := if cMp n < 10 then cYoe n + cEra n * 400 else cYoe n + cEra n * 400 + 1
def civM (n : Int) : Int := if cMp n < 10 then cMp n + 3 else cMp n - 9
def civD (n : Int) : Int := cDay n - (153 * cMp n + 2) / 5 + 1
theorem cOf_nat (n : Int) : ∃ o : Nat, cOf n = o ∧ o < 146097 := by
  refine ⟨(cOf n).toNat, ?_, ?_⟩ <;> unfold cOf cEra <;> omega
theorem cYoe_nat (n : Int) (o : Nat) (ho : cOf n = o) (h : o < 146097) : cYoe n = ((cF o / 365 : Nat) : Int) := by
  unfold cYoe cF
  rw [ho]
  have h1 : o / 1460 ≤ o := Nat.div_le_self _ _
  have h2 : o / 146096 ≤ o - o / 1460 + o / 36524 := by omega
  omega
/-- what the steps come to: the year of the era and the day of that year -/
theorem day_spec (n : Int) : ∃ y d : Nat, cYoe n = y ∧ cDay n = d ∧ y ≤ 399 ∧ d ≤ 365 ∧ (d = 365 → leapN ((y : Int) + 1) = true) ∧ cOf n = (cS y : Int) + d := by
  obtain ⟨o, ho, hlt⟩ := cOf_nat n
  have hy := cYoe_nat n o ho hlt
  obtain ⟨h1, h2, h3⟩ := yoe_spec o hlt
  generalize cF o / 365 = y at *
  have hd : cDay n = ((o - cS y : Nat) : Int) := by
    unfold cDay
    rw [ho, hy]
    unfold cS at h2 ⊢
    omega
  refine ⟨y, o - cS y, hy, hd, h1, ?_, ?_, by rw [ho]; omega⟩
  · rcases h3 with h3 | ⟨rfl, rfl⟩
    · unfold cS at *; omega
    · decide
  · intro h365
    rcases h3 with h3 | ⟨rfl, rfl⟩
    · have ht := List.all_eq_true.1 leap_table y (by simp; omega)
      rw [Bool.or_eq_true, decide_eq_true_eq] at ht
      rcases ht with ht | ht
      · omega
      · exact ht
    · decide
theorem cDay_bd (n : Int) : 0 ≤ cDay n ∧ cDay n ≤ 365 := by
  obtain ⟨y, d, _, hd, _, h, _⟩ := day_spec n
  omega
theorem cMp_bd (n : Int) : 0 ≤ cMp n ∧ cMp n ≤ 11 := by
  have := cDay_bd n
  unfold cMp; omega
theorem leap_era (y e : Int) : leapN (y + e * 400) = leapN y := by
  unfold leapN
  have h1 : (y + e * 400) % 4 = y % 4 := by omega
  have h2 : (y + e * 400) % 100 = y % 100 := by omega
  have h3 : (y + e * 400) % 400 = y % 400 := by omega
  rw [h1, h2, h3]
theorem civ_valid (n : Int) : Valid (civY n) (civM n) (civD n) := by
  obtain ⟨y, d, hy, hd, hy1, hd1, hl, _⟩ := day_spec n
  have ht := List.all_eq_true.1 mp_table d (by simp; omega)
  simp only [Bool.and_eq_true, decide_eq_true_eq] at ht
  obtain ⟨⟨⟨t1, t2⟩, t3⟩, t4⟩ := ht
  have hm : cMp n = (((5 * d + 2) / 153 : Nat) : Int) := by unfold cMp; rw [hd]; omega
  have hD : civD n = ((d + 1 - (153 * ((5 * d + 2) / 153) + 2) / 5 : Nat) : Int) := by unfold civD; rw [hd, hm]; omega
  have hle := leap_era ((y : Int) + 1) (cEra n)
  generalize (5 * d + 2) / 153 = m at *
  generalize hq : d + 1 - (153 * m + 2) / 5 = q at *
  unfold Valid civY civM
  rw [hm, hD, hy]
  have hq1 : 1 ≤ q := by omega
  unfold dimN
  by_cases c1 : (m : Int) < 10
  · rw [if_pos c1, if_pos c1, if_neg (by omega)]
    refine ⟨by omega, by omega, by omega, ?_⟩
    rw [if_neg (by omega)] at t3
    split at t3 <;> split <;> omega
  · rw [if_neg c1, if_neg c1]
    refine ⟨by omega, by omega, by omega, ?_⟩
    by_cases c2 : m = 11
    · subst c2
      rw [if_pos rfl] at t3
      rw [if_pos (by omega)]
      by_cases c3 : q = 29
      · have := hl (t4 rfl c3)
        rw [show (y : Int) + cEra n * 400 + 1 = (y : Int) + 1 + cEra n * 400 from by omega, hle, this]
        simp; omega
      · split <;> omega
    · rw [if_neg c2] at t3
      rw [if_neg (by omega)]
      split at t3 <;> split <;> omega
theorem since_civ (n : Int) : sinceN (civY n) (civM n) (civD n) = n := by
  obtain ⟨y, d, hy, hd, hy1, hd1, _, ho⟩ := day_spec n
  have hb := cMp_bd n
  have he := era_split (cEra n) (y : Int) (by omega) (by omega)
  have hS : (cS y : Int) = 365 * (y : Int) + (y : Int) / 4 - (y : Int) / 100 := by unfold cS; omega
  unfold cOf at ho
  unfold sinceN civY civM civD
  rw [hd, hy]
  generalize cMp n = m at *
  generalize cEra n = e at *
  by_cases c1 : m < 10
  · simp only [c1, if_true]
    rw [if_neg (by omega), if_neg (by omega), show m + 3 - 3 = m from by omega]
    omega
  · simp only [c1, if_false]
    rw [if_pos (by omega), if_pos (by omega), show m - 9 + 12 - 3 = m from by omega, show (y : Int) + e * 400 + 1 - 1 = (y : Int) + e * 400 from by omega]
    omega
theorem civ_since (y m d : Int) (h : Valid y m d) : civY (sinceN y m d) = y ∧ civM (sinceN y m d) = m ∧ civD (sinceN y m d) = d := by
  obtain ⟨h1, h2, h3, h4⟩ := h
  -- the year and the month that begin in March
  obtain ⟨y', mp, hy', hmp, hmp11, hdef⟩ : ∃ (y' : Int) (mp : Nat), y' = (if m ≤ 2 then y - 1 else y) ∧ (mp : Int) = (if m ≤ 2 then m + 9 else m - 3) ∧ mp ≤ 11 ∧
      sinceN y m d = 365 * y' + y' / 4 - y' / 100 + y' / 400 + (153 * (mp : Int) + 2) / 5 + d - 1 - 719468 := by
    refine ⟨if m ≤ 2 then y - 1 else y, (if m ≤ 2 then m + 9 else m - 3).toNat, rfl, ?_, ?_, ?_⟩
    · split <;> omega
    · split <;> omega
    · unfold sinceN
      split
      · rw [show (((m + 9).toNat : Nat) : Int) = m + 12 - 3 from by omega]
      · rw [show (((m - 3).toNat : Nat) : Int) = m - 3 from by omega]
  obtain ⟨e, q, hq0, hq1, hye⟩ : ∃ e q : Int, 0 ≤ q ∧ q ≤ 399 ∧ y' = q + e * 400 := ⟨y' / 400, y' % 400, by omega, by omega, by omega⟩
  have hes := era_split e q hq0 hq1
  rw [← hye] at hes
  obtain ⟨dn, hdn⟩ : ∃ dn : Nat, d = (dn : Int) + 1 := ⟨(d - 1).toNat, by omega⟩
  obtain ⟨qn, rfl⟩ : ∃ qn : Nat, q = qn := ⟨q.toNat, by omega⟩
  have hlim : dn < (if mp = 11 then 29 else if mp = 1 ∨ mp = 3 ∨ mp = 6 ∨ mp = 8 then 30 else 31) := by
    unfold dimN at h4
    by_cases c : m ≤ 2
    · rw [if_pos c] at hmp
      by_cases c2 : m = 2
      · rw [if_pos c2] at h4
        rw [if_pos (by omega)]
        split at h4 <;> omega
      · rw [if_neg c2, if_neg (by omega)] at h4
        rw [if_neg (by omega), if_neg (by omega)]; omega
    · rw [if_neg c] at hmp
      rw [if_neg (by omega)] at h4
      rw [if_neg (by omega)]
      split at h4 <;> split <;> omega
  have hlt : dn < 31 := by
    split at hlim
    · omega
    · split at hlim <;> omega
  have hb := List.all_eq_true.1 (List.all_eq_true.1 mp_back mp (by simp; omega)) dn (by simp; omega)
  rw [decide_eq_true hlim] at hb
  simp only [Bool.not_true, Bool.false_or, Bool.and_eq_true, beq_iff_eq, decide_eq_true_eq] at hb
  obtain ⟨⟨b1, b2⟩, b3⟩ := hb
  generalize hdoy : (153 * mp + 2) / 5 + dn = doy at *
  have hn : sinceN y m d + 719468 = 146097 * e + ((cS qn : Nat) : Int) + (doy : Int) := by
    rw [hdef]; unfold cS; omega
  have hSb : cS qn + doy < 146097 ∧ (cS qn + doy < cS (qn + 1) ∨ (qn = 399 ∧ cS qn + doy = 146096)) := by
    by_cases c : doy = 365
    · obtain ⟨rfl, rfl⟩ := b3 c
      have hl : leapN ((qn : Int) + 1) = true := by
        have hm2 : m = 2 := by split at hmp <;> omega
        rw [if_pos (by omega)] at hy'
        unfold dimN at h4
        rw [if_pos hm2] at h4
        have hyq : y = (qn : Int) + 1 + e * 400 := by omega
        rw [← leap_era ((qn : Int) + 1) e, ← hyq]
        split at h4
        · assumption
        · omega
      have ht := List.all_eq_true.1 leap_back qn (by simp; omega)
      rw [hl] at ht
      simp only [Bool.not_true, Bool.false_or, Bool.or_eq_true, decide_eq_true_eq, beq_iff_eq] at ht
      have hm := cS_mono (qn + 1) 400 (by omega)
      have h400 : cS 400 = 146096 := by decide
      rcases ht with ht | rfl
      · omega
      · have h399 : cS 399 = 145731 := by decide
        omega
    · have h1 := cS_year qn
      have hm := cS_mono (qn + 1) 400 (by omega)
      have h400 : cS 400 = 146096 := by decide
      omega
  have hE : cEra (sinceN y m d) = e := by unfold cEra; omega
  have hO : cOf (sinceN y m d) = ((cS qn + doy : Nat) : Int) := by unfold cOf; rw [hE]; omega
  have hY : cYoe (sinceN y m d) = (qn : Int) := by
    rw [cYoe_nat _ _ hO hSb.1]
    rcases hSb.2 with h | ⟨rfl, h⟩
    · rw [yoe_of _ qn (by omega) (by omega) h]
    · rw [h]; decide
  have hD : cDay (sinceN y m d) = (doy : Int) := by unfold cDay; rw [hO, hY]; unfold cS; omega
  have hM : cMp (sinceN y m d) = (mp : Int) := by unfold cMp; rw [hD]; omega
  unfold civY civM civD
  rw [hE, hY, hD, hM]
  refine ⟨?_, ?_, by omega⟩
  · split at hy' <;> split at hmp <;> split <;> omega
  · split at hmp <;> split <;> omega
end Go.Proofs.YtmjikfeaopmejaaDoor
