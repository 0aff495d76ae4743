/-
  The program's names are the document's (plain values; lines of NameNorms).
-/
import Derived.Test.YtmjikfeaopmejaaGreatDoorBwc
import Derived.Test.YtmjikfeaopmejaaGreatDoorChecked
import Derived.Deep.Cut
import Derived.IntWalk
import Derived.Lib.AppendIntMem
import Derived.Lib.AppendStr
namespace Go.Proofs.YtmjikfeaopmejaaGreatDoor
theorem scan_ok : ∀ l : List UInt8, nameScan true l = nameOK l ∧ nameScan false l = (match splitC 47 l with | [] => true | p :: ps => p.all plainB && ps.all okPartL)
  | [] => by constructor <;> rfl
  | c :: l => by
    obtain ⟨ih1, ih2⟩ := scan_ok l
    unfold nameOK at ih1 ⊢
    by_cases h : c = 47
    · subst h
      rw [scan_slash _ _ _ rfl, scan_slash _ _ _ rfl]
      have e : splitC 47 (47 :: l) = [] :: splitC 47 l := by rw [splitC]; simp
      rw [e]
      exact ⟨rfl, by simp [ih1]⟩
    · rw [scan_other _ _ _ h, scan_other _ _ _ h, ih2]
      have e : splitC 47 (c :: l) = (match splitC 47 l with | [] => [[c]] | p :: ps => (c :: p) :: ps) := by rw [splitC, if_neg h]; cases splitC 47 l <;> rfl
      rw [e]
      cases splitC 47 l with
      | nil => simp [okPartL]
      | cons p ps => simp [okPartL, Bool.and_assoc]
theorem byte_all (P : UInt8 → Bool) (h : (List.range 256).all (fun n => P (UInt8.ofNat n)) = true) (c : UInt8) : P c = true := by
  have := List.all_eq_true.1 h c.toNat (by simp; exact c.toNat_lt)
  simpa using this
theorem upper_small (c : UInt8) : (((Lib.upperB c == 73) == (smallB c == 105)) && ((Lib.upperB c == 78) == (smallB c == 110)) && ((Lib.upperB c == 66) == (smallB c == 98)) && ((Lib.upperB c == 79) == (smallB c == 111)) && ((Lib.upperB c == 88) == (smallB c == 120))) = true :=
  byte_all (fun c => ((Lib.upperB c == 73) == (smallB c == 105)) && ((Lib.upperB c == 78) == (smallB c == 110)) && ((Lib.upperB c == 66) == (smallB c == 98)) && ((Lib.upperB c == 79) == (smallB c == 111)) && ((Lib.upperB c == 88) == (smallB c == 120))) (by decide +kernel) c
theorem inbox_same (l : List UInt8) : (Lib.toUpperA l == [73, 78, 66, 79, 88]) = alikeL l [105, 110, 98, 111, 120] := by
  unfold Lib.toUpperA alikeL
  match l with
  | [] => rfl
  | [a] => simp
  | [a, b] => simp
  | [a, b, c] => simp
  | [a, b, c, d] => simp
  | a :: b :: c :: d :: e :: f :: l => simp
  | [a, b, c, d, e] =>
    have ha := upper_small a
    have hb := upper_small b
    have hc := upper_small c
    have hd := upper_small d
    have he := upper_small e
    simp only [Bool.and_eq_true, beq_iff_eq] at ha hb hc hd he
    have k1 : smallB 105 = 105 := by decide
    have k2 : smallB 110 = 110 := by decide
    have k3 : smallB 98 = 98 := by decide
    have k4 : smallB 111 = 111 := by decide
    have k5 : smallB 120 = 120 := by decide
    simp only [List.map_cons, List.map_nil, k1, k2, k3, k4, k5, List.cons_beq_cons]
    rw [ha.1.1.1.1, hb.1.1.1.2, hc.1.1.2, hd.1.2, he.2]
    rfl
theorem norm_same (s : ByteArray) : normV s = refNormV s := by
  unfold normV refNormV
  rw [(scan_ok _).1, inbox_same]
  by_cases h : 60 < s.size
  · rw [if_pos h, show decide (s.size ≤ 60) = false from by simp; omega]; simp
  · rw [if_neg h, show decide (s.size ≤ 60) = true from by simp; omega]; simp
theorem norm_again (s : ByteArray) (h : (normV s).2 = true) : normV (normV s).1 = ((normV s).1, true) := by
  unfold normV at h ⊢
  by_cases h1 : 60 < s.size
  · rw [if_pos h1] at h; cases h
  · rw [if_neg h1] at h ⊢
    by_cases h2 : nameOK s.data.toList = true
    · rw [if_pos h2] at h ⊢
      by_cases h3 : (Lib.toUpperA s.data.toList == [73, 78, 66, 79, 88]) = true
      · rw [if_pos h3]
        decide +kernel
      · rw [if_neg h3]
        show (if 60 < s.size then _ else _) = _
        rw [if_neg h1, if_pos h2, if_neg h3]
    · rw [if_neg h2] at h; cases h
theorem normV_size (s : ByteArray) : (normV s).1.size ≤ 60 := by
  unfold normV
  split
  · decide
  · split
    · split
      · decide
      · simp; omega
    · decide
end Go.Proofs.YtmjikfeaopmejaaGreatDoor
/-
  Walk: is a text a name, as it should be (the document's)?
-/
namespace Go.Proofs.YtmjikfeaopmejaaGreatDoor
open Go.RowKit
def nameIs (s : ByteArray) : Bool := (normV s).2 && ((normV s).1.toList == s.toList)
theorem nameIs_size {s : ByteArray} (h : nameIs s = true) : s.size ≤ 60 := by
  unfold nameIs at h
  simp only [Bool.and_eq_true, beq_iff_eq] at h
  have h2 := h.2
  rw [ByteArray.toList_eq, ByteArray.toList_eq] at h2
  have h3 := normV_size s
  have : (normV s).1.size = s.size := by
    have := congrArg List.length h2
    simpa using this
  omega
/-- the table's cell that the search reads -/
def MaxCell (w : World) : Prop := ∃ m, w.cell? ⟨0, 0, none⟩ = some (.int .i64 m)
theorem MaxCell.below {w w' : World} {B : Nat} (h : MaxCell w) (hg : 0 < B) (hb : Below B w w') : MaxCell w' := by
  obtain ⟨m, hm⟩ := h
  exact ⟨m, (hb.cell hg).trans hm⟩
set_option maxRecDepth 100000 in
theorem refNamed_any (s : ByteArray) (hs : s.size ≤ 9223372036854775807) (w : World) :
    Calls Tryz.prog 27 #[.string s] w fun e w' => e = .returned (.bool (nameIs s)) ∧ Below w.heap.size w w' := by
  have R := Lib.hid (refNorm_any s hs w)
  rw [← norm_same] at R
  unfold nameIs
  generalize (normV s).1 = t at *
  generalize (normV s).2 = ok at *
  go_enter Tryz.func27, Tryz.ntmps27
  go_wp2_with fail
  refine R.out.mono ?_
  rintro e w1 ⟨rfl, n, rfl⟩
  have hb := below_drewN (Below.refl w.heap.size w) n
  generalize w.drewN n = w1 at *
  cases ok with
  | true =>
    go_wp2
    go_ret
    exact ⟨rfl, hb⟩
  | false =>
    go_wp2
    go_ret
    exact ⟨rfl, hb⟩
end Go.Proofs.YtmjikfeaopmejaaGreatDoor
/-
  Plain laws of days: the day that so many days since 1970 is, and back.
-/
namespace Go.Proofs.YtmjikfeaopmejaaGreatDoor
/-- days ahead of a year of an era that begins in March -/
def cS (y : Nat) : Nat := 365 * y + y / 4 - y / 100
def cF (o : Nat) : Nat := o - o / 1460 + o / 36524 - o / 146096
theorem cF_mono (a b : Nat) (h : a ≤ b) (hb : b ≤ 146095) : cF a ≤ cF b := by
  unfold cF
  have e1 : a / 146096 = 0 := Nat.div_eq_of_lt (by omega)
  have e2 : b / 146096 = 0 := Nat.div_eq_of_lt (by omega)
  have h2 : a / 36524 ≤ b / 36524 := Nat.div_le_div_right h
  have h3 : a - a / 1460 ≤ b - b / 1460 := by omega
  omega
theorem cS_table : ((List.range 400).all fun y => cF (cS y) / 365 == y && cF (cS (y + 1) - 1) / 365 == y && decide (cS y < cS (y + 1))) = true := by decide +kernel
theorem cS_find (o : Nat) : ∀ n, o < cS n → ∃ y, y < n ∧ cS y ≤ o ∧ o < cS (y + 1)
  | 0, h => by simp [cS] at h
  | n + 1, h => by
    by_cases hn : o < cS n
    · obtain ⟨y, h1, h2, h3⟩ := cS_find o n hn
      exact ⟨y, by omega, h2, h3⟩
    · exact ⟨n, by omega, by omega, h⟩
theorem cS_step (a : Nat) : cS a ≤ cS (a + 1) := by unfold cS; omega
theorem cS_mono (a b : Nat) (h : a ≤ b) : cS a ≤ cS b := by
  obtain ⟨k, rfl⟩ : ∃ k, b = a + k := ⟨b - a, by omega⟩
  clear h
  induction k with
  | zero => exact Nat.le_refl _
  | succ k ih => exact Nat.le_trans ih (cS_step _)
theorem yoe_of (o y : Nat) (hy : y < 400) (h1 : cS y ≤ o) (h2 : o < cS (y + 1)) : cF o / 365 = y := by
  have ht := List.all_eq_true.1 cS_table y (by simpa using hy)
  simp only [Bool.and_eq_true, beq_iff_eq, decide_eq_true_eq] at ht
  have hm : cS (y + 1) ≤ cS 400 := cS_mono _ _ (by omega)
  have h400 : cS 400 = 146096 := by decide
  have a1 := cF_mono (cS y) o h1 (by omega)
  have a2 := cF_mono o (cS (y + 1) - 1) (by omega) (by omega)
  omega
theorem yoe_spec (o : Nat) (h : o < 146097) : cF o / 365 ≤ 399 ∧ cS (cF o / 365) ≤ o ∧ (o < cS (cF o / 365 + 1) ∨ (cF o / 365 = 399 ∧ o = 146096)) := by
  by_cases h1 : o = 146096
  · subst h1; decide
  · have h400 : cS 400 = 146096 := by decide
    obtain ⟨y, hy, a1, a2⟩ := cS_find o 400 (by omega)
    rw [yoe_of o y hy a1 a2]
    exact ⟨by omega, a1, .inl a2⟩
def leapN (y : Int) : Bool := (y % 4 == 0) && ((y % 100 != 0) || (y % 400 == 0))
/-- the days of a month -/
def dimN (y m : Int) : Int := if m = 2 then (if leapN y then 29 else 28) else if m = 4 ∨ m = 6 ∨ m = 9 ∨ m = 11 then 30 else 31
theorem leap_table : ((List.range 400).all fun y => decide (cS (y + 1) ≤ cS y + 365) || leapN ((y : Int) + 1)) = true := by decide +kernel
theorem leap_back : ((List.range 400).all fun y => !leapN ((y : Int) + 1) || decide (cS y + 365 < cS (y + 1)) || y == 399) = true := by decide +kernel
theorem cS_year (a : Nat) : cS a + 365 ≤ cS (a + 1) := by unfold cS; omega
/-- month and day of a day of such a year -/
theorem mp_table : ((List.range 366).all fun d => decide ((5 * d + 2) / 153 ≤ 11) && decide ((153 * ((5 * d + 2) / 153) + 2) / 5 ≤ d) &&
    decide (d + 1 - (153 * ((5 * d + 2) / 153) + 2) / 5 ≤ (if (5 * d + 2) / 153 = 11 then 29 else if (5 * d + 2) / 153 = 1 ∨ (5 * d + 2) / 153 = 3 ∨ (5 * d + 2) / 153 = 6 ∨ (5 * d + 2) / 153 = 8 then 30 else 31)) &&
    decide ((5 * d + 2) / 153 = 11 → d + 1 - (153 * ((5 * d + 2) / 153) + 2) / 5 = 29 → d = 365)) = true := by decide +kernel
theorem mp_back : ((List.range 12).all fun m => (List.range 31).all fun d => !(decide (d < (if m = 11 then 29 else if m = 1 ∨ m = 3 ∨ m = 6 ∨ m = 8 then 30 else 31))) || ((5 * ((153 * m + 2) / 5 + d) + 2) / 153 == m && decide ((153 * m + 2) / 5 + d ≤ 365) && decide ((153 * m + 2) / 5 + d = 365 → m = 11 ∧ d = 28))) = true := by decide +kernel
/-- days since 1970 of a day -/
def sinceN (y m d : Int) : Int :=
  let y' := if m ≤ 2 then y - 1 else y
  let m' := if m ≤ 2 then m + 12 else m
  365 * y' + y' / 4 - y' / 100 + y' / 400 + (153 * (m' - 3) + 2) / 5 + d - 1 - 719468
def Valid (y m d : Int) : Prop := 1 ≤ m ∧ m ≤ 12 ∧ 1 ≤ d ∧ d ≤ dimN y m
theorem era_split (e q : Int) (h0 : 0 ≤ q) (h1 : q ≤ 399) : 365 * (q + e * 400) + (q + e * 400) / 4 - (q + e * 400) / 100 + (q + e * 400) / 400 = 146097 * e + (365 * q + q / 4 - q / 100) := by omega
/-- the steps of date.civil -/
def cEra (n : Int) : Int := (n + 719468) / 146097
def cOf (n : Int) : Int := n + 719468 - cEra n * 146097
def cYoe (n : Int) : Int := (cOf n - cOf n / 1460 + cOf n / 36524 - cOf n / 146096) / 365
def cDay (n : Int) : Int := cOf n - (365 * cYoe n + cYoe n / 4 - cYoe n / 100)
def cMp (n : Int) : Int := (5 * cDay n + 2) / 153
def civY (n : Int) : Int := if cMp n < 10 then cYoe n + cEra n * 400 else cYoe n + cEra n * 400 + 1
def civM (n : Int) : Int := if cMp n < 10 then cMp n + 3 else cMp n - 9
def civD (n : Int) : Int := cDay n - (153 * cMp n + 2) / 5 + 1
theorem cOf_nat (n : Int) : ∃ o : Nat, cOf n = o ∧ o < 146097 := by
  refine ⟨(cOf n).toNat, ?_, ?_⟩ <;> unfold cOf cEra <;> omega
theorem cYoe_nat (n : Int) (o : Nat) (ho : cOf n = o) (h : o < 146097) : cYoe n = ((cF o / 365 : Nat) : Int) := by
  unfold cYoe cF
  rw [ho]
  have h1 : o / 1460 ≤ o := Nat.div_le_self _ _
  have h2 : o / 146096 ≤ o - o / 1460 + o / 36524 := by omega
  omega
/-- what the steps come to: the year of the era and the day of that year -/
theorem day_spec (n : Int) : ∃ y d : Nat, cYoe n = y ∧ cDay n = d ∧ y ≤ 399 ∧ d ≤ 365 ∧ (d = 365 → leapN ((y : Int) + 1) = true) ∧ cOf n = (cS y : Int) + d := by
  obtain ⟨o, ho, hlt⟩ := cOf_nat n
  have hy := cYoe_nat n o ho hlt
  obtain ⟨h1, h2, h3⟩ := yoe_spec o hlt
  generalize cF o / 365 = y at *
  have hd : cDay n = ((o - cS y : Nat) : Int) := by
    unfold cDay
    rw [ho, hy]
    unfold cS at h2 ⊢
    omega
  refine ⟨y, o - cS y, hy, hd, h1, ?_, ?_, by rw [ho]; omega⟩
  · rcases h3 with h3 | ⟨rfl, rfl⟩
    · unfold cS at *; omega
    · decide
  · intro h365
    rcases h3 with h3 | ⟨rfl, rfl⟩
    · have ht := List.all_eq_true.1 leap_table y (by simp; omega)
      rw [Bool.or_eq_true, decide_eq_true_eq] at ht
      rcases ht with ht | ht
      · omega
      · exact ht
    · decide
theorem cDay_bd (n : Int) : 0 ≤ cDay n ∧ cDay n ≤ 365 := by
  obtain ⟨y, d, _, hd, _, h, _⟩ := day_spec n
  omega
theorem cMp_bd (n : Int) : 0 ≤ cMp n ∧ cMp n ≤ 11 := by
  have := cDay_bd n
  unfold cMp; omega
theorem leap_era (y e : Int) : leapN (y + e * 400) = leapN y := by
  unfold leapN
  have h1 : (y + e * 400) % 4 = y % 4 := by omega
  have h2 : (y + e * 400) % 100 = y % 100 := by omega
  have h3 : (y + e * 400) % 400 = y % 400 := by omega
  rw [h1, h2, h3]
theorem civ_valid (n : Int) : Valid (civY n) (civM n) (civD n) := by
  obtain ⟨y, d, hy, hd, hy1, hd1, hl, _⟩ := day_spec n
  have ht := List.all_eq_true.1 mp_table d (by simp; omega)
  simp only [Bool.and_eq_true, decide_eq_true_eq] at ht
  obtain ⟨⟨⟨t1, t2⟩, t3⟩, t4⟩ := ht
  have hm : cMp n = (((5 * d + 2) / 153 : Nat) : Int) := by unfold cMp; rw [hd]; omega
  have hD : civD n = ((d + 1 - (153 * ((5 * d + 2) / 153) + 2) / 5 : Nat) : Int) := by unfold civD; rw [hd, hm]; omega
  have hle := leap_era ((y : Int) + 1) (cEra n)
  generalize (5 * d + 2) / 153 = m at *
  generalize hq : d + 1 - (153 * m + 2) / 5 = q at *
  unfold Valid civY civM
  rw [hm, hD, hy]
  have hq1 : 1 ≤ q := by omega
  unfold dimN
  by_cases c1 : (m : Int) < 10
  · rw [if_pos c1, if_pos c1, if_neg (by omega)]
    refine ⟨by omega, by omega, by omega, ?_⟩
    rw [if_neg (by omega)] at t3
    split at t3 <;> split <;> omega
  · rw [if_neg c1, if_neg c1]
    refine ⟨by omega, by omega, by omega, ?_⟩
    by_cases c2 : m = 11
    · subst c2
      rw [if_pos rfl] at t3
      rw [if_pos (by omega)]
      by_cases c3 : q = 29
      · have := hl (t4 rfl c3)
        rw [show (y : Int) + cEra n * 400 + 1 = (y : Int) + 1 + cEra n * 400 from by omega, hle, this]
        simp; omega
      · split <;> omega
    · rw [if_neg c2] at t3
      rw [if_neg (by omega)]
      split at t3 <;> split <;> omega
theorem since_civ (n : Int) : sinceN (civY n) (civM n) (civD n) = n := by
  obtain ⟨y, d, hy, hd, hy1, hd1, _, ho⟩ := day_spec n
  have hb := cMp_bd n
  have he := era_split (cEra n) (y : Int) (by omega) (by omega)
  have hS : (cS y : Int) = 365 * (y : Int) + (y : Int) / 4 - (y : Int) / 100 := by unfold cS; omega
  unfold cOf at ho
  unfold sinceN civY civM civD
  rw [hd, hy]
  generalize cMp n = m at *
  generalize cEra n = e at *
  by_cases c1 : m < 10
  · simp only [c1, if_true]
    rw [if_neg (by omega), if_neg (by omega), show m + 3 - 3 = m from by omega]
    omega
  · simp only [c1, if_false]
    rw [if_pos (by omega), if_pos (by omega), show m - 9 + 12 - 3 = m from by omega, show (y : Int) + e * 400 + 1 - 1 = (y : Int) + e * 400 from by omega]
    omega
theorem civ_since (y m d : Int) (h : Valid y m d) : civY (sinceN y m d) = y ∧ civM (sinceN y m d) = m ∧ civD (sinceN y m d) = d := by
  obtain ⟨h1, h2, h3, h4⟩ := h
  -- the year and the month that begin in March
  obtain ⟨y', mp, hy', hmp, hmp11, hdef⟩ : ∃ (y' : Int) (mp : Nat), y' = (if m ≤ 2 then y - 1 else y) ∧ (mp : Int) = (if m ≤ 2 then m + 9 else m - 3) ∧ mp ≤ 11 ∧
      sinceN y m d = 365 * y' + y' / 4 - y' / 100 + y' / 400 + (153 * (mp : Int) + 2) / 5 + d - 1 - 719468 := by
    refine ⟨if m ≤ 2 then y - 1 else y, (if m ≤ 2 then m + 9 else m - 3).toNat, rfl, ?_, ?_, ?_⟩
    · split <;> omega
    · split <;> omega
    · unfold sinceN
      split
      · rw [show (((m + 9).toNat : Nat) : Int) = m + 12 - 3 from by omega]
      · rw [show (((m - 3).toNat : Nat) : Int) = m - 3 from by omega]
  obtain ⟨e, q, hq0, hq1, hye⟩ : ∃ e q : Int, 0 ≤ q ∧ q ≤ 399 ∧ y' = q + e * 400 := ⟨y' / 400, y' % 400, by omega, by omega, by omega⟩
  have hes := era_split e q hq0 hq1
  rw [← hye] at hes
  obtain ⟨dn, hdn⟩ : ∃ dn : Nat, d = (dn : Int) + 1 := ⟨(d - 1).toNat, by omega⟩
  obtain ⟨qn, rfl⟩ : ∃ qn : Nat, q = qn := ⟨q.toNat, by omega⟩
  have hlim : dn < (if mp = 11 then 29 else if mp = 1 ∨ mp = 3 ∨ mp = 6 ∨ mp = 8 then 30 else 31) := by
    unfold dimN at h4
    by_cases c : m ≤ 2
    · rw [if_pos c] at hmp
      by_cases c2 : m = 2
      · rw [if_pos c2] at h4
        rw [if_pos (by omega)]
        split at h4 <;> omega
      · rw [if_neg c2, if_neg (by omega)] at h4
        rw [if_neg (by omega), if_neg (by omega)]; omega
    · rw [if_neg c] at hmp
      rw [if_neg (by omega)] at h4
      rw [if_neg (by omega)]
      split at h4 <;> split <;> omega
  have hlt : dn < 31 := by
    split at hlim
    · omega
    · split at hlim <;> omega
  have hb := List.all_eq_true.1 (List.all_eq_true.1 mp_back mp (by simp; omega)) dn (by simp; omega)
  rw [decide_eq_true hlim] at hb
  simp only [Bool.not_true, Bool.false_or, Bool.and_eq_true, beq_iff_eq, decide_eq_true_eq] at hb
  obtain ⟨⟨b1, b2⟩, b3⟩ := hb
  generalize hdoy : (153 * mp + 2) / 5 + dn = doy at *
  have hn : sinceN y m d + 719468 = 146097 * e + ((cS qn : Nat) : Int) + (doy : Int) := by
    rw [hdef]; unfold cS; omega
  have hSb : cS qn + doy < 146097 ∧ (cS qn + doy < cS (qn + 1) ∨ (qn = 399 ∧ cS qn + doy = 146096)) := by
    by_cases c : doy = 365
    · obtain ⟨rfl, rfl⟩ := b3 c
      have hl : leapN ((qn : Int) + 1) = true := by
        have hm2 : m = 2 := by split at hmp <;> omega
        rw [if_pos (by omega)] at hy'
        unfold dimN at h4
        rw [if_pos hm2] at h4
        have hyq : y = (qn : Int) + 1 + e * 400 := by omega
        rw [← leap_era ((qn : Int) + 1) e, ← hyq]
        split at h4
        · assumption
        · omega
      have ht := List.all_eq_true.1 leap_back qn (by simp; omega)
      rw [hl] at ht
      simp only [Bool.not_true, Bool.false_or, Bool.or_eq_true, decide_eq_true_eq, beq_iff_eq] at ht
      have hm := cS_mono (qn + 1) 400 (by omega)
      have h400 : cS 400 = 146096 := by decide
      rcases ht with ht | rfl
      · omega
      · have h399 : cS 399 = 145731 := by decide
        omega
    · have h1 := cS_year qn
      have hm := cS_mono (qn + 1) 400 (by omega)
      have h400 : cS 400 = 146096 := by decide
      omega
  have hE : cEra (sinceN y m d) = e := by unfold cEra; omega
  have hO : cOf (sinceN y m d) = ((cS qn + doy : Nat) : Int) := by unfold cOf; rw [hE]; omega
  have hY : cYoe (sinceN y m d) = (qn : Int) := by
    rw [cYoe_nat _ _ hO hSb.1]
    rcases hSb.2 with h | ⟨rfl, h⟩
    · rw [yoe_of _ qn (by omega) (by omega) h]
    · rw [h]; decide
  have hD : cDay (sinceN y m d) = (doy : Int) := by unfold cDay; rw [hO, hY]; unfold cS; omega
  have hM : cMp (sinceN y m d) = (mp : Int) := by unfold cMp; rw [hD]; omega
  unfold civY civM civD
  rw [hE, hY, hD, hM]
  refine ⟨?_, ?_, by omega⟩
  · split at hy' <;> split at hmp <;> split <;> omega
  · split at hmp <;> split <;> omega
end Go.Proofs.YtmjikfeaopmejaaGreatDoor
/-
  Walk: a time's text is none just if the time may not be.
-/
namespace Go.Proofs.YtmjikfeaopmejaaGreatDoor
open Go.RowKit
set_option linter.unusedSimpArgs false
set_option linter.unusedVariables false
theorem ret_tup3 {y y' m m' d d' : Int} (h1 : y = y') (h2 : m = m') (h3 : d = d') : Ending.returned (.tuple #[.int .i64 y, .int .i64 m, .int .i64 d]) = .returned (.tuple #[.int .i64 y', .int .i64 m', .int .i64 d']) := by rw [h1, h2, h3]
set_option maxHeartbeats 1000000 in
theorem civil_any (n : Int) (h0 : -719468 ≤ n) (h1 : n ≤ 4000000) (w : World) :
    Calls Tryz.prog 84 #[.int .i64 n] w fun e w' => e = .returned (.tuple #[.int .i64 (civY n), .int .i64 (civM n), .int .i64 (civD n)]) ∧ w' = w := by
  go_enter Tryz.func84, Tryz.ntmps84
  go_upto_region 3 with (fail)
  have bE : 0 ≤ (n + 719468) / 146097 ∧ (n + 719468) / 146097 ≤ 40 := by omega
  have bO : 0 ≤ n + 719468 - (n + 719468) / 146097 * 146097 ∧ n + 719468 - (n + 719468) / 146097 * 146097 < 146097 := by omega
  have eE : Hid (cEra n = (n + 719468) / 146097) := rfl
  have eO : Hid (cOf n = n + 719468 - (n + 719468) / 146097 * 146097) := rfl
  generalize (n + 719468) / 146097 = E at *
  go_upto_region 4 with (fail)
  generalize n + 719468 - E * 146097 = O at *
  have bY : 0 ≤ (O - O / 1460 + O / 36524 - O / 146096) / 365 ∧ (O - O / 1460 + O / 36524 - O / 146096) / 365 ≤ 400 := by omega
  have eY : Hid (cYoe n = (O - O / 1460 + O / 36524 - O / 146096) / 365) := by show _ = _; unfold cYoe; rw [eO.out]
  go_upto_region 5 with (fail)
  generalize (O - O / 1460 + O / 36524 - O / 146096) / 365 = Y at *
  have eD : Hid (cDay n = O - (365 * Y + Y / 4 - Y / 100)) := by show _ = _; unfold cDay; rw [eO.out, eY.out]
  have bD : 0 ≤ O - (365 * Y + Y / 4 - Y / 100) ∧ O - (365 * Y + Y / 4 - Y / 100) ≤ 365 := by have := cDay_bd n; rw [eD.out] at this; exact this
  go_upto_region 6 with (fail)
  generalize O - (365 * Y + Y / 4 - Y / 100) = D at *
  have bM : 0 ≤ (5 * D + 2) / 153 ∧ (5 * D + 2) / 153 ≤ 11 := by omega
  have eM : Hid (cMp n = (5 * D + 2) / 153) := by show _ = _; unfold cMp; rw [eD.out]
  go_upto_region 7 with (fail)
  generalize (5 * D + 2) / 153 = M at *
  have hY : Hid (civY n = if M < 10 then Y + E * 400 else Y + E * 400 + 1) := by show _ = _; unfold civY; rw [eM.out, eY.out, eE.out]
  have hM : Hid (civM n = if M < 10 then M + 3 else M - 9) := by show _ = _; unfold civM; rw [eM.out]
  have hD : Hid (civD n = D - (153 * M + 2) / 5 + 1) := by show _ = _; unfold civD; rw [eM.out, eD.out]
  by_cases hlt : M < 10
  · go_wp2
    go_ret3
    exact ⟨ret_tup3 (by rw [hY.out, if_pos hlt]) (by rw [hM.out, if_pos hlt]) (by rw [hD.out]), rfl⟩
  · go_wp2
    go_ret3
    exact ⟨ret_tup3 (by rw [hY.out, if_neg (by omega)]) (by rw [hM.out, if_neg (by omega)]) (by rw [hD.out]), rfl⟩
def digL (v : Nat) : Nat → List UInt8
  | 0 => []
  | n + 1 => UInt8.ofNat (48 + v / 10 ^ n % 10) :: digL v n
theorem digL_length (v : Nat) : ∀ n, (digL v n).length = n
  | 0 => rfl
  | n + 1 => by simp [digL, digL_length v n]
theorem dec_three (v : Nat) (h : v ≤ 99) : Lib.itoa ((100 : Int) + v) = 49 :: digL v 2 := by
  have e : ((100 : Int) + v) = ((100 + v : Nat) : Int) := by omega
  rw [e]
  unfold Lib.itoa
  rw [if_neg (by omega), Int.toNat_natCast]
  unfold Lib.decDigits
  rw [dif_neg (by omega)]
  unfold Lib.decDigits
  rw [dif_neg (by omega)]
  unfold Lib.decDigits
  rw [dif_pos (by omega), show (100 + v) / 10 / 10 = 1 from by omega, show (100 + v) / 10 % 10 = v / 10 % 10 from by omega, show (100 + v) % 10 = v % 10 from by omega]
  simp [digL]
theorem dec_five (v : Nat) (h : v ≤ 9999) : Lib.itoa ((10000 : Int) + v) = 49 :: digL v 4 := by
  have e : ((10000 : Int) + v) = ((10000 + v : Nat) : Int) := by omega
  rw [e]
  unfold Lib.itoa
  rw [if_neg (by omega), Int.toNat_natCast]
  unfold Lib.decDigits
  rw [dif_neg (by omega)]
  unfold Lib.decDigits
  rw [dif_neg (by omega)]
  unfold Lib.decDigits
  rw [dif_neg (by omega)]
  unfold Lib.decDigits
  rw [dif_neg (by omega)]
  unfold Lib.decDigits
  rw [dif_pos (by omega), show (10000 + v) / 10 / 10 / 10 / 10 = 1 from by omega, show (10000 + v) / 10 / 10 / 10 % 10 = v / 1000 % 10 from by omega, show (10000 + v) / 10 / 10 % 10 = v / 100 % 10 from by omega, show (10000 + v) / 10 % 10 = v / 10 % 10 from by omega, show (10000 + v) % 10 = v % 10 from by omega]
  simp [digL]
theorem below_grow (w : World) (k : Nat) (os : Array Obj) : Below w.heap.size w (Sort.grow (w.drewN k) os) :=
  ⟨rfl, rfl, rfl, by simp [Sort.grow], fun i hi => by simp [Sort.grow, Array.getElem?_append, hi]⟩
/-- FormatInt(100 + n, 10) and FormatInt(10000 + n, 10) -/
theorem fmt_three (v : Nat) (hv : v ≤ 99) (w : World) (htab : Lib.TabIs Tryz.prog w "internal/strconv.uint64pow10" .u64 Lib.pow10Tab) :
    Calls Tryz.prog 87 #[.int .i64 (100 + (v : Int)), .int .i64 10] w fun e w' => e = .returned (.string ⟨(49 :: digL v 2).toArray⟩) ∧ Below w.heap.size w w' := by
  have hc := Tryz.strconv_FormatInt_10 (100 + (v : Int)) (by omega) (by omega) w htab
  rw [dec_three v hv] at hc
  exact hc.mono fun e w' ⟨he, k, os, hw⟩ => ⟨he, by rw [hw]; exact below_grow w k os⟩
theorem fmt_five (v : Nat) (hv : v ≤ 9999) (w : World) (htab : Lib.TabIs Tryz.prog w "internal/strconv.uint64pow10" .u64 Lib.pow10Tab) :
    Calls Tryz.prog 87 #[.int .i64 (10000 + (v : Int)), .int .i64 10] w fun e w' => e = .returned (.string ⟨(49 :: digL v 4).toArray⟩) ∧ Below w.heap.size w w' := by
  have hc := Tryz.strconv_FormatInt_10 (10000 + (v : Int)) (by omega) (by omega) w htab
  rw [dec_five v hv] at hc
  exact hc.mono fun e w' ⟨he, k, os, hw⟩ => ⟨he, by rw [hw]; exact below_grow w k os⟩
theorem dimN_bd (y m : Int) : 28 ≤ dimN y m ∧ dimN y m ≤ 31 := by
  unfold dimN
  split
  · split <;> omega
  · split <;> omega
theorem civ_bd (n : Int) (h0 : 0 ≤ n) (h1 : n ≤ 2932896) : 1970 ≤ civY n ∧ civY n ≤ 9999 ∧ 1 ≤ civM n ∧ civM n ≤ 12 ∧ 1 ≤ civD n ∧ civD n ≤ 31 := by
  have hs := since_civ n
  have hv := civ_valid n
  obtain ⟨v1, v2, v3, v4⟩ := hv
  have hd := (dimN_bd (civY n) (civM n)).2
  generalize civY n = y at *
  generalize civM n = m at *
  generalize civD n = d at *
  unfold sinceN at hs
  dsimp only at hs
  have a0 : 1969 ≤ y := by split at hs <;> omega
  have a1 : 1970 ≤ y := by
    by_cases e : y = 1969
    · subst e; split at hs <;> omega
    · omega
  have a2 : y ≤ 10000 := by split at hs <;> omega
  have a3 : y ≤ 9999 := by
    by_cases e : y = 10000
    · subst e; split at hs <;> omega
    · omega
  omega
theorem asize (s : ByteArray) (l : List UInt8) : (s ++ ⟨l.toArray⟩).size = s.size + l.length := by
  rw [ByteArray.size_append]
  show s.size + l.toArray.size = _
  rw [List.size_toArray]
theorem app_ne (s : ByteArray) (c : UInt8) (l : List UInt8) : (s ++ ⟨(c :: l).toArray⟩).toList.isEmpty = false := by
  rw [ByteArray.toList_eq, ByteArray.data_append]
  simp
theorem five_int (y : Int) (h0 : 0 ≤ y) (h1 : y ≤ 9999) (w : World) (htab : Lib.TabIs Tryz.prog w "internal/strconv.uint64pow10" .u64 Lib.pow10Tab) :
    Calls Tryz.prog 87 #[.int .i64 (10000 + y), .int .i64 10] w fun e w' => e = .returned (.string ⟨(49 :: digL y.toNat 4).toArray⟩) ∧ Below w.heap.size w w' := by
  obtain ⟨n, rfl⟩ : ∃ n : Nat, y = n := ⟨y.toNat, by omega⟩
  exact fmt_five n (by omega) w htab
theorem month_some (m : Int) (h1 : 1 ≤ m) (h2 : m ≤ 12) (w : World) :
    Calls Tryz.prog 86 #[.int .i64 m] w fun e w' => ∃ s : ByteArray, e = .returned (.string s) ∧ s.size ≤ 36 ∧ Below w.heap.size w w' := by
  have q1 : IntKind.i64.wrap (m - 1) = m - 1 := IntWalk.i64_in _ (by omega)
  have q2 : IntKind.i64.wrap (3 * (m - 1)) = 3 * (m - 1) := IntWalk.i64_in _ (by omega)
  have q3 : IntKind.i64.wrap (3 * m) = 3 * m := IntWalk.i64_in _ (by omega)
  refine calls_at 9 Tryz.func86 rfl rfl (Nat.le_of_ble_eq_true rfl) ?_
  intro a hA
  simp only [argsE, keepE, lookS, Nat.reduceBEq, cond_true, cond_false, Nat.reduceAdd, gv_tt, gv_ff, Bool.true_and, Bool.false_and, Bool.true_or, Bool.false_or] at hA
  refine wp_seq ?_
  refine wp_region_lit ?_
  refine wl_op hA rfl rfl (by decide) (fun ev h => by simp [go_sem, h.c, q1, q2, q3]; try first | exact ⟨rfl, rfl⟩ | rfl) fun a1 hA1 => ?_
  refine wl_nil ?_
  refine n_then ?_
  have hA2 := hA1.keep [0]
  simp only [argsE, keepE, lookS, Nat.reduceBEq, cond_true, cond_false, Nat.reduceAdd, gv_tt, gv_ff, Bool.true_and, Bool.false_and, Bool.true_or, Bool.false_or] at hA2
  clear hA hA1
  refine wp_seq ?_
  refine wp_region_lit ?_
  refine wl_op hA2 rfl rfl (by decide) (fun ev h => by simp [go_sem, h.get 0 rfl, q1, q2, q3]; try first | exact ⟨rfl, rfl⟩ | rfl) fun a3 hA3 => ?_
  refine wl_op hA3 rfl rfl (by decide) (fun ev h => by simp [go_sem, h.c, h.get 3 rfl, q1, q2, q3]; try first | exact ⟨rfl, rfl⟩ | rfl) fun a4 hA4 => ?_
  refine wl_op hA4 rfl rfl (by decide) (fun ev h => by simp [go_sem, h.c, h.get 4 rfl, q1, q2, q3]; try first | exact ⟨rfl, rfl⟩ | rfl) fun a5 hA5 => ?_
  refine wl_op hA5 rfl rfl (by decide) (fun ev h => by simp [go_sem, h.get 0 rfl, q1, q2, q3]; try first | exact ⟨rfl, rfl⟩ | rfl) fun a6 hA6 => ?_
  refine wl_op hA6 rfl rfl (by decide) (fun ev h => by simp [go_sem, h.c, h.get 6 rfl, q1, q2, q3]; try first | exact ⟨rfl, rfl⟩ | rfl) fun a7 hA7 => ?_
  -- limit slice slot 8
  refine wl_op hA7 rfl rfl (by decide) (fun ev h => by simp [go_sem, h.c, h.get 5 rfl, h.get 7 rfl, q1, q2, q3]; (rw [if_pos (by omega), if_pos (by omega)]; try first | exact ⟨rfl, rfl⟩ | rfl)) fun a8 hA8 => ?_
  refine wl_op hA8 rfl rfl (by decide) (fun ev h => by simp [go_sem, h.get 8 rfl, q1, q2, q3]; try first | exact ⟨rfl, rfl⟩ | rfl) fun a9 hA9 => ?_
  refine wl_nil ?_
  refine n_then ?_
  have hA10 := hA9.keep [2]
  simp only [argsE, keepE, lookS, Nat.reduceBEq, cond_true, cond_false, Nat.reduceAdd, gv_tt, gv_ff, Bool.true_and, Bool.false_and, Bool.true_or, Bool.false_or] at hA10
  clear hA2 hA3 hA4 hA5 hA6 hA7 hA8 hA9 a1 a3 a4 a5 a6 a7 a8
  refine wp_ret ?_
  refine ret_1 hA10 2 rfl rfl ?_
  refine ⟨_, rfl, ?_, Below.refl _ _⟩
  rw [ByteArray.size_extract]
  exact Nat.le_trans (Nat.sub_le _ _) (Nat.min_le_right _ _)
theorem two_some (v : Int) (h0 : 0 ≤ v) (h1 : v ≤ 99) (w : World) (htab : Lib.TabIs Tryz.prog w "internal/strconv.uint64pow10" .u64 Lib.pow10Tab) :
    Calls Tryz.prog 85 #[.int .i64 v] w fun e w' => ∃ s : ByteArray, e = .returned (.string s) ∧ 1 ≤ s.size ∧ s.size ≤ 10 ∧ Below w.heap.size w w' := by
  obtain ⟨n, rfl⟩ : ∃ n : Nat, v = n := ⟨v.toNat, by omega⟩
  have q1 : IntKind.i64.wrap (100 + (n : Int)) = 100 + (n : Int) := IntWalk.i64_in _ (by omega)
  refine calls_at 7 Tryz.func85 rfl rfl (Nat.le_of_ble_eq_true rfl) ?_
  intro a hA
  simp only [argsE, keepE, lookS, Nat.reduceBEq, cond_true, cond_false, Nat.reduceAdd, gv_tt, gv_ff, Bool.true_and, Bool.false_and, Bool.true_or, Bool.false_or] at hA
  refine wp_seq ?_
  refine wp_region_lit ?_
  refine wl_op hA rfl rfl (by decide) (fun ev h => by simp [go_sem, h.c, q1]; try first | exact ⟨rfl, rfl⟩ | rfl) fun a11 hA11 => ?_
  refine wl_nil ?_
  refine n_then ?_
  have hA12 := hA11.keep [0]
  simp only [argsE, keepE, lookS, Nat.reduceBEq, cond_true, cond_false, Nat.reduceAdd, gv_tt, gv_ff, Bool.true_and, Bool.false_and, Bool.true_or, Bool.false_or] at hA12
  clear hA hA11
  refine wp_seq ?_
  refine wp_region_lit ?_
  refine wl_op hA12 rfl rfl (by decide) (fun ev h => by simp [go_sem, h.get 0 rfl, q1]; try first | exact ⟨rfl, rfl⟩ | rfl) fun a13 hA13 => ?_
  refine wl_op hA13 rfl rfl (by decide) (fun ev h => by simp [go_sem, h.c, h.get 3 rfl, q1]; try first | exact ⟨rfl, rfl⟩ | rfl) fun a14 hA14 => ?_
  -- stop call slot 5
  refine wl_call hA14 rfl rfl (by decide) (fun ev h => exec_call Tryz.func87 (by kernel_rfl) rfl (h.f _) (by first | (simp only [List.map_toArray, List.map_cons, List.map_nil, h.get 4 rfl, h.c]; done) | (simp only [List.map_toArray, List.map_cons, List.map_nil, h.get 4 rfl, h.c]; rfl) | (simp [List.map_toArray, List.map_cons, List.map_nil, h.get 4 rfl, h.c, q1]; done) | (simp [List.map_toArray, List.map_cons, List.map_nil, h.get 4 rfl, h.c, q1]; rfl) | rfl)) (fmt_three n (by omega) w htab) ?_
  rintro e w1 ⟨rfl, hb⟩
  refine ⟨_, rfl, fun a15 hA15 => ?_⟩
  refine wl_op hA15 rfl rfl (by decide) (fun ev h => by simp [go_sem, h.c, h.get 5 rfl, q1]; try first | exact ⟨rfl, rfl⟩ | rfl) fun a16 hA16 => ?_
  refine wl_op hA16 rfl rfl (by decide) (fun ev h => by simp [go_sem, h.get 6 rfl, q1]; try first | exact ⟨rfl, rfl⟩ | rfl) fun a17 hA17 => ?_
  refine wl_nil ?_
  refine n_then ?_
  have hA18 := hA17.keep [2]
  simp only [argsE, keepE, lookS, Nat.reduceBEq, cond_true, cond_false, Nat.reduceAdd, gv_tt, gv_ff, Bool.true_and, Bool.false_and, Bool.true_or, Bool.false_or] at hA18
  clear hA12 hA13 hA14 hA15 hA16 hA17 a11 a13 a14 a15 a16
  refine wp_ret ?_
  refine ret_1 hA18 2 rfl rfl ?_
  have h3 : (⟨(49 :: digL n 2).toArray⟩ : ByteArray).size = 3 := by show (49 :: digL n 2).toArray.size = 3; simp [digL_length]
  exact ⟨_, rfl, by simp [digL_length, h3], by simp [digL_length, h3], hb⟩
/-- may a time be? -/
def dateOk (t : Int) : Bool := decide (0 ≤ t) && decide (t ≤ 253402300799)
set_option maxRecDepth 100000 in
set_option maxHeartbeats 1000000 in
theorem print_some (t : Int) (w : World) (htab : Lib.TabIs Tryz.prog w "internal/strconv.uint64pow10" .u64 Lib.pow10Tab) :
    Calls Tryz.prog 63 #[.int .i64 t] w fun e w' => ∃ s : ByteArray, e = .returned (.string s) ∧ s.toList.isEmpty = !dateOk t ∧ Below w.heap.size w w' := by
  have Ht := Lib.tabBelow_of_tabIs htab
  refine calls_at 58 Tryz.func63 rfl rfl (Nat.le_of_ble_eq_true rfl) ?_
  intro a hA
  simp only [argsE, keepE, lookS, Nat.reduceBEq, cond_true, cond_false, Nat.reduceAdd, gv_tt, gv_ff, Bool.true_and, Bool.false_and, Bool.true_or, Bool.false_or] at hA
  refine wp_seq ?_
  refine wp_region_lit ?_
  refine wl_op hA rfl rfl (by decide) (fun ev h => by simp [go_sem, h.c]; try first | exact ⟨rfl, rfl⟩ | rfl) fun a19 hA19 => ?_
  refine wl_nil ?_
  refine n_then ?_
  have hA20 := hA19.keep [0]
  simp only [argsE, keepE, lookS, Nat.reduceBEq, cond_true, cond_false, Nat.reduceAdd, gv_tt, gv_ff, Bool.true_and, Bool.false_and, Bool.true_or, Bool.false_or] at hA20
  clear hA hA19
  refine wp_seq ?_
  refine wp_seq ?_
  refine wp_region_lit ?_
  refine wl_op hA20 rfl rfl (by decide) (fun ev h => by simp [go_sem, h.get 0 rfl]; try first | exact ⟨rfl, rfl⟩ | rfl) fun a21 hA21 => ?_
  refine wl_op hA21 rfl rfl (by decide) (fun ev h => by simp [go_sem, h.c, h.get 8 rfl]; try first | exact ⟨rfl, rfl⟩ | rfl) fun a22 hA22 => ?_
  refine wl_op hA22 rfl rfl (by decide) (fun ev h => by simp [go_sem, h.get 9 rfl]; try first | exact ⟨rfl, rfl⟩ | rfl) fun a23 hA23 => ?_
  refine wl_guard _ hA23 rfl rfl rfl rfl (by decide) (fun hq ev h => by simp [go_sem, (h.get 0 rfl)]; try first | exact ⟨rfl, rfl⟩ | rfl) fun a24 hA24 => ?_
  refine wl_guard _ hA24 rfl rfl rfl rfl (by decide) (fun hq ev h => by simp [go_sem, h.c, ((h.get 11 rfl).trans (gw_t (beq_t hq)))]; try first | exact ⟨rfl, rfl⟩ | rfl) fun a25 hA25 => ?_
  refine wl_op hA25 rfl rfl (by decide) (fun ev h => by first | exact pick_and rfl (h.get 10 rfl) (h.c _) (h.get 12 rfl) | exact pick_or rfl (h.get 10 rfl) (h.c _) (h.get 12 rfl) | (simp [go_sem, h.c, h.get 10 rfl, h.get 12 rfl, gv_or, gv_and]; try first | exact ⟨rfl, rfl⟩ | rfl)) fun a26 hA26 => ?_
  refine wl_nil ?_
  refine n_then ?_
  have hA27 := hA26.keep [0, 13]
  simp only [argsE, keepE, lookS, Nat.reduceBEq, cond_true, cond_false, Nat.reduceAdd, gv_tt, gv_ff, Bool.true_and, Bool.false_and, Bool.true_or, Bool.false_or] at hA27
  clear hA20 hA21 hA22 hA23 hA24 hA25 hA26 a19 a21 a22 a23 a24 a25
  -- cond
  refine wp_if hA27 13 _ rfl (fun hq => ?yA) (fun hq => ?nA)
  case yA =>
    refine wp_seq ?_
    refine wp_region_lit ?_
    refine wl_op hA27 rfl rfl (by decide) (fun ev h => by simp [go_sem, h.c]; try first | exact ⟨rfl, rfl⟩ | rfl) fun a28 hA28 => ?_
    refine wl_nil ?_
    refine n_then ?_
    have hA29 := hA28.keep [2]
    simp only [argsE, keepE, lookS, Nat.reduceBEq, cond_true, cond_false, Nat.reduceAdd, gv_tt, gv_ff, Bool.true_and, Bool.false_and, Bool.true_or, Bool.false_or] at hA29
    clear hA27 hA28
    refine wp_ret ?_
    refine r_then ?_
    refine ret_1 hA29 2 rfl rfl ?_
    refine ⟨_, rfl, ?_, Below.refl _ _⟩
    unfold dateOk
    simp at hq
    rw [Bool.eq_iff_iff]
    simp
    omega
  case nA =>
    obtain ⟨h0, h1⟩ : 0 ≤ t ∧ t ≤ 253402300799 := by simp at hq; omega
    have q1 : IntKind.i64.wrap (t.tdiv 86400) = t / 86400 := IntWalk.i64_quo _ _ (by omega)
    have q2 : t.tmod 86400 = t % 86400 := Int.tmod_eq_emod_of_nonneg h0
    obtain ⟨y0, y1, m0, m1, d0, d1⟩ := civ_bd (t / 86400) (by omega) (by omega)
    refine wp_skip ?_
    refine n_then ?_
    refine wp_seq ?_
    refine wp_region_lit ?_
    refine wl_op hA27 rfl rfl (by decide) (fun ev h => by simp [go_sem, h.get 0 rfl, q1, q2]; try first | exact ⟨rfl, rfl⟩ | rfl) fun a30 hA30 => ?_
    refine wl_op hA30 rfl rfl (by decide) (fun ev h => by simp [go_sem, h.c, h.get 15 rfl, q1, q2]; try first | exact ⟨rfl, rfl⟩ | rfl) fun a31 hA31 => ?_
    -- stop call slot 17
    refine wl_call hA31 rfl rfl (by decide) (fun ev h => exec_call Tryz.func84 (by kernel_rfl) rfl (h.f _) (by first | (simp only [List.map_toArray, List.map_cons, List.map_nil, h.get 16 rfl, h.c]; done) | (simp only [List.map_toArray, List.map_cons, List.map_nil, h.get 16 rfl, h.c]; rfl) | (simp [List.map_toArray, List.map_cons, List.map_nil, h.get 16 rfl, h.c, q1, q2]; done) | (simp [List.map_toArray, List.map_cons, List.map_nil, h.get 16 rfl, h.c, q1, q2]; rfl) | rfl)) (civil_any (t / 86400) (by omega) (by omega) w) ?_
    rintro e w1 ⟨rfl, hw⟩
    refine ⟨_, rfl, fun a32 hA32 => ?_⟩
    obtain rfl : w = w1 := hw.symm
    refine wl_op hA32 rfl rfl (by decide) (fun ev h => by simp [go_sem, h.get 17 rfl, q1, q2]; try first | exact ⟨rfl, rfl⟩ | rfl) fun a33 hA33 => ?_
    refine wl_op hA33 rfl rfl (by decide) (fun ev h => by simp [go_sem, h.get 14 rfl, q1, q2]; try first | exact ⟨rfl, rfl⟩ | rfl) fun a34 hA34 => ?_
    refine wl_op hA34 rfl rfl (by decide) (fun ev h => by simp [go_sem, h.get 14 rfl, q1, q2]; try first | exact ⟨rfl, rfl⟩ | rfl) fun a35 hA35 => ?_
    refine wl_op hA35 rfl rfl (by decide) (fun ev h => by simp [go_sem, h.get 14 rfl, q1, q2]; try first | exact ⟨rfl, rfl⟩ | rfl) fun a36 hA36 => ?_
    refine wl_op hA36 rfl rfl (by decide) (fun ev h => by simp [go_sem, h.get 18 rfl, q1, q2]; try first | exact ⟨rfl, rfl⟩ | rfl) fun a37 hA37 => ?_
    refine wl_op hA37 rfl rfl (by decide) (fun ev h => by simp [go_sem, h.get 19 rfl, q1, q2]; try first | exact ⟨rfl, rfl⟩ | rfl) fun a38 hA38 => ?_
    refine wl_op hA38 rfl rfl (by decide) (fun ev h => by simp [go_sem, h.get 20 rfl, q1, q2]; try first | exact ⟨rfl, rfl⟩ | rfl) fun a39 hA39 => ?_
    refine wl_nil ?_
    refine n_then ?_
    have hA40 := hA39.keep [0, 3, 4, 5]
    simp only [argsE, keepE, lookS, Nat.reduceBEq, cond_true, cond_false, Nat.reduceAdd, gv_tt, gv_ff, Bool.true_and, Bool.false_and, Bool.true_or, Bool.false_or] at hA40
    clear hA27 hA30 hA31 hA32 hA33 hA34 hA35 hA36 hA37 hA38 hA39 a30 a31 a32 a33 a34 a35 a36 a37 a38
    refine wp_seq ?_
    refine wp_region_lit ?_
    refine wl_op hA40 rfl rfl (by decide) (fun ev h => by simp [go_sem, h.get 0 rfl, q1, q2]; try first | exact ⟨rfl, rfl⟩ | rfl) fun a41 hA41 => ?_
    refine wl_op hA41 rfl rfl (by decide) (fun ev h => by simp [go_sem, h.c, h.get 21 rfl, q1, q2]; try first | exact ⟨rfl, rfl⟩ | rfl) fun a42 hA42 => ?_
    refine wl_op hA42 rfl rfl (by decide) (fun ev h => by simp [go_sem, h.get 22 rfl, q1, q2]; try first | exact ⟨rfl, rfl⟩ | rfl) fun a43 hA43 => ?_
    refine wl_nil ?_
    refine n_then ?_
    have hA44 := hA43.keep [3, 4, 5, 6]
    simp only [argsE, keepE, lookS, Nat.reduceBEq, cond_true, cond_false, Nat.reduceAdd, gv_tt, gv_ff, Bool.true_and, Bool.false_and, Bool.true_or, Bool.false_or] at hA44
    clear hA40 hA41 hA42 hA43 a39 a41 a42
    refine wp_seq ?_
    refine wp_region_lit ?_
    refine wl_op hA44 rfl rfl (by decide) (fun ev h => by simp [go_sem, h.get 5 rfl, q1, q2]; try first | exact ⟨rfl, rfl⟩ | rfl) fun a45 hA45 => ?_
    -- stop call slot 24
    refine wl_call hA45 rfl rfl (by decide) (fun ev h => exec_call Tryz.func85 (by kernel_rfl) rfl (h.f _) (by first | (simp only [List.map_toArray, List.map_cons, List.map_nil, h.get 23 rfl, h.c]; done) | (simp only [List.map_toArray, List.map_cons, List.map_nil, h.get 23 rfl, h.c]; rfl) | (simp [List.map_toArray, List.map_cons, List.map_nil, h.get 23 rfl, h.c, q1, q2]; done) | (simp [List.map_toArray, List.map_cons, List.map_nil, h.get 23 rfl, h.c, q1, q2]; rfl) | rfl)) (two_some (civD (t / 86400)) (by omega) (by omega) w htab) ?_
    rintro e w2 ⟨s, rfl, hs, hs2, hb⟩
    refine ⟨_, rfl, fun a46 hA46 => ?_⟩
    have hs3 : (1 : Int) ≤ (s.size : Int) := by omega
    have hs4 : ¬ (9223372036854775807 < 1 + (s.size - 1)) := by omega
    refine wl_op hA46 rfl rfl (by decide) (fun ev h => by simp [go_sem, h.get 24 rfl, q1, q2]; try first | exact ⟨rfl, rfl⟩ | rfl) fun a47 hA47 => ?_
    refine wl_nil ?_
    refine n_then ?_
    have hA48 := hA47.keep [3, 4, 5, 6, 7]
    simp only [argsE, keepE, lookS, Nat.reduceBEq, cond_true, cond_false, Nat.reduceAdd, gv_tt, gv_ff, Bool.true_and, Bool.false_and, Bool.true_or, Bool.false_or] at hA48
    clear hA44 hA45 hA46 hA47 a43 a45 a46
    refine wp_seq ?_
    refine wp_seq ?_
    refine wp_region_lit ?_
    refine wl_op hA48 rfl rfl (by decide) (fun ev h => by simp [go_sem, h.get 5 rfl, q1, q2]; try first | exact ⟨rfl, rfl⟩ | rfl) fun a49 hA49 => ?_
    refine wl_op hA49 rfl rfl (by decide) (fun ev h => by simp [go_sem, h.c, h.get 25 rfl, q1, q2]; try first | exact ⟨rfl, rfl⟩ | rfl) fun a50 hA50 => ?_
    refine wl_nil ?_
    refine n_then ?_
    have hA51 := hA50.keep [3, 4, 6, 7, 26]
    simp only [argsE, keepE, lookS, Nat.reduceBEq, cond_true, cond_false, Nat.reduceAdd, gv_tt, gv_ff, Bool.true_and, Bool.false_and, Bool.true_or, Bool.false_or] at hA51
    clear hA48 hA49 hA50 a47 a49
    -- cond
    refine wp_join (fun a wx => ∃ s7 : ByteArray, At 58 [(3, .int .i64 (civY (t / 86400))), (4, .int .i64 (civM (t / 86400))), (6, .int .i64 (t % 86400)), (7, .string s7)] a ∧ s7.size ≤ 20 ∧ Below w.heap.size w wx) ?jfJ ?jrJ
    case jfJ =>
      refine wp_if hA51 26 _ rfl (fun hd => ?yD) (fun hd => ?nD)
      case yD =>
        refine wp_region_lit ?_
        refine wl_op hA51 rfl rfl (by decide) (fun ev h => by simp [go_sem, h.get 7 rfl, hs3, hs4]; try first | exact ⟨rfl, rfl⟩ | rfl) fun a52 hA52 => ?_
        refine wl_op hA52 rfl rfl (by decide) (fun ev h => by simp [go_sem, h.c, h.get 27 rfl, hs3, hs4]; try first | exact ⟨rfl, rfl⟩ | rfl) fun a53 hA53 => ?_
        refine wl_op hA53 rfl rfl (by decide) (fun ev h => by simp [go_sem, h.c, h.get 28 rfl, hs3, hs4]; try first | exact ⟨rfl, rfl⟩ | rfl) fun a54 hA54 => ?_
        refine wl_op hA54 rfl rfl (by decide) (fun ev h => by simp [go_sem, h.get 29 rfl, hs3, hs4]; try first | exact ⟨rfl, rfl⟩ | rfl) fun a55 hA55 => ?_
        refine wl_nil ?_
        refine n_then ?_
        have hA56 := hA55.keep [3, 4, 6, 7]
        simp only [argsE, keepE, lookS, Nat.reduceBEq, cond_true, cond_false, Nat.reduceAdd, gv_tt, gv_ff, Bool.true_and, Bool.false_and, Bool.true_or, Bool.false_or] at hA56
        clear hA51 hA52 hA53 hA54 hA55 a52 a53 a54
        -- joined
        exact ⟨_, hA56, by rw [ByteArray.size_append, ByteArray.size_extract]; show (1 : Nat) + _ ≤ 20; omega, hb⟩
      case nD =>
        refine wp_skip ?_
        refine n_then ?_
        have hA57 := hA51.keep [3, 4, 6, 7]
        simp only [argsE, keepE, lookS, Nat.reduceBEq, cond_true, cond_false, Nat.reduceAdd, gv_tt, gv_ff, Bool.true_and, Bool.false_and, Bool.true_or, Bool.false_or] at hA57
        clear hA51
        -- joined
        exact ⟨_, hA57, by omega, hb⟩
    rintro a wx ⟨s7, hA, hs7, hb⟩
    have q3 : IntKind.i64.wrap (10000 + civY (t / 86400)) = 10000 + civY (t / 86400) := IntWalk.i64_in _ (by omega)
    have q4 : IntKind.i64.wrap ((t % 86400).tdiv 3600) = t % 86400 / 3600 := IntWalk.i64_quo _ _ (by omega)
    have q5 : (t % 86400).tmod 3600 = t % 86400 % 3600 := Int.tmod_eq_emod_of_nonneg (by omega)
    have q6 : IntKind.i64.wrap ((t % 3600).tdiv 60) = t % 3600 / 60 := IntWalk.i64_quo _ _ (by omega)
    have q7 : (t % 86400).tmod 60 = t % 86400 % 60 := Int.tmod_eq_emod_of_nonneg (by omega)
    refine wp_seq ?_
    -- any
    refine wp_any_at hA [(.det ?dA0), (.det (.string (s7 ++ ⟨#[45]⟩))), (.det ?dA2), (.used (fun v _ => ∃ s : ByteArray, v = .string s ∧ s.size ≤ 36)), (.used (fun v _ => ∃ s : ByteArray, v = .string s ∧ s.size ≤ 60)), (.used (fun v _ => ∃ s : ByteArray, v = .string s ∧ s.size ≤ 61)), (.det ?dA6), (.det ?dA7), (.det (.string ⟨(49 :: digL (civY (t / 86400)).toNat 4).toArray⟩)), (.det ?dA9), (.used (fun v _ => ∃ s : ByteArray, v = .string s ∧ s.size ≤ 70)), (.used (fun v _ => ∃ s : ByteArray, v = .string s ∧ s.size ≤ 71)), (.det ?dA12), (.det ?dA13), (.used (fun v _ => ∃ s : ByteArray, v = .string s ∧ s.size ≤ 10)), (.used (fun v _ => ∃ s : ByteArray, v = .string s ∧ s.size ≤ 90)), (.used (fun v _ => ∃ s : ByteArray, v = .string s ∧ s.size ≤ 91)), (.det ?dA17), (.det ?dA18), (.det ?dA19), (.used (fun v _ => ∃ s : ByteArray, v = .string s ∧ s.size ≤ 10)), (.used (fun v _ => ∃ s : ByteArray, v = .string s ∧ s.size ≤ 110)), (.used (fun v _ => ∃ s : ByteArray, v = .string s ∧ s.size ≤ 111)), (.det ?dA23), (.det ?dA24), (.used (fun v _ => ∃ s : ByteArray, v = .string s ∧ s.size ≤ 10)), (.used (fun v _ => ∃ s : ByteArray, v = .string s ∧ s.size ≤ 130)), (.held (fun v _ => ∃ s : ByteArray, v = .string s ∧ s.toList.isEmpty = false)), (.held (fun v _ => ∃ s : ByteArray, v = .string s ∧ s.toList.isEmpty = false))] [] (fun wy => Below w.heap.size w wy) (TSp [] Grows) (by kernel_rfl) rfl (by kernel_rfl) (by kernel_rfl) rfl (hb.drew) (stab_sp [] [true, true, true, false, false, false, true, true, true, true, false, false, true, true, false, false, false, true, true, true, false, false, false, true, true, false, false, false, false] [true, true, true, false, false, false, true, true, true, true, false, false, true, true, false, false, false, true, true, true, false, false, false, true, true, false, false, true, true] [] rfl rfl rfl (by kernel_rfl) ⟨trivial, trivial, trivial, (fun _ _ _ _ hp _ => hp), (fun _ _ _ _ hp _ => hp), (fun _ _ _ _ hp _ => hp), trivial, trivial, trivial, trivial, (fun _ _ _ _ hp _ => hp), (fun _ _ _ _ hp _ => hp), trivial, trivial, (fun _ _ _ _ hp _ => hp), (fun _ _ _ _ hp _ => hp), (fun _ _ _ _ hp _ => hp), trivial, trivial, trivial, (fun _ _ _ _ hp _ => hp), (fun _ _ _ _ hp _ => hp), (fun _ _ _ _ hp _ => hp), trivial, trivial, (fun _ _ _ _ hp _ => hp), (fun _ _ _ _ hp _ => hp), (fun _ _ _ _ hp _ => hp), (fun _ _ _ _ hp _ => hp), trivial⟩ trivial) (fun _ h => by cases h) (fun _ _ _ _ _ h => by cases h) (fun _ h => by cases h) ⟨?oA0, ?oA1, ?oA2, ?oA3, ?oA4, ?oA5, ?oA6, ?oA7, ?oA8, ?oA9, ?oA10, ?oA11, ?oA12, ?oA13, ?oA14, ?oA15, ?oA16, ?oA17, ?oA18, ?oA19, ?oA20, ?oA21, ?oA22, ?oA23, ?oA24, ?oA25, ?oA26, ?oA27, ?oA28, trivial⟩ (by kernel_rfl) ?fA
    case oA0 =>
      intro ev wo hev hC hs hph
      have e7 := see_env hA hs 7 (by kernel_rfl) (by kernel_rfl) rfl
      exact ob_det (wanted_none rfl) rfl (by kernel_rfl) hC (TSp.of rfl (Grows.refl _)) (by simp [go_sem, e7]; try first | exact ⟨rfl, rfl⟩ | rfl)
    case oA1 =>
      intro ev wo hev hC hs hph
      have e30 := see_det hs 30 0 (by kernel_rfl) (by kernel_rfl) rfl
      exact ob_yes (wanted_none rfl) (does_value (by simp [go_sem, e30, hev.const]; omega) ⟨hC, TSp.of rfl (Grows.refl _), rfl, no_start (by kernel_rfl)⟩)
    case oA2 =>
      intro ev wo hev hC hs hph
      have e4 := see_env hA hs 4 (by kernel_rfl) (by kernel_rfl) rfl
      exact ob_det (wanted_none rfl) rfl (by kernel_rfl) hC (TSp.of rfl (Grows.refl _)) (by simp [go_sem, e4]; try first | exact ⟨rfl, rfl⟩ | rfl)
    case oA3 =>
      intro ev wo hev hC hs hph
      have e32 := see_det hs 32 2 (by kernel_rfl) (by kernel_rfl) rfl
      exact ob_yes (wanted_none rfl) (does_enter (by simp [go_sem, e32, hev.func, hev.const]; try first | exact ⟨rfl, rfl⟩ | rfl) (Calls.mono (month_some (civM (t / 86400)) m0 m1 wo) (by
        rintro ev2 w3 ⟨s, rfl, hz, hb3⟩
        exact ⟨_, rfl, hC.trans (hb3.mono hC.size), TSp.of rfl hb3, ⟨s, rfl, hz⟩, no_start (by kernel_rfl)⟩)))
    case oA4 =>
      intro ev wo hev hC hs hph
      have e31 := see_det hs 31 1 (by kernel_rfl) (by kernel_rfl) rfl
      have u33 := see_used hs 33 3 (by kernel_rfl) (by kernel_rfl) rfl
      obtain ⟨s33, f33, z33⟩ := u33
      exact ob_yes (wanted_none rfl) (does_value (by simp [go_sem, e31, f33, hev.const, digL_length]; rw [if_neg (by omega)]; try first | exact ⟨rfl, rfl⟩ | rfl) ⟨hC, TSp.of rfl (Grows.refl _), ⟨_, rfl, by rw [ByteArray.size_append]; rw [asize]; simp; omega⟩, no_start (by kernel_rfl)⟩)
    case oA5 =>
      intro ev wo hev hC hs hph
      have u34 := see_used hs 34 4 (by kernel_rfl) (by kernel_rfl) rfl
      obtain ⟨s34, f34, z34⟩ := u34
      exact ob_yes (wanted_none rfl) (does_value (by simp [go_sem, f34, hev.const, digL_length]; rw [if_neg (by omega)]; try first | exact ⟨rfl, rfl⟩ | rfl) ⟨hC, TSp.of rfl (Grows.refl _), ⟨_, rfl, by rw [asize]; simp; omega⟩, no_start (by kernel_rfl)⟩)
    case oA6 =>
      intro ev wo hev hC hs hph
      have e3 := see_env hA hs 3 (by kernel_rfl) (by kernel_rfl) rfl
      exact ob_det (wanted_none rfl) rfl (by kernel_rfl) hC (TSp.of rfl (Grows.refl _)) (by simp [go_sem, e3]; try first | exact ⟨rfl, rfl⟩ | rfl)
    case oA7 =>
      intro ev wo hev hC hs hph
      have e36 := see_det hs 36 6 (by kernel_rfl) (by kernel_rfl) rfl
      exact ob_det (wanted_none rfl) rfl (by kernel_rfl) hC (TSp.of rfl (Grows.refl _)) (by simp [go_sem, e36, hev.const, q3]; try first | exact ⟨rfl, rfl⟩ | rfl)
    case oA8 =>
      intro ev wo hev hC hs hph
      have e37 := see_det hs 37 7 (by kernel_rfl) (by kernel_rfl) rfl
      exact ob_yes (wanted_none rfl) (does_enter (by simp [go_sem, e37, hev.func, hev.const]; try first | exact ⟨rfl, rfl⟩ | rfl) (Calls.mono (five_int (civY (t / 86400)) (by omega) y1 wo (Ht wo hC)) (by
        rintro ev2 w3 ⟨rfl, hb3⟩
        exact ⟨_, rfl, hC.trans (hb3.mono hC.size), TSp.of rfl hb3, rfl, no_start (by kernel_rfl)⟩)))
    case oA9 =>
      intro ev wo hev hC hs hph
      have e38 := see_det hs 38 8 (by kernel_rfl) (by kernel_rfl) rfl
      exact ob_det (wanted_none rfl) rfl (by kernel_rfl) hC (TSp.of rfl (Grows.refl _)) (by simp [go_sem, e38, hev.const]; try first | exact ⟨rfl, rfl⟩ | rfl)
    case oA10 =>
      intro ev wo hev hC hs hph
      have u35 := see_used hs 35 5 (by kernel_rfl) (by kernel_rfl) rfl
      have e39 := see_det hs 39 9 (by kernel_rfl) (by kernel_rfl) rfl
      obtain ⟨s35, f35, z35⟩ := u35
      exact ob_yes (wanted_none rfl) (does_value (by simp [go_sem, f35, e39, hev.const, digL_length]; rw [if_neg (by omega)]; try first | exact ⟨rfl, rfl⟩ | rfl) ⟨hC, TSp.of rfl (Grows.refl _), ⟨_, rfl, by rw [ByteArray.size_append, ByteArray.size_extract]; omega⟩, no_start (by kernel_rfl)⟩)
    case oA11 =>
      intro ev wo hev hC hs hph
      have u40 := see_used hs 40 10 (by kernel_rfl) (by kernel_rfl) rfl
      obtain ⟨s40, f40, z40⟩ := u40
      exact ob_yes (wanted_none rfl) (does_value (by simp [go_sem, f40, hev.const, digL_length]; rw [if_neg (by omega)]; try first | exact ⟨rfl, rfl⟩ | rfl) ⟨hC, TSp.of rfl (Grows.refl _), ⟨_, rfl, by rw [asize]; simp; omega⟩, no_start (by kernel_rfl)⟩)
    case oA12 =>
      intro ev wo hev hC hs hph
      have e6 := see_env hA hs 6 (by kernel_rfl) (by kernel_rfl) rfl
      exact ob_det (wanted_none rfl) rfl (by kernel_rfl) hC (TSp.of rfl (Grows.refl _)) (by simp [go_sem, e6]; try first | exact ⟨rfl, rfl⟩ | rfl)
    case oA13 =>
      intro ev wo hev hC hs hph
      have e42 := see_det hs 42 12 (by kernel_rfl) (by kernel_rfl) rfl
      exact ob_det (wanted_none rfl) rfl (by kernel_rfl) hC (TSp.of rfl (Grows.refl _)) (by simp [go_sem, e42, hev.const, q4]; try first | exact ⟨rfl, rfl⟩ | rfl)
    case oA14 =>
      intro ev wo hev hC hs hph
      have e43 := see_det hs 43 13 (by kernel_rfl) (by kernel_rfl) rfl
      exact ob_yes (wanted_none rfl) (does_enter (by simp [go_sem, e43, hev.func, hev.const]; try first | exact ⟨rfl, rfl⟩ | rfl) (Calls.mono (two_some (t % 86400 / 3600) (by omega) (by omega) wo (Ht wo hC)) (by
        rintro ev2 w3 ⟨s, rfl, _, hz, hb3⟩
        exact ⟨_, rfl, hC.trans (hb3.mono hC.size), TSp.of rfl hb3, ⟨s, rfl, hz⟩, no_start (by kernel_rfl)⟩)))
    case oA15 =>
      intro ev wo hev hC hs hph
      have u41 := see_used hs 41 11 (by kernel_rfl) (by kernel_rfl) rfl
      have u44 := see_used hs 44 14 (by kernel_rfl) (by kernel_rfl) rfl
      obtain ⟨s41, f41, z41⟩ := u41
      obtain ⟨s44, f44, z44⟩ := u44
      exact ob_yes (wanted_none rfl) (does_value (by simp [go_sem, f41, f44, hev.const, digL_length]; rw [if_neg (by omega)]; try first | exact ⟨rfl, rfl⟩ | rfl) ⟨hC, TSp.of rfl (Grows.refl _), ⟨_, rfl, by rw [ByteArray.size_append]; omega⟩, no_start (by kernel_rfl)⟩)
    case oA16 =>
      intro ev wo hev hC hs hph
      have u45 := see_used hs 45 15 (by kernel_rfl) (by kernel_rfl) rfl
      obtain ⟨s45, f45, z45⟩ := u45
      exact ob_yes (wanted_none rfl) (does_value (by simp [go_sem, f45, hev.const, digL_length]; rw [if_neg (by omega)]; try first | exact ⟨rfl, rfl⟩ | rfl) ⟨hC, TSp.of rfl (Grows.refl _), ⟨_, rfl, by rw [asize]; simp; omega⟩, no_start (by kernel_rfl)⟩)
    case oA17 =>
      intro ev wo hev hC hs hph
      have e6 := see_env hA hs 6 (by kernel_rfl) (by kernel_rfl) rfl
      exact ob_det (wanted_none rfl) rfl (by kernel_rfl) hC (TSp.of rfl (Grows.refl _)) (by simp [go_sem, e6]; try first | exact ⟨rfl, rfl⟩ | rfl)
    case oA18 =>
      intro ev wo hev hC hs hph
      have e47 := see_det hs 47 17 (by kernel_rfl) (by kernel_rfl) rfl
      exact ob_det (wanted_none rfl) rfl (by kernel_rfl) hC (TSp.of rfl (Grows.refl _)) (by simp [go_sem, e47, hev.const, q5]; try first | exact ⟨rfl, rfl⟩ | rfl)
    case oA19 =>
      intro ev wo hev hC hs hph
      have e48 := see_det hs 48 18 (by kernel_rfl) (by kernel_rfl) rfl
      exact ob_det (wanted_none rfl) rfl (by kernel_rfl) hC (TSp.of rfl (Grows.refl _)) (by simp [go_sem, e48, hev.const, q6]; try first | exact ⟨rfl, rfl⟩ | rfl)
    case oA20 =>
      intro ev wo hev hC hs hph
      have e49 := see_det hs 49 19 (by kernel_rfl) (by kernel_rfl) rfl
      exact ob_yes (wanted_none rfl) (does_enter (by simp [go_sem, e49, hev.func, hev.const]; try first | exact ⟨rfl, rfl⟩ | rfl) (Calls.mono (two_some (t % 3600 / 60) (by omega) (by omega) wo (Ht wo hC)) (by
        rintro ev2 w3 ⟨s, rfl, _, hz, hb3⟩
        exact ⟨_, rfl, hC.trans (hb3.mono hC.size), TSp.of rfl hb3, ⟨s, rfl, hz⟩, no_start (by kernel_rfl)⟩)))
    case oA21 =>
      intro ev wo hev hC hs hph
      have u46 := see_used hs 46 16 (by kernel_rfl) (by kernel_rfl) rfl
      have u50 := see_used hs 50 20 (by kernel_rfl) (by kernel_rfl) rfl
      obtain ⟨s46, f46, z46⟩ := u46
      obtain ⟨s50, f50, z50⟩ := u50
      exact ob_yes (wanted_none rfl) (does_value (by simp [go_sem, f46, f50, hev.const, digL_length]; rw [if_neg (by omega)]; try first | exact ⟨rfl, rfl⟩ | rfl) ⟨hC, TSp.of rfl (Grows.refl _), ⟨_, rfl, by rw [ByteArray.size_append]; omega⟩, no_start (by kernel_rfl)⟩)
    case oA22 =>
      intro ev wo hev hC hs hph
      have u51 := see_used hs 51 21 (by kernel_rfl) (by kernel_rfl) rfl
      obtain ⟨s51, f51, z51⟩ := u51
      exact ob_yes (wanted_none rfl) (does_value (by simp [go_sem, f51, hev.const, digL_length]; rw [if_neg (by omega)]; try first | exact ⟨rfl, rfl⟩ | rfl) ⟨hC, TSp.of rfl (Grows.refl _), ⟨_, rfl, by rw [asize]; simp; omega⟩, no_start (by kernel_rfl)⟩)
    case oA23 =>
      intro ev wo hev hC hs hph
      have e6 := see_env hA hs 6 (by kernel_rfl) (by kernel_rfl) rfl
      exact ob_det (wanted_none rfl) rfl (by kernel_rfl) hC (TSp.of rfl (Grows.refl _)) (by simp [go_sem, e6]; try first | exact ⟨rfl, rfl⟩ | rfl)
    case oA24 =>
      intro ev wo hev hC hs hph
      have e53 := see_det hs 53 23 (by kernel_rfl) (by kernel_rfl) rfl
      exact ob_det (wanted_none rfl) rfl (by kernel_rfl) hC (TSp.of rfl (Grows.refl _)) (by simp [go_sem, e53, hev.const, q7]; try first | exact ⟨rfl, rfl⟩ | rfl)
    case oA25 =>
      intro ev wo hev hC hs hph
      have e54 := see_det hs 54 24 (by kernel_rfl) (by kernel_rfl) rfl
      exact ob_yes (wanted_none rfl) (does_enter (by simp [go_sem, e54, hev.func, hev.const]; try first | exact ⟨rfl, rfl⟩ | rfl) (Calls.mono (two_some (t % 86400 % 60) (by omega) (by omega) wo (Ht wo hC)) (by
        rintro ev2 w3 ⟨s, rfl, _, hz, hb3⟩
        exact ⟨_, rfl, hC.trans (hb3.mono hC.size), TSp.of rfl hb3, ⟨s, rfl, hz⟩, no_start (by kernel_rfl)⟩)))
    case oA26 =>
      intro ev wo hev hC hs hph
      have u52 := see_used hs 52 22 (by kernel_rfl) (by kernel_rfl) rfl
      have u55 := see_used hs 55 25 (by kernel_rfl) (by kernel_rfl) rfl
      obtain ⟨s52, f52, z52⟩ := u52
      obtain ⟨s55, f55, z55⟩ := u55
      exact ob_yes (wanted_none rfl) (does_value (by simp [go_sem, f52, f55, hev.const, digL_length]; rw [if_neg (by omega)]; try first | exact ⟨rfl, rfl⟩ | rfl) ⟨hC, TSp.of rfl (Grows.refl _), ⟨_, rfl, by rw [ByteArray.size_append]; omega⟩, no_start (by kernel_rfl)⟩)
    case oA27 =>
      intro ev wo hev hC hs hph
      have u56 := see_used hs 56 26 (by kernel_rfl) (by kernel_rfl) rfl
      obtain ⟨s56, f56, z56⟩ := u56
      exact ob_yes (wanted_none rfl) (does_value (v := .string (s56 ++ ⟨#[32, 43, 48, 48, 48, 48]⟩)) (by simp [go_sem, f56, hev.const]; omega) ⟨hC, TSp.of rfl (Grows.refl _), ⟨_, rfl, app_ne _ _ _⟩, no_start (by kernel_rfl)⟩)
    case oA28 =>
      intro ev wo hev hC hs hph
      have u57 := see_held hs 57 27 (by kernel_rfl) (by kernel_rfl) rfl
      exact ob_yes (wanted_none rfl) (does_value (v := ev (.tmp 57)) (by simp [go_sem]) ⟨hC, TSp.of rfl (Grows.refl _), u57, no_start (by kernel_rfl)⟩)
    intro sg wf hC hph
    intro x33 hx33
    intro x34 hx34
    intro x35 hx35
    intro x40 hx40
    intro x41 hx41
    intro x44 hx44
    intro x45 hx45
    intro x46 hx46
    intro x50 hx50
    intro x51 hx51
    intro x52 hx52
    intro x55 hx55
    intro x56 hx56
    intro x57 hx57 h57
    intro x2 hx2 h2
    intro a58 hA58
    refine n_then ?_
    have hA59 := hA58.keep [2]
    simp only [argsE, keepE, lookS, Nat.reduceBEq, cond_true, cond_false, Nat.reduceAdd, gv_tt, gv_ff, Bool.true_and, Bool.false_and, Bool.true_or, Bool.false_or] at hA59
    clear hA hA58
    refine wp_ret ?_
    refine ret_1 hA59 2 rfl rfl ?_
    obtain ⟨s, rfl, hs⟩ := h2
    refine ⟨s, rfl, ?_, hC⟩
    rw [hs]
    unfold dateOk
    simp
    omega
end Go.Proofs.YtmjikfeaopmejaaGreatDoor
/-
  Messages: what they are in memory; which may be.
-/
namespace Go.Proofs.YtmjikfeaopmejaaGreatDoor
open Go.RowKit
set_option linter.unusedSimpArgs false
set_option linter.unusedVariables false
structure MsgV where
  uid : Nat
  date : Int
  flags : Int
  a : Option Addr
  c : Nat
  b : List UInt8
def msgC (m : MsgV) : List Value := [.int .u32 (m.uid : Nat), .int .i64 m.date, .int .i64 m.flags, .slice m.a m.b.length m.c]
theorem msgC_len (m : MsgV) : (msgC m).length = 4 := rfl
/-- messages whose octets read -/
structure Msgs (w : World) (A : Option Addr) (n : Nat) (l : List MsgV) : Prop where
  len : l.length = n
  row : Reads w w.heap.size 4 A n (l.flatMap msgC)
  octs : ∀ m ∈ l, Reads w w.heap.size 1 m.a m.b.length (u8s m.b)
  uids : ∀ m ∈ l, m.uid < 4294967296
  caps : ∀ m ∈ l, m.b.length ≤ m.c ∧ m.c ≤ 9223372036854775807
theorem Msgs.below {w w' : World} {A : Option Addr} {n : Nat} {l : List MsgV} (h : Msgs w A n l) (hb : Below w.heap.size w w') : Msgs w' A n l :=
  ⟨h.len, (h.row.below hb).more hb.size, fun m hm => ((h.octs m hm).below hb).more hb.size, h.uids, h.caps⟩
theorem Msgs.at_ {w : World} {A : Option Addr} {n i : Nat} {l : List MsgV} {m : MsgV} (h : Msgs w A n l) (hm : l[i]? = some m) : ∃ ad, A = some ad ∧ (ad.add (i * 4)).block < w.heap.size ∧
    w.cell? (ad.add (i * 4)) = some (.int .u32 (m.uid : Nat)) ∧ w.cell? ⟨(ad.add (i * 4)).block, (ad.add (i * 4)).off + 1, none⟩ = some (.int .i64 m.date) ∧ w.cell? ⟨(ad.add (i * 4)).block, (ad.add (i * 4)).off + 2, none⟩ = some (.int .i64 m.flags) ∧ w.cell? ⟨(ad.add (i * 4)).block, (ad.add (i * 4)).off + 3, none⟩ = some (.slice m.a m.b.length m.c) := by
  have hlt := (List.getElem?_eq_some_iff.1 hm).1
  have := h.len
  obtain ⟨ad, e, hb, h0, hj⟩ := rowK_at msgC_len h.row (by omega) hm
  exact ⟨ad, e, by rw [block_of_add]; exact hb, h0 _ rfl, hj 1 _ (by omega) rfl, hj 2 _ (by omega) rfl, hj 3 _ (by omega) rfl⟩
/-- a mailbox's cells -/
def boxC (nm : ByteArray) (e nx : Nat) (A : Option Addr) (n c : Nat) : Array Value := #[.string nm, .int .u32 (e : Nat), .int .u32 (nx : Nat), .slice A n c]
/-- may a time and flags be? -/
def fitsDF (d f : Int) : Bool := dateOk d && decide (0 ≤ f) && decide (f ≤ 31)
def fitsV (m : MsgV) : Bool := fitsDF m.date m.flags
def lastU (l : List MsgV) : Nat → Nat
  | 0 => 0
  | j + 1 => match l[j]? with | some y => y.uid | none => 0
theorem lastU_succ {l : List MsgV} {j : Nat} {x : MsgV} (hx : l[j]? = some x) : lastU l (j + 1) = x.uid := by
  show (match l[j]? with | some y => y.uid | none => 0) = _
  rw [hx]
/-- is a message right where it stands? -/
def msgStep (nx : Nat) (l : List MsgV) (j : Nat) (m : MsgV) : Bool := decide (lastU l j < m.uid) && decide (m.uid < nx) && fitsV m && decide (m.b.length ≤ 20000)
def msgAt (nx : Nat) (l : List MsgV) (j : Nat) : Bool := match l[j]? with | some m => msgStep nx l j m | none => true
def msgsN (nx : Nat) (l : List MsgV) (j : Nat) : Bool := (List.range j).all (msgAt nx l)
theorem msgsN_succ {nx : Nat} {l : List MsgV} {j : Nat} {x : MsgV} (hx : l[j]? = some x) : msgsN nx l (j + 1) = (msgsN nx l j && msgStep nx l j x) := by
  unfold msgsN
  rw [List.range_succ, List.all_append]
  simp [msgAt, hx]
theorem msgs_no {nx : Nat} {l : List MsgV} {j : Nat} {x : MsgV} (hx : l[j]? = some x) (h : msgStep nx l j x = false) : msgsN nx l l.length = false := by
  unfold msgsN
  rw [List.all_eq_false]
  exact ⟨j, List.mem_range.2 (List.getElem?_eq_some_iff.1 hx).1, by unfold msgAt; rw [hx]; simp only [h]; simp⟩
theorem msgs_at {nx : Nat} {l : List MsgV} {j : Nat} {x : MsgV} (hx : l[j]? = some x) (h : msgsN nx l l.length = true) : msgStep nx l j x = true := by
  cases hs : msgStep nx l j x with
  | true => rfl
  | false => rw [msgs_no hx hs] at h; cases h
/-- is a mailbox right? -/
def boxRight (nm : ByteArray) (e nx : Nat) (l : List MsgV) : Bool := nameIs nm && decide (1 ≤ e) && decide (1 ≤ nx) && decide (l.length ≤ 500) && msgsN nx l l.length
end Go.Proofs.YtmjikfeaopmejaaGreatDoor
/-
  Notes: what they are; walks: which are formed, by both sides.
-/
namespace Go.Proofs.YtmjikfeaopmejaaGreatDoor
open Go.RowKit
set_option linter.unusedSimpArgs false
set_option linter.unusedVariables false
section
variable {P : Program} {Q : Exit → Act → World → Prop} {a : Act} {w : World} {n : Nat} {Γ : Env} {l rest : List Oper} {o : Oper} {t : Nat} {b : Bool}
/-- a guarded call that answers with some text and makes memory alone -/
theorem wl_gcalls {gi gt : Nat} {f : FuncId} {args : Array Value} {R : ByteArray → Prop} (q : Bool) (hA : At n Γ a) (hg : o.guard = some (gi, b)) (hgd : (l[gi]?).bind (·.dst) = some gt) (hl : look Γ gt = some (.bool q)) (hd : o.dst = some t) (ht : t < n)
    (hrun : q = b → ∀ ev, EvIn Γ ev → (execOp ev o).run P w = .ok (.enter f args) w) (hc : q = b → Calls P f args w fun e w' => ∃ s, e = .returned (.string s) ∧ R s ∧ Below w.heap.size w w')
    (hk : ∀ (s : ByteArray) a' w', (q = b → R s) → Below w.heap.size w w' → At n ((t, gv q b (.string s)) :: Γ) a' → wpList P l.toArray Q rest a' w') : wpList P l.toArray Q (o :: rest) a w := by
  refine wl_gcall q hA hg hgd hl hd ht hrun hc (fun v w' => (∃ s, v = .string s ∧ (q = b → R s) ∧ Below w.heap.size w w') ∨ (q ≠ b ∧ Below w.heap.size w w')) (fun _ e w' ⟨s, h1, h2, h3⟩ => ⟨_, h1, .inl ⟨s, rfl, fun _ => h2, h3⟩⟩) (fun h => .inr ⟨h, Below.refl _ _⟩) ?_
  rintro v a' w' (⟨s, rfl, h2, h3⟩ | ⟨h2, h3⟩) hA'
  · exact hk s a' w' h2 h3 hA'
  · refine hk ⟨#[]⟩ a' w' (fun e => absurd e h2) h3 ?_
    have e : gv q b v = gv q b (.string ⟨#[]⟩) := by
      have : (q == b) = false := by simpa using h2
      unfold gv gw
      rw [this]
      rfl
    rw [← e]
    exact hA'
end
structure NoteV where
  kind : Int
  ep : Nat
  nm : ByteArray
  m : MsgV
def noteC (k : Int) (e : Nat) (nm : ByteArray) (m : MsgV) : Array Value := #[.int .i64 k, .int .u32 (e : Nat), .string nm, .int .u32 (m.uid : Nat), .int .i64 m.date, .int .i64 m.flags, .slice m.a m.b.length m.c]
def bareV (d f : Int) (n : Nat) : Bool := d == 0 && f == 0 && (n : Int) == 0
def fullV (m : MsgV) : Bool := decide (1 ≤ m.uid) && (fitsDF m.date m.flags && decide (m.b.length ≤ 20000))
/-- may a note be? -/
def formedV (k : Int) (e : Nat) (nm : ByteArray) (m : MsgV) : Bool := decide (1 ≤ e) && (bif k == 1 then nameIs nm && bareV m.date m.flags m.b.length && m.uid == 0 else bif k == 2 then nameIs nm && fullV m else k == 3 && nm.toList.isEmpty && bareV m.date m.flags m.b.length && decide (1 ≤ m.uid))
theorem le1 (u : Nat) : decide ((1 : Int) ≤ (u : Int)) = decide (1 ≤ u) := by rw [Bool.eq_iff_iff]; simp; omega
theorem eq0 (u : Nat) : ((u : Int) == 0) = (u == 0) := by rw [Bool.eq_iff_iff]; simp
theorem le20000 (n : Nat) : decide ((n : Int) ≤ 20000) = decide (n ≤ 20000) := by rw [Bool.eq_iff_iff]; simp; omega
theorem formed_0 {k : Int} {e : Nat} (nm : ByteArray) (m : MsgV) (h : decide ((e : Int) < 1) = true) : formedV k e nm m = false := by
  have : ¬ 1 ≤ e := by simp at h; omega
  unfold formedV
  simp [this]
theorem formed_1 {k : Int} {e : Nat} (nm : ByteArray) (m : MsgV) (h : decide ((e : Int) < 1) = false) (h1 : (k == 1) = true) : formedV k e nm m = (nameIs nm && bareV m.date m.flags m.b.length && (m.uid : Int) == 0) := by
  have : 1 ≤ e := by simp at h; omega
  unfold formedV
  rw [h1, eq0]
  simp [this]
theorem formed_2 {k : Int} {e : Nat} (nm : ByteArray) (m : MsgV) (h : decide ((e : Int) < 1) = false) (h1 : (k == 1) = false) (h2 : (k == 2) = true) : formedV k e nm m = (nameIs nm && fullV m) := by
  have : 1 ≤ e := by simp at h; omega
  unfold formedV
  rw [h1, h2]
  simp [this]
theorem formed_3 {k : Int} {e : Nat} (nm : ByteArray) (m : MsgV) (h : decide ((e : Int) < 1) = false) (h1 : (k == 1) = false) (h2 : (k == 2) = false) : formedV k e nm m = (k == 3 && nm.toList.isEmpty && bareV m.date m.flags m.b.length && decide ((1 : Int) ≤ (m.uid : Int))) := by
  have : 1 ≤ e := by simp at h; omega
  unfold formedV
  rw [h1, h2, le1]
  simp [this]
theorem bNamed_any (s : ByteArray) (hs : s.size ≤ 9223372036854775807) (w : World) (hm : MaxCell w) :
    Calls Tryz.prog 36 #[.string s] w fun ev w' => ev = .returned (.bool (nameIs s)) ∧ Below w.heap.size w w' := by
  obtain ⟨mx, hmx⟩ := hm
  refine calls_at 16 Tryz.func36 rfl rfl (Nat.le_of_ble_eq_true rfl) ?_
  intro a hA
  simp only [argsE, keepE, lookS, Nat.reduceBEq, cond_true, cond_false, Nat.reduceAdd, gv_tt, gv_ff, Bool.true_and, Bool.false_and, Bool.true_or, Bool.false_or] at hA
  refine wp_seq ?_
  refine wp_region_lit ?_
  refine wl_op hA rfl rfl (by decide) (fun ev h => by simp [go_sem, h.c]; try first | exact ⟨rfl, rfl⟩ | rfl) fun a1 hA1 => ?_
  refine wl_nil ?_
  refine n_then ?_
  have hA2 := hA1.keep [0]
  simp only [argsE, keepE, lookS, Nat.reduceBEq, cond_true, cond_false, Nat.reduceAdd, gv_tt, gv_ff, Bool.true_and, Bool.false_and, Bool.true_or, Bool.false_or] at hA2
  clear hA hA1
  refine wp_seq ?_
  refine wp_region_lit ?_
  refine wl_op hA2 rfl rfl (by decide) (fun ev h => by simp [go_sem, h.get 0 rfl]; try first | exact ⟨rfl, rfl⟩ | rfl) fun a3 hA3 => ?_
  -- stop call slot 7
  refine wl_call hA3 rfl rfl (by decide) (fun ev h => exec_call Tryz.func62 (by kernel_rfl) rfl (h.f _) (by first | (simp only [List.map_toArray, List.map_cons, List.map_nil, h.get 6 rfl, h.c]; done) | (simp only [List.map_toArray, List.map_cons, List.map_nil, h.get 6 rfl, h.c]; rfl) | (simp [List.map_toArray, List.map_cons, List.map_nil, h.get 6 rfl, h.c]; done) | (simp [List.map_toArray, List.map_cons, List.map_nil, h.get 6 rfl, h.c]; rfl) | rfl)) (norm_all s mx _ hs hmx) ?_
  rintro e w1 ⟨rfl, hb⟩
  refine ⟨_, rfl, fun a4 hA4 => ?_⟩
  refine wl_op hA4 rfl rfl (by decide) (fun ev h => by simp [go_sem, h.get 7 rfl]; try first | exact ⟨rfl, rfl⟩ | rfl) fun a5 hA5 => ?_
  refine wl_op hA5 rfl rfl (by decide) (fun ev h => by simp [go_sem, h.get 5 rfl]; try first | exact ⟨rfl, rfl⟩ | rfl) fun a6 hA6 => ?_
  refine wl_op hA6 rfl rfl (by decide) (fun ev h => by simp [go_sem, h.get 5 rfl]; try first | exact ⟨rfl, rfl⟩ | rfl) fun a7 hA7 => ?_
  refine wl_op hA7 rfl rfl (by decide) (fun ev h => by simp [go_sem, h.get 8 rfl]; try first | exact ⟨rfl, rfl⟩ | rfl) fun a8 hA8 => ?_
  refine wl_op hA8 rfl rfl (by decide) (fun ev h => by simp [go_sem, h.get 9 rfl]; try first | exact ⟨rfl, rfl⟩ | rfl) fun a9 hA9 => ?_
  refine wl_nil ?_
  refine n_then ?_
  have hA10 := hA9.keep [0, 3, 4]
  simp only [argsE, keepE, lookS, Nat.reduceBEq, cond_true, cond_false, Nat.reduceAdd, gv_tt, gv_ff, Bool.true_and, Bool.false_and, Bool.true_or, Bool.false_or] at hA10
  clear hA2 hA3 hA4 hA5 hA6 hA7 hA8 hA9 a1 a3 a4 a5 a6 a7 a8
  refine wp_seq ?_
  refine wp_region_lit ?_
  refine wl_op hA10 rfl rfl (by decide) (fun ev h => by simp [go_sem, h.get 4 rfl]; try first | exact ⟨rfl, rfl⟩ | rfl) fun a11 hA11 => ?_
  refine wl_op hA11 rfl rfl (by decide) (fun ev h => by simp [go_sem, h.get 10 rfl]; try first | exact ⟨rfl, rfl⟩ | rfl) fun a12 hA12 => ?_
  refine wl_guard _ hA12 rfl rfl rfl rfl (by decide) (fun hq ev h => by simp [go_sem, (h.get 3 rfl)]; try first | exact ⟨rfl, rfl⟩ | rfl) fun a13 hA13 => ?_
  refine wl_guard _ hA13 rfl rfl rfl rfl (by decide) (fun hq ev h => by simp [go_sem, (h.get 0 rfl)]; try first | exact ⟨rfl, rfl⟩ | rfl) fun a14 hA14 => ?_
  refine wl_guard _ hA14 rfl rfl rfl rfl (by decide) (fun hq ev h => by simp [go_sem, ((h.get 12 rfl).trans (gw_t (beq_t hq))), ((h.get 13 rfl).trans (gw_t (beq_t hq)))]; try first | exact ⟨rfl, rfl⟩ | rfl) fun a15 hA15 => ?_
  refine wl_op hA15 rfl rfl (by decide) (fun ev h => by first | exact pick_and rfl (h.get 11 rfl) (h.get 14 rfl) (h.c _) | exact pick_or rfl (h.get 11 rfl) (h.get 14 rfl) (h.c _) | (simp [go_sem, h.c, h.get 11 rfl, h.get 14 rfl, gv_or, gv_and]; try first | exact ⟨rfl, rfl⟩ | rfl)) fun a16 hA16 => ?_
  refine wl_op hA16 rfl rfl (by decide) (fun ev h => by simp [go_sem, h.get 15 rfl]; try first | exact ⟨rfl, rfl⟩ | rfl) fun a17 hA17 => ?_
  refine wl_nil ?_
  refine n_then ?_
  have hA18 := hA17.keep [2]
  simp only [argsE, keepE, lookS, Nat.reduceBEq, cond_true, cond_false, Nat.reduceAdd, gv_tt, gv_ff, Bool.true_and, Bool.false_and, Bool.true_or, Bool.false_or] at hA18
  clear hA10 hA11 hA12 hA13 hA14 hA15 hA16 hA17 a9 a11 a12 a13 a14 a15 a16
  refine wp_ret ?_
  -- ret
  refine ret_1 hA18 2 rfl rfl ?_
  exact ⟨ret_bool (by unfold nameIs; rfl), hb⟩
theorem bare_any (u d f : Int) (A : Option Addr) (n c : Nat) (w : World) :
    Calls Tryz.prog 37 #[.agg #[.int .u32 u, .int .i64 d, .int .i64 f, .slice A n c]] w fun ev w' => ev = .returned (.bool (bareV d f n)) ∧ Below w.heap.size w w' := by
  refine calls_at 17 Tryz.func37 rfl rfl (Nat.le_of_ble_eq_true rfl) ?_
  intro a hA
  simp only [argsE, keepE, lookS, Nat.reduceBEq, cond_true, cond_false, Nat.reduceAdd, gv_tt, gv_ff, Bool.true_and, Bool.false_and, Bool.true_or, Bool.false_or] at hA
  refine wp_seq ?_
  refine wp_region_lit ?_
  -- stop box slot 1
  refine wl_new hA rfl rfl (by decide) (fun ev h => by simp [go_sem, h.get 0 rfl]; try first | exact ⟨rfl, rfl⟩ | rfl) fun w1 a19 (K : Blk _ _ _ _) hz hb hA19 => ?_
  refine wl_op hA19 rfl rfl (by decide) (fun ev h => by simp [go_sem, h.c, K.cell]; try first | exact ⟨rfl, rfl⟩ | rfl) fun a20 hA20 => ?_
  refine wl_nil ?_
  refine n_then ?_
  have hA21 := hA20.keep [1]
  simp only [argsE, keepE, lookS, Nat.reduceBEq, cond_true, cond_false, Nat.reduceAdd, gv_tt, gv_ff, Bool.true_and, Bool.false_and, Bool.true_or, Bool.false_or] at hA21
  clear hA hA19 hA20 a19
  refine wp_seq ?_
  refine wp_region_lit ?_
  refine wl_op hA21 rfl rfl (by decide) (fun ev h => by simp [go_sem, h.get 1 rfl, K.cell]; try first | exact ⟨rfl, rfl⟩ | rfl) fun a22 hA22 => ?_
  refine wl_op hA22 rfl rfl (by decide) (fun ev h => by simp [go_sem, h.get 3 rfl, K.cell]; try first | exact ⟨rfl, rfl⟩ | rfl) fun a23 hA23 => ?_
  refine wl_op hA23 rfl rfl (by decide) (fun ev h => by simp [go_sem, h.c, h.get 4 rfl, K.cell]; try first | exact ⟨rfl, rfl⟩ | rfl) fun a24 hA24 => ?_
  refine wl_op hA24 rfl rfl (by decide) (fun ev h => by simp [go_sem, h.get 5 rfl, K.cell]; try first | exact ⟨rfl, rfl⟩ | rfl) fun a25 hA25 => ?_
  refine wl_guard _ hA25 rfl rfl rfl rfl (by decide) (fun hq ev h => by simp [go_sem, (h.get 1 rfl), K.cell]; try first | exact ⟨rfl, rfl⟩ | rfl) fun a26 hA26 => ?_
  refine wl_guard _ hA26 rfl rfl rfl rfl (by decide) (fun hq ev h => by simp [go_sem, ((h.get 7 rfl).trans (gw_t (beq_t hq))), K.cell]; try first | exact ⟨rfl, rfl⟩ | rfl) fun a27 hA27 => ?_
  refine wl_guard _ hA27 rfl rfl rfl rfl (by decide) (fun hq ev h => by simp [go_sem, h.c, ((h.get 8 rfl).trans (gw_t (beq_t hq))), K.cell]; try first | exact ⟨rfl, rfl⟩ | rfl) fun a28 hA28 => ?_
  refine wl_op hA28 rfl rfl (by decide) (fun ev h => by first | exact pick_and rfl (h.get 6 rfl) (h.get 9 rfl) (h.c _) | exact pick_or rfl (h.get 6 rfl) (h.get 9 rfl) (h.c _) | (simp [go_sem, h.c, h.get 6 rfl, h.get 9 rfl, K.cell, gv_or, gv_and]; try first | exact ⟨rfl, rfl⟩ | rfl)) fun a29 hA29 => ?_
  refine wl_op hA29 rfl rfl (by decide) (fun ev h => by simp [go_sem, h.get 10 rfl, K.cell]; try first | exact ⟨rfl, rfl⟩ | rfl) fun a30 hA30 => ?_
  refine wl_guard _ hA30 rfl rfl rfl rfl (by decide) (fun hq ev h => by simp [go_sem, (h.get 1 rfl), K.cell]; try first | exact ⟨rfl, rfl⟩ | rfl) fun a31 hA31 => ?_
  refine wl_guard _ hA31 rfl rfl rfl rfl (by decide) (fun hq ev h => by simp [go_sem, ((h.get 12 rfl).trans (gw_t (beq_t hq))), K.cell]; try first | exact ⟨rfl, rfl⟩ | rfl) fun a32 hA32 => ?_
  refine wl_guard _ hA32 rfl rfl rfl rfl (by decide) (fun hq ev h => by simp [go_sem, ((h.get 13 rfl).trans (gw_t (beq_t hq))), K.cell]; try first | exact ⟨rfl, rfl⟩ | rfl) fun a33 hA33 => ?_
  refine wl_guard _ hA33 rfl rfl rfl rfl (by decide) (fun hq ev h => by simp [go_sem, h.c, ((h.get 14 rfl).trans (gw_t (beq_t hq))), K.cell]; try first | exact ⟨rfl, rfl⟩ | rfl) fun a34 hA34 => ?_
  refine wl_op hA34 rfl rfl (by decide) (fun ev h => by first | exact pick_and rfl (h.get 11 rfl) (h.get 15 rfl) (h.c _) | exact pick_or rfl (h.get 11 rfl) (h.get 15 rfl) (h.c _) | (simp [go_sem, h.c, h.get 11 rfl, h.get 15 rfl, K.cell, gv_or, gv_and]; try first | exact ⟨rfl, rfl⟩ | rfl)) fun a35 hA35 => ?_
  refine wl_op hA35 rfl rfl (by decide) (fun ev h => by simp [go_sem, h.get 16 rfl, K.cell]; try first | exact ⟨rfl, rfl⟩ | rfl) fun a36 hA36 => ?_
  refine wl_nil ?_
  refine n_then ?_
  have hA37 := hA36.keep [2]
  simp only [argsE, keepE, lookS, Nat.reduceBEq, cond_true, cond_false, Nat.reduceAdd, gv_tt, gv_ff, Bool.true_and, Bool.false_and, Bool.true_or, Bool.false_or] at hA37
  clear hA21 hA22 hA23 hA24 hA25 hA26 hA27 hA28 hA29 hA30 hA31 hA32 hA33 hA34 hA35 hA36 a20 a22 a23 a24 a25 a26 a27 a28 a29 a30 a31 a32 a33 a34 a35
  refine wp_ret ?_
  -- ret
  refine ret_1 hA37 2 rfl rfl ?_
  exact ⟨rfl, hb⟩
theorem full_eq (m : MsgV) (s : ByteArray) (hs : decide ((1 : Int) ≤ (m.uid : Int)) = true → s.toList.isEmpty = !dateOk m.date) : (decide ((1 : Int) ≤ (m.uid : Int)) && !s.toList.isEmpty && decide (0 ≤ m.flags) && decide (m.flags ≤ 31) && decide ((m.b.length : Int) ≤ 20000)) = fullV m := by
  unfold fullV fitsDF
  rw [le20000]
  rw [le1] at *
  cases hu : decide (1 ≤ m.uid) with
  | false => simp
  | true => rw [hs hu]; simp [Bool.and_assoc]
theorem rightMsg_any (m : MsgV) (w : World) (htab : Lib.TabIs Tryz.prog w "internal/strconv.uint64pow10" .u64 Lib.pow10Tab) :
    Calls Tryz.prog 38 #[.agg #[.int .u32 (m.uid : Nat), .int .i64 m.date, .int .i64 m.flags, .slice m.a m.b.length m.c]] w fun ev w' => ev = .returned (.bool (fullV m)) ∧ Below w.heap.size w w' := by
  have Ht := Lib.tabBelow_of_tabIs htab
  refine calls_at 28 Tryz.func38 rfl rfl (Nat.le_of_ble_eq_true rfl) ?_
  intro a hA
  simp only [argsE, keepE, lookS, Nat.reduceBEq, cond_true, cond_false, Nat.reduceAdd, gv_tt, gv_ff, Bool.true_and, Bool.false_and, Bool.true_or, Bool.false_or] at hA
  refine wp_seq ?_
  refine wp_region_lit ?_
  -- stop box slot 1
  refine wl_new hA rfl rfl (by decide) (fun ev h => by simp [go_sem, h.get 0 rfl]; try first | exact ⟨rfl, rfl⟩ | rfl) fun w1 a38 (K : Blk _ _ _ _) hz hb hA38 => ?_
  refine wl_op hA38 rfl rfl (by decide) (fun ev h => by simp [go_sem, h.c, K.cell]; try first | exact ⟨rfl, rfl⟩ | rfl) fun a39 hA39 => ?_
  refine wl_nil ?_
  refine n_then ?_
  have hA40 := hA39.keep [1]
  simp only [argsE, keepE, lookS, Nat.reduceBEq, cond_true, cond_false, Nat.reduceAdd, gv_tt, gv_ff, Bool.true_and, Bool.false_and, Bool.true_or, Bool.false_or] at hA40
  clear hA hA38 hA39 a38
  refine wp_seq ?_
  refine wp_region_lit ?_
  refine wl_op hA40 rfl rfl (by decide) (fun ev h => by simp [go_sem, h.get 1 rfl, K.cell]; try first | exact ⟨rfl, rfl⟩ | rfl) fun a41 hA41 => ?_
  refine wl_op hA41 rfl rfl (by decide) (fun ev h => by simp [go_sem, h.get 3 rfl, K.cell]; try first | exact ⟨rfl, rfl⟩ | rfl) fun a42 hA42 => ?_
  refine wl_op hA42 rfl rfl (by decide) (fun ev h => by simp [go_sem, h.c, h.get 4 rfl, K.cell]; try first | exact ⟨rfl, rfl⟩ | rfl) fun a43 hA43 => ?_
  refine wl_op hA43 rfl rfl (by decide) (fun ev h => by simp [go_sem, h.get 5 rfl, K.cell]; try first | exact ⟨rfl, rfl⟩ | rfl) fun a44 hA44 => ?_
  refine wl_guard _ hA44 rfl rfl rfl rfl (by decide) (fun hq ev h => by simp [go_sem, (h.get 1 rfl), K.cell]; try first | exact ⟨rfl, rfl⟩ | rfl) fun a45 hA45 => ?_
  refine wl_guard _ hA45 rfl rfl rfl rfl (by decide) (fun hq ev h => by simp [go_sem, ((h.get 7 rfl).trans (gw_t (beq_t hq))), K.cell]; try first | exact ⟨rfl, rfl⟩ | rfl) fun a46 hA46 => ?_
  -- stop call slot 9
  refine wl_gcalls _ hA46 rfl rfl rfl rfl (by decide) (fun hq ev h => exec_call Tryz.func63 (by kernel_rfl) rfl (h.f _) (by first | (simp only [List.map_toArray, List.map_cons, List.map_nil, ((h.get 8 rfl).trans (gw_t (beq_t hq))), h.c]; done) | (simp only [List.map_toArray, List.map_cons, List.map_nil, ((h.get 8 rfl).trans (gw_t (beq_t hq))), h.c]; rfl) | (simp [List.map_toArray, List.map_cons, List.map_nil, ((h.get 8 rfl).trans (gw_t (beq_t hq))), h.c, K.cell]; done) | (simp [List.map_toArray, List.map_cons, List.map_nil, ((h.get 8 rfl).trans (gw_t (beq_t hq))), h.c, K.cell]; rfl) | rfl)) (fun hq => print_some m.date _ (Ht _ hb)) fun s a47 w2 hs hb2 hA47 => ?_
  replace K := K.below hb2 K.lt
  refine wl_guard _ hA47 rfl rfl rfl rfl (by decide) (fun hq ev h => by simp [go_sem, h.c, ((h.get 9 rfl).trans (gw_t (beq_t hq))), K.cell]; try first | exact ⟨rfl, rfl⟩ | rfl) fun a48 hA48 => ?_
  refine wl_op hA48 rfl rfl (by decide) (fun ev h => by first | exact pick_and rfl (h.get 6 rfl) (h.get 10 rfl) (h.c _) | exact pick_or rfl (h.get 6 rfl) (h.get 10 rfl) (h.c _) | (simp [go_sem, h.c, h.get 6 rfl, h.get 10 rfl, K.cell, gv_or, gv_and]; try first | exact ⟨rfl, rfl⟩ | rfl)) fun a49 hA49 => ?_
  refine wl_op hA49 rfl rfl (by decide) (fun ev h => by simp [go_sem, h.get 11 rfl, K.cell]; try first | exact ⟨rfl, rfl⟩ | rfl) fun a50 hA50 => ?_
  refine wl_guard _ hA50 rfl rfl rfl rfl (by decide) (fun hq ev h => by simp [go_sem, (h.get 1 rfl), K.cell]; try first | exact ⟨rfl, rfl⟩ | rfl) fun a51 hA51 => ?_
  refine wl_guard _ hA51 rfl rfl rfl rfl (by decide) (fun hq ev h => by simp [go_sem, ((h.get 13 rfl).trans (gw_t (beq_t hq))), K.cell]; try first | exact ⟨rfl, rfl⟩ | rfl) fun a52 hA52 => ?_
  refine wl_guard _ hA52 rfl rfl rfl rfl (by decide) (fun hq ev h => by simp [go_sem, h.c, ((h.get 14 rfl).trans (gw_t (beq_t hq))), K.cell]; try first | exact ⟨rfl, rfl⟩ | rfl) fun a53 hA53 => ?_
  refine wl_op hA53 rfl rfl (by decide) (fun ev h => by first | exact pick_and rfl (h.get 12 rfl) (h.get 15 rfl) (h.c _) | exact pick_or rfl (h.get 12 rfl) (h.get 15 rfl) (h.c _) | (simp [go_sem, h.c, h.get 12 rfl, h.get 15 rfl, K.cell, gv_or, gv_and]; try first | exact ⟨rfl, rfl⟩ | rfl)) fun a54 hA54 => ?_
  refine wl_op hA54 rfl rfl (by decide) (fun ev h => by simp [go_sem, h.get 16 rfl, K.cell]; try first | exact ⟨rfl, rfl⟩ | rfl) fun a55 hA55 => ?_
  refine wl_guard _ hA55 rfl rfl rfl rfl (by decide) (fun hq ev h => by simp [go_sem, (h.get 1 rfl), K.cell]; try first | exact ⟨rfl, rfl⟩ | rfl) fun a56 hA56 => ?_
  refine wl_guard _ hA56 rfl rfl rfl rfl (by decide) (fun hq ev h => by simp [go_sem, ((h.get 18 rfl).trans (gw_t (beq_t hq))), K.cell]; try first | exact ⟨rfl, rfl⟩ | rfl) fun a57 hA57 => ?_
  refine wl_guard _ hA57 rfl rfl rfl rfl (by decide) (fun hq ev h => by simp [go_sem, h.c, ((h.get 19 rfl).trans (gw_t (beq_t hq))), K.cell]; try first | exact ⟨rfl, rfl⟩ | rfl) fun a58 hA58 => ?_
  refine wl_op hA58 rfl rfl (by decide) (fun ev h => by first | exact pick_and rfl (h.get 17 rfl) (h.get 20 rfl) (h.c _) | exact pick_or rfl (h.get 17 rfl) (h.get 20 rfl) (h.c _) | (simp [go_sem, h.c, h.get 17 rfl, h.get 20 rfl, K.cell, gv_or, gv_and]; try first | exact ⟨rfl, rfl⟩ | rfl)) fun a59 hA59 => ?_
  refine wl_op hA59 rfl rfl (by decide) (fun ev h => by simp [go_sem, h.get 21 rfl, K.cell]; try first | exact ⟨rfl, rfl⟩ | rfl) fun a60 hA60 => ?_
  refine wl_guard _ hA60 rfl rfl rfl rfl (by decide) (fun hq ev h => by simp [go_sem, (h.get 1 rfl), K.cell]; try first | exact ⟨rfl, rfl⟩ | rfl) fun a61 hA61 => ?_
  refine wl_guard _ hA61 rfl rfl rfl rfl (by decide) (fun hq ev h => by simp [go_sem, ((h.get 23 rfl).trans (gw_t (beq_t hq))), K.cell]; try first | exact ⟨rfl, rfl⟩ | rfl) fun a62 hA62 => ?_
  refine wl_guard _ hA62 rfl rfl rfl rfl (by decide) (fun hq ev h => by simp [go_sem, ((h.get 24 rfl).trans (gw_t (beq_t hq))), K.cell]; try first | exact ⟨rfl, rfl⟩ | rfl) fun a63 hA63 => ?_
  refine wl_guard _ hA63 rfl rfl rfl rfl (by decide) (fun hq ev h => by simp [go_sem, h.c, ((h.get 25 rfl).trans (gw_t (beq_t hq))), K.cell]; try first | exact ⟨rfl, rfl⟩ | rfl) fun a64 hA64 => ?_
  refine wl_op hA64 rfl rfl (by decide) (fun ev h => by first | exact pick_and rfl (h.get 22 rfl) (h.get 26 rfl) (h.c _) | exact pick_or rfl (h.get 22 rfl) (h.get 26 rfl) (h.c _) | (simp [go_sem, h.c, h.get 22 rfl, h.get 26 rfl, K.cell, gv_or, gv_and]; try first | exact ⟨rfl, rfl⟩ | rfl)) fun a65 hA65 => ?_
  refine wl_op hA65 rfl rfl (by decide) (fun ev h => by simp [go_sem, h.get 27 rfl, K.cell]; try first | exact ⟨rfl, rfl⟩ | rfl) fun a66 hA66 => ?_
  refine wl_nil ?_
  refine n_then ?_
  have hA67 := hA66.keep [2]
  simp only [argsE, keepE, lookS, Nat.reduceBEq, cond_true, cond_false, Nat.reduceAdd, gv_tt, gv_ff, Bool.true_and, Bool.false_and, Bool.true_or, Bool.false_or] at hA67
  clear hA40 hA41 hA42 hA43 hA44 hA45 hA46 hA47 hA48 hA49 hA50 hA51 hA52 hA53 hA54 hA55 hA56 hA57 hA58 hA59 hA60 hA61 hA62 hA63 hA64 hA65 hA66 a39 a41 a42 a43 a44 a45 a46 a47 a48 a49 a50 a51 a52 a53 a54 a55 a56 a57 a58 a59 a60 a61 a62 a63 a64 a65
  refine wp_ret ?_
  -- ret
  refine ret_1 hA67 2 rfl rfl ?_
  exact ⟨ret_bool (full_eq m s hs), hb.trans (hb2.mono hb.size)⟩
theorem refFits_any (u d f : Int) (A : Option Addr) (n c : Nat) (w : World) :
    Calls Tryz.prog 28 #[.agg #[.int .u32 u, .int .i64 d, .int .i64 f, .slice A n c]] w fun e w' => e = .returned (.bool (fitsDF d f && decide (n ≤ 20000))) ∧ Below w.heap.size w w' := by
  refine calls_at 27 Tryz.func28 rfl rfl (Nat.le_of_ble_eq_true rfl) ?_
  intro a hA
  simp only [argsE, keepE, lookS, Nat.reduceBEq, cond_true, cond_false, Nat.reduceAdd, gv_tt, gv_ff, Bool.true_and, Bool.false_and, Bool.true_or, Bool.false_or] at hA
  refine wp_seq ?_
  refine wp_region_lit ?_
  -- stop box slot 1
  refine wl_new hA rfl rfl (by decide) (fun ev h => by simp [go_sem, h.get 0 rfl]; try first | exact ⟨rfl, rfl⟩ | rfl) fun w1 a68 (K : Blk _ _ _ _) hz hb hA68 => ?_
  refine wl_op hA68 rfl rfl (by decide) (fun ev h => by simp [go_sem, h.c, K.cell]; try first | exact ⟨rfl, rfl⟩ | rfl) fun a69 hA69 => ?_
  refine wl_nil ?_
  refine n_then ?_
  have hA70 := hA69.keep [1]
  simp only [argsE, keepE, lookS, Nat.reduceBEq, cond_true, cond_false, Nat.reduceAdd, gv_tt, gv_ff, Bool.true_and, Bool.false_and, Bool.true_or, Bool.false_or] at hA70
  clear hA hA68 hA69 a68
  refine wp_seq ?_
  refine wp_region_lit ?_
  refine wl_op hA70 rfl rfl (by decide) (fun ev h => by simp [go_sem, h.get 1 rfl, K.cell]; try first | exact ⟨rfl, rfl⟩ | rfl) fun a71 hA71 => ?_
  refine wl_op hA71 rfl rfl (by decide) (fun ev h => by simp [go_sem, h.get 3 rfl, K.cell]; try first | exact ⟨rfl, rfl⟩ | rfl) fun a72 hA72 => ?_
  refine wl_op hA72 rfl rfl (by decide) (fun ev h => by simp [go_sem, h.c, h.get 4 rfl, K.cell]; try first | exact ⟨rfl, rfl⟩ | rfl) fun a73 hA73 => ?_
  refine wl_op hA73 rfl rfl (by decide) (fun ev h => by simp [go_sem, h.get 5 rfl, K.cell]; try first | exact ⟨rfl, rfl⟩ | rfl) fun a74 hA74 => ?_
  refine wl_guard _ hA74 rfl rfl rfl rfl (by decide) (fun hq ev h => by simp [go_sem, (h.get 1 rfl), K.cell]; try first | exact ⟨rfl, rfl⟩ | rfl) fun a75 hA75 => ?_
  refine wl_guard _ hA75 rfl rfl rfl rfl (by decide) (fun hq ev h => by simp [go_sem, ((h.get 7 rfl).trans (gw_t (beq_t hq))), K.cell]; try first | exact ⟨rfl, rfl⟩ | rfl) fun a76 hA76 => ?_
  refine wl_guard _ hA76 rfl rfl rfl rfl (by decide) (fun hq ev h => by simp [go_sem, h.c, ((h.get 8 rfl).trans (gw_t (beq_t hq))), K.cell]; try first | exact ⟨rfl, rfl⟩ | rfl) fun a77 hA77 => ?_
  refine wl_op hA77 rfl rfl (by decide) (fun ev h => by first | exact pick_and rfl (h.get 6 rfl) (h.get 9 rfl) (h.c _) | exact pick_or rfl (h.get 6 rfl) (h.get 9 rfl) (h.c _) | (simp [go_sem, h.c, h.get 6 rfl, h.get 9 rfl, K.cell, gv_or, gv_and]; try first | exact ⟨rfl, rfl⟩ | rfl)) fun a78 hA78 => ?_
  refine wl_op hA78 rfl rfl (by decide) (fun ev h => by simp [go_sem, h.get 10 rfl, K.cell]; try first | exact ⟨rfl, rfl⟩ | rfl) fun a79 hA79 => ?_
  refine wl_guard _ hA79 rfl rfl rfl rfl (by decide) (fun hq ev h => by simp [go_sem, (h.get 1 rfl), K.cell]; try first | exact ⟨rfl, rfl⟩ | rfl) fun a80 hA80 => ?_
  refine wl_guard _ hA80 rfl rfl rfl rfl (by decide) (fun hq ev h => by simp [go_sem, ((h.get 12 rfl).trans (gw_t (beq_t hq))), K.cell]; try first | exact ⟨rfl, rfl⟩ | rfl) fun a81 hA81 => ?_
  refine wl_guard _ hA81 rfl rfl rfl rfl (by decide) (fun hq ev h => by simp [go_sem, h.c, ((h.get 13 rfl).trans (gw_t (beq_t hq))), K.cell]; try first | exact ⟨rfl, rfl⟩ | rfl) fun a82 hA82 => ?_
  refine wl_op hA82 rfl rfl (by decide) (fun ev h => by first | exact pick_and rfl (h.get 11 rfl) (h.get 14 rfl) (h.c _) | exact pick_or rfl (h.get 11 rfl) (h.get 14 rfl) (h.c _) | (simp [go_sem, h.c, h.get 11 rfl, h.get 14 rfl, K.cell, gv_or, gv_and]; try first | exact ⟨rfl, rfl⟩ | rfl)) fun a83 hA83 => ?_
  refine wl_op hA83 rfl rfl (by decide) (fun ev h => by simp [go_sem, h.get 15 rfl, K.cell]; try first | exact ⟨rfl, rfl⟩ | rfl) fun a84 hA84 => ?_
  refine wl_guard _ hA84 rfl rfl rfl rfl (by decide) (fun hq ev h => by simp [go_sem, (h.get 1 rfl), K.cell]; try first | exact ⟨rfl, rfl⟩ | rfl) fun a85 hA85 => ?_
  refine wl_guard _ hA85 rfl rfl rfl rfl (by decide) (fun hq ev h => by simp [go_sem, ((h.get 17 rfl).trans (gw_t (beq_t hq))), K.cell]; try first | exact ⟨rfl, rfl⟩ | rfl) fun a86 hA86 => ?_
  refine wl_guard _ hA86 rfl rfl rfl rfl (by decide) (fun hq ev h => by simp [go_sem, h.c, ((h.get 18 rfl).trans (gw_t (beq_t hq))), K.cell]; try first | exact ⟨rfl, rfl⟩ | rfl) fun a87 hA87 => ?_
  refine wl_op hA87 rfl rfl (by decide) (fun ev h => by first | exact pick_and rfl (h.get 16 rfl) (h.get 19 rfl) (h.c _) | exact pick_or rfl (h.get 16 rfl) (h.get 19 rfl) (h.c _) | (simp [go_sem, h.c, h.get 16 rfl, h.get 19 rfl, K.cell, gv_or, gv_and]; try first | exact ⟨rfl, rfl⟩ | rfl)) fun a88 hA88 => ?_
  refine wl_op hA88 rfl rfl (by decide) (fun ev h => by simp [go_sem, h.get 20 rfl, K.cell]; try first | exact ⟨rfl, rfl⟩ | rfl) fun a89 hA89 => ?_
  refine wl_guard _ hA89 rfl rfl rfl rfl (by decide) (fun hq ev h => by simp [go_sem, (h.get 1 rfl), K.cell]; try first | exact ⟨rfl, rfl⟩ | rfl) fun a90 hA90 => ?_
  refine wl_guard _ hA90 rfl rfl rfl rfl (by decide) (fun hq ev h => by simp [go_sem, ((h.get 22 rfl).trans (gw_t (beq_t hq))), K.cell]; try first | exact ⟨rfl, rfl⟩ | rfl) fun a91 hA91 => ?_
  refine wl_guard _ hA91 rfl rfl rfl rfl (by decide) (fun hq ev h => by simp [go_sem, ((h.get 23 rfl).trans (gw_t (beq_t hq))), K.cell]; try first | exact ⟨rfl, rfl⟩ | rfl) fun a92 hA92 => ?_
  refine wl_guard _ hA92 rfl rfl rfl rfl (by decide) (fun hq ev h => by simp [go_sem, h.c, ((h.get 24 rfl).trans (gw_t (beq_t hq))), K.cell]; try first | exact ⟨rfl, rfl⟩ | rfl) fun a93 hA93 => ?_
  refine wl_op hA93 rfl rfl (by decide) (fun ev h => by first | exact pick_and rfl (h.get 21 rfl) (h.get 25 rfl) (h.c _) | exact pick_or rfl (h.get 21 rfl) (h.get 25 rfl) (h.c _) | (simp [go_sem, h.c, h.get 21 rfl, h.get 25 rfl, K.cell, gv_or, gv_and]; try first | exact ⟨rfl, rfl⟩ | rfl)) fun a94 hA94 => ?_
  refine wl_op hA94 rfl rfl (by decide) (fun ev h => by simp [go_sem, h.get 26 rfl, K.cell]; try first | exact ⟨rfl, rfl⟩ | rfl) fun a95 hA95 => ?_
  refine wl_nil ?_
  refine n_then ?_
  have hA96 := hA95.keep [2]
  simp only [argsE, keepE, lookS, Nat.reduceBEq, cond_true, cond_false, Nat.reduceAdd, gv_tt, gv_ff, Bool.true_and, Bool.false_and, Bool.true_or, Bool.false_or] at hA96
  clear hA70 hA71 hA72 hA73 hA74 hA75 hA76 hA77 hA78 hA79 hA80 hA81 hA82 hA83 hA84 hA85 hA86 hA87 hA88 hA89 hA90 hA91 hA92 hA93 hA94 hA95 a69 a71 a72 a73 a74 a75 a76 a77 a78 a79 a80 a81 a82 a83 a84 a85 a86 a87 a88 a89 a90 a91 a92 a93 a94
  refine wp_ret ?_
  -- ret
  refine ret_1 hA96 2 rfl rfl ?_
  refine ⟨ret_bool ?_, hb⟩
  unfold fitsDF dateOk
  rw [show decide (f ≤ 31) = decide (f < 32) by rw [Bool.eq_iff_iff]; simp; omega, show decide (n ≤ 20000) = decide ((n : Int) ≤ 20000) by rw [Bool.eq_iff_iff]; simp; omega]
set_option maxRecDepth 100000 in
set_option maxHeartbeats 1000000 in
theorem formed_any (k : Int) (e : Nat) (nm : ByteArray) (m : MsgV) (w : World) (hm : MaxCell w) (hg : 0 < w.heap.size) (htab : Lib.TabIs Tryz.prog w "internal/strconv.uint64pow10" .u64 Lib.pow10Tab) (hs : nm.size ≤ 9223372036854775807) :
    Calls Tryz.prog 13 #[.agg (noteC k e nm m)] w fun ev w' => ev = .returned (.bool (formedV k e nm m)) ∧ Below w.heap.size w w' := by
  have Ht := Lib.tabBelow_of_tabIs htab
  have hm0 := fun (w' : World) (hb : Below w.heap.size w w') => hm.below hg hb
  refine calls_at 56 Tryz.func13 rfl rfl (Nat.le_of_ble_eq_true rfl) ?_
  intro a hA
  simp only [argsE, keepE, lookS, Nat.reduceBEq, cond_true, cond_false, Nat.reduceAdd, gv_tt, gv_ff, Bool.true_and, Bool.false_and, Bool.true_or, Bool.false_or] at hA
  refine wp_seq ?_
  refine wp_region_lit ?_
  -- stop box slot 1
  refine wl_new hA rfl rfl (by decide) (fun ev h => by simp [go_sem, h.get 0 rfl]; try first | exact ⟨rfl, rfl⟩ | rfl) fun w1 a97 (K : Blk _ _ _ _) hz hb0 hA97 => ?_
  unfold noteC at K
  refine wl_op hA97 rfl rfl (by decide) (fun ev h => by simp [go_sem, h.c, K.cell]; try first | exact ⟨rfl, rfl⟩ | rfl) fun a98 hA98 => ?_
  refine wl_nil ?_
  refine n_then ?_
  have hA99 := hA98.keep [1]
  simp only [argsE, keepE, lookS, Nat.reduceBEq, cond_true, cond_false, Nat.reduceAdd, gv_tt, gv_ff, Bool.true_and, Bool.false_and, Bool.true_or, Bool.false_or] at hA99
  clear hA hA97 hA98 a97
  refine wp_seq ?_
  refine wp_block ?_
  refine wp_seq ?_
  refine wp_region_lit ?_
  refine wl_op hA99 rfl rfl (by decide) (fun ev h => by simp [go_sem, h.get 1 rfl, K.cell]; try first | exact ⟨rfl, rfl⟩ | rfl) fun a100 hA100 => ?_
  refine wl_op hA100 rfl rfl (by decide) (fun ev h => by simp [go_sem, h.get 4 rfl, K.cell]; try first | exact ⟨rfl, rfl⟩ | rfl) fun a101 hA101 => ?_
  refine wl_op hA101 rfl rfl (by decide) (fun ev h => by simp [go_sem, h.c, h.get 5 rfl, K.cell]; try first | exact ⟨rfl, rfl⟩ | rfl) fun a102 hA102 => ?_
  refine wl_op hA102 rfl rfl (by decide) (fun ev h => by simp [go_sem, h.get 6 rfl, K.cell]; try first | exact ⟨rfl, rfl⟩ | rfl) fun a103 hA103 => ?_
  refine wl_nil ?_
  refine n_then ?_
  have hA104 := hA103.keep [1, 3]
  simp only [argsE, keepE, lookS, Nat.reduceBEq, cond_true, cond_false, Nat.reduceAdd, gv_tt, gv_ff, Bool.true_and, Bool.false_and, Bool.true_or, Bool.false_or] at hA104
  clear hA99 hA100 hA101 hA102 hA103 a98 a100 a101 a102
  -- cond
  refine wp_if hA104 3 _ rfl (fun hq => ?yA) (fun hq => ?nA)
  case yA =>
    refine wp_seq ?_
    refine wp_region_lit ?_
    refine wl_op hA104 rfl rfl (by decide) (fun ev h => by simp [go_sem, h.c, K.cell]; try first | exact ⟨rfl, rfl⟩ | rfl) fun a105 hA105 => ?_
    refine wl_nil ?_
    refine n_then ?_
    have hA106 := hA105.keep [2]
    simp only [argsE, keepE, lookS, Nat.reduceBEq, cond_true, cond_false, Nat.reduceAdd, gv_tt, gv_ff, Bool.true_and, Bool.false_and, Bool.true_or, Bool.false_or] at hA106
    clear hA104 hA105
    refine wp_ret ?_
    refine r_block ?_
    refine r_then ?_
    refine ret_1 hA106 2 rfl rfl ?_
    exact ⟨ret_bool ((formed_0 nm m hq).symm), hb0⟩
  case nA =>
    refine wp_seq ?_
    refine wp_region_lit ?_
    refine wl_op hA104 rfl rfl (by decide) (fun ev h => by simp [go_sem, h.get 1 rfl, K.cell]; try first | exact ⟨rfl, rfl⟩ | rfl) fun a107 hA107 => ?_
    refine wl_op hA107 rfl rfl (by decide) (fun ev h => by simp [go_sem, h.get 8 rfl, K.cell]; try first | exact ⟨rfl, rfl⟩ | rfl) fun a108 hA108 => ?_
    refine wl_op hA108 rfl rfl (by decide) (fun ev h => by simp [go_sem, h.c, h.get 9 rfl, K.cell]; try first | exact ⟨rfl, rfl⟩ | rfl) fun a109 hA109 => ?_
    refine wl_op hA109 rfl rfl (by decide) (fun ev h => by simp [go_sem, h.get 10 rfl, K.cell]; try first | exact ⟨rfl, rfl⟩ | rfl) fun a110 hA110 => ?_
    refine wl_nil ?_
    refine n_then ?_
    have hA111 := hA110.keep [1, 7]
    simp only [argsE, keepE, lookS, Nat.reduceBEq, cond_true, cond_false, Nat.reduceAdd, gv_tt, gv_ff, Bool.true_and, Bool.false_and, Bool.true_or, Bool.false_or] at hA111
    clear hA104 hA107 hA108 hA109 hA110 a107 a108 a109
    -- cond
    refine wp_if hA111 7 _ rfl (fun hq1 => ?yB) (fun hq1 => ?nB)
    case yB =>
      refine wp_seq ?_
      refine wp_region_lit ?_
      refine wl_op hA111 rfl rfl (by decide) (fun ev h => by simp [go_sem, h.get 1 rfl, K.cell]; try first | exact ⟨rfl, rfl⟩ | rfl) fun a112 hA112 => ?_
      refine wl_op hA112 rfl rfl (by decide) (fun ev h => by simp [go_sem, h.get 11 rfl, K.cell]; try first | exact ⟨rfl, rfl⟩ | rfl) fun a113 hA113 => ?_
      -- stop call slot 13
      refine wl_call hA113 rfl rfl (by decide) (fun ev h => exec_call Tryz.func36 (by kernel_rfl) rfl (h.f _) (by first | (simp only [List.map_toArray, List.map_cons, List.map_nil, h.get 12 rfl, h.c]; done) | (simp only [List.map_toArray, List.map_cons, List.map_nil, h.get 12 rfl, h.c]; rfl) | (simp [List.map_toArray, List.map_cons, List.map_nil, h.get 12 rfl, h.c, K.cell]; done) | (simp [List.map_toArray, List.map_cons, List.map_nil, h.get 12 rfl, h.c, K.cell]; rfl) | rfl)) (bNamed_any nm hs _ (hm0 _ hb0)) ?_
      rintro e w2 ⟨rfl, hb⟩
      refine ⟨_, rfl, fun a114 hA114 => ?_⟩
      replace K := K.below hb K.lt
      refine wl_op hA114 rfl rfl (by decide) (fun ev h => by simp [go_sem, h.get 13 rfl, K.cell]; try first | exact ⟨rfl, rfl⟩ | rfl) fun a115 hA115 => ?_
      refine wl_guard _ hA115 rfl rfl rfl rfl (by decide) (fun hq ev h => by simp [go_sem, (h.get 1 rfl), K.cell]; try first | exact ⟨rfl, rfl⟩ | rfl) fun a116 hA116 => ?_
      refine wl_guard _ hA116 rfl rfl rfl rfl (by decide) (fun hq ev h => by simp [go_sem, ((h.get 15 rfl).trans (gw_t (beq_t hq))), K.cell]; try first | exact ⟨rfl, rfl⟩ | rfl) fun a117 hA117 => ?_
      -- stop call slot 17
      refine wl_gcallv _ hA117 rfl rfl rfl rfl (by decide) (fun hq ev h => exec_call Tryz.func37 (by kernel_rfl) rfl (h.f _) (by first | (simp only [List.map_toArray, List.map_cons, List.map_nil, ((h.get 16 rfl).trans (gw_t (beq_t hq))), h.c]; done) | (simp only [List.map_toArray, List.map_cons, List.map_nil, ((h.get 16 rfl).trans (gw_t (beq_t hq))), h.c]; rfl) | (simp [List.map_toArray, List.map_cons, List.map_nil, ((h.get 16 rfl).trans (gw_t (beq_t hq))), h.c, K.cell]; done) | (simp [List.map_toArray, List.map_cons, List.map_nil, ((h.get 16 rfl).trans (gw_t (beq_t hq))), h.c, K.cell]; rfl) | rfl)) (fun hq => bare_any (m.uid : Nat) m.date m.flags m.a m.b.length m.c _) fun a118 w3 hb3 hA118 => ?_
      replace K := K.below hb3 K.lt
      refine wl_op hA118 rfl rfl (by decide) (fun ev h => by first | exact pick_and rfl (h.get 14 rfl) (h.get 17 rfl) (h.c _) | exact pick_or rfl (h.get 14 rfl) (h.get 17 rfl) (h.c _) | (simp [go_sem, h.c, h.get 14 rfl, h.get 17 rfl, K.cell, gv_or, gv_and]; try first | exact ⟨rfl, rfl⟩ | rfl)) fun a119 hA119 => ?_
      refine wl_op hA119 rfl rfl (by decide) (fun ev h => by simp [go_sem, h.get 18 rfl, K.cell]; try first | exact ⟨rfl, rfl⟩ | rfl) fun a120 hA120 => ?_
      refine wl_guard _ hA120 rfl rfl rfl rfl (by decide) (fun hq ev h => by simp [go_sem, (h.get 1 rfl), K.cell]; try first | exact ⟨rfl, rfl⟩ | rfl) fun a121 hA121 => ?_
      refine wl_guard _ hA121 rfl rfl rfl rfl (by decide) (fun hq ev h => by simp [go_sem, ((h.get 20 rfl).trans (gw_t (beq_t hq))), K.cell]; try first | exact ⟨rfl, rfl⟩ | rfl) fun a122 hA122 => ?_
      refine wl_guard _ hA122 rfl rfl rfl rfl (by decide) (fun hq ev h => by simp [go_sem, ((h.get 21 rfl).trans (gw_t (beq_t hq))), K.cell]; try first | exact ⟨rfl, rfl⟩ | rfl) fun a123 hA123 => ?_
      refine wl_guard _ hA123 rfl rfl rfl rfl (by decide) (fun hq ev h => by simp [go_sem, h.c, ((h.get 22 rfl).trans (gw_t (beq_t hq))), K.cell]; try first | exact ⟨rfl, rfl⟩ | rfl) fun a124 hA124 => ?_
      refine wl_op hA124 rfl rfl (by decide) (fun ev h => by first | exact pick_and rfl (h.get 19 rfl) (h.get 23 rfl) (h.c _) | exact pick_or rfl (h.get 19 rfl) (h.get 23 rfl) (h.c _) | (simp [go_sem, h.c, h.get 19 rfl, h.get 23 rfl, K.cell, gv_or, gv_and]; try first | exact ⟨rfl, rfl⟩ | rfl)) fun a125 hA125 => ?_
      refine wl_op hA125 rfl rfl (by decide) (fun ev h => by simp [go_sem, h.get 24 rfl, K.cell]; try first | exact ⟨rfl, rfl⟩ | rfl) fun a126 hA126 => ?_
      refine wl_nil ?_
      refine n_then ?_
      have hA127 := hA126.keep [2]
      simp only [argsE, keepE, lookS, Nat.reduceBEq, cond_true, cond_false, Nat.reduceAdd, gv_tt, gv_ff, Bool.true_and, Bool.false_and, Bool.true_or, Bool.false_or] at hA127
      clear hA111 hA112 hA113 hA114 hA115 hA116 hA117 hA118 hA119 hA120 hA121 hA122 hA123 hA124 hA125 hA126 a112 a113 a114 a115 a116 a117 a118 a119 a120 a121 a122 a123 a124 a125
      refine wp_ret ?_
      refine r_block ?_
      refine r_then ?_
      -- ret
      refine ret_1 hA127 2 rfl rfl ?_
      exact ⟨ret_bool ((formed_1 nm m hq hq1).symm), (hb0.trans (hb.mono hb0.size)).trans (hb3.mono (Nat.le_trans hb0.size hb.size))⟩
    case nB =>
      refine wp_seq ?_
      refine wp_region_lit ?_
      refine wl_op hA111 rfl rfl (by decide) (fun ev h => by simp [go_sem, h.get 1 rfl, K.cell]; try first | exact ⟨rfl, rfl⟩ | rfl) fun a128 hA128 => ?_
      refine wl_op hA128 rfl rfl (by decide) (fun ev h => by simp [go_sem, h.get 26 rfl, K.cell]; try first | exact ⟨rfl, rfl⟩ | rfl) fun a129 hA129 => ?_
      refine wl_op hA129 rfl rfl (by decide) (fun ev h => by simp [go_sem, h.c, h.get 27 rfl, K.cell]; try first | exact ⟨rfl, rfl⟩ | rfl) fun a130 hA130 => ?_
      refine wl_op hA130 rfl rfl (by decide) (fun ev h => by simp [go_sem, h.get 28 rfl, K.cell]; try first | exact ⟨rfl, rfl⟩ | rfl) fun a131 hA131 => ?_
      refine wl_nil ?_
      refine n_then ?_
      have hA132 := hA131.keep [1, 25]
      simp only [argsE, keepE, lookS, Nat.reduceBEq, cond_true, cond_false, Nat.reduceAdd, gv_tt, gv_ff, Bool.true_and, Bool.false_and, Bool.true_or, Bool.false_or] at hA132
      clear hA111 hA128 hA129 hA130 hA131 a128 a129 a130
      -- cond
      refine wp_if hA132 25 _ rfl (fun hq2 => ?yC) (fun hq2 => ?nC)
      case yC =>
        refine wp_seq ?_
        refine wp_region_lit ?_
        refine wl_op hA132 rfl rfl (by decide) (fun ev h => by simp [go_sem, h.get 1 rfl, K.cell]; try first | exact ⟨rfl, rfl⟩ | rfl) fun a133 hA133 => ?_
        refine wl_op hA133 rfl rfl (by decide) (fun ev h => by simp [go_sem, h.get 29 rfl, K.cell]; try first | exact ⟨rfl, rfl⟩ | rfl) fun a134 hA134 => ?_
        -- stop call slot 31
        refine wl_call hA134 rfl rfl (by decide) (fun ev h => exec_call Tryz.func36 (by kernel_rfl) rfl (h.f _) (by first | (simp only [List.map_toArray, List.map_cons, List.map_nil, h.get 30 rfl, h.c]; done) | (simp only [List.map_toArray, List.map_cons, List.map_nil, h.get 30 rfl, h.c]; rfl) | (simp [List.map_toArray, List.map_cons, List.map_nil, h.get 30 rfl, h.c, K.cell]; done) | (simp [List.map_toArray, List.map_cons, List.map_nil, h.get 30 rfl, h.c, K.cell]; rfl) | rfl)) (bNamed_any nm hs _ (hm0 _ hb0)) ?_
        rintro e w2 ⟨rfl, hb⟩
        refine ⟨_, rfl, fun a135 hA135 => ?_⟩
        replace K := K.below hb K.lt
        refine wl_op hA135 rfl rfl (by decide) (fun ev h => by simp [go_sem, h.get 31 rfl, K.cell]; try first | exact ⟨rfl, rfl⟩ | rfl) fun a136 hA136 => ?_
        refine wl_guard _ hA136 rfl rfl rfl rfl (by decide) (fun hq ev h => by simp [go_sem, (h.get 1 rfl), K.cell]; try first | exact ⟨rfl, rfl⟩ | rfl) fun a137 hA137 => ?_
        refine wl_guard _ hA137 rfl rfl rfl rfl (by decide) (fun hq ev h => by simp [go_sem, ((h.get 33 rfl).trans (gw_t (beq_t hq))), K.cell]; try first | exact ⟨rfl, rfl⟩ | rfl) fun a138 hA138 => ?_
        -- stop call slot 35
        refine wl_gcallv _ hA138 rfl rfl rfl rfl (by decide) (fun hq ev h => exec_call Tryz.func38 (by kernel_rfl) rfl (h.f _) (by first | (simp only [List.map_toArray, List.map_cons, List.map_nil, ((h.get 34 rfl).trans (gw_t (beq_t hq))), h.c]; done) | (simp only [List.map_toArray, List.map_cons, List.map_nil, ((h.get 34 rfl).trans (gw_t (beq_t hq))), h.c]; rfl) | (simp [List.map_toArray, List.map_cons, List.map_nil, ((h.get 34 rfl).trans (gw_t (beq_t hq))), h.c, K.cell]; done) | (simp [List.map_toArray, List.map_cons, List.map_nil, ((h.get 34 rfl).trans (gw_t (beq_t hq))), h.c, K.cell]; rfl) | rfl)) (fun hq => rightMsg_any m _ (Ht _ (hb0.trans (hb.mono hb0.size)))) fun a139 w3 hb3 hA139 => ?_
        replace K := K.below hb3 K.lt
        refine wl_op hA139 rfl rfl (by decide) (fun ev h => by first | exact pick_and rfl (h.get 32 rfl) (h.get 35 rfl) (h.c _) | exact pick_or rfl (h.get 32 rfl) (h.get 35 rfl) (h.c _) | (simp [go_sem, h.c, h.get 32 rfl, h.get 35 rfl, K.cell, gv_or, gv_and]; try first | exact ⟨rfl, rfl⟩ | rfl)) fun a140 hA140 => ?_
        refine wl_op hA140 rfl rfl (by decide) (fun ev h => by simp [go_sem, h.get 36 rfl, K.cell]; try first | exact ⟨rfl, rfl⟩ | rfl) fun a141 hA141 => ?_
        refine wl_nil ?_
        refine n_then ?_
        have hA142 := hA141.keep [2]
        simp only [argsE, keepE, lookS, Nat.reduceBEq, cond_true, cond_false, Nat.reduceAdd, gv_tt, gv_ff, Bool.true_and, Bool.false_and, Bool.true_or, Bool.false_or] at hA142
        clear hA132 hA133 hA134 hA135 hA136 hA137 hA138 hA139 hA140 hA141 a133 a134 a135 a136 a137 a138 a139 a140
        refine wp_ret ?_
        refine r_block ?_
        refine r_then ?_
        -- ret
        refine ret_1 hA142 2 rfl rfl ?_
        exact ⟨ret_bool ((formed_2 nm m hq hq1 hq2).symm), (hb0.trans (hb.mono hb0.size)).trans (hb3.mono (Nat.le_trans hb0.size hb.size))⟩
      case nC =>
        refine wp_skip ?_
        refine n_block ?_
        refine n_then ?_
        refine wp_seq ?_
        refine wp_region_lit ?_
        refine wl_op hA132 rfl rfl (by decide) (fun ev h => by simp [go_sem, h.get 1 rfl, K.cell]; try first | exact ⟨rfl, rfl⟩ | rfl) fun a143 hA143 => ?_
        refine wl_op hA143 rfl rfl (by decide) (fun ev h => by simp [go_sem, h.get 37 rfl, K.cell]; try first | exact ⟨rfl, rfl⟩ | rfl) fun a144 hA144 => ?_
        refine wl_op hA144 rfl rfl (by decide) (fun ev h => by simp [go_sem, h.c, h.get 38 rfl, K.cell]; try first | exact ⟨rfl, rfl⟩ | rfl) fun a145 hA145 => ?_
        refine wl_op hA145 rfl rfl (by decide) (fun ev h => by simp [go_sem, h.get 39 rfl, K.cell]; try first | exact ⟨rfl, rfl⟩ | rfl) fun a146 hA146 => ?_
        refine wl_guard _ hA146 rfl rfl rfl rfl (by decide) (fun hq ev h => by simp [go_sem, (h.get 1 rfl), K.cell]; try first | exact ⟨rfl, rfl⟩ | rfl) fun a147 hA147 => ?_
        refine wl_guard _ hA147 rfl rfl rfl rfl (by decide) (fun hq ev h => by simp [go_sem, ((h.get 41 rfl).trans (gw_t (beq_t hq))), K.cell]; try first | exact ⟨rfl, rfl⟩ | rfl) fun a148 hA148 => ?_
        refine wl_guard _ hA148 rfl rfl rfl rfl (by decide) (fun hq ev h => by simp [go_sem, h.c, ((h.get 42 rfl).trans (gw_t (beq_t hq))), K.cell]; try first | exact ⟨rfl, rfl⟩ | rfl) fun a149 hA149 => ?_
        refine wl_op hA149 rfl rfl (by decide) (fun ev h => by first | exact pick_and rfl (h.get 40 rfl) (h.get 43 rfl) (h.c _) | exact pick_or rfl (h.get 40 rfl) (h.get 43 rfl) (h.c _) | (simp [go_sem, h.c, h.get 40 rfl, h.get 43 rfl, K.cell, gv_or, gv_and]; try first | exact ⟨rfl, rfl⟩ | rfl)) fun a150 hA150 => ?_
        refine wl_op hA150 rfl rfl (by decide) (fun ev h => by simp [go_sem, h.get 44 rfl, K.cell]; try first | exact ⟨rfl, rfl⟩ | rfl) fun a151 hA151 => ?_
        refine wl_guard _ hA151 rfl rfl rfl rfl (by decide) (fun hq ev h => by simp [go_sem, (h.get 1 rfl), K.cell]; try first | exact ⟨rfl, rfl⟩ | rfl) fun a152 hA152 => ?_
        refine wl_guard _ hA152 rfl rfl rfl rfl (by decide) (fun hq ev h => by simp [go_sem, ((h.get 46 rfl).trans (gw_t (beq_t hq))), K.cell]; try first | exact ⟨rfl, rfl⟩ | rfl) fun a153 hA153 => ?_
        -- stop call slot 48
        refine wl_gcallv _ hA153 rfl rfl rfl rfl (by decide) (fun hq ev h => exec_call Tryz.func37 (by kernel_rfl) rfl (h.f _) (by first | (simp only [List.map_toArray, List.map_cons, List.map_nil, ((h.get 47 rfl).trans (gw_t (beq_t hq))), h.c]; done) | (simp only [List.map_toArray, List.map_cons, List.map_nil, ((h.get 47 rfl).trans (gw_t (beq_t hq))), h.c]; rfl) | (simp [List.map_toArray, List.map_cons, List.map_nil, ((h.get 47 rfl).trans (gw_t (beq_t hq))), h.c, K.cell]; done) | (simp [List.map_toArray, List.map_cons, List.map_nil, ((h.get 47 rfl).trans (gw_t (beq_t hq))), h.c, K.cell]; rfl) | rfl)) (fun hq => bare_any (m.uid : Nat) m.date m.flags m.a m.b.length m.c _) fun a154 w3 hb3 hA154 => ?_
        replace K := K.below hb3 K.lt
        refine wl_op hA154 rfl rfl (by decide) (fun ev h => by first | exact pick_and rfl (h.get 45 rfl) (h.get 48 rfl) (h.c _) | exact pick_or rfl (h.get 45 rfl) (h.get 48 rfl) (h.c _) | (simp [go_sem, h.c, h.get 45 rfl, h.get 48 rfl, K.cell, gv_or, gv_and]; try first | exact ⟨rfl, rfl⟩ | rfl)) fun a155 hA155 => ?_
        refine wl_op hA155 rfl rfl (by decide) (fun ev h => by simp [go_sem, h.get 49 rfl, K.cell]; try first | exact ⟨rfl, rfl⟩ | rfl) fun a156 hA156 => ?_
        refine wl_guard _ hA156 rfl rfl rfl rfl (by decide) (fun hq ev h => by simp [go_sem, (h.get 1 rfl), K.cell]; try first | exact ⟨rfl, rfl⟩ | rfl) fun a157 hA157 => ?_
        refine wl_guard _ hA157 rfl rfl rfl rfl (by decide) (fun hq ev h => by simp [go_sem, ((h.get 51 rfl).trans (gw_t (beq_t hq))), K.cell]; try first | exact ⟨rfl, rfl⟩ | rfl) fun a158 hA158 => ?_
        refine wl_guard _ hA158 rfl rfl rfl rfl (by decide) (fun hq ev h => by simp [go_sem, ((h.get 52 rfl).trans (gw_t (beq_t hq))), K.cell]; try first | exact ⟨rfl, rfl⟩ | rfl) fun a159 hA159 => ?_
        refine wl_guard _ hA159 rfl rfl rfl rfl (by decide) (fun hq ev h => by simp [go_sem, h.c, ((h.get 53 rfl).trans (gw_t (beq_t hq))), K.cell]; try first | exact ⟨rfl, rfl⟩ | rfl) fun a160 hA160 => ?_
        refine wl_op hA160 rfl rfl (by decide) (fun ev h => by first | exact pick_and rfl (h.get 50 rfl) (h.get 54 rfl) (h.c _) | exact pick_or rfl (h.get 50 rfl) (h.get 54 rfl) (h.c _) | (simp [go_sem, h.c, h.get 50 rfl, h.get 54 rfl, K.cell, gv_or, gv_and]; try first | exact ⟨rfl, rfl⟩ | rfl)) fun a161 hA161 => ?_
        refine wl_op hA161 rfl rfl (by decide) (fun ev h => by simp [go_sem, h.get 55 rfl, K.cell]; try first | exact ⟨rfl, rfl⟩ | rfl) fun a162 hA162 => ?_
        refine wl_nil ?_
        refine n_then ?_
        have hA163 := hA162.keep [2]
        simp only [argsE, keepE, lookS, Nat.reduceBEq, cond_true, cond_false, Nat.reduceAdd, gv_tt, gv_ff, Bool.true_and, Bool.false_and, Bool.true_or, Bool.false_or] at hA163
        clear hA132 hA143 hA144 hA145 hA146 hA147 hA148 hA149 hA150 hA151 hA152 hA153 hA154 hA155 hA156 hA157 hA158 hA159 hA160 hA161 hA162 a143 a144 a145 a146 a147 a148 a149 a150 a151 a152 a153 a154 a155 a156 a157 a158 a159 a160 a161
        refine wp_ret ?_
        -- ret
        refine ret_1 hA163 2 rfl rfl ?_
        exact ⟨ret_bool ((formed_3 nm m hq hq1 hq2).symm), hb0.trans (hb3.mono hb0.size)⟩
end Go.Proofs.YtmjikfeaopmejaaGreatDoor
/-
  Walk: which notes are formed, as the document says.
-/
namespace Go.Proofs.YtmjikfeaopmejaaGreatDoor
open Go.RowKit
set_option linter.unusedSimpArgs false
set_option linter.unusedVariables false
theorem gt0 (u : Nat) : decide ((0 : Int) < (u : Int)) = decide (1 ≤ u) := by rw [Bool.eq_iff_iff]; simp; omega
set_option maxRecDepth 100000 in
set_option maxHeartbeats 1000000 in
theorem refFormed_any (k : Int) (e : Nat) (nm : ByteArray) (m : MsgV) (w : World) (hs : nm.size ≤ 9223372036854775807) :
    Calls Tryz.prog 12 #[.agg (noteC k e nm m)] w fun ev w' => ev = .returned (.bool (formedV k e nm m)) ∧ Below w.heap.size w w' := by
  refine calls_at 82 Tryz.func12 rfl rfl (Nat.le_of_ble_eq_true rfl) ?_
  intro a hA
  simp only [argsE, keepE, lookS, Nat.reduceBEq, cond_true, cond_false, Nat.reduceAdd, gv_tt, gv_ff, Bool.true_and, Bool.false_and, Bool.true_or, Bool.false_or] at hA
  refine wp_seq ?_
  refine wp_region_lit ?_
  -- stop box slot 1
  refine wl_new hA rfl rfl (by decide) (fun ev h => by simp [go_sem, h.get 0 rfl]; try first | exact ⟨rfl, rfl⟩ | rfl) fun w1 a1 (K : Blk _ _ _ _) hz hb0 hA1 => ?_
  unfold noteC at K
  refine wl_op hA1 rfl rfl (by decide) (fun ev h => by simp [go_sem, h.c, K.cell]; try first | exact ⟨rfl, rfl⟩ | rfl) fun a2 hA2 => ?_
  refine wl_nil ?_
  refine n_then ?_
  have hA3 := hA2.keep [1]
  simp only [argsE, keepE, lookS, Nat.reduceBEq, cond_true, cond_false, Nat.reduceAdd, gv_tt, gv_ff, Bool.true_and, Bool.false_and, Bool.true_or, Bool.false_or] at hA3
  clear hA hA1 hA2 a1
  refine wp_seq ?_
  refine wp_region_lit ?_
  refine wl_op hA3 rfl rfl (by decide) (fun ev h => by simp [go_sem, h.get 1 rfl, K.cell]; try first | exact ⟨rfl, rfl⟩ | rfl) fun a4 hA4 => ?_
  refine wl_op hA4 rfl rfl (by decide) (fun ev h => by simp [go_sem, h.get 4 rfl, K.cell]; try first | exact ⟨rfl, rfl⟩ | rfl) fun a5 hA5 => ?_
  refine wl_op hA5 rfl rfl (by decide) (fun ev h => by simp [go_sem, h.get 5 rfl, K.cell]; try first | exact ⟨rfl, rfl⟩ | rfl) fun a6 hA6 => ?_
  refine wl_op hA6 rfl rfl (by decide) (fun ev h => by simp [go_sem, h.c, h.get 6 rfl, K.cell]; try first | exact ⟨rfl, rfl⟩ | rfl) fun a7 hA7 => ?_
  refine wl_op hA7 rfl rfl (by decide) (fun ev h => by simp [go_sem, h.get 7 rfl, K.cell]; try first | exact ⟨rfl, rfl⟩ | rfl) fun a8 hA8 => ?_
  refine wl_guard _ hA8 rfl rfl rfl rfl (by decide) (fun hq ev h => by simp [go_sem, (h.get 1 rfl), K.cell]; try first | exact ⟨rfl, rfl⟩ | rfl) fun a9 hA9 => ?_
  refine wl_guard _ hA9 rfl rfl rfl rfl (by decide) (fun hq ev h => by simp [go_sem, ((h.get 9 rfl).trans (gw_t (beq_t hq))), K.cell]; try first | exact ⟨rfl, rfl⟩ | rfl) fun a10 hA10 => ?_
  refine wl_guard _ hA10 rfl rfl rfl rfl (by decide) (fun hq ev h => by simp [go_sem, ((h.get 10 rfl).trans (gw_t (beq_t hq))), K.cell]; try first | exact ⟨rfl, rfl⟩ | rfl) fun a11 hA11 => ?_
  refine wl_guard _ hA11 rfl rfl rfl rfl (by decide) (fun hq ev h => by simp [go_sem, h.c, ((h.get 11 rfl).trans (gw_t (beq_t hq))), K.cell]; try first | exact ⟨rfl, rfl⟩ | rfl) fun a12 hA12 => ?_
  refine wl_op hA12 rfl rfl (by decide) (fun ev h => by first | exact pick_and rfl (h.get 8 rfl) (h.get 12 rfl) (h.c _) | exact pick_or rfl (h.get 8 rfl) (h.get 12 rfl) (h.c _) | (simp [go_sem, h.c, h.get 8 rfl, h.get 12 rfl, K.cell, gv_or, gv_and]; try first | exact ⟨rfl, rfl⟩ | rfl)) fun a13 hA13 => ?_
  refine wl_op hA13 rfl rfl (by decide) (fun ev h => by simp [go_sem, h.get 13 rfl, K.cell]; try first | exact ⟨rfl, rfl⟩ | rfl) fun a14 hA14 => ?_
  refine wl_guard _ hA14 rfl rfl rfl rfl (by decide) (fun hq ev h => by simp [go_sem, (h.get 1 rfl), K.cell]; try first | exact ⟨rfl, rfl⟩ | rfl) fun a15 hA15 => ?_
  refine wl_guard _ hA15 rfl rfl rfl rfl (by decide) (fun hq ev h => by simp [go_sem, ((h.get 15 rfl).trans (gw_t (beq_t hq))), K.cell]; try first | exact ⟨rfl, rfl⟩ | rfl) fun a16 hA16 => ?_
  refine wl_guard _ hA16 rfl rfl rfl rfl (by decide) (fun hq ev h => by simp [go_sem, ((h.get 16 rfl).trans (gw_t (beq_t hq))), K.cell]; try first | exact ⟨rfl, rfl⟩ | rfl) fun a17 hA17 => ?_
  refine wl_guard _ hA17 rfl rfl rfl rfl (by decide) (fun hq ev h => by simp [go_sem, ((h.get 17 rfl).trans (gw_t (beq_t hq))), K.cell]; try first | exact ⟨rfl, rfl⟩ | rfl) fun a18 hA18 => ?_
  refine wl_guard _ hA18 rfl rfl rfl rfl (by decide) (fun hq ev h => by simp [go_sem, h.c, ((h.get 18 rfl).trans (gw_t (beq_t hq))), K.cell]; try first | exact ⟨rfl, rfl⟩ | rfl) fun a19 hA19 => ?_
  refine wl_op hA19 rfl rfl (by decide) (fun ev h => by first | exact pick_and rfl (h.get 14 rfl) (h.get 19 rfl) (h.c _) | exact pick_or rfl (h.get 14 rfl) (h.get 19 rfl) (h.c _) | (simp [go_sem, h.c, h.get 14 rfl, h.get 19 rfl, K.cell, gv_or, gv_and]; try first | exact ⟨rfl, rfl⟩ | rfl)) fun a20 hA20 => ?_
  refine wl_op hA20 rfl rfl (by decide) (fun ev h => by simp [go_sem, h.get 20 rfl, K.cell]; try first | exact ⟨rfl, rfl⟩ | rfl) fun a21 hA21 => ?_
  refine wl_nil ?_
  refine n_then ?_
  have hA22 := hA21.keep [1, 3]
  simp only [argsE, keepE, lookS, Nat.reduceBEq, cond_true, cond_false, Nat.reduceAdd, gv_tt, gv_ff, Bool.true_and, Bool.false_and, Bool.true_or, Bool.false_or] at hA22
  clear hA3 hA4 hA5 hA6 hA7 hA8 hA9 hA10 hA11 hA12 hA13 hA14 hA15 hA16 hA17 hA18 hA19 hA20 hA21 a2 a4 a5 a6 a7 a8 a9 a10 a11 a12 a13 a14 a15 a16 a17 a18 a19 a20
  refine wp_seq ?_
  refine wp_seq ?_
  refine wp_region_lit ?_
  refine wl_op hA22 rfl rfl (by decide) (fun ev h => by simp [go_sem, h.get 1 rfl, K.cell]; try first | exact ⟨rfl, rfl⟩ | rfl) fun a23 hA23 => ?_
  refine wl_op hA23 rfl rfl (by decide) (fun ev h => by simp [go_sem, h.get 21 rfl, K.cell]; try first | exact ⟨rfl, rfl⟩ | rfl) fun a24 hA24 => ?_
  refine wl_nil ?_
  refine n_then ?_
  have hA25 := hA24.keep [1, 3, 22]
  simp only [argsE, keepE, lookS, Nat.reduceBEq, cond_true, cond_false, Nat.reduceAdd, gv_tt, gv_ff, Bool.true_and, Bool.false_and, Bool.true_or, Bool.false_or] at hA25
  clear hA22 hA23 hA24 a21 a23
  refine wp_block ?_
  refine wp_seq ?_
  refine wp_region_lit ?_
  refine wl_op hA25 rfl rfl (by decide) (fun ev h => by simp [go_sem, h.c, h.get 22 rfl, K.cell]; try first | exact ⟨rfl, rfl⟩ | rfl) fun a26 hA26 => ?_
  refine wl_op hA26 rfl rfl (by decide) (fun ev h => by simp [go_sem, h.get 24 rfl, K.cell]; try first | exact ⟨rfl, rfl⟩ | rfl) fun a27 hA27 => ?_
  refine wl_nil ?_
  refine n_then ?_
  have hA28 := hA27.keep [1, 3, 22, 23]
  simp only [argsE, keepE, lookS, Nat.reduceBEq, cond_true, cond_false, Nat.reduceAdd, gv_tt, gv_ff, Bool.true_and, Bool.false_and, Bool.true_or, Bool.false_or] at hA28
  clear hA25 hA26 hA27 a24 a26
  -- cond
  refine wp_if hA28 23 _ rfl (fun hq1 => ?yA) (fun hq1 => ?nA)
  case yA =>
    refine wp_seq ?_
    refine wp_region_lit ?_
    refine wl_op hA28 rfl rfl (by decide) (fun ev h => by simp [go_sem, h.get 1 rfl, K.cell]; try first | exact ⟨rfl, rfl⟩ | rfl) fun a29 hA29 => ?_
    refine wl_op hA29 rfl rfl (by decide) (fun ev h => by simp [go_sem, h.get 25 rfl, K.cell]; try first | exact ⟨rfl, rfl⟩ | rfl) fun a30 hA30 => ?_
    refine wl_op hA30 rfl rfl (by decide) (fun ev h => by simp [go_sem, h.c, h.get 26 rfl, K.cell]; try first | exact ⟨rfl, rfl⟩ | rfl) fun a31 hA31 => ?_
    refine wl_op hA31 rfl rfl (by decide) (fun ev h => by simp [go_sem, h.get 27 rfl, K.cell]; try first | exact ⟨rfl, rfl⟩ | rfl) fun a32 hA32 => ?_
    refine wl_guard _ hA32 rfl rfl rfl rfl (by decide) (fun hq ev h => by simp [go_sem, (h.get 1 rfl), K.cell]; try first | exact ⟨rfl, rfl⟩ | rfl) fun a33 hA33 => ?_
    refine wl_guard _ hA33 rfl rfl rfl rfl (by decide) (fun hq ev h => by simp [go_sem, ((h.get 29 rfl).trans (gw_t (beq_t hq))), K.cell]; try first | exact ⟨rfl, rfl⟩ | rfl) fun a34 hA34 => ?_
    -- stop call slot 31
    refine wl_gcallv _ hA34 rfl rfl rfl rfl (by decide) (fun hq ev h => exec_call Tryz.func27 (by kernel_rfl) rfl (h.f _) (by first | (simp only [List.map_toArray, List.map_cons, List.map_nil, ((h.get 30 rfl).trans (gw_t (beq_t hq))), h.c]; done) | (simp only [List.map_toArray, List.map_cons, List.map_nil, ((h.get 30 rfl).trans (gw_t (beq_t hq))), h.c]; rfl) | (simp [List.map_toArray, List.map_cons, List.map_nil, ((h.get 30 rfl).trans (gw_t (beq_t hq))), h.c, K.cell]; done) | (simp [List.map_toArray, List.map_cons, List.map_nil, ((h.get 30 rfl).trans (gw_t (beq_t hq))), h.c, K.cell]; rfl) | rfl)) (fun hq => refNamed_any nm hs _) fun a35 w2 hb hA35 => ?_
    replace K := K.below hb K.lt
    refine wl_op hA35 rfl rfl (by decide) (fun ev h => by first | exact pick_and rfl (h.get 28 rfl) (h.get 31 rfl) (h.c _) | exact pick_or rfl (h.get 28 rfl) (h.get 31 rfl) (h.c _) | (simp [go_sem, h.c, h.get 28 rfl, h.get 31 rfl, K.cell, gv_or, gv_and]; try first | exact ⟨rfl, rfl⟩ | rfl)) fun a36 hA36 => ?_
    refine wl_op hA36 rfl rfl (by decide) (fun ev h => by simp [go_sem, h.get 32 rfl, K.cell]; try first | exact ⟨rfl, rfl⟩ | rfl) fun a37 hA37 => ?_
    refine wl_guard _ hA37 rfl rfl rfl rfl (by decide) (fun hq ev h => by simp [go_sem, (h.get 3 rfl), K.cell]; try first | exact ⟨rfl, rfl⟩ | rfl) fun a38 hA38 => ?_
    refine wl_op hA38 rfl rfl (by decide) (fun ev h => by first | exact pick_and rfl (h.get 33 rfl) (h.get 34 rfl) (h.c _) | exact pick_or rfl (h.get 33 rfl) (h.get 34 rfl) (h.c _) | (simp [go_sem, h.c, h.get 33 rfl, h.get 34 rfl, K.cell, gv_or, gv_and]; try first | exact ⟨rfl, rfl⟩ | rfl)) fun a39 hA39 => ?_
    refine wl_op hA39 rfl rfl (by decide) (fun ev h => by simp [go_sem, h.get 35 rfl, K.cell]; try first | exact ⟨rfl, rfl⟩ | rfl) fun a40 hA40 => ?_
    refine wl_guard _ hA40 rfl rfl rfl rfl (by decide) (fun hq ev h => by simp [go_sem, (h.get 1 rfl), K.cell]; try first | exact ⟨rfl, rfl⟩ | rfl) fun a41 hA41 => ?_
    refine wl_guard _ hA41 rfl rfl rfl rfl (by decide) (fun hq ev h => by simp [go_sem, ((h.get 37 rfl).trans (gw_t (beq_t hq))), K.cell]; try first | exact ⟨rfl, rfl⟩ | rfl) fun a42 hA42 => ?_
    refine wl_guard _ hA42 rfl rfl rfl rfl (by decide) (fun hq ev h => by simp [go_sem, ((h.get 38 rfl).trans (gw_t (beq_t hq))), K.cell]; try first | exact ⟨rfl, rfl⟩ | rfl) fun a43 hA43 => ?_
    refine wl_guard _ hA43 rfl rfl rfl rfl (by decide) (fun hq ev h => by simp [go_sem, h.c, ((h.get 39 rfl).trans (gw_t (beq_t hq))), K.cell]; try first | exact ⟨rfl, rfl⟩ | rfl) fun a44 hA44 => ?_
    refine wl_op hA44 rfl rfl (by decide) (fun ev h => by first | exact pick_and rfl (h.get 36 rfl) (h.get 40 rfl) (h.c _) | exact pick_or rfl (h.get 36 rfl) (h.get 40 rfl) (h.c _) | (simp [go_sem, h.c, h.get 36 rfl, h.get 40 rfl, K.cell, gv_or, gv_and]; try first | exact ⟨rfl, rfl⟩ | rfl)) fun a45 hA45 => ?_
    refine wl_op hA45 rfl rfl (by decide) (fun ev h => by simp [go_sem, h.get 41 rfl, K.cell]; try first | exact ⟨rfl, rfl⟩ | rfl) fun a46 hA46 => ?_
    refine wl_nil ?_
    refine n_then ?_
    have hA47 := hA46.keep [2]
    simp only [argsE, keepE, lookS, Nat.reduceBEq, cond_true, cond_false, Nat.reduceAdd, gv_tt, gv_ff, Bool.true_and, Bool.false_and, Bool.true_or, Bool.false_or] at hA47
    clear hA28 hA29 hA30 hA31 hA32 hA33 hA34 hA35 hA36 hA37 hA38 hA39 hA40 hA41 hA42 hA43 hA44 hA45 hA46 a29 a30 a31 a32 a33 a34 a35 a36 a37 a38 a39 a40 a41 a42 a43 a44 a45
    refine wp_ret ?_
    refine r_block ?_
    refine r_then ?_
    -- ret
    refine ret_1 hA47 2 rfl rfl ?_
    exact ⟨ret_bool (by unfold formedV bareV; rw [hq1, eq0 m.uid, cond_true]; simp only [Bool.and_assoc]; rfl), hb0.trans (hb.mono hb0.size)⟩
  case nA =>
    refine wp_seq ?_
    refine wp_region_lit ?_
    refine wl_op hA28 rfl rfl (by decide) (fun ev h => by simp [go_sem, h.c, h.get 22 rfl, K.cell]; try first | exact ⟨rfl, rfl⟩ | rfl) fun a48 hA48 => ?_
    refine wl_op hA48 rfl rfl (by decide) (fun ev h => by simp [go_sem, h.get 43 rfl, K.cell]; try first | exact ⟨rfl, rfl⟩ | rfl) fun a49 hA49 => ?_
    refine wl_nil ?_
    refine n_then ?_
    have hA50 := hA49.keep [1, 3, 22, 42]
    simp only [argsE, keepE, lookS, Nat.reduceBEq, cond_true, cond_false, Nat.reduceAdd, gv_tt, gv_ff, Bool.true_and, Bool.false_and, Bool.true_or, Bool.false_or] at hA50
    clear hA28 hA48 hA49 a48
    -- cond
    refine wp_if hA50 42 _ rfl (fun hq2 => ?yB) (fun hq2 => ?nB)
    case yB =>
      refine wp_seq ?_
      refine wp_region_lit ?_
      refine wl_op hA50 rfl rfl (by decide) (fun ev h => by simp [go_sem, h.get 1 rfl, K.cell]; try first | exact ⟨rfl, rfl⟩ | rfl) fun a51 hA51 => ?_
      refine wl_op hA51 rfl rfl (by decide) (fun ev h => by simp [go_sem, h.get 44 rfl, K.cell]; try first | exact ⟨rfl, rfl⟩ | rfl) fun a52 hA52 => ?_
      refine wl_op hA52 rfl rfl (by decide) (fun ev h => by simp [go_sem, h.c, h.get 45 rfl, K.cell]; try first | exact ⟨rfl, rfl⟩ | rfl) fun a53 hA53 => ?_
      refine wl_op hA53 rfl rfl (by decide) (fun ev h => by simp [go_sem, h.get 46 rfl, K.cell]; try first | exact ⟨rfl, rfl⟩ | rfl) fun a54 hA54 => ?_
      refine wl_guard _ hA54 rfl rfl rfl rfl (by decide) (fun hq ev h => by simp [go_sem, (h.get 1 rfl), K.cell]; try first | exact ⟨rfl, rfl⟩ | rfl) fun a55 hA55 => ?_
      refine wl_guard _ hA55 rfl rfl rfl rfl (by decide) (fun hq ev h => by simp [go_sem, ((h.get 48 rfl).trans (gw_t (beq_t hq))), K.cell]; try first | exact ⟨rfl, rfl⟩ | rfl) fun a56 hA56 => ?_
      -- stop call slot 50
      refine wl_gcallv _ hA56 rfl rfl rfl rfl (by decide) (fun hq ev h => exec_call Tryz.func27 (by kernel_rfl) rfl (h.f _) (by first | (simp only [List.map_toArray, List.map_cons, List.map_nil, ((h.get 49 rfl).trans (gw_t (beq_t hq))), h.c]; done) | (simp only [List.map_toArray, List.map_cons, List.map_nil, ((h.get 49 rfl).trans (gw_t (beq_t hq))), h.c]; rfl) | (simp [List.map_toArray, List.map_cons, List.map_nil, ((h.get 49 rfl).trans (gw_t (beq_t hq))), h.c, K.cell]; done) | (simp [List.map_toArray, List.map_cons, List.map_nil, ((h.get 49 rfl).trans (gw_t (beq_t hq))), h.c, K.cell]; rfl) | rfl)) (fun hq => refNamed_any nm hs _) fun a57 w2 hb hA57 => ?_
      replace K := K.below hb K.lt
      refine wl_op hA57 rfl rfl (by decide) (fun ev h => by first | exact pick_and rfl (h.get 47 rfl) (h.get 50 rfl) (h.c _) | exact pick_or rfl (h.get 47 rfl) (h.get 50 rfl) (h.c _) | (simp [go_sem, h.c, h.get 47 rfl, h.get 50 rfl, K.cell, gv_or, gv_and]; try first | exact ⟨rfl, rfl⟩ | rfl)) fun a58 hA58 => ?_
      refine wl_op hA58 rfl rfl (by decide) (fun ev h => by simp [go_sem, h.get 51 rfl, K.cell]; try first | exact ⟨rfl, rfl⟩ | rfl) fun a59 hA59 => ?_
      refine wl_guard _ hA59 rfl rfl rfl rfl (by decide) (fun hq ev h => by simp [go_sem, (h.get 1 rfl), K.cell]; try first | exact ⟨rfl, rfl⟩ | rfl) fun a60 hA60 => ?_
      refine wl_guard _ hA60 rfl rfl rfl rfl (by decide) (fun hq ev h => by simp [go_sem, ((h.get 53 rfl).trans (gw_t (beq_t hq))), K.cell]; try first | exact ⟨rfl, rfl⟩ | rfl) fun a61 hA61 => ?_
      refine wl_guard _ hA61 rfl rfl rfl rfl (by decide) (fun hq ev h => by simp [go_sem, ((h.get 54 rfl).trans (gw_t (beq_t hq))), K.cell]; try first | exact ⟨rfl, rfl⟩ | rfl) fun a62 hA62 => ?_
      refine wl_guard _ hA62 rfl rfl rfl rfl (by decide) (fun hq ev h => by simp [go_sem, h.c, ((h.get 55 rfl).trans (gw_t (beq_t hq))), K.cell]; try first | exact ⟨rfl, rfl⟩ | rfl) fun a63 hA63 => ?_
      refine wl_op hA63 rfl rfl (by decide) (fun ev h => by first | exact pick_and rfl (h.get 52 rfl) (h.get 56 rfl) (h.c _) | exact pick_or rfl (h.get 52 rfl) (h.get 56 rfl) (h.c _) | (simp [go_sem, h.c, h.get 52 rfl, h.get 56 rfl, K.cell, gv_or, gv_and]; try first | exact ⟨rfl, rfl⟩ | rfl)) fun a64 hA64 => ?_
      refine wl_op hA64 rfl rfl (by decide) (fun ev h => by simp [go_sem, h.get 57 rfl, K.cell]; try first | exact ⟨rfl, rfl⟩ | rfl) fun a65 hA65 => ?_
      refine wl_guard _ hA65 rfl rfl rfl rfl (by decide) (fun hq ev h => by simp [go_sem, (h.get 1 rfl), K.cell]; try first | exact ⟨rfl, rfl⟩ | rfl) fun a66 hA66 => ?_
      refine wl_guard _ hA66 rfl rfl rfl rfl (by decide) (fun hq ev h => by simp [go_sem, ((h.get 59 rfl).trans (gw_t (beq_t hq))), K.cell]; try first | exact ⟨rfl, rfl⟩ | rfl) fun a67 hA67 => ?_
      -- stop call slot 61
      refine wl_gcallv _ hA67 rfl rfl rfl rfl (by decide) (fun hq ev h => exec_call Tryz.func28 (by kernel_rfl) rfl (h.f _) (by first | (simp only [List.map_toArray, List.map_cons, List.map_nil, ((h.get 60 rfl).trans (gw_t (beq_t hq))), h.c]; done) | (simp only [List.map_toArray, List.map_cons, List.map_nil, ((h.get 60 rfl).trans (gw_t (beq_t hq))), h.c]; rfl) | (simp [List.map_toArray, List.map_cons, List.map_nil, ((h.get 60 rfl).trans (gw_t (beq_t hq))), h.c, K.cell]; done) | (simp [List.map_toArray, List.map_cons, List.map_nil, ((h.get 60 rfl).trans (gw_t (beq_t hq))), h.c, K.cell]; rfl) | rfl)) (fun hq => refFits_any (m.uid : Nat) m.date m.flags m.a m.b.length m.c _) fun a68 w3 hb3 hA68 => ?_
      replace K := K.below hb3 K.lt
      refine wl_op hA68 rfl rfl (by decide) (fun ev h => by first | exact pick_and rfl (h.get 58 rfl) (h.get 61 rfl) (h.c _) | exact pick_or rfl (h.get 58 rfl) (h.get 61 rfl) (h.c _) | (simp [go_sem, h.c, h.get 58 rfl, h.get 61 rfl, K.cell, gv_or, gv_and]; try first | exact ⟨rfl, rfl⟩ | rfl)) fun a69 hA69 => ?_
      refine wl_op hA69 rfl rfl (by decide) (fun ev h => by simp [go_sem, h.get 62 rfl, K.cell]; try first | exact ⟨rfl, rfl⟩ | rfl) fun a70 hA70 => ?_
      refine wl_nil ?_
      refine n_then ?_
      have hA71 := hA70.keep [2]
      simp only [argsE, keepE, lookS, Nat.reduceBEq, cond_true, cond_false, Nat.reduceAdd, gv_tt, gv_ff, Bool.true_and, Bool.false_and, Bool.true_or, Bool.false_or] at hA71
      clear hA50 hA51 hA52 hA53 hA54 hA55 hA56 hA57 hA58 hA59 hA60 hA61 hA62 hA63 hA64 hA65 hA66 hA67 hA68 hA69 hA70 a51 a52 a53 a54 a55 a56 a57 a58 a59 a60 a61 a62 a63 a64 a65 a66 a67 a68 a69
      refine wp_ret ?_
      refine r_block ?_
      refine r_then ?_
      -- ret
      refine ret_1 hA71 2 rfl rfl ?_
      exact ⟨ret_bool (by unfold formedV fullV; rw [hq1, hq2, cond_false, cond_true]; simp only [Bool.and_assoc]; rfl), (hb0.trans (hb.mono hb0.size)).trans (hb3.mono (Nat.le_trans hb0.size hb.size))⟩
    case nB =>
      refine wp_seq ?_
      refine wp_region_lit ?_
      refine wl_op hA50 rfl rfl (by decide) (fun ev h => by simp [go_sem, h.c, h.get 22 rfl, K.cell]; try first | exact ⟨rfl, rfl⟩ | rfl) fun a72 hA72 => ?_
      refine wl_op hA72 rfl rfl (by decide) (fun ev h => by simp [go_sem, h.get 64 rfl, K.cell]; try first | exact ⟨rfl, rfl⟩ | rfl) fun a73 hA73 => ?_
      refine wl_nil ?_
      refine n_then ?_
      have hA74 := hA73.keep [1, 3, 63]
      simp only [argsE, keepE, lookS, Nat.reduceBEq, cond_true, cond_false, Nat.reduceAdd, gv_tt, gv_ff, Bool.true_and, Bool.false_and, Bool.true_or, Bool.false_or] at hA74
      clear hA50 hA72 hA73 a72
      -- cond
      refine wp_if hA74 63 _ rfl (fun hq3 => ?yC) (fun hq3 => ?nC)
      case yC =>
        refine wp_seq ?_
        refine wp_region_lit ?_
        refine wl_op hA74 rfl rfl (by decide) (fun ev h => by simp [go_sem, h.get 1 rfl, K.cell]; try first | exact ⟨rfl, rfl⟩ | rfl) fun a75 hA75 => ?_
        refine wl_op hA75 rfl rfl (by decide) (fun ev h => by simp [go_sem, h.get 65 rfl, K.cell]; try first | exact ⟨rfl, rfl⟩ | rfl) fun a76 hA76 => ?_
        refine wl_op hA76 rfl rfl (by decide) (fun ev h => by simp [go_sem, h.c, h.get 66 rfl, K.cell]; try first | exact ⟨rfl, rfl⟩ | rfl) fun a77 hA77 => ?_
        refine wl_op hA77 rfl rfl (by decide) (fun ev h => by simp [go_sem, h.get 67 rfl, K.cell]; try first | exact ⟨rfl, rfl⟩ | rfl) fun a78 hA78 => ?_
        refine wl_guard _ hA78 rfl rfl rfl rfl (by decide) (fun hq ev h => by simp [go_sem, (h.get 1 rfl), K.cell]; try first | exact ⟨rfl, rfl⟩ | rfl) fun a79 hA79 => ?_
        refine wl_guard _ hA79 rfl rfl rfl rfl (by decide) (fun hq ev h => by simp [go_sem, ((h.get 69 rfl).trans (gw_t (beq_t hq))), K.cell]; try first | exact ⟨rfl, rfl⟩ | rfl) fun a80 hA80 => ?_
        refine wl_guard _ hA80 rfl rfl rfl rfl (by decide) (fun hq ev h => by simp [go_sem, h.c, ((h.get 70 rfl).trans (gw_t (beq_t hq))), K.cell]; try first | exact ⟨rfl, rfl⟩ | rfl) fun a81 hA81 => ?_
        refine wl_op hA81 rfl rfl (by decide) (fun ev h => by first | exact pick_and rfl (h.get 68 rfl) (h.get 71 rfl) (h.c _) | exact pick_or rfl (h.get 68 rfl) (h.get 71 rfl) (h.c _) | (simp [go_sem, h.c, h.get 68 rfl, h.get 71 rfl, K.cell, gv_or, gv_and]; try first | exact ⟨rfl, rfl⟩ | rfl)) fun a82 hA82 => ?_
        refine wl_op hA82 rfl rfl (by decide) (fun ev h => by simp [go_sem, h.get 72 rfl, K.cell]; try first | exact ⟨rfl, rfl⟩ | rfl) fun a83 hA83 => ?_
        refine wl_guard _ hA83 rfl rfl rfl rfl (by decide) (fun hq ev h => by simp [go_sem, (h.get 3 rfl), K.cell]; try first | exact ⟨rfl, rfl⟩ | rfl) fun a84 hA84 => ?_
        refine wl_op hA84 rfl rfl (by decide) (fun ev h => by first | exact pick_and rfl (h.get 73 rfl) (h.get 74 rfl) (h.c _) | exact pick_or rfl (h.get 73 rfl) (h.get 74 rfl) (h.c _) | (simp [go_sem, h.c, h.get 73 rfl, h.get 74 rfl, K.cell, gv_or, gv_and]; try first | exact ⟨rfl, rfl⟩ | rfl)) fun a85 hA85 => ?_
        refine wl_op hA85 rfl rfl (by decide) (fun ev h => by simp [go_sem, h.get 75 rfl, K.cell]; try first | exact ⟨rfl, rfl⟩ | rfl) fun a86 hA86 => ?_
        refine wl_guard _ hA86 rfl rfl rfl rfl (by decide) (fun hq ev h => by simp [go_sem, (h.get 1 rfl), K.cell]; try first | exact ⟨rfl, rfl⟩ | rfl) fun a87 hA87 => ?_
        refine wl_guard _ hA87 rfl rfl rfl rfl (by decide) (fun hq ev h => by simp [go_sem, ((h.get 77 rfl).trans (gw_t (beq_t hq))), K.cell]; try first | exact ⟨rfl, rfl⟩ | rfl) fun a88 hA88 => ?_
        refine wl_guard _ hA88 rfl rfl rfl rfl (by decide) (fun hq ev h => by simp [go_sem, ((h.get 78 rfl).trans (gw_t (beq_t hq))), K.cell]; try first | exact ⟨rfl, rfl⟩ | rfl) fun a89 hA89 => ?_
        refine wl_guard _ hA89 rfl rfl rfl rfl (by decide) (fun hq ev h => by simp [go_sem, h.c, ((h.get 79 rfl).trans (gw_t (beq_t hq))), K.cell]; try first | exact ⟨rfl, rfl⟩ | rfl) fun a90 hA90 => ?_
        refine wl_op hA90 rfl rfl (by decide) (fun ev h => by first | exact pick_and rfl (h.get 76 rfl) (h.get 80 rfl) (h.c _) | exact pick_or rfl (h.get 76 rfl) (h.get 80 rfl) (h.c _) | (simp [go_sem, h.c, h.get 76 rfl, h.get 80 rfl, K.cell, gv_or, gv_and]; try first | exact ⟨rfl, rfl⟩ | rfl)) fun a91 hA91 => ?_
        refine wl_op hA91 rfl rfl (by decide) (fun ev h => by simp [go_sem, h.get 81 rfl, K.cell]; try first | exact ⟨rfl, rfl⟩ | rfl) fun a92 hA92 => ?_
        refine wl_nil ?_
        refine n_then ?_
        have hA93 := hA92.keep [2]
        simp only [argsE, keepE, lookS, Nat.reduceBEq, cond_true, cond_false, Nat.reduceAdd, gv_tt, gv_ff, Bool.true_and, Bool.false_and, Bool.true_or, Bool.false_or] at hA93
        clear hA74 hA75 hA76 hA77 hA78 hA79 hA80 hA81 hA82 hA83 hA84 hA85 hA86 hA87 hA88 hA89 hA90 hA91 hA92 a75 a76 a77 a78 a79 a80 a81 a82 a83 a84 a85 a86 a87 a88 a89 a90 a91
        refine wp_ret ?_
        refine r_block ?_
        refine r_then ?_
        -- ret
        refine ret_1 hA93 2 rfl rfl ?_
        exact ⟨ret_bool (by unfold formedV bareV; rw [hq1, hq2, hq3, cond_false, cond_false, Bool.true_and]; simp only [Bool.and_assoc]; rfl), hb0⟩
      case nC =>
        refine wp_skip ?_
        refine n_block ?_
        refine n_then ?_
        refine wp_seq ?_
        refine wp_region_lit ?_
        refine wl_op hA74 rfl rfl (by decide) (fun ev h => by simp [go_sem, h.c, K.cell]; try first | exact ⟨rfl, rfl⟩ | rfl) fun a94 hA94 => ?_
        refine wl_nil ?_
        refine n_then ?_
        have hA95 := hA94.keep [2]
        simp only [argsE, keepE, lookS, Nat.reduceBEq, cond_true, cond_false, Nat.reduceAdd, gv_tt, gv_ff, Bool.true_and, Bool.false_and, Bool.true_or, Bool.false_or] at hA95
        clear hA74 hA94
        refine wp_ret ?_
        -- ret
        refine ret_1 hA95 2 rfl rfl ?_
        exact ⟨ret_bool (by unfold formedV; rw [hq1, hq2, hq3]; simp), hb0⟩
end Go.Proofs.YtmjikfeaopmejaaGreatDoor
/-
  Walk of the document's text.
-/
namespace Go.Proofs.YtmjikfeaopmejaaGreatDoor
open Go.RowKit
attribute [local go_sem ↓ 100000] builtin_append8
/-- a row of bytes, added to -/
theorem append8_step {w0 w : World} (hb : Below w0.heap.size w0 w) {v : Value} {l m : List UInt8} (h : w.ownsRow w0.heap.size 5 1 v l.length (u8s l)) {A : Option Addr} {n : Nat} (c : Nat) {Bd : Nat} (hn : n = m.length) (hr : Reads w Bd 1 A n (u8s m)) (hlen : l.length + m.length ≤ 1000000000) :
    ∃ A' c' w', (append8S #[v, .slice A n c]).run Tryz.prog w = .ok (.value (.slice A' (l ++ m).length c')) w' ∧ w'.ownsRow w0.heap.size 5 1 (.slice A' (l ++ m).length c') (l ++ m).length (u8s (l ++ m)) ∧ Below w0.heap.size w0 w' := by
  obtain ⟨A2, c2, w2, E, ho, hg⟩ := run_append8 h c hn hr hlen hb.size
  exact ⟨A2, c2, w2, E, ho, hb.grown hg hb.size fun k hk => (h.lt k hk).1⟩
theorem append8_at {w0 w : World} (hb : Below w0.heap.size w0 w) {v : Value} {l m : List UInt8} {n1 n n2 : Nat} (h : w.ownsRow w0.heap.size 5 1 v n1 (u8s l)) {A : Option Addr} (c : Nat) {Bd : Nat} (hn : m.length = n) (h2 : n1 + n = n2) (hr : Reads w Bd 1 A n (u8s m)) (hlen : n2 ≤ 1000000000) :
    ∃ A' c' w', (append8S #[v, .slice A n c]).run Tryz.prog w = .ok (.value (.slice A' n2 c')) w' ∧ w'.ownsRow w0.heap.size 5 1 (.slice A' n2 c') n2 (u8s (l ++ m)) ∧ Reads w' w'.heap.size 1 A' n2 (u8s (l ++ m)) ∧ Below w0.heap.size w0 w' := by
  have h1 : l.length = n1 := by have := h.1; rw [u8s_length] at this; omega
  have hlm : (l ++ m).length = n2 := by rw [List.length_append]; omega
  obtain ⟨A2, c2, w2, E, ho, hb2⟩ := append8_step hb (own8 h) c hn.symm hr (by omega)
  rw [hlm] at E ho
  exact ⟨A2, c2, w2, E, ho, Reads.of_own ho, hb2⟩
theorem own_lit8 {w : World} {l : List UInt8} (hl : l.length ≤ 1000) {cs : Array Value} (hcs : cs = (u8s l).toArray) : (w.alloc (.cells cs 5)).ownsRow w.heap.size 5 1 (.slice (some ⟨w.heap.size, 0, none⟩) l.length l.length) l.length (u8s l) := by
  subst hcs
  have := World.ownsRow_lit (base := w.heap.size) (e := 5) (size := 1) w (u8s l).toArray l.length (Nat.le_refl _) (by unfold maxLen; omega) (by simp [u8s])
  simpa using this
def append8T (args : Array Value) : Sem Next := do pure (.value (← Builtin.append_ #[23, 9] 23 args))
theorem builtin_append8T (cs : Array Bool) (args : Array Value) : builtin .append #[23, 9] 23 cs args = append8T args := rfl
attribute [local go_sem ↓ 100000] builtin_append8T
theorem append8T_step {w0 w : World} (hb : Below w0.heap.size w0 w) {v : Value} {l : List UInt8} (h : w.ownsRow w0.heap.size 5 1 v l.length (u8s l)) (s : ByteArray) (hlen : l.length + s.size ≤ 1000000000) :
    ∃ A' c' w', (append8T #[v, .string s]).run Tryz.prog w = .ok (.value (.slice A' (l ++ s.data.toList).length c')) w' ∧ w'.ownsRow w0.heap.size 5 1 (.slice A' (l ++ s.data.toList).length c') (l ++ s.data.toList).length (u8s (l ++ s.data.toList)) ∧ Below w0.heap.size w0 w' := by
  obtain ⟨i0, hi0, hz0, hz1, hz2⟩ := info_parts u8_info
  obtain ⟨v', w', hrun, ho, hg, _⟩ := Lib.run_append_own_string (P := Tryz.prog) w w0.heap.size 23 9 23 5 i0 Tryz.underlying23 Tryz.underlying9 hi0 hz0 hz1 hz2 v l.length (u8s l) h s (by unfold maxLen; omega) (by omega) hb.size
  have ho' : w'.ownsRow w0.heap.size 5 1 v' (l ++ s.data.toList).length (u8s (l ++ s.data.toList)) := by
    rw [u8s_append, List.length_append]
    exact ho
  obtain ⟨A', c', rfl, _, _⟩ := own_reads ho'
  exact ⟨A', c', w', by unfold append8T; simp only [Sem.run_bind, hrun, Result.andThen_ok, Sem.run_pure], ho', hb.grown hg hb.size fun k hk => (h.lt k hk).1⟩
set_option maxRecDepth 100000 in
theorem refText_any (s : ByteArray) (hs : s.size ≤ 1000000) (w : World) :
    Calls Tryz.prog 47 #[.string s] w fun e w' => ∃ v, e = .returned v ∧ w'.ownsRow w.heap.size 5 1 v (textB s).length (u8s (textB s)) ∧ Below w.heap.size w w' := by
  have R1 := Lib.hid (refBytes_any s.size 2 (by omega) (by omega) w)
  go_enter Tryz.func47, Tryz.ntmps47
  go_wp2_with fail
  refine R1.out.mono ?_
  rintro e w1 ⟨v1, rfl, ho1, hb1⟩
  obtain ⟨A2, c2, w2, E, ho2, hb2⟩ := append8T_step hb1 (own8 ho1) s (by rw [be_length]; omega)
  obtain ⟨n2, hn2⟩ : ∃ n2, (be 2 s.size ++ s.data.toList).length = n2 := ⟨_, rfl⟩
  rw [hn2] at E ho2
  have HN2 : Hid ((textB s).length = n2) := hn2
  clear hn2
  have HO := Lib.hid ho2
  have HB := Lib.hid hb2
  clear ho1 hb1 ho2 hb2
  go_wp2
  go_ret
  refine ⟨_, rfl, ?_, HB.out⟩
  rw [HN2.out]
  exact HO.out
end Go.Proofs.YtmjikfeaopmejaaGreatDoor
/-
  What is read back: the program's codec.In.
-/
namespace Go.Proofs.YtmjikfeaopmejaaGreatDoor
open Go.RowKit
/-- but for one block nothing has turned -/
structure IBut (i : Nat) (w w' : World) : Prop where
  os : w'.os = w.os
  tape : w'.tape = w.tape
  output : w'.output = w.output
  size : w.heap.size ≤ w'.heap.size
  block : ∀ j, j < w.heap.size → j ≠ i → w'.heap[j]? = w.heap[j]?
section
variable {i : Nat} {w w' w'' : World}
theorem IBut.refl (i : Nat) (w : World) : IBut i w w := ⟨rfl, rfl, rfl, Nat.le_refl _, fun _ _ _ => rfl⟩
theorem IBut.trans (h : IBut i w w') (k : IBut i w' w'') : IBut i w w'' :=
  ⟨k.os.trans h.os, k.tape.trans h.tape, k.output.trans h.output, Nat.le_trans h.size k.size, fun j hj h1 => (k.block j (Nat.lt_of_lt_of_le hj h.size) h1).trans (h.block j hj h1)⟩
theorem IBut.of_below (k : Below w.heap.size w w') : IBut i w w' := ⟨k.os, k.tape, k.output, k.size, fun j hj _ => k.block j hj⟩
theorem IBut.below (h : IBut i w w') (k : Below w'.heap.size w' w'') : IBut i w w'' := h.trans (.of_below k)
theorem IBut.set_ (h : IBut i w w') (j : Nat) (u : Value) : IBut i w (w'.setCell ⟨i, j, none⟩ u) :=
  h.trans ⟨rfl, rfl, rfl, by simp [World.setCell], fun k _ h1 => Below.heap_setCell _ _ _ _ h1⟩
theorem IBut.toBelow (h : IBut i w w') {C : Nat} (hC : C ≤ w.heap.size) (hi : C ≤ i) : Below C w w' :=
  ⟨h.os, h.tape, h.output, h.size, fun j hj => h.block j (by omega) (by omega)⟩
theorem Reads.ibut {B n : Nat} {A : Option Addr} {l : List UInt8} (h : Reads w B 1 A n (u8s l)) (hB : B ≤ w.heap.size) {t : TypeId} {cs : Array Value} (hi : Blk w i t cs) (hcs : ∀ (k : Int) (j : Nat), cs[j]? ≠ some (.int .u8 k)) (hb : IBut i w w') : Reads w' w'.heap.size 1 A n (u8s l) := by
  refine ⟨h.1, fun hn => ?_⟩
  obtain ⟨ad, e, hlt, hc⟩ := h.2 hn
  have hl : 0 < l.length := by have := h.1; rw [u8s_length] at this; omega
  have h0 := hc 0 _ (by rw [u8s_get, List.getElem?_eq_getElem hl]; rfl)
  have a2 : ad.block ≠ i := by
    intro e
    have hcell := h0
    unfold World.cell? at hcell
    rw [block_of_add, e] at hcell
    unfold Blk at hi
    rw [hi] at hcell
    simp only at hcell
    split at hcell
    · cases hcell
    · exact hcs _ _ hcell
  refine ⟨ad, e, Nat.lt_of_lt_of_le hlt (Nat.le_trans hB hb.size), fun j u hu => ?_⟩
  have hk := hb.block ad.block (by omega) a2
  exact (World.cell?_of_block (by rw [block_of_add]; exact hk)).trans (hc j u hu)
end
structure InAt (w : World) (i : Nat) (s : InM) (v : Value) : Prop where
  cells : Blk w i 119 #[v, .bool s.bad]
  row : (v = .slice none 0 0 ∧ s.rest = []) ∨ ∃ ad c, v = .slice (some ad) s.rest.length c ∧ s.rest.length ≤ c ∧ Reads w w.heap.size 1 (some ad) s.rest.length (u8s s.rest) ∧ U8Row w ad.block
section
variable {w w' : World} {i : Nat} {s : InM} {v : Value}
theorem InAt.below (h : InAt w i s v) (hb : Below w.heap.size w w') : InAt w' i s v := by
  refine ⟨h.cells.below hb h.cells.lt, ?_⟩
  rcases h.row with h | ⟨ad, c, e, hc, hr, hu⟩
  · exact .inl h
  · exact .inr ⟨ad, c, e, hc, (hr.below hb).more hb.size, hu.same (hb.block _ hu.lt)⟩
theorem InAt.c0 (h : InAt w i s v) : w.cell? ⟨i, 0, none⟩ = some v := by rw [h.cells.cell]; rfl
theorem InAt.c1 (h : InAt w i s v) : w.cell? ⟨i, 1, none⟩ = some (.bool s.bad) := by rw [h.cells.cell]; rfl
theorem in_no8 {A : Option Addr} {n c : Nat} {b : Bool} : ∀ (k : Int) (j : Nat), (#[.slice A n c, .bool b] : Array Value)[j]? ≠ some (.int .u8 k) := by
  intro k j h
  rcases j with _ | _ | j <;> simp at h
set_option maxRecDepth 100000 in
theorem in_take (h : InAt w i s v) (hl : s.rest.length ≤ 1000000) (n : Int) :
    Calls Tryz.prog 65 #[.pointer (some ⟨i, 0, none⟩), .int .i64 n] w fun e w' => ∃ r, e = .returned r ∧ Took w' r (inTake s n).1 ∧ (∃ v', InAt w' i (inTake s n).2 v') ∧ IBut i w w' := by
  obtain ⟨rest, bad⟩ := s
  have c0 := h.c0
  have c1 := h.c1
  have f0 := h.cells.frozen 0
  have f1 := h.cells.frozen 1
  have H := Lib.hid h
  cases bad with
  | true =>
    have e : inTake ⟨rest, true⟩ n = ([], ⟨rest, true⟩) := by unfold inTake; rw [if_pos rfl]
    rw [e]
    clear h
    go_enter Tryz.func65, Tryz.ntmps65
    go_wp2
    go_ret
    exact ⟨_, rfl, Took.nil _, ⟨v, H.out⟩, IBut.refl _ _⟩
  | false =>
    obtain ⟨m, hm⟩ : ∃ m, rest.length = m := ⟨_, rfl⟩
    by_cases hbad : n < 0 ∨ (m : Int) < n
    · have e : inTake ⟨rest, false⟩ n = ([], ⟨[], true⟩) := by unfold inTake; rw [if_neg (by simp), if_pos (by simpa [hm] using hbad)]
      rw [e]
      have HF : Hid (InAt ((w.setCell ⟨i, 0, none⟩ (.slice none 0 0)).setCell ⟨i, 1, none⟩ (.bool true)) i ⟨[], true⟩ (.slice none 0 0) ∧ IBut i w ((w.setCell ⟨i, 0, none⟩ (.slice none 0 0)).setCell ⟨i, 1, none⟩ (.bool true))) :=
        ⟨⟨(h.cells.set_ 0 _).set_ 1 _, .inl ⟨rfl, rfl⟩⟩, ((IBut.refl i w).set_ 0 _).set_ 1 _⟩
      have hv : ∃ A c, v = .slice A m c := by
        rcases h.row with ⟨e1, e2⟩ | ⟨ad, c, e1, _⟩
        · simp only at e2; subst e2; exact ⟨none, 0, by rw [← hm]; exact e1⟩
        · exact ⟨some ad, c, by rw [← hm]; exact e1⟩
      obtain ⟨A, c, rfl⟩ := hv
      clear h
      rcases (show n < 0 ∨ (0 ≤ n ∧ (m : Int) < n) by omega) with hneg | ⟨hpos, hbig⟩
      · have g1 : decide (n < 0) = true := by simp; omega
        go_enter Tryz.func65, Tryz.ntmps65
        go_wp2
        go_ret
        exact ⟨_, rfl, Took.nil _, ⟨_, HF.out.1⟩, HF.out.2⟩
      · have g1 : decide (n < 0) = false := by simp; omega
        have g2 : decide ((m : Int) < n) = true := by simp; omega
        go_enter Tryz.func65, Tryz.ntmps65
        go_wp2
        go_ret
        exact ⟨_, rfl, Took.nil _, ⟨_, HF.out.1⟩, HF.out.2⟩
    · obtain ⟨k, rfl⟩ : ∃ k : Nat, n = k := ⟨n.toNat, by omega⟩
      have hkm : k ≤ m := by omega
      have e : inTake ⟨rest, false⟩ k = (rest.take k, ⟨rest.drop k, false⟩) := by unfold inTake; rw [if_neg (by simp), if_neg (by simpa [hm] using hbad)]; rfl
      rw [e]
      have htl : (rest.take k).length = k := by rw [List.length_take]; omega
      have hdl : (rest.drop k).length = m - k := by rw [List.length_drop, hm]
      have g1 : decide ((k : Int) < 0) = false := by simp
      have g2 : decide ((m : Int) < (k : Int)) = false := by simp; omega
      have i0 : (0 : Int) ≤ (k : Int) := by omega
      have i1 : (k : Int) ≤ (m : Int) := by omega
      rcases h.row with ⟨rfl, e2⟩ | ⟨ad, c, rfl, hc, hr, hu⟩
      · simp only at e2
        subst e2
        obtain rfl : m = 0 := by rw [← hm]; rfl
        obtain rfl : k = 0 := by omega
        have HF : Hid (InAt (w.setCell ⟨i, 0, none⟩ (.slice none 0 0)) i ⟨[], false⟩ (.slice none 0 0) ∧ IBut i w (w.setCell ⟨i, 0, none⟩ (.slice none 0 0))) :=
          ⟨⟨h.cells.set_ 0 _, .inl ⟨rfl, rfl⟩⟩, (IBut.refl i w).set_ 0 _⟩
        clear h htl hdl
        go_enter Tryz.func65, Tryz.ntmps65
        go_wp2
        go_ret
        exact ⟨_, rfl, Took.nil _, ⟨_, HF.out.1⟩, HF.out.2⟩
      · simp only at hc hr c0 f0 H
        rw [hm] at hc hr c0 H
        have hsk : Reads w w.heap.size 1 (if c = k then some ad else some (ad.add k)) (m - k) (u8s (rest.drop k)) := hr.drop8 hkm hc
        have htk := hr.take8 hkm
        obtain ⟨ad2, had2, hblk⟩ : ∃ ad2, (if c = k then some ad else some (ad.add k)) = some ad2 ∧ ad2.block = ad.block := by
          split
          · exact ⟨_, rfl, rfl⟩
          · exact ⟨_, rfl, block_of_add _ _⟩
        rw [had2] at hsk
        have hI := h.cells.set_ 0 (.slice (some ad2) (m - k) (c - k))
        have hB : IBut i w (w.setCell ⟨i, 0, none⟩ (.slice (some ad2) (m - k) (c - k))) := (IBut.refl i w).set_ 0 _
        have hs2 := hsk.ibut (Nat.le_refl _) h.cells in_no8 hB
        have ht2 := htk.ibut (Nat.le_refl _) h.cells in_no8 hB
        have HF : Hid (Took (w.setCell ⟨i, 0, none⟩ (.slice (some ad2) (m - k) (c - k))) (.slice (some ad) k c) (rest.take k) ∧ (∃ v', InAt (w.setCell ⟨i, 0, none⟩ (.slice (some ad2) (m - k) (c - k))) i ⟨rest.drop k, false⟩ v') ∧ IBut i w (w.setCell ⟨i, 0, none⟩ (.slice (some ad2) (m - k) (c - k)))) :=
          ⟨⟨some ad, c, by rw [htl], by rw [htl]; exact ht2⟩, ⟨_, ⟨hI, .inr ⟨ad2, c - k, by simp only; rw [hdl], by simp only; omega, by simp only; rw [hdl]; exact hs2, by
            rw [hblk]
            refine hu.same (hB.block _ hu.lt (fun e => ?_))
            obtain ⟨cs, p, hg⟩ := hu
            have hx := h.cells
            unfold Blk at hx
            rw [e, hx] at hg
            injection hg with hg
            injection hg with _ hg
            exact absurd hg (by decide)⟩⟩⟩, hB⟩
        have i2 : (k : Int) ≤ (c : Int) := by omega
        have i3 : (m : Int) ≤ (c : Int) := by omega
        clear h hsk htk hI hB hs2 ht2 hr htl hdl e hbad hu hblk
        by_cases hck : c = k
        · rw [if_pos hck] at had2
          injection had2 with had2
          subst had2
          subst hck
          rw [show m - c = 0 by omega, Nat.sub_self] at HF
          go_enter Tryz.func65, Tryz.ntmps65
          go_wp2
          go_ret
          exact ⟨_, rfl, HF.out⟩
        · rw [if_neg hck] at had2
          injection had2 with had2
          go_enter Tryz.func65, Tryz.ntmps65
          go_wp2
          go_ret
          exact ⟨_, rfl, HF.out⟩
end
end Go.Proofs.YtmjikfeaopmejaaGreatDoor
/-
  Rows of bytes that are owned, beside the codec.
-/
/-
  Walk: a note's payload.
-/
namespace Go.Proofs.YtmjikfeaopmejaaGreatDoor
open Go.RowKit
set_option linter.unusedSimpArgs false
set_option linter.unusedVariables false
def enc1 (k : Int) (m : MsgV) : List UInt8 := bif k == 1 then [] else be 4 m.uid
def enc2 (k : Int) (m : MsgV) : List UInt8 := bif k == 2 then be 6 m.date.toNat ++ be 1 m.flags.toNat else []
def enc3 (k : Int) (nm : ByteArray) : List UInt8 := bif k == 3 then [] else textB nm
/-- a note's octets -/
def encV (k : Int) (e : Nat) (nm : ByteArray) (m : MsgV) : List UInt8 := be 4 e ++ enc1 k m ++ enc2 k m ++ enc3 k nm ++ m.b
theorem textB_size (s : ByteArray) : (textB s).length = 2 + s.size := by unfold textB; simp [be_length]
theorem enc1_len (k : Int) (m : MsgV) : (enc1 k m).length ≤ 4 := by unfold enc1; cases k == 1 <;> simp [be_length]
theorem enc2_len (k : Int) (m : MsgV) : (enc2 k m).length ≤ 7 := by unfold enc2; cases k == 2 <;> simp [be_length]
theorem enc3_len (k : Int) (nm : ByteArray) : (enc3 k nm).length ≤ 2 + nm.size := by unfold enc3; cases k == 3 <;> simp [textB_size]
theorem bare_len {d f : Int} {n : Nat} (h : bareV d f n = true) : n = 0 := by
  unfold bareV at h
  simp only [Bool.and_eq_true, beq_iff_eq] at h
  omega
theorem full_parts {m : MsgV} (h : fullV m = true) : m.b.length ≤ 20000 ∧ 1 ≤ m.uid ∧ 0 ≤ m.date ∧ m.date ≤ 253402300799 ∧ 0 ≤ m.flags ∧ m.flags ≤ 31 := by
  unfold fullV fitsDF dateOk at h
  simp only [Bool.and_eq_true, decide_eq_true_eq] at h
  omega
theorem formed_parts {k : Int} {e : Nat} {nm : ByteArray} {m : MsgV} (h : formedV k e nm m = true) : 1 ≤ e ∧ nm.size ≤ 60 ∧ m.b.length ≤ 20000 ∧ (k = 1 ∨ k = 2 ∨ k = 3) ∧ ((k == 2) = true → 0 ≤ m.date ∧ m.date ≤ 253402300799 ∧ 0 ≤ m.flags ∧ m.flags ≤ 31) := by
  unfold formedV at h
  rw [Bool.and_eq_true, decide_eq_true_eq] at h
  obtain ⟨h0, h⟩ := h
  refine ⟨h0, ?_⟩
  cases h1 : k == 1 with
  | true =>
    have e1 : k = 1 := by simpa using h1
    rw [h1, cond_true, Bool.and_eq_true, Bool.and_eq_true] at h
    refine ⟨nameIs_size h.1.1, by rw [bare_len h.1.2]; omega, .inl e1, fun h2 => ?_⟩
    rw [e1] at h2
    cases h2
  | false =>
    rw [h1, cond_false] at h
    cases h2 : k == 2 with
    | true =>
      rw [h2, cond_true, Bool.and_eq_true] at h
      obtain ⟨p1, p2, p3⟩ := full_parts h.2
      exact ⟨nameIs_size h.1, p1, .inr (.inl (by simpa using h2)), fun _ => p3⟩
    | false =>
      rw [h2, cond_false] at h
      simp only [Bool.and_eq_true, beq_iff_eq] at h
      have hz : nm.size = 0 := by
        have := h.1.1.2
        rw [ByteArray.toList_eq] at this
        have h4 := congrArg List.length (List.isEmpty_iff.1 this)
        rw [Array.length_toList] at h4
        exact h4
      exact ⟨by omega, by rw [bare_len h.1.2]; omega, .inr (.inr h.1.1.1), fun e => by cases e⟩
set_option maxRecDepth 100000 in
set_option maxHeartbeats 2000000 in
theorem encode_any (k : Int) (e : Nat) (nm : ByteArray) (m : MsgV) (w : World) (hm : MaxCell w) (hg : 0 < w.heap.size) (htab : Lib.TabIs Tryz.prog w "internal/strconv.uint64pow10" .u64 Lib.pow10Tab) (hs : nm.size ≤ 9223372036854775807) (he : e < 4294967296) (hu : m.uid < 4294967296) (hr : Reads w w.heap.size 1 m.a m.b.length (u8s m.b)) :
    Calls Tryz.prog 10 #[.agg (noteC k e nm m)] w fun ev w' => ∃ r, ev = .returned (.tuple #[r, .int .i64 (bif formedV k e nm m then 0 else 1)]) ∧ Own8 w.heap.size w' r (bif formedV k e nm m then encV k e nm m else []) ∧ Below w.heap.size w w' := by
  have Ht := Lib.tabBelow_of_tabIs htab
  refine calls_at 44 Tryz.func10 rfl rfl (Nat.le_of_ble_eq_true rfl) ?_
  intro a hA
  simp only [argsE, keepE, lookS, Nat.reduceBEq, cond_true, cond_false, Nat.reduceAdd, gv_tt, gv_ff, Bool.true_and, Bool.false_and, Bool.true_or, Bool.false_or] at hA
  refine wp_seq ?_
  refine wp_region_lit ?_
  -- stop box slot 1
  refine wl_new hA rfl rfl (by decide) (fun ev h => by simp [go_sem, h.get 0 rfl]; try first | exact ⟨rfl, rfl⟩ | rfl) fun w1 a1 (K : Blk _ _ _ _) hz hb0 hA1 => ?_
  unfold noteC at K
  refine wl_op hA1 rfl rfl (by decide) (fun ev h => by simp [go_sem, h.c, K.cell]; try first | exact ⟨rfl, rfl⟩ | rfl) fun a2 hA2 => ?_
  refine wl_op hA2 rfl rfl (by decide) (fun ev h => by simp [go_sem, h.c, K.cell]; try first | exact ⟨rfl, rfl⟩ | rfl) fun a3 hA3 => ?_
  refine wl_nil ?_
  refine n_then ?_
  have hA4 := hA3.keep [1]
  simp only [argsE, keepE, lookS, Nat.reduceBEq, cond_true, cond_false, Nat.reduceAdd, gv_tt, gv_ff, Bool.true_and, Bool.false_and, Bool.true_or, Bool.false_or] at hA4
  clear hA hA1 hA2 hA3 a1 a2
  refine wp_seq ?_
  refine wp_seq ?_
  refine wp_region_lit ?_
  refine wl_op hA4 rfl rfl (by decide) (fun ev h => by simp [go_sem, h.get 1 rfl, K.cell]; try first | exact ⟨rfl, rfl⟩ | rfl) fun a5 hA5 => ?_
  -- stop call slot 6
  have HB := Below.refl w1.heap.size w1
  refine wl_call hA5 rfl rfl (by decide) (fun ev h => exec_call Tryz.func13 (by kernel_rfl) rfl (h.f _) (by first | (simp only [List.map_toArray, List.map_cons, List.map_nil, h.get 5 rfl, h.c]; done) | (simp only [List.map_toArray, List.map_cons, List.map_nil, h.get 5 rfl, h.c]; rfl) | (simp [List.map_toArray, List.map_cons, List.map_nil, h.get 5 rfl, h.c, K.cell]; done) | (simp [List.map_toArray, List.map_cons, List.map_nil, h.get 5 rfl, h.c, K.cell]; rfl) | rfl)) (formed_any k e nm m _ (hm.below hg hb0) (Nat.lt_of_lt_of_le hg hb0.size) (htab := Ht _ hb0) hs) ?_
  rintro e w2 ⟨rfl, hb⟩
  refine ⟨_, rfl, fun a6 hA6 => ?_⟩
  replace HB := HB.trans (hb.mono HB.size)
  refine wl_op hA6 rfl rfl (by decide) (fun ev h => by simp [go_sem, h.get 6 rfl, K.cell]; try first | exact ⟨rfl, rfl⟩ | rfl) fun a7 hA7 => ?_
  refine wl_nil ?_
  refine n_then ?_
  have hA8 := hA7.keep [1, 7]
  simp only [argsE, keepE, lookS, Nat.reduceBEq, cond_true, cond_false, Nat.reduceAdd, gv_tt, gv_ff, Bool.true_and, Bool.false_and, Bool.true_or, Bool.false_or] at hA8
  clear hA4 hA5 hA6 hA7 a3 a5 a6
  -- cond
  refine wp_if hA8 7 _ rfl (fun hv => ?yA) (fun hv => ?nA)
  case yA =>
    have hv : formedV k e nm m = false := by simpa using hv
    rw [hv, cond_false, cond_false]
    refine wp_seq ?_
    refine wp_region_lit ?_
    refine wl_op hA8 rfl rfl (by decide) (fun ev h => by simp [go_sem, h.c, K.cell]; try first | exact ⟨rfl, rfl⟩ | rfl) fun a9 hA9 => ?_
    refine wl_op hA9 rfl rfl (by decide) (fun ev h => by simp [go_sem, h.c, K.cell]; try first | exact ⟨rfl, rfl⟩ | rfl) fun a10 hA10 => ?_
    refine wl_nil ?_
    refine n_then ?_
    have hA11 := hA10.keep [2, 3]
    simp only [argsE, keepE, lookS, Nat.reduceBEq, cond_true, cond_false, Nat.reduceAdd, gv_tt, gv_ff, Bool.true_and, Bool.false_and, Bool.true_or, Bool.false_or] at hA11
    clear hA8 hA9 hA10 a9
    refine wp_ret ?_
    refine r_then ?_
    refine ret_2 hA11 2 3 rfl rfl rfl ?_
    exact ⟨_, rfl, Own8.nil _, hb0.trans (HB.mono hb0.size)⟩
  case nA =>
    have hv : formedV k e nm m = true := by simpa using hv
    rw [hv, cond_true, cond_true]
    obtain ⟨h1e, h60, h20, hk, hdf⟩ := formed_parts hv
    have l1 := enc1_len k m
    have l2 := enc2_len k m
    have l3 := enc3_len k nm
    refine wp_skip ?_
    refine n_then ?_
    refine wp_seq ?_
    refine wp_region_lit ?_
    -- stop alloc slot 4
    have hB2 := HB.size
    refine wl_new hA8 rfl rfl (by decide) (fun ev h => by simp [go_sem, K.cell]; try first | exact ⟨rfl, rfl⟩ | rfl) fun w3 a12 (Ko : Blk _ _ _ _) hz hb hA12 => ?_
    replace HB := HB.trans (hb.mono HB.size)
    obtain ⟨o, hoe⟩ : ∃ o, w2.heap.size = o := ⟨_, rfl⟩
    rw [hoe] at Ko hA12 hB2
    have hO : OutAt w3 w1.heap.size o [] false (.slice none 0 0) := ⟨hB2, Ko, World.ownsRow_nil _ _ _ _⟩
    have K0 := K.below HB K.lt
    have hwe : IntKind.i64.wrap (e : Int) = (e : Int) := IntWalk.i64_in _ (by omega)
    have hwu : IntKind.i64.wrap (m.uid : Int) = (m.uid : Int) := IntWalk.i64_in _ (by omega)
    refine wl_nil ?_
    refine n_then ?_
    have hA13 := hA12.keep [1, 4]
    simp only [argsE, keepE, lookS, Nat.reduceBEq, cond_true, cond_false, Nat.reduceAdd, gv_tt, gv_ff, Bool.true_and, Bool.false_and, Bool.true_or, Bool.false_or] at hA13
    clear hA8 hA12
    refine wp_seq ?_
    refine wp_region_lit ?_
    refine wl_op hA13 rfl rfl (by decide) (fun ev h => by simp [go_sem, h.get 1 rfl, K0.cell, hwe]; try first | exact ⟨rfl, rfl⟩ | rfl) fun a14 hA14 => ?_
    refine wl_op hA14 rfl rfl (by decide) (fun ev h => by simp [go_sem, h.get 8 rfl, K0.cell, hwe]; try first | exact ⟨rfl, rfl⟩ | rfl) fun a15 hA15 => ?_
    refine wl_op hA15 rfl rfl (by decide) (fun ev h => by simp [go_sem, h.get 9 rfl, K0.cell, hwe]; try first | exact ⟨rfl, rfl⟩ | rfl) fun a16 hA16 => ?_
    -- stop call slot 11
    refine wl_call hA16 rfl rfl (by decide) (fun ev h => exec_call Tryz.func31 (by kernel_rfl) rfl (h.f _) (by first | (simp only [List.map_toArray, List.map_cons, List.map_nil, h.get 4 rfl, h.get 10 rfl, h.c]; done) | (simp only [List.map_toArray, List.map_cons, List.map_nil, h.get 4 rfl, h.get 10 rfl, h.c]; rfl) | (simp [List.map_toArray, List.map_cons, List.map_nil, h.get 4 rfl, h.get 10 rfl, h.c, K0.cell, hwe]; done) | (simp [List.map_toArray, List.map_cons, List.map_nil, h.get 4 rfl, h.get 10 rfl, h.c, K0.cell, hwe]; rfl) | rfl)) (out_N hO HB.size (by simp) e 4 (by omega) (show e < 256 ^ 4 from he)) ?_
    rintro e w4 ⟨rfl, ⟨v4, hO⟩, hob⟩
    refine ⟨_, rfl, fun a17 hA17 => ?_⟩
    replace HB := HB.trans (hob.toBelow HB.size (Nat.le_refl _) hB2)
    have K0 := K.below HB K.lt
    rw [List.nil_append] at hO
    refine wl_nil ?_
    refine n_then ?_
    have hA18 := hA17.keep [1, 4]
    simp only [argsE, keepE, lookS, Nat.reduceBEq, cond_true, cond_false, Nat.reduceAdd, gv_tt, gv_ff, Bool.true_and, Bool.false_and, Bool.true_or, Bool.false_or] at hA18
    clear hA13 hA14 hA15 hA16 hA17 a12 a14 a15 a16
    refine wp_seq ?_
    refine wp_seq ?_
    refine wp_region_lit ?_
    refine wl_op hA18 rfl rfl (by decide) (fun ev h => by simp [go_sem, h.get 1 rfl, K0.cell]; try first | exact ⟨rfl, rfl⟩ | rfl) fun a19 hA19 => ?_
    refine wl_op hA19 rfl rfl (by decide) (fun ev h => by simp [go_sem, h.get 12 rfl, K0.cell]; try first | exact ⟨rfl, rfl⟩ | rfl) fun a20 hA20 => ?_
    refine wl_op hA20 rfl rfl (by decide) (fun ev h => by simp [go_sem, h.c, h.get 13 rfl, K0.cell]; try first | exact ⟨rfl, rfl⟩ | rfl) fun a21 hA21 => ?_
    refine wl_nil ?_
    refine n_then ?_
    have hA22 := hA21.keep [1, 4, 14]
    simp only [argsE, keepE, lookS, Nat.reduceBEq, cond_true, cond_false, Nat.reduceAdd, gv_tt, gv_ff, Bool.true_and, Bool.false_and, Bool.true_or, Bool.false_or] at hA22
    clear hA18 hA19 hA20 hA21 a17 a19 a20
    -- cond
    refine wp_join (fun a wx => ∃ v, At 44 [(1, .pointer (some ⟨w.heap.size, 0, none⟩)), (4, .pointer (some ⟨o, 0, none⟩))] a ∧ OutAt wx w1.heap.size o (be 4 e ++ enc1 k m) false v ∧ Below w1.heap.size w1 wx) ?jfJ ?jrJ
    case jfJ =>
      refine wp_if hA22 14 _ rfl (fun hq => ?yD) (fun hq => ?nD)
      case yD =>
        have hq : (k == 1) = false := by simpa using hq
        refine wp_region_lit ?_
        refine wl_op hA22 rfl rfl (by decide) (fun ev h => by simp [go_sem, h.get 1 rfl, K0.cell, hwu]; try first | exact ⟨rfl, rfl⟩ | rfl) fun a23 hA23 => ?_
        refine wl_op hA23 rfl rfl (by decide) (fun ev h => by simp [go_sem, h.get 15 rfl, K0.cell, hwu]; try first | exact ⟨rfl, rfl⟩ | rfl) fun a24 hA24 => ?_
        refine wl_op hA24 rfl rfl (by decide) (fun ev h => by simp [go_sem, h.get 16 rfl, K0.cell, hwu]; try first | exact ⟨rfl, rfl⟩ | rfl) fun a25 hA25 => ?_
        refine wl_op hA25 rfl rfl (by decide) (fun ev h => by simp [go_sem, h.get 17 rfl, K0.cell, hwu]; try first | exact ⟨rfl, rfl⟩ | rfl) fun a26 hA26 => ?_
        -- stop call slot 19
        refine wl_call hA26 rfl rfl (by decide) (fun ev h => exec_call Tryz.func31 (by kernel_rfl) rfl (h.f _) (by first | (simp only [List.map_toArray, List.map_cons, List.map_nil, h.get 4 rfl, h.get 18 rfl, h.c]; done) | (simp only [List.map_toArray, List.map_cons, List.map_nil, h.get 4 rfl, h.get 18 rfl, h.c]; rfl) | (simp [List.map_toArray, List.map_cons, List.map_nil, h.get 4 rfl, h.get 18 rfl, h.c, K0.cell, hwu]; done) | (simp [List.map_toArray, List.map_cons, List.map_nil, h.get 4 rfl, h.get 18 rfl, h.c, K0.cell, hwu]; rfl) | rfl)) (out_N hO HB.size (by simp [be_length]) m.uid 4 (by omega) (show m.uid < 256 ^ 4 from hu)) ?_
        rintro e w5 ⟨rfl, ⟨v5, hO⟩, hob⟩
        refine ⟨_, rfl, fun a27 hA27 => ?_⟩
        replace HB := HB.trans (hob.toBelow HB.size (Nat.le_refl _) hB2)
        refine wl_nil ?_
        refine n_then ?_
        have hA28 := hA27.keep [1, 4]
        simp only [argsE, keepE, lookS, Nat.reduceBEq, cond_true, cond_false, Nat.reduceAdd, gv_tt, gv_ff, Bool.true_and, Bool.false_and, Bool.true_or, Bool.false_or] at hA28
        clear hA22 hA23 hA24 hA25 hA26 hA27 a23 a24 a25 a26
        -- joined
        exact ⟨_, hA28, by unfold enc1; rw [hq, cond_false]; exact hO, HB⟩
      case nD =>
        have hq : (k == 1) = true := by simpa using hq
        refine wp_skip ?_
        refine n_then ?_
        have hA29 := hA22.keep [1, 4]
        simp only [argsE, keepE, lookS, Nat.reduceBEq, cond_true, cond_false, Nat.reduceAdd, gv_tt, gv_ff, Bool.true_and, Bool.false_and, Bool.true_or, Bool.false_or] at hA29
        clear hA22
        -- joined
        exact ⟨_, hA29, by unfold enc1; rw [hq, cond_true, List.append_nil]; exact hO, HB⟩
    clear hO HB K0
    rintro a wx ⟨v6, hA, hO, HB⟩
    have K0 := K.below HB K.lt
    refine wp_seq ?_
    refine wp_seq ?_
    refine wp_region_lit ?_
    refine wl_op hA rfl rfl (by decide) (fun ev h => by simp [go_sem, h.get 1 rfl, K0.cell]; try first | exact ⟨rfl, rfl⟩ | rfl) fun a30 hA30 => ?_
    refine wl_op hA30 rfl rfl (by decide) (fun ev h => by simp [go_sem, h.get 20 rfl, K0.cell]; try first | exact ⟨rfl, rfl⟩ | rfl) fun a31 hA31 => ?_
    refine wl_op hA31 rfl rfl (by decide) (fun ev h => by simp [go_sem, h.c, h.get 21 rfl, K0.cell]; try first | exact ⟨rfl, rfl⟩ | rfl) fun a32 hA32 => ?_
    refine wl_nil ?_
    refine n_then ?_
    have hA33 := hA32.keep [1, 4, 22]
    simp only [argsE, keepE, lookS, Nat.reduceBEq, cond_true, cond_false, Nat.reduceAdd, gv_tt, gv_ff, Bool.true_and, Bool.false_and, Bool.true_or, Bool.false_or] at hA33
    clear hA hA30 hA31 hA32 a30 a31
    -- cond
    refine wp_join (fun a wx => ∃ v, At 44 [(1, .pointer (some ⟨w.heap.size, 0, none⟩)), (4, .pointer (some ⟨o, 0, none⟩))] a ∧ OutAt wx w1.heap.size o (be 4 e ++ enc1 k m ++ enc2 k m) false v ∧ Below w1.heap.size w1 wx) ?jfL ?jrL
    case jfL =>
      refine wp_if hA33 22 _ rfl (fun hq => ?yD2) (fun hq => ?nD2)
      case yD2 =>
        obtain ⟨d0, d1, f0, f1⟩ := hdf hq
        obtain ⟨dt, hdt⟩ : ∃ dt : Nat, m.date = (dt : Int) := ⟨m.date.toNat, by omega⟩
        obtain ⟨ft, hft⟩ : ∃ ft : Nat, m.flags = (ft : Int) := ⟨m.flags.toNat, by omega⟩
        refine wp_seq ?_
        refine wp_region_lit ?_
        refine wl_op hA33 rfl rfl (by decide) (fun ev h => by simp [go_sem, h.get 1 rfl, K0.cell, hdt]; try first | exact ⟨rfl, rfl⟩ | rfl) fun a34 hA34 => ?_
        refine wl_op hA34 rfl rfl (by decide) (fun ev h => by simp [go_sem, h.get 23 rfl, K0.cell, hdt]; try first | exact ⟨rfl, rfl⟩ | rfl) fun a35 hA35 => ?_
        refine wl_op hA35 rfl rfl (by decide) (fun ev h => by simp [go_sem, h.get 24 rfl, K0.cell, hdt]; try first | exact ⟨rfl, rfl⟩ | rfl) fun a36 hA36 => ?_
        -- stop call slot 26
        refine wl_call hA36 rfl rfl (by decide) (fun ev h => exec_call Tryz.func31 (by kernel_rfl) rfl (h.f _) (by first | (simp only [List.map_toArray, List.map_cons, List.map_nil, h.get 4 rfl, h.get 25 rfl, h.c]; done) | (simp only [List.map_toArray, List.map_cons, List.map_nil, h.get 4 rfl, h.get 25 rfl, h.c]; rfl) | (simp [List.map_toArray, List.map_cons, List.map_nil, h.get 4 rfl, h.get 25 rfl, h.c, K0.cell, hdt]; done) | (simp [List.map_toArray, List.map_cons, List.map_nil, h.get 4 rfl, h.get 25 rfl, h.c, K0.cell, hdt]; rfl) | rfl)) (out_N hO HB.size (by simp only [List.length_append, be_length]; omega) dt 6 (by omega) (show dt < 256 ^ 6 by omega)) ?_
        rintro e w7 ⟨rfl, ⟨v7, hO⟩, hob⟩
        refine ⟨_, rfl, fun a37 hA37 => ?_⟩
        replace HB := HB.trans (hob.toBelow HB.size (Nat.le_refl _) hB2)
        have K0 := K.below HB K.lt
        refine wl_nil ?_
        refine n_then ?_
        have hA38 := hA37.keep [1, 4]
        simp only [argsE, keepE, lookS, Nat.reduceBEq, cond_true, cond_false, Nat.reduceAdd, gv_tt, gv_ff, Bool.true_and, Bool.false_and, Bool.true_or, Bool.false_or] at hA38
        clear hA33 hA34 hA35 hA36 hA37 a34 a35 a36
        refine wp_region_lit ?_
        refine wl_op hA38 rfl rfl (by decide) (fun ev h => by simp [go_sem, h.get 1 rfl, K0.cell, hft]; try first | exact ⟨rfl, rfl⟩ | rfl) fun a39 hA39 => ?_
        refine wl_op hA39 rfl rfl (by decide) (fun ev h => by simp [go_sem, h.get 27 rfl, K0.cell, hft]; try first | exact ⟨rfl, rfl⟩ | rfl) fun a40 hA40 => ?_
        refine wl_op hA40 rfl rfl (by decide) (fun ev h => by simp [go_sem, h.get 28 rfl, K0.cell, hft]; try first | exact ⟨rfl, rfl⟩ | rfl) fun a41 hA41 => ?_
        -- stop call slot 30
        refine wl_call hA41 rfl rfl (by decide) (fun ev h => exec_call Tryz.func31 (by kernel_rfl) rfl (h.f _) (by first | (simp only [List.map_toArray, List.map_cons, List.map_nil, h.get 4 rfl, h.get 29 rfl, h.c]; done) | (simp only [List.map_toArray, List.map_cons, List.map_nil, h.get 4 rfl, h.get 29 rfl, h.c]; rfl) | (simp [List.map_toArray, List.map_cons, List.map_nil, h.get 4 rfl, h.get 29 rfl, h.c, K0.cell, hft]; done) | (simp [List.map_toArray, List.map_cons, List.map_nil, h.get 4 rfl, h.get 29 rfl, h.c, K0.cell, hft]; rfl) | rfl)) (out_N hO HB.size (by simp only [List.length_append, be_length]; omega) ft 1 (by omega) (show ft < 256 ^ 1 by omega)) ?_
        rintro e w8 ⟨rfl, ⟨v8, hO⟩, hob⟩
        refine ⟨_, rfl, fun a42 hA42 => ?_⟩
        replace HB := HB.trans (hob.toBelow HB.size (Nat.le_refl _) hB2)
        refine wl_nil ?_
        refine n_then ?_
        have hA43 := hA42.keep [1, 4]
        simp only [argsE, keepE, lookS, Nat.reduceBEq, cond_true, cond_false, Nat.reduceAdd, gv_tt, gv_ff, Bool.true_and, Bool.false_and, Bool.true_or, Bool.false_or] at hA43
        clear hA38 hA39 hA40 hA41 hA42 a37 a39 a40 a41
        -- joined
        exact ⟨_, hA43, by unfold enc2; rw [hq, cond_true, hdt, hft, Int.toNat_natCast, Int.toNat_natCast, ← List.append_assoc]; exact hO, HB⟩
      case nD2 =>
        refine wp_skip ?_
        refine n_then ?_
        have hA44 := hA33.keep [1, 4]
        simp only [argsE, keepE, lookS, Nat.reduceBEq, cond_true, cond_false, Nat.reduceAdd, gv_tt, gv_ff, Bool.true_and, Bool.false_and, Bool.true_or, Bool.false_or] at hA44
        clear hA33
        -- joined
        exact ⟨_, hA44, by unfold enc2; rw [hq, cond_false, List.append_nil]; exact hO, HB⟩
    clear hO HB K0
    rintro a wx ⟨v9, hA, hO, HB⟩
    have K0 := K.below HB K.lt
    refine wp_seq ?_
    refine wp_seq ?_
    refine wp_region_lit ?_
    refine wl_op hA rfl rfl (by decide) (fun ev h => by simp [go_sem, h.get 1 rfl, K0.cell]; try first | exact ⟨rfl, rfl⟩ | rfl) fun a45 hA45 => ?_
    refine wl_op hA45 rfl rfl (by decide) (fun ev h => by simp [go_sem, h.get 31 rfl, K0.cell]; try first | exact ⟨rfl, rfl⟩ | rfl) fun a46 hA46 => ?_
    refine wl_op hA46 rfl rfl (by decide) (fun ev h => by simp [go_sem, h.c, h.get 32 rfl, K0.cell]; try first | exact ⟨rfl, rfl⟩ | rfl) fun a47 hA47 => ?_
    refine wl_nil ?_
    refine n_then ?_
    have hA48 := hA47.keep [1, 4, 33]
    simp only [argsE, keepE, lookS, Nat.reduceBEq, cond_true, cond_false, Nat.reduceAdd, gv_tt, gv_ff, Bool.true_and, Bool.false_and, Bool.true_or, Bool.false_or] at hA48
    clear hA hA45 hA46 hA47 a45 a46
    -- cond
    refine wp_join (fun a wx => ∃ v, At 44 [(1, .pointer (some ⟨w.heap.size, 0, none⟩)), (4, .pointer (some ⟨o, 0, none⟩))] a ∧ OutAt wx w1.heap.size o (be 4 e ++ enc1 k m ++ enc2 k m ++ enc3 k nm) false v ∧ Below w1.heap.size w1 wx) ?jfM ?jrM
    case jfM =>
      refine wp_if hA48 33 _ rfl (fun hq => ?yD3) (fun hq => ?nD3)
      case yD3 =>
        have hq : (k == 3) = false := by simpa using hq
        refine wp_region_lit ?_
        refine wl_op hA48 rfl rfl (by decide) (fun ev h => by simp [go_sem, h.get 1 rfl, K0.cell]; try first | exact ⟨rfl, rfl⟩ | rfl) fun a49 hA49 => ?_
        refine wl_op hA49 rfl rfl (by decide) (fun ev h => by simp [go_sem, h.get 34 rfl, K0.cell]; try first | exact ⟨rfl, rfl⟩ | rfl) fun a50 hA50 => ?_
        -- stop call slot 36
        refine wl_call hA50 rfl rfl (by decide) (fun ev h => exec_call Tryz.func32 (by kernel_rfl) rfl (h.f _) (by first | (simp only [List.map_toArray, List.map_cons, List.map_nil, h.get 4 rfl, h.get 35 rfl, h.c]; done) | (simp only [List.map_toArray, List.map_cons, List.map_nil, h.get 4 rfl, h.get 35 rfl, h.c]; rfl) | (simp [List.map_toArray, List.map_cons, List.map_nil, h.get 4 rfl, h.get 35 rfl, h.c, K0.cell]; done) | (simp [List.map_toArray, List.map_cons, List.map_nil, h.get 4 rfl, h.get 35 rfl, h.c, K0.cell]; rfl) | rfl)) (out_Text hO HB.size (by simp only [List.length_append, be_length]; omega) nm (by omega)) ?_
        rintro e w10 ⟨rfl, ⟨v10, hO⟩, hob⟩
        refine ⟨_, rfl, fun a51 hA51 => ?_⟩
        replace HB := HB.trans (hob.toBelow HB.size (Nat.le_refl _) hB2)
        refine wl_nil ?_
        refine n_then ?_
        have hA52 := hA51.keep [1, 4]
        simp only [argsE, keepE, lookS, Nat.reduceBEq, cond_true, cond_false, Nat.reduceAdd, gv_tt, gv_ff, Bool.true_and, Bool.false_and, Bool.true_or, Bool.false_or] at hA52
        clear hA48 hA49 hA50 hA51 a49 a50
        -- joined
        exact ⟨_, hA52, by unfold enc3; rw [hq, cond_false]; exact hO, HB⟩
      case nD3 =>
        have hq : (k == 3) = true := by simpa using hq
        refine wp_skip ?_
        refine n_then ?_
        have hA53 := hA48.keep [1, 4]
        simp only [argsE, keepE, lookS, Nat.reduceBEq, cond_true, cond_false, Nat.reduceAdd, gv_tt, gv_ff, Bool.true_and, Bool.false_and, Bool.true_or, Bool.false_or] at hA53
        clear hA48
        -- joined
        exact ⟨_, hA53, by unfold enc3; rw [hq, cond_true, List.append_nil]; exact hO, HB⟩
    clear hO HB K0
    rintro a wx ⟨v11, hA, hO, HB⟩
    have K0 := K.below HB K.lt
    have HW := hb0.trans (HB.mono hb0.size)
    refine wp_seq ?_
    refine wp_region_lit ?_
    refine wl_op hA rfl rfl (by decide) (fun ev h => by simp [go_sem, h.get 1 rfl, K0.cell]; try first | exact ⟨rfl, rfl⟩ | rfl) fun a54 hA54 => ?_
    refine wl_op hA54 rfl rfl (by decide) (fun ev h => by simp [go_sem, h.get 37 rfl, K0.cell]; try first | exact ⟨rfl, rfl⟩ | rfl) fun a55 hA55 => ?_
    refine wl_op hA55 rfl rfl (by decide) (fun ev h => by simp [go_sem, h.get 38 rfl, K0.cell]; try first | exact ⟨rfl, rfl⟩ | rfl) fun a56 hA56 => ?_
    -- stop call slot 40
    refine wl_call hA56 rfl rfl (by decide) (fun ev h => exec_call Tryz.func33 (by kernel_rfl) rfl (h.f _) (by first | (simp only [List.map_toArray, List.map_cons, List.map_nil, h.get 4 rfl, h.get 39 rfl, h.c]; done) | (simp only [List.map_toArray, List.map_cons, List.map_nil, h.get 4 rfl, h.get 39 rfl, h.c]; rfl) | (simp [List.map_toArray, List.map_cons, List.map_nil, h.get 4 rfl, h.get 39 rfl, h.c, K0.cell]; done) | (simp [List.map_toArray, List.map_cons, List.map_nil, h.get 4 rfl, h.get 39 rfl, h.c, K0.cell]; rfl) | rfl)) (out_Raw hO HB.size (by simp only [List.length_append, be_length]; omega) m.a m.b.length m.c m.b rfl (by omega) ((hr.below HW).more HW.size)) ?_
    rintro e w12 ⟨rfl, ⟨v12, hO⟩, hob⟩
    refine ⟨_, rfl, fun a57 hA57 => ?_⟩
    replace HB := HB.trans (hob.toBelow HB.size (Nat.le_refl _) hB2)
    refine wl_nil ?_
    refine n_then ?_
    have hA58 := hA57.keep [4]
    simp only [argsE, keepE, lookS, Nat.reduceBEq, cond_true, cond_false, Nat.reduceAdd, gv_tt, gv_ff, Bool.true_and, Bool.false_and, Bool.true_or, Bool.false_or] at hA58
    clear hA hA54 hA55 hA56 hA57 a54 a55 a56
    refine wp_seq ?_
    refine wp_region_lit ?_
    -- stop call slot 41
    refine wl_call hA58 rfl rfl (by decide) (fun ev h => exec_call Tryz.func34 (by kernel_rfl) rfl (h.f _) (by first | (simp only [List.map_toArray, List.map_cons, List.map_nil, h.get 4 rfl, h.c]; done) | (simp only [List.map_toArray, List.map_cons, List.map_nil, h.get 4 rfl, h.c]; rfl) | (simp [List.map_toArray, List.map_cons, List.map_nil, h.get 4 rfl, h.c]; done) | (simp [List.map_toArray, List.map_cons, List.map_nil, h.get 4 rfl, h.c]; rfl) | rfl)) (out_End hO (by simp only [List.length_append, be_length]; omega)) ?_
    rintro e w13 ⟨r, rfl, hown, hb⟩
    refine ⟨_, rfl, fun a59 hA59 => ?_⟩
    have HW := (hb0.trans (HB.mono hb0.size))
    refine wl_op hA59 rfl rfl (by decide) (fun ev h => by simp [go_sem, h.get 41 rfl]; try first | exact ⟨rfl, rfl⟩ | rfl) fun a60 hA60 => ?_
    refine wl_op hA60 rfl rfl (by decide) (fun ev h => by simp [go_sem, h.get 41 rfl]; try first | exact ⟨rfl, rfl⟩ | rfl) fun a61 hA61 => ?_
    refine wl_op hA61 rfl rfl (by decide) (fun ev h => by simp [go_sem, h.get 42 rfl]; try first | exact ⟨rfl, rfl⟩ | rfl) fun a62 hA62 => ?_
    refine wl_op hA62 rfl rfl (by decide) (fun ev h => by simp [go_sem, h.get 43 rfl]; try first | exact ⟨rfl, rfl⟩ | rfl) fun a63 hA63 => ?_
    refine wl_nil ?_
    refine n_then ?_
    have hA64 := hA63.keep [2, 3]
    simp only [argsE, keepE, lookS, Nat.reduceBEq, cond_true, cond_false, Nat.reduceAdd, gv_tt, gv_ff, Bool.true_and, Bool.false_and, Bool.true_or, Bool.false_or] at hA64
    clear hA58 hA59 hA60 hA61 hA62 hA63 a57 a59 a60 a61 a62
    refine wp_ret ?_
    -- ret
    refine ret_2 hA64 2 3 rfl rfl rfl ?_
    exact ⟨r, rfl, (Own8.of hown).mono HW.size, HW.trans (hb.mono HW.size)⟩
end Go.Proofs.YtmjikfeaopmejaaGreatDoor
/-
  Numbers and texts that are read back: the program's codec.In.
-/
namespace Go.Proofs.YtmjikfeaopmejaaGreatDoor
open Go.RowKit
theorem wrap_i64_small (n : Int) (h0 : 0 ≤ n) (h1 : n < 9223372036854775808) : IntKind.i64.wrap n = n := by
  simp [IntKind.wrap, IntKind.bits, IntKind.signed]
  split <;> omega
theorem i64_or_nat (a b : Nat) (ha : a < 9223372036854775808) (hb : b < 9223372036854775808) : bits .or .i64 (a : Int) (b : Int) = ((a ||| b : Nat) : Int) := by
  show IntKind.i64.wrap ((BitVec.ofInt 64 (a : Int) ||| BitVec.ofInt 64 (b : Int)).toNat : Int) = _
  rw [BitVec.toNat_or, ofInt_u64 a (by omega), ofInt_u64 b (by omega)]
  have h : a ||| b < 2 ^ 63 := Nat.or_lt_two_pow (by omega) (by omega)
  exact wrap_i64_small _ (by omega) (by omega)
theorem i64_join (v c : Nat) (hv : v < 281474976710656) (hc : c < 256) : bits .or .i64 ((v : Int) * 256) (c : Int) = ((v * 256 + c : Nat) : Int) := by
  have h := i64_or_nat (v * 256) c (by omega) (by omega)
  rw [nat_join 8 (v * 256) c (by omega) (by omega)] at h
  rw [← h]; rfl
theorem beVal_step {l : List UInt8} {j : Nat} {x : UInt8} (hx : l[j]? = some x) : beVal (l.take (j + 1)) = beVal (l.take j) * 256 + x.toNat := by
  rw [List.take_add_one, hx, ← beVal_snoc]; rfl
theorem inTake_len (s : InM) (n : Nat) : (inTake s n).1.length ≤ n := by
  unfold inTake
  split
  · simp
  · split
    · simp
    · simp only [Int.toNat_natCast, List.length_take]; omega
theorem inTake_rest (s : InM) (n : Int) : (inTake s n).2.rest.length ≤ s.rest.length := by
  unfold inTake
  split
  · exact Nat.le_refl _
  · split
    · simp
    · simp
theorem inN_lt (s : InM) (n : Nat) : (inN s n).1 < 256 ^ n := Nat.lt_of_lt_of_le (beVal_lt _) (Nat.pow_le_pow_right (by omega) (inTake_len s n))
section
variable {w w' : World} {i : Nat} {s : InM} {v : Value}
set_option maxRecDepth 100000 in
theorem in_N (h : InAt w i s v) (hl : s.rest.length ≤ 1000000) (n : Nat) (hn : 1 ≤ n ∧ n ≤ 7) :
    Calls Tryz.prog 40 #[.pointer (some ⟨i, 0, none⟩), .int .i64 (n : Nat)] w fun e w' => e = .returned (.int .i64 ((inN s n).1 : Nat)) ∧ (∃ v', InAt w' i (inN s n).2 v') ∧ IBut i w w' := by
  have H := Lib.hid (in_take h hl n)
  have n1 : decide ((n : Int) < 1) = false := by simp; omega
  have n2 : decide (7 < (n : Int)) = false := by simp; omega
  unfold inN
  have hlen := inTake_len s n
  dsimp only
  generalize inTake s n = r at *
  obtain ⟨l, s2⟩ := r
  simp only at H hlen ⊢
  clear h
  go_enter Tryz.func40, Tryz.ntmps40
  go_wp2_with fail
  refine H.out.mono ?_
  rintro e w1 ⟨r, rfl, ⟨A, c, rfl, hr⟩, hi, hb⟩
  obtain ⟨m, hm⟩ : ∃ m, l.length = m := ⟨_, rfl⟩
  rw [hm] at hr hlen ⊢
  have HR := Lib.hid hr
  have HI : Hid (∃ v', InAt w1 i s2 v') := hi
  have HB := Lib.hid hb
  clear hr hi hb H
  go_wp2
  go_loopw [5, 18] (fun z k wr => ∃ (j cc : Nat), k = .int .i64 j ∧ j ≤ m ∧ z = .int .i64 cc ∧ Hid (cc = beVal (l.take j)) ∧ wr = w1) (fun _ k _ => m - (intOf k).toNat)
  case atStart => exact ⟨0, 0, rfl, by omega, rfl, rfl, rfl⟩
  case round =>
    obtain ⟨j, cc, rfl, hj, rfl, hcc, rfl⟩ := hrel
    by_cases hlt : j < m
    · obtain ⟨x, hx⟩ : ∃ x, l[j]? = some x := ⟨_, List.getElem?_eq_getElem (by omega)⟩
      obtain ⟨ad, rfl, _, hc⟩ := HR.out.2 (by omega)
      have hcx := hc j (.int .u8 (x.toNat : Int)) (by rw [u8s_get, hx]; rfl)
      have hst := beVal_step hx
      rw [← hcc.out] at hst
      obtain ⟨xn, hxn⟩ : ∃ xn, x.toNat = xn := ⟨_, rfl⟩
      have hx8 : xn < 256 := by rw [← hxn]; exact x.toNat_lt
      have hcl : cc < 281474976710656 := by
        rw [hcc.out]
        have h1 := beVal_lt (l.take j)
        refine Nat.lt_of_lt_of_le h1 (Nat.le_trans (Nat.pow_le_pow_right (by omega) (show _ ≤ 6 from ?_)) (by decide))
        rw [List.length_take]; omega
      rw [hxn] at hcx hst
      have HST := Lib.hid hst
      have hjn := i64_join cc xn hcl hx8
      clear hst hx hc hxn
      go_wp2
      go_roundw
      case rel => exact ⟨j + 1, cc * 256 + xn, by go_num, by omega, rfl, HST.out.symm, by first | rfl | trivial⟩
      case measure => simp [intOf]; omega
    · obtain rfl : j = m := by omega
      go_wp2
      go_ret
      refine ⟨?_, HI.out, HB.out⟩
      rw [hcc.out, List.take_of_length_le (by omega)]
      rfl
theorem inText_rest (s : InM) : (inText s).2.rest.length ≤ s.rest.length := Nat.le_trans (inTake_rest _ _) (inTake_rest _ _)
set_option maxRecDepth 100000 in
theorem in_Text (h : InAt w i s v) (hl : s.rest.length ≤ 1000000) :
    Calls Tryz.prog 41 #[.pointer (some ⟨i, 0, none⟩)] w fun e w' => e = .returned (.string (inText s).1) ∧ (∃ v', InAt w' i (inText s).2 v') ∧ IBut i w w' := by
  have R1 := Lib.hid (in_N h hl 2 (by omega))
  have hle : (inN s 2).2.rest.length ≤ 1000000 := Nat.le_trans (inTake_rest s _) hl
  unfold inText
  generalize inN s 2 = r at *
  obtain ⟨nn, s2⟩ := r
  simp only at R1 hle ⊢
  clear h
  go_enter Tryz.func41, Tryz.ntmps41
  go_wp2_with fail
  refine R1.out.mono ?_
  rintro e w1 ⟨rfl, ⟨v1, h1⟩, hb1⟩
  have R2 := Lib.hid (in_take h1 hle (nn : Int))
  have HB1 := Lib.hid hb1
  clear h1 hb1 R1
  go_wp2_with fail
  refine R2.out.mono ?_
  rintro e w2 ⟨r, rfl, ⟨A, c, rfl, hr⟩, hi, hb2⟩
  have hcv := conv_reads (c := c) rfl hr
  have HI : Hid (∃ v', InAt w2 i (inTake s2 nn).2 v') := hi
  have HB2 := Lib.hid (HB1.out.trans hb2)
  clear hr hi hb2
  go_wp2
  go_ret
  exact ⟨rfl, HI.out, HB2.out⟩
end
theorem own_or {w : World} {B n : Nat} {v : Value} {l : List UInt8} (h : w.ownsRow B 5 1 v n (u8s l)) (hn : l.length = n) : (v = .slice none 0 0 ∧ l = []) ∨ ∃ ad c, v = .slice (some ad) l.length c ∧ l.length ≤ c ∧ Reads w w.heap.size 1 (some ad) l.length (u8s l) ∧ U8Row w ad.block := by
  subst hn
  rcases h.2 with ⟨rfl, h0⟩ | ⟨g, c, cur, rfl, _, hgg, hc, _⟩
  · exact .inl ⟨rfl, List.length_eq_zero_iff.1 h0⟩
  · exact .inr ⟨_, c, rfl, hc, Reads.of_own h, ⟨cur, _, hgg⟩⟩
set_option maxRecDepth 100000 in
theorem in_new (A : Option Addr) (n c : Nat) (l : List UInt8) (hl : l.length = n) (hn : n ≤ 1000000) (w : World) (hr : Reads w w.heap.size 1 A n (u8s l)) :
    Calls Tryz.prog 39 #[.slice A n c] w fun e w' => ∃ i v, e = .returned (.pointer (some ⟨i, 0, none⟩)) ∧ InAt w' i ⟨l, false⟩ v ∧ w.heap.size ≤ i ∧ Below w.heap.size w w' := by
  have R1 := Lib.hid (clone_any A n c l w hl (by omega) hr)
  clear hr
  go_enter Tryz.func39, Tryz.ntmps39
  go_wp2_with fail
  refine R1.out.mono ?_
  rintro e w1 ⟨v, rfl, ho, hb⟩
  have hx := (Below.refl w1.heap.size w1).alloc (Nat.le_refl _) (.cells #[v, .bool false] 119)
  have HI : Hid (InAt (w1.alloc (.cells #[v, .bool false] 119)) w1.heap.size ⟨l, false⟩ v) := ⟨Blk.new w1 _ _, own_or (own_below ho hx) hl⟩
  have HB := Lib.hid (hb.trans (hx.mono hb.size))
  have HS : Hid (w.heap.size ≤ w1.heap.size) := hb.size
  have hv : ∃ A c, v = .slice A n c := by
    obtain ⟨A, c, e, _⟩ := own_reads ho
    exact ⟨A, c, e⟩
  obtain ⟨A', c', rfl⟩ := hv
  clear ho hb hx
  go_wp2
  go_ret
  exact ⟨_, _, rfl, HI.out, HS.out, HB.out⟩
end Go.Proofs.YtmjikfeaopmejaaGreatDoor
/-
  Walks: the rest of what is read back; what stays as it is beside it.
-/
namespace Go.Proofs.YtmjikfeaopmejaaGreatDoor
open Go.RowKit
set_option linter.unusedSimpArgs false
set_option linter.unusedVariables false
theorem Blk.ibut {w w' : World} {g i : Nat} {t : TypeId} {cs : Array Value} (h : Blk w g t cs) (hb : IBut i w w') (hne : g ≠ i) : Blk w' g t cs := (hb.block g h.lt hne).trans h
theorem InAt.only {w w' : World} {g i : Nat} {s : InM} {v : Value} {t : TypeId} {cs : Array Value} (h : InAt w i s v) (hs : Only g w w') (hne : i ≠ g) (K : Blk w g t cs) (ht : t ≠ 5) : InAt w' i s v := by
  refine ⟨(hs.block i hne).trans h.cells, ?_⟩
  rcases h.row with h | ⟨ad, c, e, hc, hr, hu⟩
  · exact .inl h
  · have ha : ad.block ≠ g := by
      rintro rfl
      obtain ⟨cs', p, hg⟩ := hu
      unfold Blk at K
      rw [K] at hg
      injection hg with hg
      injection hg with _ h2
      exact ht h2
    refine .inr ⟨ad, c, e, hc, ⟨hr.1, fun hn => ?_⟩, hu.same (hs.block _ ha)⟩
    obtain ⟨ad', e', hlt, hcc⟩ := hr.2 hn
    have ea : ad = ad' := Option.some.inj e'
    subst ea
    exact ⟨ad, rfl, by rw [hs.size]; exact hlt, fun j u hu => (World.cell?_of_block (by rw [block_of_add]; exact hs.block _ ha)).trans (hcc j u hu)⟩
theorem inTake_le (s : InM) (n : Int) : (inTake s n).1.length ≤ s.rest.length := by
  unfold inTake
  split
  · exact Nat.zero_le _
  · split
    · exact Nat.zero_le _
    · show (List.take _ _).length ≤ _
      rw [List.length_take]
      exact Nat.min_le_right _ _
theorem in_Raw {w : World} {i : Nat} {s : InM} {v : Value} (h : InAt w i s v) (hl : s.rest.length ≤ 1000000) (n : Int) :
    Calls Tryz.prog 42 #[.pointer (some ⟨i, 0, none⟩), .int .i64 n] w fun e w' => ∃ r, e = .returned r ∧ Own8 w.heap.size w' r (inTake s n).1 ∧ (∃ v', InAt w' i (inTake s n).2 v') ∧ IBut i w w' := by
  have hn := inTake_le s n
  refine calls_at 9 Tryz.func42 rfl rfl (Nat.le_of_ble_eq_true rfl) ?_
  intro a hA
  simp only [argsE, keepE, lookS, Nat.reduceBEq, cond_true, cond_false, Nat.reduceAdd, gv_tt, gv_ff, Bool.true_and, Bool.false_and, Bool.true_or, Bool.false_or] at hA
  refine wp_seq ?_
  refine wp_region_lit ?_
  refine wl_op hA rfl rfl (by decide) (fun ev h => by simp [go_sem, h.c]; try first | exact ⟨rfl, rfl⟩ | rfl) fun a1 hA1 => ?_
  refine wl_nil ?_
  refine n_then ?_
  have hA2 := hA1.keep [0, 1]
  simp only [argsE, keepE, lookS, Nat.reduceBEq, cond_true, cond_false, Nat.reduceAdd, gv_tt, gv_ff, Bool.true_and, Bool.false_and, Bool.true_or, Bool.false_or] at hA2
  clear hA hA1
  refine wp_seq ?_
  refine wp_region_lit ?_
  refine wl_op hA2 rfl rfl (by decide) (fun ev h => by simp [go_sem, h.get 0 rfl]; try first | exact ⟨rfl, rfl⟩ | rfl) fun a3 hA3 => ?_
  refine wl_op hA3 rfl rfl (by decide) (fun ev h => by simp [go_sem, h.get 1 rfl]; try first | exact ⟨rfl, rfl⟩ | rfl) fun a4 hA4 => ?_
  -- stop call slot 7
  refine wl_call hA4 rfl rfl (by decide) (fun ev h => exec_call Tryz.func65 (by kernel_rfl) rfl (h.f _) (by first | (simp only [List.map_toArray, List.map_cons, List.map_nil, h.get 5 rfl, h.get 6 rfl, h.c]; done) | (simp only [List.map_toArray, List.map_cons, List.map_nil, h.get 5 rfl, h.get 6 rfl, h.c]; rfl) | (simp [List.map_toArray, List.map_cons, List.map_nil, h.get 5 rfl, h.get 6 rfl, h.c]; done) | (simp [List.map_toArray, List.map_cons, List.map_nil, h.get 5 rfl, h.get 6 rfl, h.c]; rfl) | rfl)) (in_take h hl n) ?_
  rintro e w1 ⟨r, rfl, ⟨A, c, rfl, hr⟩, ⟨v1, h1⟩, hib⟩
  refine ⟨_, rfl, fun a5 hA5 => ?_⟩
  -- stop call slot 8
  refine wl_call hA5 rfl rfl (by decide) (fun ev h => exec_call Tryz.func64 (by kernel_rfl) rfl (h.f _) (by first | (simp only [List.map_toArray, List.map_cons, List.map_nil, h.get 7 rfl, h.c]; done) | (simp only [List.map_toArray, List.map_cons, List.map_nil, h.get 7 rfl, h.c]; rfl) | (simp [List.map_toArray, List.map_cons, List.map_nil, h.get 7 rfl, h.c]; done) | (simp [List.map_toArray, List.map_cons, List.map_nil, h.get 7 rfl, h.c]; rfl) | rfl)) (clone_any A _ c _ _ rfl (by omega) hr) ?_
  rintro e w2 ⟨v2, rfl, ho, hb⟩
  refine ⟨_, rfl, fun a6 hA6 => ?_⟩
  refine wl_op hA6 rfl rfl (by decide) (fun ev h => by simp [go_sem, h.get 8 rfl]; try first | exact ⟨rfl, rfl⟩ | rfl) fun a7 hA7 => ?_
  refine wl_nil ?_
  refine n_then ?_
  have hA8 := hA7.keep [4]
  simp only [argsE, keepE, lookS, Nat.reduceBEq, cond_true, cond_false, Nat.reduceAdd, gv_tt, gv_ff, Bool.true_and, Bool.false_and, Bool.true_or, Bool.false_or] at hA8
  clear hA2 hA3 hA4 hA5 hA6 hA7 a1 a3 a4 a5 a6
  refine wp_ret ?_
  -- ret
  refine ret_1 hA8 4 rfl rfl ?_
  exact ⟨_, rfl, (Own8.of ho).mono hib.size, ⟨v1, h1.below hb⟩, hib.below hb⟩
theorem in_Left {w : World} {i : Nat} {s : InM} {v : Value} (h : InAt w i s v) :
    Calls Tryz.prog 43 #[.pointer (some ⟨i, 0, none⟩)] w fun e w' => e = .returned (.int .i64 (s.rest.length : Nat)) ∧ Below w.heap.size w w' := by
  obtain ⟨A, c, hv⟩ : ∃ A c, v = .slice A s.rest.length c := by
    rcases h.row with ⟨rfl, e⟩ | ⟨ad, c, e, _⟩
    · exact ⟨none, 0, by rw [e]; rfl⟩
    · exact ⟨_, _, e⟩
  subst hv
  have K := h.cells
  have HB := Below.refl w.heap.size w
  refine calls_at 10 Tryz.func43 rfl rfl (Nat.le_of_ble_eq_true rfl) ?_
  intro a hA
  simp only [argsE, keepE, lookS, Nat.reduceBEq, cond_true, cond_false, Nat.reduceAdd, gv_tt, gv_ff, Bool.true_and, Bool.false_and, Bool.true_or, Bool.false_or] at hA
  refine wp_seq ?_
  refine wp_region_lit ?_
  refine wl_op hA rfl rfl (by decide) (fun ev h => by simp [go_sem, h.c]; try first | exact ⟨rfl, rfl⟩ | rfl) fun a9 hA9 => ?_
  refine wl_nil ?_
  refine n_then ?_
  have hA10 := hA9.keep [0]
  simp only [argsE, keepE, lookS, Nat.reduceBEq, cond_true, cond_false, Nat.reduceAdd, gv_tt, gv_ff, Bool.true_and, Bool.false_and, Bool.true_or, Bool.false_or] at hA10
  clear hA hA9
  refine wp_seq ?_
  refine wp_seq ?_
  refine wp_region_lit ?_
  refine wl_op hA10 rfl rfl (by decide) (fun ev h => by simp [go_sem, h.get 0 rfl]; try first | exact ⟨rfl, rfl⟩ | rfl) fun a11 hA11 => ?_
  refine wl_op hA11 rfl rfl (by decide) (fun ev h => by simp [go_sem, h.c, h.get 3 rfl]; try first | exact ⟨rfl, rfl⟩ | rfl) fun a12 hA12 => ?_
  refine wl_nil ?_
  refine n_then ?_
  have hA13 := hA12.keep [0, 4]
  simp only [argsE, keepE, lookS, Nat.reduceBEq, cond_true, cond_false, Nat.reduceAdd, gv_tt, gv_ff, Bool.true_and, Bool.false_and, Bool.true_or, Bool.false_or] at hA13
  clear hA10 hA11 hA12 a9 a11
  -- cond
  refine wp_if hA13 4 _ rfl (fun hq => ?yA) (fun hq => ?nA)
  case yA => cases hq
  case nA =>
    refine wp_skip ?_
    refine n_then ?_
    refine wp_seq ?_
    refine wp_region_lit ?_
    refine wl_op hA13 rfl rfl (by decide) (fun ev h => by simp [go_sem, h.get 0 rfl, K.cell]; try first | exact ⟨rfl, rfl⟩ | rfl) fun a14 hA14 => ?_
    refine wl_op hA14 rfl rfl (by decide) (fun ev h => by simp [go_sem, h.get 5 rfl, K.cell]; try first | exact ⟨rfl, rfl⟩ | rfl) fun a15 hA15 => ?_
    refine wl_op hA15 rfl rfl (by decide) (fun ev h => by simp [go_sem, h.get 6 rfl, K.cell]; try first | exact ⟨rfl, rfl⟩ | rfl) fun a16 hA16 => ?_
    refine wl_op hA16 rfl rfl (by decide) (fun ev h => by simp [go_sem, h.get 7 rfl, K.cell]; try first | exact ⟨rfl, rfl⟩ | rfl) fun a17 hA17 => ?_
    refine wl_op hA17 rfl rfl (by decide) (fun ev h => by simp [go_sem, h.get 8 rfl, K.cell]; try first | exact ⟨rfl, rfl⟩ | rfl) fun a18 hA18 => ?_
    refine wl_op hA18 rfl rfl (by decide) (fun ev h => by simp [go_sem, h.get 9 rfl, K.cell]; try first | exact ⟨rfl, rfl⟩ | rfl) fun a19 hA19 => ?_
    refine wl_nil ?_
    refine n_then ?_
    have hA20 := hA19.keep [2]
    simp only [argsE, keepE, lookS, Nat.reduceBEq, cond_true, cond_false, Nat.reduceAdd, gv_tt, gv_ff, Bool.true_and, Bool.false_and, Bool.true_or, Bool.false_or] at hA20
    clear hA13 hA14 hA15 hA16 hA17 hA18 hA19 a14 a15 a16 a17 a18
    refine wp_ret ?_
    -- ret
    refine ret_1 hA20 2 rfl rfl ?_
    exact ⟨rfl, HB⟩
theorem in_Bad {w : World} {i : Nat} {s : InM} {v : Value} (h : InAt w i s v) :
    Calls Tryz.prog 44 #[.pointer (some ⟨i, 0, none⟩)] w fun e w' => e = .returned (.bool s.bad) ∧ Below w.heap.size w w' := by
  have K := h.cells
  have HB := Below.refl w.heap.size w
  refine calls_at 11 Tryz.func44 rfl rfl (Nat.le_of_ble_eq_true rfl) ?_
  intro a hA
  simp only [argsE, keepE, lookS, Nat.reduceBEq, cond_true, cond_false, Nat.reduceAdd, gv_tt, gv_ff, Bool.true_and, Bool.false_and, Bool.true_or, Bool.false_or] at hA
  refine wp_seq ?_
  refine wp_region_lit ?_
  refine wl_op hA rfl rfl (by decide) (fun ev h => by simp [go_sem, h.c, K.cell]; try first | exact ⟨rfl, rfl⟩ | rfl) fun a21 hA21 => ?_
  refine wl_nil ?_
  refine n_then ?_
  have hA22 := hA21.keep [0]
  simp only [argsE, keepE, lookS, Nat.reduceBEq, cond_true, cond_false, Nat.reduceAdd, gv_tt, gv_ff, Bool.true_and, Bool.false_and, Bool.true_or, Bool.false_or] at hA22
  clear hA hA21
  refine wp_seq ?_
  refine wp_region_lit ?_
  refine wl_op hA22 rfl rfl (by decide) (fun ev h => by simp [go_sem, h.get 0 rfl, K.cell]; try first | exact ⟨rfl, rfl⟩ | rfl) fun a23 hA23 => ?_
  refine wl_op hA23 rfl rfl (by decide) (fun ev h => by simp [go_sem, h.c, h.get 3 rfl, K.cell]; try first | exact ⟨rfl, rfl⟩ | rfl) fun a24 hA24 => ?_
  refine wl_op hA24 rfl rfl (by decide) (fun ev h => by simp [go_sem, h.get 4 rfl, K.cell]; try first | exact ⟨rfl, rfl⟩ | rfl) fun a25 hA25 => ?_
  refine wl_guard _ hA25 rfl rfl rfl rfl (by decide) (fun hq ev h => by simp [go_sem, (h.get 0 rfl), K.cell]; try first | exact ⟨rfl, rfl⟩ | rfl) fun a26 hA26 => ?_
  refine wl_guard _ hA26 rfl rfl rfl rfl (by decide) (fun hq ev h => by simp [go_sem, ((h.get 6 rfl).trans (gw_t (beq_t hq))), K.cell]; try first | exact ⟨rfl, rfl⟩ | rfl) fun a27 hA27 => ?_
  refine wl_guard _ hA27 rfl rfl rfl rfl (by decide) (fun hq ev h => by simp [go_sem, ((h.get 7 rfl).trans (gw_t (beq_t hq))), K.cell]; try first | exact ⟨rfl, rfl⟩ | rfl) fun a28 hA28 => ?_
  refine wl_guard _ hA28 rfl rfl rfl rfl (by decide) (fun hq ev h => by simp [go_sem, ((h.get 8 rfl).trans (gw_t (beq_t hq))), K.cell]; try first | exact ⟨rfl, rfl⟩ | rfl) fun a29 hA29 => ?_
  refine wl_op hA29 rfl rfl (by decide) (fun ev h => by first | exact pick_and rfl (h.get 5 rfl) (h.get 9 rfl) (h.c _) | exact pick_or rfl (h.get 5 rfl) (h.get 9 rfl) (h.c _) | (simp [go_sem, h.c, h.get 5 rfl, h.get 9 rfl, K.cell, gv_or, gv_and]; try first | exact ⟨rfl, rfl⟩ | rfl)) fun a30 hA30 => ?_
  refine wl_op hA30 rfl rfl (by decide) (fun ev h => by simp [go_sem, h.get 10 rfl, K.cell]; try first | exact ⟨rfl, rfl⟩ | rfl) fun a31 hA31 => ?_
  refine wl_nil ?_
  refine n_then ?_
  have hA32 := hA31.keep [2]
  simp only [argsE, keepE, lookS, Nat.reduceBEq, cond_true, cond_false, Nat.reduceAdd, gv_tt, gv_ff, Bool.true_and, Bool.false_and, Bool.true_or, Bool.false_or] at hA32
  clear hA22 hA23 hA24 hA25 hA26 hA27 hA28 hA29 hA30 hA31 a21 a23 a24 a25 a26 a27 a28 a29 a30
  refine wp_ret ?_
  -- ret
  refine ret_1 hA32 2 rfl rfl ?_
  exact ⟨rfl, HB⟩
end Go.Proofs.YtmjikfeaopmejaaGreatDoor
/-
  Walk: the note of a payload.
-/
namespace Go.Proofs.YtmjikfeaopmejaaGreatDoor
open Go.RowKit
set_option linter.unusedSimpArgs false
set_option linter.unusedVariables false
/-- what is read, part by part -/
def rd1 (p : List UInt8) : Nat × InM := inN ⟨p, false⟩ 4
def rd2 (k : Int) (p : List UInt8) : Nat × InM := bif k == 1 then (0, (rd1 p).2) else inN (rd1 p).2 4
def rd3 (k : Int) (p : List UInt8) : (Nat × Nat) × InM := bif k == 2 then (((inN (rd2 k p).2 6).1, (inN (inN (rd2 k p).2 6).2 1).1), (inN (inN (rd2 k p).2 6).2 1).2) else ((0, 0), (rd2 k p).2)
def rd4 (k : Int) (p : List UInt8) : ByteArray × InM := bif k == 3 then (⟨#[]⟩, (rd3 k p).2) else inText (rd3 k p).2
def rd5 (k : Int) (p : List UInt8) : List UInt8 × InM := inTake (rd4 k p).2 ((rd4 k p).2.rest.length : Nat)
/-- what is read: a message -/
def rdM (k : Int) (p : List UInt8) (a : Option Addr) (c : Nat) : MsgV := ⟨(rd2 k p).1, ((rd3 k p).1.1 : Nat), ((rd3 k p).1.2 : Nat), a, c, (rd5 k p).1⟩
/-- is it a note's? -/
def decOk (k : Int) (p : List UInt8) : Bool := !(rd5 k p).2.bad && (formedV k (rd1 p).1 (rd4 k p).1 (rdM k p none 0) && (encV k (rd1 p).1 (rd4 k p).1 (rdM k p none 0) == p))
theorem formed_ac (k : Int) (e : Nat) (nm : ByteArray) (p : List UInt8) (a : Option Addr) (c : Nat) : formedV k e nm (rdM k p a c) = formedV k e nm (rdM k p none 0) := rfl
theorem enc_ac (k : Int) (e : Nat) (nm : ByteArray) (p : List UInt8) (a : Option Addr) (c : Nat) : encV k e nm (rdM k p a c) = encV k e nm (rdM k p none 0) := rfl
theorem inN_rest (s : InM) (n : Nat) : (inN s n).2.rest.length ≤ s.rest.length := inTake_rest s n
theorem rd2_rest (k : Int) (p : List UInt8) : (rd2 k p).2.rest.length ≤ p.length := by
  have h1 : (rd1 p).2.rest.length ≤ p.length := inN_rest _ _
  unfold rd2
  cases k == 1
  · exact Nat.le_trans (inN_rest _ _) h1
  · exact h1
theorem rd3_rest (k : Int) (p : List UInt8) : (rd3 k p).2.rest.length ≤ p.length := by
  have h2 := rd2_rest k p
  unfold rd3
  cases k == 2
  · exact h2
  · exact Nat.le_trans (inN_rest _ _) (Nat.le_trans (inN_rest _ _) h2)
theorem rd4_rest (k : Int) (p : List UInt8) : (rd4 k p).2.rest.length ≤ p.length := by
  have h3 := rd3_rest k p
  unfold rd4
  cases k == 3
  · exact Nat.le_trans (inText_rest _) h3
  · exact h3
theorem rd2_lt (k : Int) (p : List UInt8) : (rd2 k p).1 < 4294967296 := by
  unfold rd2
  cases k == 1
  · exact inN_lt _ 4
  · show (0 : Nat) < _
    decide
theorem rd3_lt (k : Int) (p : List UInt8) : (rd3 k p).1.1 < 281474976710656 ∧ (rd3 k p).1.2 < 256 := by
  unfold rd3
  cases k == 2
  · exact ⟨show (0 : Nat) < _ by decide, show (0 : Nat) < _ by decide⟩
  · exact ⟨inN_lt _ 6, inN_lt _ 1⟩
theorem text_small (s : InM) : (inText s).1.size < 65536 := by
  have h1 := inN_lt s 2
  have h2 := inTake_len (inN s 2).2 (inN s 2).1
  have h3 : (inText s).1.size = (inTake (inN s 2).2 (inN s 2).1).1.length := by
    show (List.toArray _).size = _
    rw [List.size_toArray]
  rw [h3]
  exact Nat.lt_of_le_of_lt h2 h1
theorem rd4_size (k : Int) (p : List UInt8) : (rd4 k p).1.size < 65536 := by
  unfold rd4
  cases k == 3
  · exact text_small _
  · show (0 : Nat) < _
    decide
theorem own8_at {B n c : Nat} {w : World} {A : Option Addr} {l : List UInt8} (h : Own8 B w (.slice A n c) l) : Reads w w.heap.size 1 A l.length (u8s l) := by
  obtain ⟨A', c', e, hr⟩ := h.took
  injection e with e1
  subst e1
  exact hr
def noteZ : Array Value := #[.int .i64 0, .int .u32 0, .string ⟨#[]⟩, .int .u32 0, .int .i64 0, .int .i64 0, .slice none 0 0]
set_option maxRecDepth 100000 in
set_option maxHeartbeats 4000000 in
theorem decode_any (k : Int) (A : Option Addr) (n c : Nat) (p : List UInt8) (hl : p.length = n) (hn : n ≤ 1000000) (w : World) (hm : MaxCell w) (hg : 0 < w.heap.size) (htab : Lib.TabIs Tryz.prog w "internal/strconv.uint64pow10" .u64 Lib.pow10Tab) (hr : Reads w w.heap.size 1 A n (u8s p)) :
    Calls Tryz.prog 14 #[.int .i64 k, .slice A n c] w fun ev w' => ∃ a c', ev = .returned (.tuple #[.agg (bif decOk k p then noteC k (rd1 p).1 (rd4 k p).1 (rdM k p a c') else noteZ), .int .i64 (bif decOk k p then 0 else 2)]) ∧ (decOk k p = true → Reads w' w'.heap.size 1 a (rd5 k p).1.length (u8s (rd5 k p).1)) ∧ Below w.heap.size w w' := by
  have Ht := Lib.tabBelow_of_tabIs htab
  have q1 : (rd1 p).1 < 4294967296 := inN_lt _ 4
  have q1r : (rd1 p).2.rest.length ≤ p.length := inN_rest _ _
  have q2 := rd2_lt k p
  have q2r := rd2_rest k p
  obtain ⟨q3a, q3b⟩ := rd3_lt k p
  have q3r := rd3_rest k p
  have q4 := rd4_size k p
  have q4r := rd4_rest k p
  obtain ⟨Z, hZ⟩ : ∃ Z : Array Value, Z = noteZ := ⟨_, rfl⟩
  have HB0 := Below.refl w.heap.size w
  refine calls_at 68 Tryz.func14 rfl rfl (Nat.le_of_ble_eq_true rfl) ?_
  intro a hA
  simp only [argsE, keepE, lookS, Nat.reduceBEq, cond_true, cond_false, Nat.reduceAdd, gv_tt, gv_ff, Bool.true_and, Bool.false_and, Bool.true_or, Bool.false_or] at hA
  refine wp_seq ?_
  refine wp_region_lit ?_
  -- stop alloc slot 4
  refine wl_new hA rfl rfl (by decide) (fun ev h => by simp [go_sem]; try first | exact ⟨rfl, rfl⟩ | rfl) fun w1 a1 (K4 : Blk _ _ _ _) hz1 hb0 hA1 => ?_
  obtain ⟨g4, hg4⟩ : ∃ g4, w.heap.size = g4 := ⟨_, rfl⟩
  rw [hg4] at K4 hA1
  have h4 : g4 < w1.heap.size := by omega
  have HB : Below w.heap.size w w1 := hb0
  refine wl_op hA1 rfl rfl (by decide) (fun ev h => by simp [go_sem, h.c]; try first | exact ⟨rfl, rfl⟩ | rfl) fun a2 hA2 => ?_
  refine wl_nil ?_
  refine n_then ?_
  have hA3 := hA2.keep [0, 1, 4]
  simp only [argsE, keepE, lookS, Nat.reduceBEq, cond_true, cond_false, Nat.reduceAdd, gv_tt, gv_ff, Bool.true_and, Bool.false_and, Bool.true_or, Bool.false_or] at hA3
  clear hA hA1 hA2 a1
  refine wp_seq ?_
  refine wp_region_lit ?_
  refine wl_op hA3 rfl rfl (by decide) (fun ev h => by simp [go_sem, h.get 1 rfl]; try first | exact ⟨rfl, rfl⟩ | rfl) fun a4 hA4 => ?_
  -- stop call slot 11
  refine wl_call hA4 rfl rfl (by decide) (fun ev h => exec_call Tryz.func39 (by kernel_rfl) rfl (h.f _) (by first | (simp only [List.map_toArray, List.map_cons, List.map_nil, h.get 10 rfl, h.c]; done) | (simp only [List.map_toArray, List.map_cons, List.map_nil, h.get 10 rfl, h.c]; rfl) | (simp [List.map_toArray, List.map_cons, List.map_nil, h.get 10 rfl, h.c]; done) | (simp [List.map_toArray, List.map_cons, List.map_nil, h.get 10 rfl, h.c]; rfl) | rfl)) (in_new A n c p hl hn _ ((hr.below hb0).more hb0.size)) ?_
  rintro e w2 ⟨i, v1, rfl, hI, hi, hb⟩
  refine ⟨_, rfl, fun a5 hA5 => ?_⟩
  replace K4 := K4.below hb K4.lt
  replace HB := HB.trans (hb.mono HB.size)
  have h4i : g4 ≠ i := by omega
  refine wl_op hA5 rfl rfl (by decide) (fun ev h => by simp [go_sem, h.get 11 rfl]; try first | exact ⟨rfl, rfl⟩ | rfl) fun a6 hA6 => ?_
  refine wl_nil ?_
  refine n_then ?_
  have hA7 := hA6.keep [0, 1, 4, 6]
  simp only [argsE, keepE, lookS, Nat.reduceBEq, cond_true, cond_false, Nat.reduceAdd, gv_tt, gv_ff, Bool.true_and, Bool.false_and, Bool.true_or, Bool.false_or] at hA7
  clear hA3 hA4 hA5 hA6 a2 a4 a5
  refine wp_seq ?_
  refine wp_region_lit ?_
  refine wl_op hA7 rfl rfl (by decide) (fun ev h => by simp [go_sem, h.get 0 rfl]; try first | exact ⟨rfl, rfl⟩ | rfl) fun a8 hA8 => ?_
  refine wl_op hA8 rfl rfl (by decide) (fun ev h => by simp [go_sem, h.get 6 rfl]; try first | exact ⟨rfl, rfl⟩ | rfl) fun a9 hA9 => ?_
  -- stop call slot 14
  refine wl_call hA9 rfl rfl (by decide) (fun ev h => exec_call Tryz.func40 (by kernel_rfl) rfl (h.f _) (by first | (simp only [List.map_toArray, List.map_cons, List.map_nil, h.get 13 rfl, h.c]; done) | (simp only [List.map_toArray, List.map_cons, List.map_nil, h.get 13 rfl, h.c]; rfl) | (simp [List.map_toArray, List.map_cons, List.map_nil, h.get 13 rfl, h.c]; done) | (simp [List.map_toArray, List.map_cons, List.map_nil, h.get 13 rfl, h.c]; rfl) | rfl)) (in_N hI (by show p.length ≤ _; omega) 4 (by omega)) ?_
  rintro e w3 ⟨rfl, ⟨v2, hI⟩, hib⟩
  refine ⟨_, rfl, fun a10 hA10 => ?_⟩
  replace K4 := K4.ibut hib h4i
  replace HB := HB.trans (hib.toBelow HB.size (by omega))
  rw [show (inN ⟨p, false⟩ 4) = rd1 p from rfl] at hI hA10
  have hw1 : IntKind.u32.wrap ((rd1 p).1 : Int) = ((rd1 p).1 : Int) := IntWalk.u32_in _ (by omega)
  refine wl_op hA10 rfl rfl (by decide) (fun ev h => by simp [go_sem, h.get 14 rfl, hw1]; try first | exact ⟨rfl, rfl⟩ | rfl) fun a11 hA11 => ?_
  refine wl_op hA11 rfl rfl (by decide) (fun ev h => by simp [go_sem, h.get 12 rfl, h.get 15 rfl, hw1]; try first | exact ⟨rfl, rfl⟩ | rfl) fun a12 hA12 => ?_
  -- stop alloc slot 7
  have hi3 := hI.cells.lt
  refine wl_local [.int .i64 k, .int .u32 ((rd1 p).1 : Nat), .string ⟨#[]⟩, .int .u32 0, .int .i64 0, .int .i64 0, .slice none 0 0] hA12 rfl rfl (by decide) (fun ev h => by simp [go_sem, hw1]; try first | exact ⟨rfl, rfl⟩ | rfl) rfl rfl (by rfl) (fun w1 g ev hb h => by simp [go_sem, h.get 7 rfl, h.get 16 rfl, hw1, setAll, hb.cell, hb.frozen]) fun w4 a13 (K7 : Blk _ _ _ _) hz4 hb4 hA13 => ?_
  replace K4 := K4.below hb4 K4.lt
  replace HB := HB.trans (hb4.mono HB.size)
  replace hI := hI.below hb4
  obtain ⟨g7, hg7⟩ : ∃ g7, w3.heap.size = g7 := ⟨_, rfl⟩
  have h3w := HB.size
  rw [hg7] at K7 hA13 hi3
  have h47 : g4 ≠ g7 := by have := K4.lt; omega
  have hi7 : i ≠ g7 := by omega
  have hw7 : w.heap.size ≤ g7 := by omega
  have hw4 : w.heap.size ≤ i := by omega
  refine wl_nil ?_
  refine n_then ?_
  have hA14 := hA13.keep [0, 1, 4, 6, 7]
  simp only [argsE, keepE, lookS, Nat.reduceBEq, cond_true, cond_false, Nat.reduceAdd, gv_tt, gv_ff, Bool.true_and, Bool.false_and, Bool.true_or, Bool.false_or] at hA14
  clear hA7 hA8 hA9 hA10 hA11 hA12 hA13 a6 a8 a9 a10 a11 a12
  refine wp_seq ?_
  refine wp_seq ?_
  refine wp_region_lit ?_
  refine wl_op hA14 rfl rfl (by decide) (fun ev h => by simp [go_sem, h.get 0 rfl, hw1]; try first | exact ⟨rfl, rfl⟩ | rfl) fun a15 hA15 => ?_
  refine wl_op hA15 rfl rfl (by decide) (fun ev h => by simp [go_sem, h.c, h.get 17 rfl, hw1]; try first | exact ⟨rfl, rfl⟩ | rfl) fun a16 hA16 => ?_
  refine wl_nil ?_
  refine n_then ?_
  have hA17 := hA16.keep [0, 1, 4, 6, 7, 18]
  simp only [argsE, keepE, lookS, Nat.reduceBEq, cond_true, cond_false, Nat.reduceAdd, gv_tt, gv_ff, Bool.true_and, Bool.false_and, Bool.true_or, Bool.false_or] at hA17
  clear hA14 hA15 hA16 a13 a15
  -- cond
  refine wp_join (fun a wx => ∃ v, At 68 [(0, .int .i64 k), (1, .slice A n c), (4, .pointer (some ⟨g4, 0, none⟩)), (6, .pointer (some ⟨i, 0, none⟩)), (7, .pointer (some ⟨g7, 0, none⟩))] a ∧ InAt wx i (rd2 k p).2 v ∧ Blk wx g4 30 noteZ ∧ Blk wx g7 30 #[.int .i64 k, .int .u32 ((rd1 p).1 : Nat), .string ⟨#[]⟩, .int .u32 ((rd2 k p).1 : Nat), .int .i64 0, .int .i64 0, .slice none 0 0] ∧ Below w.heap.size w wx) ?jfJ ?jrJ
  case jfJ =>
    refine wp_if hA17 18 _ rfl (fun hq => ?yD) (fun hq => ?nD)
    case yD =>
      have hq : (k == 1) = false := by simpa using hq
      have e2 : rd2 k p = inN (rd1 p).2 4 := by unfold rd2; rw [hq, cond_false]
      refine wp_region_lit ?_
      refine wl_op hA17 rfl rfl (by decide) (fun ev h => by simp [go_sem, h.get 6 rfl, hw1]; try first | exact ⟨rfl, rfl⟩ | rfl) fun a18 hA18 => ?_
      -- stop call slot 20
      refine wl_call hA18 rfl rfl (by decide) (fun ev h => exec_call Tryz.func40 (by kernel_rfl) rfl (h.f _) (by first | (simp only [List.map_toArray, List.map_cons, List.map_nil, h.get 19 rfl, h.c]; done) | (simp only [List.map_toArray, List.map_cons, List.map_nil, h.get 19 rfl, h.c]; rfl) | (simp [List.map_toArray, List.map_cons, List.map_nil, h.get 19 rfl, h.c, hw1]; done) | (simp [List.map_toArray, List.map_cons, List.map_nil, h.get 19 rfl, h.c, hw1]; rfl) | rfl)) (in_N hI (by omega) 4 (by omega)) ?_
      rintro e w5 ⟨rfl, ⟨v5, hI⟩, hib⟩
      refine ⟨_, rfl, fun a19 hA19 => ?_⟩
      rw [← e2] at hI hA19
      replace K4 := K4.ibut hib h4i
      replace K7 := K7.ibut hib hi7.symm
      replace HB := HB.trans (hib.toBelow HB.size hw4)
      have hw2 : IntKind.u32.wrap ((rd2 k p).1 : Int) = ((rd2 k p).1 : Int) := IntWalk.u32_in _ (by omega)
      refine wl_op hA19 rfl rfl (by decide) (fun ev h => by simp [go_sem, h.get 20 rfl, hw2]; try first | exact ⟨rfl, rfl⟩ | rfl) fun a20 hA20 => ?_
      refine wl_op hA20 rfl rfl (by decide) (fun ev h => by simp [go_sem, h.get 7 rfl, hw2]; try first | exact ⟨rfl, rfl⟩ | rfl) fun a21 hA21 => ?_
      refine wl_op hA21 rfl rfl (by decide) (fun ev h => by simp [go_sem, h.get 22 rfl, hw2]; try first | exact ⟨rfl, rfl⟩ | rfl) fun a22 hA22 => ?_
      -- stop store slot None
      have K7b := K7
      refine wl_setf ([.int .i64 k, .int .u32 ((rd1 p).1 : Nat), .string ⟨#[]⟩, .int .u32 ((rd2 k p).1 : Nat), .int .i64 0, .int .i64 0, .slice none 0 0]) _ hA22 rfl rfl K7 (j := 3) (by rfl) (fun ev h => by simp [go_sem, h.get 23 rfl, h.get 21 rfl, hw2, K7.cell, K7.frozen]; try first | exact ⟨rfl, rfl⟩ | rfl) fun w6 (K7 : Blk _ _ _ _) hs => ?_
      refine wl_nil ?_
      refine n_then ?_
      have hA23 := hA22.keep [0, 1, 4, 6, 7]
      simp only [argsE, keepE, lookS, Nat.reduceBEq, cond_true, cond_false, Nat.reduceAdd, gv_tt, gv_ff, Bool.true_and, Bool.false_and, Bool.true_or, Bool.false_or] at hA23
      clear hA17 hA18 hA19 hA20 hA21 hA22 a18 a19 a20 a21
      -- joined
      exact ⟨_, hA23, hI.only hs hi7 K7b (by decide), hs.blk K4 h47, K7, hs.below HB hw7⟩
    case nD =>
      have hq : (k == 1) = true := by simpa using hq
      have e2 : rd2 k p = (0, (rd1 p).2) := by unfold rd2; rw [hq, cond_true]
      refine wp_skip ?_
      refine n_then ?_
      have hA24 := hA17.keep [0, 1, 4, 6, 7]
      simp only [argsE, keepE, lookS, Nat.reduceBEq, cond_true, cond_false, Nat.reduceAdd, gv_tt, gv_ff, Bool.true_and, Bool.false_and, Bool.true_or, Bool.false_or] at hA24
      clear hA17
      -- joined
      rw [e2]
      exact ⟨_, hA24, hI, K4, K7, HB⟩
  clear hI K4 K7 HB
  rintro a wx ⟨v7, hA, hI, K4, K7, HB⟩
  refine wp_seq ?_
  refine wp_seq ?_
  refine wp_region_lit ?_
  refine wl_op hA rfl rfl (by decide) (fun ev h => by simp [go_sem, h.get 0 rfl, hw1]; try first | exact ⟨rfl, rfl⟩ | rfl) fun a25 hA25 => ?_
  refine wl_op hA25 rfl rfl (by decide) (fun ev h => by simp [go_sem, h.c, h.get 24 rfl, hw1]; try first | exact ⟨rfl, rfl⟩ | rfl) fun a26 hA26 => ?_
  refine wl_nil ?_
  refine n_then ?_
  have hA27 := hA26.keep [0, 1, 4, 6, 7, 25]
  simp only [argsE, keepE, lookS, Nat.reduceBEq, cond_true, cond_false, Nat.reduceAdd, gv_tt, gv_ff, Bool.true_and, Bool.false_and, Bool.true_or, Bool.false_or] at hA27
  clear hA hA25 hA26 a25
  -- cond
  refine wp_join (fun a wx => ∃ v, At 68 [(0, .int .i64 k), (1, .slice A n c), (4, .pointer (some ⟨g4, 0, none⟩)), (6, .pointer (some ⟨i, 0, none⟩)), (7, .pointer (some ⟨g7, 0, none⟩))] a ∧ InAt wx i (rd3 k p).2 v ∧ Blk wx g4 30 noteZ ∧ Blk wx g7 30 #[.int .i64 k, .int .u32 ((rd1 p).1 : Nat), .string ⟨#[]⟩, .int .u32 ((rd2 k p).1 : Nat), .int .i64 ((rd3 k p).1.1 : Nat), .int .i64 ((rd3 k p).1.2 : Nat), .slice none 0 0] ∧ Below w.heap.size w wx) ?jfL ?jrL
  case jfL =>
    refine wp_if hA27 25 _ rfl (fun hq => ?yD2) (fun hq => ?nD2)
    case yD2 =>
      have e3 : rd3 k p = (((inN (rd2 k p).2 6).1, (inN (inN (rd2 k p).2 6).2 1).1), (inN (inN (rd2 k p).2 6).2 1).2) := by unfold rd3; rw [hq, cond_true]
      rw [e3]
      have q6 := inN_rest (rd2 k p).2 6
      refine wp_region_lit ?_
      refine wl_op hA27 rfl rfl (by decide) (fun ev h => by simp [go_sem, h.get 6 rfl, hw1]; try first | exact ⟨rfl, rfl⟩ | rfl) fun a28 hA28 => ?_
      -- stop call slot 27
      refine wl_call hA28 rfl rfl (by decide) (fun ev h => exec_call Tryz.func40 (by kernel_rfl) rfl (h.f _) (by first | (simp only [List.map_toArray, List.map_cons, List.map_nil, h.get 26 rfl, h.c]; done) | (simp only [List.map_toArray, List.map_cons, List.map_nil, h.get 26 rfl, h.c]; rfl) | (simp [List.map_toArray, List.map_cons, List.map_nil, h.get 26 rfl, h.c, hw1]; done) | (simp [List.map_toArray, List.map_cons, List.map_nil, h.get 26 rfl, h.c, hw1]; rfl) | rfl)) (in_N hI (by omega) 6 (by omega)) ?_
      rintro e w8 ⟨rfl, ⟨v8, hI⟩, hib⟩
      refine ⟨_, rfl, fun a29 hA29 => ?_⟩
      replace K4 := K4.ibut hib h4i
      replace K7 := K7.ibut hib hi7.symm
      replace HB := HB.trans (hib.toBelow HB.size hw4)
      refine wl_op hA29 rfl rfl (by decide) (fun ev h => by simp [go_sem, h.get 6 rfl, hw1]; try first | exact ⟨rfl, rfl⟩ | rfl) fun a30 hA30 => ?_
      -- stop call slot 29
      refine wl_call hA30 rfl rfl (by decide) (fun ev h => exec_call Tryz.func40 (by kernel_rfl) rfl (h.f _) (by first | (simp only [List.map_toArray, List.map_cons, List.map_nil, h.get 28 rfl, h.c]; done) | (simp only [List.map_toArray, List.map_cons, List.map_nil, h.get 28 rfl, h.c]; rfl) | (simp [List.map_toArray, List.map_cons, List.map_nil, h.get 28 rfl, h.c, hw1]; done) | (simp [List.map_toArray, List.map_cons, List.map_nil, h.get 28 rfl, h.c, hw1]; rfl) | rfl)) (in_N hI (by omega) 1 (by omega)) ?_
      rintro e w9 ⟨rfl, ⟨v9, hI⟩, hib⟩
      refine ⟨_, rfl, fun a31 hA31 => ?_⟩
      replace K4 := K4.ibut hib h4i
      replace K7 := K7.ibut hib hi7.symm
      replace HB := HB.trans (hib.toBelow HB.size hw4)
      refine wl_op hA31 rfl rfl (by decide) (fun ev h => by simp [go_sem, h.get 7 rfl, hw1]; try first | exact ⟨rfl, rfl⟩ | rfl) fun a32 hA32 => ?_
      refine wl_op hA32 rfl rfl (by decide) (fun ev h => by simp [go_sem, h.get 30 rfl, hw1]; try first | exact ⟨rfl, rfl⟩ | rfl) fun a33 hA33 => ?_
      -- stop store slot None
      have K7b := K7
      refine wl_setf ([.int .i64 k, .int .u32 ((rd1 p).1 : Nat), .string ⟨#[]⟩, .int .u32 ((rd2 k p).1 : Nat), .int .i64 ((inN (rd2 k p).2 6).1 : Nat), .int .i64 0, .slice none 0 0]) _ hA33 rfl rfl K7 (j := 4) (by rfl) (fun ev h => by simp [go_sem, h.get 31 rfl, h.get 27 rfl, hw1, K7.cell, K7.frozen]; try first | exact ⟨rfl, rfl⟩ | rfl) fun w10 (K7 : Blk _ _ _ _) hs => ?_
      replace hI := hI.only hs hi7 K7b (by decide)
      replace K4 := hs.blk K4 h47
      replace HB := hs.below HB hw7
      refine wl_op hA33 rfl rfl (by decide) (fun ev h => by simp [go_sem, h.get 7 rfl, hw1]; try first | exact ⟨rfl, rfl⟩ | rfl) fun a34 hA34 => ?_
      refine wl_op hA34 rfl rfl (by decide) (fun ev h => by simp [go_sem, h.get 32 rfl, hw1]; try first | exact ⟨rfl, rfl⟩ | rfl) fun a35 hA35 => ?_
      -- stop store slot None
      have K7b := K7
      refine wl_setf ([.int .i64 k, .int .u32 ((rd1 p).1 : Nat), .string ⟨#[]⟩, .int .u32 ((rd2 k p).1 : Nat), .int .i64 ((inN (rd2 k p).2 6).1 : Nat), .int .i64 ((inN (inN (rd2 k p).2 6).2 1).1 : Nat), .slice none 0 0]) _ hA35 rfl rfl K7 (j := 5) (by rfl) (fun ev h => by simp [go_sem, h.get 33 rfl, h.get 29 rfl, hw1, K7.cell, K7.frozen]; try first | exact ⟨rfl, rfl⟩ | rfl) fun w11 (K7 : Blk _ _ _ _) hs => ?_
      refine wl_nil ?_
      refine n_then ?_
      have hA36 := hA35.keep [0, 1, 4, 6, 7]
      simp only [argsE, keepE, lookS, Nat.reduceBEq, cond_true, cond_false, Nat.reduceAdd, gv_tt, gv_ff, Bool.true_and, Bool.false_and, Bool.true_or, Bool.false_or] at hA36
      clear hA27 hA28 hA29 hA30 hA31 hA32 hA33 hA34 hA35 a28 a29 a30 a31 a32 a33 a34
      -- joined
      exact ⟨_, hA36, hI.only hs hi7 K7b (by decide), hs.blk K4 h47, K7, hs.below HB hw7⟩
    case nD2 =>
      have e3 : rd3 k p = ((0, 0), (rd2 k p).2) := by unfold rd3; rw [hq, cond_false]
      refine wp_skip ?_
      refine n_then ?_
      have hA37 := hA27.keep [0, 1, 4, 6, 7]
      simp only [argsE, keepE, lookS, Nat.reduceBEq, cond_true, cond_false, Nat.reduceAdd, gv_tt, gv_ff, Bool.true_and, Bool.false_and, Bool.true_or, Bool.false_or] at hA37
      clear hA27
      -- joined
      rw [e3]
      exact ⟨_, hA37, hI, K4, K7, HB⟩
  clear hI K4 K7 HB
  rintro a wx ⟨v12, hA, hI, K4, K7, HB⟩
  refine wp_seq ?_
  refine wp_seq ?_
  refine wp_region_lit ?_
  refine wl_op hA rfl rfl (by decide) (fun ev h => by simp [go_sem, h.get 0 rfl, hw1]; try first | exact ⟨rfl, rfl⟩ | rfl) fun a38 hA38 => ?_
  refine wl_op hA38 rfl rfl (by decide) (fun ev h => by simp [go_sem, h.c, h.get 34 rfl, hw1]; try first | exact ⟨rfl, rfl⟩ | rfl) fun a39 hA39 => ?_
  refine wl_nil ?_
  refine n_then ?_
  have hA40 := hA39.keep [1, 4, 6, 7, 35]
  simp only [argsE, keepE, lookS, Nat.reduceBEq, cond_true, cond_false, Nat.reduceAdd, gv_tt, gv_ff, Bool.true_and, Bool.false_and, Bool.true_or, Bool.false_or] at hA40
  clear hA hA38 hA39 a38
  -- cond
  refine wp_join (fun a wx => ∃ v, At 68 [(1, .slice A n c), (4, .pointer (some ⟨g4, 0, none⟩)), (6, .pointer (some ⟨i, 0, none⟩)), (7, .pointer (some ⟨g7, 0, none⟩))] a ∧ InAt wx i (rd4 k p).2 v ∧ Blk wx g4 30 noteZ ∧ Blk wx g7 30 #[.int .i64 k, .int .u32 ((rd1 p).1 : Nat), .string (rd4 k p).1, .int .u32 ((rd2 k p).1 : Nat), .int .i64 ((rd3 k p).1.1 : Nat), .int .i64 ((rd3 k p).1.2 : Nat), .slice none 0 0] ∧ Below w.heap.size w wx) ?jfM ?jrM
  case jfM =>
    refine wp_if hA40 35 _ rfl (fun hq => ?yD3) (fun hq => ?nD3)
    case yD3 =>
      have hq : (k == 3) = false := by simpa using hq
      have e4 : rd4 k p = inText (rd3 k p).2 := by unfold rd4; rw [hq, cond_false]
      rw [e4]
      refine wp_region_lit ?_
      refine wl_op hA40 rfl rfl (by decide) (fun ev h => by simp [go_sem, h.get 6 rfl, hw1]; try first | exact ⟨rfl, rfl⟩ | rfl) fun a41 hA41 => ?_
      -- stop call slot 37
      refine wl_call hA41 rfl rfl (by decide) (fun ev h => exec_call Tryz.func41 (by kernel_rfl) rfl (h.f _) (by first | (simp only [List.map_toArray, List.map_cons, List.map_nil, h.get 36 rfl, h.c]; done) | (simp only [List.map_toArray, List.map_cons, List.map_nil, h.get 36 rfl, h.c]; rfl) | (simp [List.map_toArray, List.map_cons, List.map_nil, h.get 36 rfl, h.c, hw1]; done) | (simp [List.map_toArray, List.map_cons, List.map_nil, h.get 36 rfl, h.c, hw1]; rfl) | rfl)) (in_Text hI (by omega)) ?_
      rintro e w13 ⟨rfl, ⟨v13, hI⟩, hib⟩
      refine ⟨_, rfl, fun a42 hA42 => ?_⟩
      replace K4 := K4.ibut hib h4i
      replace K7 := K7.ibut hib hi7.symm
      replace HB := HB.trans (hib.toBelow HB.size hw4)
      refine wl_op hA42 rfl rfl (by decide) (fun ev h => by simp [go_sem, h.get 7 rfl, hw1]; try first | exact ⟨rfl, rfl⟩ | rfl) fun a43 hA43 => ?_
      -- stop store slot None
      have K7b := K7
      refine wl_setf ([.int .i64 k, .int .u32 ((rd1 p).1 : Nat), .string (inText (rd3 k p).2).1, .int .u32 ((rd2 k p).1 : Nat), .int .i64 ((rd3 k p).1.1 : Nat), .int .i64 ((rd3 k p).1.2 : Nat), .slice none 0 0]) _ hA43 rfl rfl K7 (j := 2) (by rfl) (fun ev h => by simp [go_sem, h.get 38 rfl, h.get 37 rfl, hw1, K7.cell, K7.frozen]; try first | exact ⟨rfl, rfl⟩ | rfl) fun w14 (K7 : Blk _ _ _ _) hs => ?_
      refine wl_nil ?_
      refine n_then ?_
      have hA44 := hA43.keep [1, 4, 6, 7]
      simp only [argsE, keepE, lookS, Nat.reduceBEq, cond_true, cond_false, Nat.reduceAdd, gv_tt, gv_ff, Bool.true_and, Bool.false_and, Bool.true_or, Bool.false_or] at hA44
      clear hA40 hA41 hA42 hA43 a41 a42
      -- joined
      exact ⟨_, hA44, hI.only hs hi7 K7b (by decide), hs.blk K4 h47, K7, hs.below HB hw7⟩
    case nD3 =>
      have hq : (k == 3) = true := by simpa using hq
      have e4 : rd4 k p = (⟨#[]⟩, (rd3 k p).2) := by unfold rd4; rw [hq, cond_true]
      refine wp_skip ?_
      refine n_then ?_
      have hA45 := hA40.keep [1, 4, 6, 7]
      simp only [argsE, keepE, lookS, Nat.reduceBEq, cond_true, cond_false, Nat.reduceAdd, gv_tt, gv_ff, Bool.true_and, Bool.false_and, Bool.true_or, Bool.false_or] at hA45
      clear hA40
      -- joined
      rw [e4]
      exact ⟨_, hA45, hI, K4, K7, HB⟩
  clear hI K4 K7 HB
  rintro a wx ⟨v15, hA, hI, K4, K7, HB⟩
  unfold noteZ at K4
  refine wp_seq ?_
  refine wp_region_lit ?_
  refine wl_op hA rfl rfl (by decide) (fun ev h => by simp [go_sem, h.get 6 rfl, hw1]; try first | exact ⟨rfl, rfl⟩ | rfl) fun a46 hA46 => ?_
  refine wl_op hA46 rfl rfl (by decide) (fun ev h => by simp [go_sem, h.get 6 rfl, hw1]; try first | exact ⟨rfl, rfl⟩ | rfl) fun a47 hA47 => ?_
  -- stop call slot 41
  refine wl_call hA47 rfl rfl (by decide) (fun ev h => exec_call Tryz.func43 (by kernel_rfl) rfl (h.f _) (by first | (simp only [List.map_toArray, List.map_cons, List.map_nil, h.get 40 rfl, h.c]; done) | (simp only [List.map_toArray, List.map_cons, List.map_nil, h.get 40 rfl, h.c]; rfl) | (simp [List.map_toArray, List.map_cons, List.map_nil, h.get 40 rfl, h.c, hw1]; done) | (simp [List.map_toArray, List.map_cons, List.map_nil, h.get 40 rfl, h.c, hw1]; rfl) | rfl)) (in_Left hI) ?_
  rintro e w16 ⟨rfl, hb⟩
  refine ⟨_, rfl, fun a48 hA48 => ?_⟩
  replace K4 := K4.below hb K4.lt
  replace K7 := K7.below hb K7.lt
  replace HB := HB.trans (hb.mono HB.size)
  replace hI := hI.below hb
  -- stop call slot 42
  refine wl_call hA48 rfl rfl (by decide) (fun ev h => exec_call Tryz.func42 (by kernel_rfl) rfl (h.f _) (by first | (simp only [List.map_toArray, List.map_cons, List.map_nil, h.get 39 rfl, h.get 41 rfl, h.c]; done) | (simp only [List.map_toArray, List.map_cons, List.map_nil, h.get 39 rfl, h.get 41 rfl, h.c]; rfl) | (simp [List.map_toArray, List.map_cons, List.map_nil, h.get 39 rfl, h.get 41 rfl, h.c, hw1]; done) | (simp [List.map_toArray, List.map_cons, List.map_nil, h.get 39 rfl, h.get 41 rfl, h.c, hw1]; rfl) | rfl)) (in_Raw hI (by omega) ((rd4 k p).2.rest.length : Nat)) ?_
  rintro e w17 ⟨vr, rfl, hor, ⟨v17, hI⟩, hib⟩
  refine ⟨_, rfl, fun a49 hA49 => ?_⟩
  rw [show (inTake (rd4 k p).2 ((rd4 k p).2.rest.length : Nat)) = rd5 k p from rfl] at hor hI
  have h716 := K7.lt
  replace K4 := K4.ibut hib h4i
  replace K7 := K7.ibut hib hi7.symm
  replace HB := HB.trans (hib.toBelow HB.size hw4)
  obtain ⟨Ao, co, rfl, hro⟩ := hor.took
  clear hro
  refine wl_op hA49 rfl rfl (by decide) (fun ev h => by simp [go_sem, h.get 7 rfl, hw1]; try first | exact ⟨rfl, rfl⟩ | rfl) fun a50 hA50 => ?_
  refine wl_op hA50 rfl rfl (by decide) (fun ev h => by simp [go_sem, h.get 43 rfl, hw1]; try first | exact ⟨rfl, rfl⟩ | rfl) fun a51 hA51 => ?_
  -- stop store slot None
  have K7b := K7
  refine wl_setf ([.int .i64 k, .int .u32 ((rd1 p).1 : Nat), .string (rd4 k p).1, .int .u32 ((rd2 k p).1 : Nat), .int .i64 ((rd3 k p).1.1 : Nat), .int .i64 ((rd3 k p).1.2 : Nat), .slice Ao (rd5 k p).1.length co]) _ hA51 rfl rfl K7 (j := 6) (by rfl) (fun ev h => by simp [go_sem, h.get 44 rfl, h.get 42 rfl, hw1, K7.cell, K7.frozen]; try first | exact ⟨rfl, rfl⟩ | rfl) fun w18 (K7 : Blk _ _ _ _) hs => ?_
  replace hI := hI.only hs hi7 K7b (by decide)
  replace K4 := hs.blk K4 h47
  replace HB := hs.below HB hw7
  replace hor := hor.keep fun g hg => hs.block g (by have := (World.ownsRow.lt hor g hg).1; omega)
  refine wl_nil ?_
  refine n_then ?_
  have hA52 := hA51.keep [1, 4, 6, 7]
  simp only [argsE, keepE, lookS, Nat.reduceBEq, cond_true, cond_false, Nat.reduceAdd, gv_tt, gv_ff, Bool.true_and, Bool.false_and, Bool.true_or, Bool.false_or] at hA52
  clear hA hA46 hA47 hA48 hA49 hA50 hA51 a46 a47 a48 a49 a50
  refine wp_seq ?_
  refine wp_seq ?_
  refine wp_region_lit ?_
  refine wl_op hA52 rfl rfl (by decide) (fun ev h => by simp [go_sem, h.get 6 rfl, hw1]; try first | exact ⟨rfl, rfl⟩ | rfl) fun a53 hA53 => ?_
  -- stop call slot 46
  refine wl_call hA53 rfl rfl (by decide) (fun ev h => exec_call Tryz.func44 (by kernel_rfl) rfl (h.f _) (by first | (simp only [List.map_toArray, List.map_cons, List.map_nil, h.get 45 rfl, h.c]; done) | (simp only [List.map_toArray, List.map_cons, List.map_nil, h.get 45 rfl, h.c]; rfl) | (simp [List.map_toArray, List.map_cons, List.map_nil, h.get 45 rfl, h.c, hw1]; done) | (simp [List.map_toArray, List.map_cons, List.map_nil, h.get 45 rfl, h.c, hw1]; rfl) | rfl)) (in_Bad hI) ?_
  rintro e w19 ⟨rfl, hb⟩
  refine ⟨_, rfl, fun a54 hA54 => ?_⟩
  replace K4 := K4.below hb K4.lt
  replace K7 := K7.below hb K7.lt
  replace HB := HB.trans (hb.mono HB.size)
  replace hI := hI.below hb
  replace hor := hor.below hb
  refine wl_op hA54 rfl rfl (by decide) (fun ev h => by simp [go_sem, h.get 46 rfl, K7.cell]; try first | exact ⟨rfl, rfl⟩ | rfl) fun a55 hA55 => ?_
  refine wl_guard _ hA55 rfl rfl rfl rfl (by decide) (fun hq ev h => by simp [go_sem, (h.get 7 rfl), K7.cell]; try first | exact ⟨rfl, rfl⟩ | rfl) fun a56 hA56 => ?_
  -- stop call slot 49
  refine wl_gcallv _ hA56 rfl rfl rfl rfl (by decide) (fun hq ev h => exec_call Tryz.func13 (by kernel_rfl) rfl (h.f _) (by first | (simp only [List.map_toArray, List.map_cons, List.map_nil, ((h.get 48 rfl).trans (gw_t (beq_t hq))), h.c]; done) | (simp only [List.map_toArray, List.map_cons, List.map_nil, ((h.get 48 rfl).trans (gw_t (beq_t hq))), h.c]; rfl) | (simp [List.map_toArray, List.map_cons, List.map_nil, ((h.get 48 rfl).trans (gw_t (beq_t hq))), h.c, K7.cell]; done) | (simp [List.map_toArray, List.map_cons, List.map_nil, ((h.get 48 rfl).trans (gw_t (beq_t hq))), h.c, K7.cell]; rfl) | rfl)) (fun hq => formed_any k (rd1 p).1 (rd4 k p).1 (rdM k p Ao co) _ (hm.below hg HB) (Nat.lt_of_lt_of_le hg HB.size) (htab := Ht _ HB) (by omega)) fun a57 w20 hb hA57 => ?_
  replace K4 := K4.below hb K4.lt
  replace K7 := K7.below hb K7.lt
  replace HB := HB.trans (hb.mono HB.size)
  replace hor := hor.below hb
  refine wl_guard _ hA57 rfl rfl rfl rfl (by decide) (fun hq ev h => by simp [go_sem, ((h.get 49 rfl).trans (gw_t (beq_t hq))), K7.cell]; try first | exact ⟨rfl, rfl⟩ | rfl) fun a58 hA58 => ?_
  refine wl_op hA58 rfl rfl (by decide) (fun ev h => by first | exact pick_and rfl (h.get 47 rfl) (h.c _) (h.get 50 rfl) | exact pick_or rfl (h.get 47 rfl) (h.c _) (h.get 50 rfl) | (simp [go_sem, h.c, h.get 47 rfl, h.get 50 rfl, K7.cell, gv_or, gv_and]; try first | exact ⟨rfl, rfl⟩ | rfl)) fun a59 hA59 => ?_
  refine wl_nil ?_
  refine n_then ?_
  have hA60 := hA59.keep [1, 4, 7, 51]
  simp only [argsE, keepE, lookS, Nat.reduceBEq, cond_true, cond_false, Nat.reduceAdd, gv_tt, gv_ff, Bool.true_and, Bool.false_and, Bool.true_or, Bool.false_or] at hA60
  clear hA52 hA53 hA54 hA55 hA56 hA57 hA58 hA59 a51 a53 a54 a55 a56 a57 a58
  -- cond
  refine wp_if hA60 51 _ rfl (fun hq => ?yE) (fun hq => ?nE)
  case yE =>
    have hno : decOk k p = false := by
      rw [formed_ac] at hq
      unfold decOk
      cases hb : (rd5 k p).2.bad with
      | true => rfl
      | false =>
        rw [hb, Bool.false_or] at hq
        have hf : formedV k (rd1 p).1 (rd4 k p).1 (rdM k p none 0) = false := by simpa using hq
        rw [hf]
        rfl
    refine wp_seq ?_
    refine wp_region_lit ?_
    refine wl_op hA60 rfl rfl (by decide) (fun ev h => by simp [go_sem, K7.cell]; try first | exact ⟨rfl, rfl⟩ | rfl) fun a61 hA61 => ?_
    -- stop store slot None
    refine wl_set [.int .i64 0, .int .u32 0, .string ⟨#[]⟩, .int .u32 0, .int .i64 0, .int .i64 0, .slice none 0 0] hA61 rfl rfl K4 (by rfl) (fun ev h => by simp [go_sem, h.get 4 rfl, h.get 52 rfl, K7.cell, setAll, K4.cell, K4.frozen]) fun w21 (K4 : Blk _ _ _ _) hs => ?_
    refine wl_op hA61 rfl rfl (by decide) (fun ev h => by simp [go_sem, h.c, K4.cell]; try first | exact ⟨rfl, rfl⟩ | rfl) fun a62 hA62 => ?_
    refine wl_nil ?_
    refine n_then ?_
    have hA63 := hA62.keep [4, 5]
    simp only [argsE, keepE, lookS, Nat.reduceBEq, cond_true, cond_false, Nat.reduceAdd, gv_tt, gv_ff, Bool.true_and, Bool.false_and, Bool.true_or, Bool.false_or] at hA63
    clear hA60 hA61 hA62 a61
    refine wp_ret ?_
    refine r_then ?_
    refine bodyPost_ret (by simp [results, Tryz.results14, go_sem, hA63.env 4 _ rfl, hA63.env 5 _ rfl, K4.cell]; try first | exact ⟨rfl, rfl⟩ | rfl) hA63.defers ?_
    exact ⟨none, 0, by rw [hno]; rfl, fun h => (by rw [hno] at h; cases h), hs.below HB (by omega)⟩
  case nE =>
    rw [Bool.or_eq_false_iff] at hq
    obtain ⟨hbd, hq⟩ := hq
    have hf : formedV k (rd1 p).1 (rd4 k p).1 (rdM k p Ao co) = true := by simpa using hq
    refine wp_skip ?_
    refine n_then ?_
    refine wp_seq ?_
    refine wp_seq ?_
    refine wp_region_lit ?_
    refine wl_op hA60 rfl rfl (by decide) (fun ev h => by simp [go_sem, h.get 7 rfl, K7.cell]; try first | exact ⟨rfl, rfl⟩ | rfl) fun a64 hA64 => ?_
    -- stop call slot 55
    refine wl_call hA64 rfl rfl (by decide) (fun ev h => exec_call Tryz.func10 (by kernel_rfl) rfl (h.f _) (by first | (simp only [List.map_toArray, List.map_cons, List.map_nil, h.get 54 rfl, h.c]; done) | (simp only [List.map_toArray, List.map_cons, List.map_nil, h.get 54 rfl, h.c]; rfl) | (simp [List.map_toArray, List.map_cons, List.map_nil, h.get 54 rfl, h.c, K7.cell]; done) | (simp [List.map_toArray, List.map_cons, List.map_nil, h.get 54 rfl, h.c, K7.cell]; rfl) | rfl)) (encode_any k (rd1 p).1 (rd4 k p).1 (rdM k p Ao co) _ (hm.below hg HB) (Nat.lt_of_lt_of_le hg HB.size) (htab := Ht _ HB) (by omega) q1 q2 (own8_at hor)) ?_
    rintro e w22 ⟨r, rfl, hoe, hb⟩
    refine ⟨_, rfl, fun a65 hA65 => ?_⟩
    replace K4 := K4.below hb K4.lt
    replace K7 := K7.below hb K7.lt
    replace HB := HB.trans (hb.mono HB.size)
    replace hor := hor.below hb
    rw [hf, cond_true] at hoe hA65
    obtain ⟨Ar, cr, rfl, hrr⟩ := hoe.took
    refine wl_op hA65 rfl rfl (by decide) (fun ev h => by simp [go_sem, h.get 55 rfl, K7.cell]; try first | exact ⟨rfl, rfl⟩ | rfl) fun a66 hA66 => ?_
    refine wl_op hA66 rfl rfl (by decide) (fun ev h => by simp [go_sem, h.get 53 rfl, K7.cell]; try first | exact ⟨rfl, rfl⟩ | rfl) fun a67 hA67 => ?_
    refine wl_op hA67 rfl rfl (by decide) (fun ev h => by simp [go_sem, h.get 53 rfl, K7.cell]; try first | exact ⟨rfl, rfl⟩ | rfl) fun a68 hA68 => ?_
    refine wl_op hA68 rfl rfl (by decide) (fun ev h => by simp [go_sem, h.get 56 rfl, K7.cell]; try first | exact ⟨rfl, rfl⟩ | rfl) fun a69 hA69 => ?_
    refine wl_op hA69 rfl rfl (by decide) (fun ev h => by simp [go_sem, h.get 57 rfl, K7.cell]; try first | exact ⟨rfl, rfl⟩ | rfl) fun a70 hA70 => ?_
    refine wl_nil ?_
    refine n_then ?_
    have hA71 := hA70.keep [1, 4, 7, 8, 9]
    simp only [argsE, keepE, lookS, Nat.reduceBEq, cond_true, cond_false, Nat.reduceAdd, gv_tt, gv_ff, Bool.true_and, Bool.false_and, Bool.true_or, Bool.false_or] at hA71
    clear hA60 hA64 hA65 hA66 hA67 hA68 hA69 hA70 a64 a65 a66 a67 a68 a69
    refine wp_seq ?_
    refine wp_region_lit ?_
    refine wl_op hA71 rfl rfl (by decide) (fun ev h => by simp [go_sem, h.get 9 rfl, K7.cell]; try first | exact ⟨rfl, rfl⟩ | rfl) fun a72 hA72 => ?_
    refine wl_op hA72 rfl rfl (by decide) (fun ev h => by simp [go_sem, h.c, h.get 58 rfl, K7.cell]; try first | exact ⟨rfl, rfl⟩ | rfl) fun a73 hA73 => ?_
    refine wl_op hA73 rfl rfl (by decide) (fun ev h => by simp [go_sem, h.get 59 rfl, K7.cell]; try first | exact ⟨rfl, rfl⟩ | rfl) fun a74 hA74 => ?_
    refine wl_guard _ hA74 rfl rfl rfl rfl (by decide) (fun hq ev h => by simp [go_sem, (h.get 8 rfl), K7.cell]; try first | exact ⟨rfl, rfl⟩ | rfl) fun a75 hA75 => ?_
    refine wl_guard _ hA75 rfl rfl rfl rfl (by decide) (fun hq ev h => by simp [go_sem, (h.get 1 rfl), K7.cell]; try first | exact ⟨rfl, rfl⟩ | rfl) fun a76 hA76 => ?_
    -- stop call slot 63
    have hrp := (hr.below HB).more HB.size
    refine wl_gcallv _ hA76 rfl rfl rfl rfl (by decide) (fun hq ev h => exec_call Tryz.func45 (by kernel_rfl) rfl (h.f _) (by first | (simp only [List.map_toArray, List.map_cons, List.map_nil, ((h.get 61 rfl).trans (gw_t (beq_t hq))), ((h.get 62 rfl).trans (gw_t (beq_t hq))), h.c]; done) | (simp only [List.map_toArray, List.map_cons, List.map_nil, ((h.get 61 rfl).trans (gw_t (beq_t hq))), ((h.get 62 rfl).trans (gw_t (beq_t hq))), h.c]; rfl) | (simp [List.map_toArray, List.map_cons, List.map_nil, ((h.get 61 rfl).trans (gw_t (beq_t hq))), ((h.get 62 rfl).trans (gw_t (beq_t hq))), h.c, K7.cell]; done) | (simp [List.map_toArray, List.map_cons, List.map_nil, ((h.get 61 rfl).trans (gw_t (beq_t hq))), ((h.get 62 rfl).trans (gw_t (beq_t hq))), h.c, K7.cell]; rfl) | rfl)) (fun hq => (equal_any Ar A _ cr n c _ p _ rfl hl hrr hrp).mono fun e' w' h => ⟨h.1, h.2 ▸ Below.refl _ _⟩) fun a77 w23 hb hA77 => ?_
    replace K4 := K4.below hb K4.lt
    replace K7 := K7.below hb K7.lt
    replace HB := HB.trans (hb.mono HB.size)
    replace hor := hor.below hb
    refine wl_guard _ hA77 rfl rfl rfl rfl (by decide) (fun hq ev h => by simp [go_sem, ((h.get 63 rfl).trans (gw_t (beq_t hq))), K7.cell]; try first | exact ⟨rfl, rfl⟩ | rfl) fun a78 hA78 => ?_
    refine wl_op hA78 rfl rfl (by decide) (fun ev h => by first | exact pick_and rfl (h.get 60 rfl) (h.c _) (h.get 64 rfl) | exact pick_or rfl (h.get 60 rfl) (h.c _) (h.get 64 rfl) | (simp [go_sem, h.c, h.get 60 rfl, h.get 64 rfl, K7.cell, gv_or, gv_and]; try first | exact ⟨rfl, rfl⟩ | rfl)) fun a79 hA79 => ?_
    refine wl_nil ?_
    refine n_then ?_
    have hA80 := hA79.keep [4, 7, 65]
    simp only [argsE, keepE, lookS, Nat.reduceBEq, cond_true, cond_false, Nat.reduceAdd, gv_tt, gv_ff, Bool.true_and, Bool.false_and, Bool.true_or, Bool.false_or] at hA80
    clear hA71 hA72 hA73 hA74 hA75 hA76 hA77 hA78 hA79 a70 a72 a73 a74 a75 a76 a77 a78
    -- cond
    refine wp_if hA80 65 _ rfl (fun hq2 => ?yF) (fun hq2 => ?nF)
    case yF =>
      have hno : decOk k p = false := by
        have he : (encV k (rd1 p).1 (rd4 k p).1 (rdM k p Ao co) == p) = false := by simpa using hq2
        rw [enc_ac] at he
        unfold decOk
        rw [he, Bool.and_false, Bool.and_false]
      refine wp_seq ?_
      refine wp_region_lit ?_
      refine wl_op hA80 rfl rfl (by decide) (fun ev h => by simp [go_sem, K7.cell]; try first | exact ⟨rfl, rfl⟩ | rfl) fun a81 hA81 => ?_
      -- stop store slot None
      refine wl_set [.int .i64 0, .int .u32 0, .string ⟨#[]⟩, .int .u32 0, .int .i64 0, .int .i64 0, .slice none 0 0] hA81 rfl rfl K4 (by rfl) (fun ev h => by simp [go_sem, h.get 4 rfl, h.get 66 rfl, K7.cell, setAll, K4.cell, K4.frozen]) fun w24 (K4 : Blk _ _ _ _) hs => ?_
      refine wl_op hA81 rfl rfl (by decide) (fun ev h => by simp [go_sem, h.c, K4.cell]; try first | exact ⟨rfl, rfl⟩ | rfl) fun a82 hA82 => ?_
      refine wl_nil ?_
      refine n_then ?_
      have hA83 := hA82.keep [4, 5]
      simp only [argsE, keepE, lookS, Nat.reduceBEq, cond_true, cond_false, Nat.reduceAdd, gv_tt, gv_ff, Bool.true_and, Bool.false_and, Bool.true_or, Bool.false_or] at hA83
      clear hA80 hA81 hA82 a81
      refine wp_ret ?_
      refine r_then ?_
      refine bodyPost_ret (by simp [results, Tryz.results14, go_sem, hA83.env 4 _ rfl, hA83.env 5 _ rfl, K4.cell]; try first | exact ⟨rfl, rfl⟩ | rfl) hA83.defers ?_
      exact ⟨none, 0, by rw [hno]; rfl, fun h => (by rw [hno] at h; cases h), hs.below HB (by omega)⟩
    case nF =>
      have hyes : decOk k p = true := by
        have he : (encV k (rd1 p).1 (rd4 k p).1 (rdM k p Ao co) == p) = true := by simpa using hq2
        rw [enc_ac] at he
        rw [formed_ac] at hf
        unfold decOk
        rw [he, hf, hbd]
        rfl
      refine wp_skip ?_
      refine n_then ?_
      refine wp_seq ?_
      refine wp_region_lit ?_
      refine wl_op hA80 rfl rfl (by decide) (fun ev h => by simp [go_sem, h.get 7 rfl, K7.cell]; try first | exact ⟨rfl, rfl⟩ | rfl) fun a84 hA84 => ?_
      -- stop store slot None
      refine wl_set [.int .i64 k, .int .u32 ((rd1 p).1 : Nat), .string (rd4 k p).1, .int .u32 ((rd2 k p).1 : Nat), .int .i64 ((rd3 k p).1.1 : Nat), .int .i64 ((rd3 k p).1.2 : Nat), .slice Ao (rd5 k p).1.length co] hA84 rfl rfl K4 (by rfl) (fun ev h => by simp [go_sem, h.get 4 rfl, h.get 67 rfl, K7.cell, setAll, K4.cell, K4.frozen]) fun w25 (K4 : Blk _ _ _ _) hs => ?_
      replace hor := hor.keep fun g hg => hs.block g (by have := (World.ownsRow.lt hor g hg).1; omega)
      refine wl_op hA84 rfl rfl (by decide) (fun ev h => by simp [go_sem, h.c, K4.cell]; try first | exact ⟨rfl, rfl⟩ | rfl) fun a85 hA85 => ?_
      refine wl_nil ?_
      refine n_then ?_
      have hA86 := hA85.keep [4, 5]
      simp only [argsE, keepE, lookS, Nat.reduceBEq, cond_true, cond_false, Nat.reduceAdd, gv_tt, gv_ff, Bool.true_and, Bool.false_and, Bool.true_or, Bool.false_or] at hA86
      clear hA80 hA84 hA85 a84
      refine wp_ret ?_
      refine bodyPost_ret (by simp [results, Tryz.results14, go_sem, hA86.env 4 _ rfl, hA86.env 5 _ rfl, K4.cell]; try first | exact ⟨rfl, rfl⟩ | rfl) hA86.defers ?_
      exact ⟨Ao, co, by rw [hyes]; rfl, fun _ => own8_at hor, hs.below HB (by omega)⟩
end Go.Proofs.YtmjikfeaopmejaaGreatDoor
/-
  Plainly: a formed note's payload is read back as that note.
-/
namespace Go.Proofs.YtmjikfeaopmejaaGreatDoor
open Go.RowKit
theorem bare_zero {d f : Int} {n : Nat} (h : bareV d f n = true) : d = 0 ∧ f = 0 := by
  unfold bareV at h
  simp only [Bool.and_eq_true, beq_iff_eq] at h
  exact ⟨h.1.1, h.1.2⟩
theorem empty_name {nm : ByteArray} (h : nm.toList.isEmpty = true) : nm = ⟨#[]⟩ := by
  rw [ByteArray.toList_eq] at h
  have h4 := List.isEmpty_iff.1 h
  obtain ⟨⟨l⟩⟩ := nm
  have : l = [] := h4
  rw [this]
/-- what a formed note's kind leaves out -/
theorem formed_rest {k : Int} {e : Nat} {nm : ByteArray} {m : MsgV} (h : formedV k e nm m = true) : ((k == 1) = true → m.uid = 0) ∧ ((k == 2) = false → m.date = 0 ∧ m.flags = 0) ∧ ((k == 3) = true → nm = ⟨#[]⟩) ∧ 0 ≤ m.date ∧ m.date ≤ 253402300799 ∧ 0 ≤ m.flags ∧ m.flags ≤ 31 := by
  unfold formedV at h
  rw [Bool.and_eq_true] at h
  obtain ⟨_, h⟩ := h
  cases h1 : k == 1 with
  | true =>
    rw [h1, cond_true, Bool.and_eq_true, Bool.and_eq_true, beq_iff_eq] at h
    obtain ⟨hd, hf⟩ := bare_zero h.1.2
    have e1 : k = 1 := by simpa using h1
    exact ⟨fun _ => h.2, fun _ => ⟨hd, hf⟩, fun h3 => (by rw [e1] at h3; cases h3), by omega, by omega, by omega, by omega⟩
  | false =>
    rw [h1, cond_false] at h
    cases h2 : k == 2 with
    | true =>
      rw [h2, cond_true, Bool.and_eq_true] at h
      obtain ⟨_, _, p⟩ := full_parts h.2
      have e2 : k = 2 := by simpa using h2
      exact ⟨fun e => (by cases e), fun e => (by cases e), fun h3 => (by rw [e2] at h3; cases h3), p⟩
    | false =>
      rw [h2, cond_false, Bool.and_eq_true, Bool.and_eq_true, Bool.and_eq_true] at h
      obtain ⟨hd, hf⟩ := bare_zero h.1.2
      exact ⟨fun e => (by cases e), fun _ => ⟨hd, hf⟩, fun _ => empty_name h.1.1.2, by omega, by omega, by omega, by omega⟩
section
variable {k : Int} {e : Nat} {nm : ByteArray} {m : MsgV}
theorem rd1_enc (he : e < 4294967296) : rd1 (encV k e nm m) = (e, ⟨enc1 k m ++ (enc2 k m ++ (enc3 k nm ++ m.b)), false⟩) := by
  unfold rd1 encV
  rw [List.append_assoc, List.append_assoc, List.append_assoc]
  exact inN_be 4 e _ he
theorem rd2_enc (h : formedV k e nm m = true) (he : e < 4294967296) (hu : m.uid < 4294967296) : rd2 k (encV k e nm m) = (m.uid, ⟨enc2 k m ++ (enc3 k nm ++ m.b), false⟩) := by
  obtain ⟨h1, _⟩ := formed_rest h
  unfold rd2
  rw [rd1_enc he]
  unfold enc1
  cases hk : k == 1 with
  | true => rw [h1 hk, cond_true, cond_true]; rfl
  | false => rw [cond_false, cond_false]; exact inN_be 4 m.uid _ hu
theorem rd3_enc (h : formedV k e nm m = true) (he : e < 4294967296) (hu : m.uid < 4294967296) : rd3 k (encV k e nm m) = ((m.date.toNat, m.flags.toNat), ⟨enc3 k nm ++ m.b, false⟩) := by
  obtain ⟨_, h2, _, d0, d1, f0, f1⟩ := formed_rest h
  unfold rd3
  rw [rd2_enc h he hu]
  unfold enc2
  cases hk : k == 2 with
  | true =>
    rw [cond_true, cond_true, List.append_assoc]
    rw [inN_be 6 m.date.toNat _ (show m.date.toNat < 256 ^ 6 by omega)]
    rw [inN_be 1 m.flags.toNat _ (show m.flags.toNat < 256 ^ 1 by omega)]
  | false =>
    obtain ⟨e1, e2⟩ := h2 hk
    rw [cond_false, cond_false, e1, e2]
    rfl
theorem rd4_enc (h : formedV k e nm m = true) (he : e < 4294967296) (hu : m.uid < 4294967296) : rd4 k (encV k e nm m) = (nm, ⟨m.b, false⟩) := by
  obtain ⟨_, _, h3, _⟩ := formed_rest h
  obtain ⟨_, hs, _⟩ := formed_parts h
  unfold rd4
  rw [rd3_enc h he hu]
  unfold enc3
  cases hk : k == 3 with
  | true => rw [cond_true, cond_true, h3 hk]; rfl
  | false => rw [cond_false, cond_false]; exact inText_textB nm _ (by omega)
theorem rd5_enc (h : formedV k e nm m = true) (he : e < 4294967296) (hu : m.uid < 4294967296) : rd5 k (encV k e nm m) = (m.b, ⟨[], false⟩) := by
  unfold rd5
  rw [rd4_enc h he hu]
  have := inTake_append m.b [] m.b.length rfl
  rw [List.append_nil] at this
  exact this
/-- what is read back is the note -/
theorem rdM_enc (h : formedV k e nm m = true) (he : e < 4294967296) (hu : m.uid < 4294967296) (a : Option Addr) (c : Nat) : rdM k (encV k e nm m) a c = ⟨m.uid, m.date, m.flags, a, c, m.b⟩ := by
  obtain ⟨_, _, _, d0, d1, f0, f1⟩ := formed_rest h
  unfold rdM
  rw [rd2_enc h he hu, rd3_enc h he hu, rd5_enc h he hu]
  show MsgV.mk m.uid ((m.date.toNat : Nat) : Int) ((m.flags.toNat : Nat) : Int) a c m.b = _
  rw [Int.toNat_of_nonneg d0, Int.toNat_of_nonneg f0]
theorem decOk_enc (h : formedV k e nm m = true) (he : e < 4294967296) (hu : m.uid < 4294967296) : decOk k (encV k e nm m) = true := by
  unfold decOk
  rw [rd5_enc h he hu, rd1_enc he, rd4_enc h he hu, rdM_enc h he hu]
  have e1 : formedV k e nm ⟨m.uid, m.date, m.flags, none, 0, m.b⟩ = formedV k e nm m := rfl
  have e2 : encV k e nm ⟨m.uid, m.date, m.flags, none, 0, m.b⟩ = encV k e nm m := rfl
  show (!false && (formedV k e nm ⟨m.uid, m.date, m.flags, none, 0, m.b⟩ && (encV k e nm ⟨m.uid, m.date, m.flags, none, 0, m.b⟩ == encV k e nm m))) = true
  rw [e1, e2, h]
  simp
end
end Go.Proofs.YtmjikfeaopmejaaGreatDoor
