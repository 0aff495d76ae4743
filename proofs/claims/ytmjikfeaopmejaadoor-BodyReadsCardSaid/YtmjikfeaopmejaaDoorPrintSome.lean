/-
  Walk: a time's text is none just if the time may not be.
-/
import Derived.Test.YtmjikfeaopmejaaDoorCalLaw
import Derived.Test.YtmjikfeaopmejaaDoorHoare
import Derived.Test.YtmjikfeaopmejaaDoorShelf
import Derived.Test.YtmjikfeaopmejaaDoorChecked
import Derived.Deep.Cut
import Derived.IntWalk
import Derived.Lib.AppendIntMem
namespace Go.Proofs.YtmjikfeaopmejaaDoor
open Go.RowKit
set_option linter.unusedSimpArgs false
set_option linter.unusedVariables false
theorem ret_tup3 {y y' m m' d d' : Int} (h1 : y = y') (h2 : m = m') (h3 : d = d') : Ending.returned (.tuple #[.int .i64 y, .int .i64 m, .int .i64 d]) = .returned (.tuple #[.int .i64 y', .int .i64 m', .int .i64 d']) := by rw [h1, h2, h3]
set_option maxHeartbeats 1000000 in
theorem civil_any (n : Int) (h0 : -719468 ≤ n) (h1 : n ≤ 4000000) (w : World) :
    Calls Tryd.prog 39 #[.int .i64 n] w fun e w' => e = .returned (.tuple #[.int .i64 (civY n), .int .i64 (civM n), .int .i64 (civD n)]) ∧ w' = w := by
  go_enter Tryd.func39, Tryd.ntmps39
  go_upto_region 3 with (fail)
  have bE : 0 ≤ (n + 719468) / 146097 ∧ (n + 719468) / 146097 ≤ 40 := by omega
  have bO : 0 ≤ n + 719468 - (n + 719468) / 146097 * 146097 ∧ n + 719468 - (n + 719468) / 146097 * 146097 < 146097 := by omega
  have eE : Hid (cEra n = (n + 719468) / 146097) := rfl
  have eO : Hid (cOf n = n + 719468 - (n + 719468) / 146097 * 146097) := rfl
  generalize (n + 719468) / 146097 = E at *
  go_upto_region 4 with (fail)
  generalize n + 719468 - E * 146097 = O at *
  have bY : 0 ≤ (O - O / 1460 + O / 36524 - O / 146096) / 365 ∧ (O - O / 1460 + O / 36524 - O / 146096) / 365 ≤ 400 := by omega
  have eY : Hid (cYoe n = (O - O / 1460 + O / 36524 - O / 146096) / 365) := by show _ = _; unfold cYoe; rw [eO.out]
  go_upto_region 5 with (fail)
  generalize (O - O / 1460 + O / 36524 - O / 146096) / 365 = Y at *
  have eD : Hid (cDay n = O - (365 * Y + Y / 4 - Y / 100)) := by show _ = _; unfold cDay; rw [eO.out, eY.out]
  have bD : 0 ≤ O - (365 * Y + Y / 4 - Y / 100) ∧ O - (365 * Y + Y / 4 - Y / 100) ≤ 365 := by have := cDay_bd n; rw [eD.out] at this; exact this
  go_upto_region 6 with (fail)
  generalize O - (365 * Y + Y / 4 - Y / 100) = D at *
  have bM : 0 ≤ (5 * D + 2) / 153 ∧ (5 * D + 2) / 153 ≤ 11 := by omega
  have eM : Hid (cMp n = (5 * D + 2) / 153) := by show _ = _; unfold cMp; rw [eD.out]
  go_upto_region 7 with (fail)
  generalize (5 * D + 2) / 153 = M at *
  have hY : Hid (civY n = if M < 10 then Y + E * 400 else Y + E * 400 + 1) := by show _ = _; unfold civY; rw [eM.out, eY.out, eE.out]
  have hM : Hid (civM n = if M < 10 then M + 3 else M - 9) := by show _ = _; unfold civM; rw [eM.out]
  have hD : Hid (civD n = D - (153 * M + 2) / 5 + 1) := by show _ = _; unfold civD; rw [eM.out, eD.out]
  by_cases hlt : M < 10
  · go_wp2
    go_ret3
    exact ⟨ret_tup3 (by rw [hY.out, if_pos hlt]) (by rw [hM.out, if_pos hlt]) (by rw [hD.out]), rfl⟩
  · go_wp2
    go_ret3
    exact ⟨ret_tup3 (by rw [hY.out, if_neg (by omega)]) (by rw [hM.out, if_neg (by omega)]) (by rw [hD.out]), rfl⟩
def digL (v : Nat) : Nat → List UInt8
  | 0 => []
  | n + 1 => UInt8.ofNat (48 + v / 10 ^ n % 10) :: digL v n
theorem digL_length (v : Nat) : ∀ n, (digL v n).length = n
  | 0 => rfl
  | n + 1 => by simp [digL, digL_length v n]
theorem dec_three (v : Nat) (h : v ≤ 99) : Lib.itoa ((100 : Int) + v) = 49 :: digL v 2 := by
  have e : ((100 : Int) + v) = ((100 + v : Nat) : Int) := by omega
  rw [e]
  unfold Lib.itoa
  rw [if_neg (by omega), Int.toNat_natCast]
  unfold Lib.decDigits
  rw [dif_neg (by omega)]
  unfold Lib.decDigits
  rw [dif_neg (by omega)]
  unfold Lib.decDigits
  rw [dif_pos (by omega), show (100 + v) / 10 / 10 = 1 from by omega, show (100 + v) / 10 % 10 = v / 10 % 10 from by omega, show (100 + v) % 10 = v % 10 from by omega]
  simp [digL]
theorem dec_five (v : Nat) (h : v ≤ 9999) : Lib.itoa ((10000 : Int) + v) = 49 :: digL v 4 := by
  have e : ((10000 : Int) + v) = ((10000 + v : Nat) : Int) := by omega
  rw [e]
  unfold Lib.itoa
  rw [if_neg (by omega), Int.toNat_natCast]
  unfold Lib.decDigits
  rw [dif_neg (by omega)]
  unfold Lib.decDigits
  rw [dif_neg (by omega)]
  unfold Lib.decDigits
  rw [dif_neg (by omega)]
  unfold Lib.decDigits
  rw [dif_neg (by omega)]
  unfold Lib.decDigits
  rw [dif_pos (by omega), show (10000 + v) / 10 / 10 / 10 / 10 = 1 from by omega, show (10000 + v) / 10 / 10 / 10 % 10 = v / 1000 % 10 from by omega, show (10000 + v) / 10 / 10 % 10 = v / 100 % 10 from by omega, show (10000 + v) / 10 % 10 = v / 10 % 10 from by omega, show (10000 + v) % 10 = v % 10 from by omega]
  simp [digL]
theorem below_grow (w : World) (k : Nat) (os : Array Obj) : Below w.heap.size w (Sort.grow (w.drewN k) os) :=
  ⟨rfl, rfl, rfl, by simp [Sort.grow], fun i hi => by simp [Sort.grow, Array.getElem?_append, hi]⟩
/-- FormatInt(100 + n, 10) and FormatInt(10000 + n, 10) -/
theorem fmt_three (v : Nat) (hv : v ≤ 99) (w : World) (htab : Lib.TabIs Tryd.prog w "internal/strconv.uint64pow10" .u64 Lib.pow10Tab) :
    Calls Tryd.prog 42 #[.int .i64 (100 + (v : Int)), .int .i64 10] w fun e w' => e = .returned (.string ⟨(49 :: digL v 2).toArray⟩) ∧ Below w.heap.size w w' := by
  have hc := Tryd.strconv_FormatInt_10 (100 + (v : Int)) (by omega) (by omega) w htab
  rw [dec_three v hv] at hc
  exact hc.mono fun e w' ⟨he, k, os, hw⟩ => ⟨he, by rw [hw]; exact below_grow w k os⟩
theorem fmt_five (v : Nat) (hv : v ≤ 9999) (w : World) (htab : Lib.TabIs Tryd.prog w "internal/strconv.uint64pow10" .u64 Lib.pow10Tab) :
    Calls Tryd.prog 42 #[.int .i64 (10000 + (v : Int)), .int .i64 10] w fun e w' => e = .returned (.string ⟨(49 :: digL v 4).toArray⟩) ∧ Below w.heap.size w w' := by
  have hc := Tryd.strconv_FormatInt_10 (10000 + (v : Int)) (by omega) (by omega) w htab
  rw [dec_five v hv] at hc
  exact hc.mono fun e w' ⟨he, k, os, hw⟩ => ⟨he, by rw [hw]; exact below_grow w k os⟩
theorem dimN_bd (y m : Int) : 28 ≤ dimN y m ∧ dimN y m ≤ 31 := by
  unfold dimN
  split
  · split <;> omega
  · split <;> omega
theorem civ_bd (n : Int) (h0 : 0 ≤ n) (h1 : n ≤ 2932896) : 1970 ≤ civY n ∧ civY n ≤ 9999 ∧ 1 ≤ civM n ∧ civM n ≤ 12 ∧ 1 ≤ civD n ∧ civD n ≤ 31 := by
  have hs := since_civ n
  have hv := civ_valid n
  obtain ⟨v1, v2, v3, v4⟩ := hv
  have hd := (dimN_bd (civY n) (civM n)).2
  generalize civY n = y at *
  generalize civM n = m at *
  generalize civD n = d at *
  unfold sinceN at hs
  dsimp only at hs
  have a0 : 1969 ≤ y := by split at hs <;> omega
  have a1 : 1970 ≤ y := by
    by_cases e : y = 1969
    · subst e; split at hs <;> omega
    · omega
  have a2 : y ≤ 10000 := by split at hs <;> omega
  have a3 : y ≤ 9999 := by
    by_cases e : y = 10000
    · subst e; split at hs <;> omega
    · omega
  omega
theorem asize (s : ByteArray) (l : List UInt8) : (s ++ ⟨l.toArray⟩).size = s.size + l.length := by
  rw [ByteArray.size_append]
  show s.size + l.toArray.size = _
  rw [List.size_toArray]
theorem app_ne (s : ByteArray) (c : UInt8) (l : List UInt8) : (s ++ ⟨(c :: l).toArray⟩).toList.isEmpty = false := by
  rw [ByteArray.toList_eq, ByteArray.data_append]
  simp
theorem five_int (y : Int) (h0 : 0 ≤ y) (h1 : y ≤ 9999) (w : World) (htab : Lib.TabIs Tryd.prog w "internal/strconv.uint64pow10" .u64 Lib.pow10Tab) :
    Calls Tryd.prog 42 #[.int .i64 (10000 + y), .int .i64 10] w fun e w' => e = .returned (.string ⟨(49 :: digL y.toNat 4).toArray⟩) ∧ Below w.heap.size w w' := by
  obtain ⟨n, rfl⟩ : ∃ n : Nat, y = n := ⟨y.toNat, by omega⟩
  exact fmt_five n (by omega) w htab
theorem month_some (m : Int) (h1 : 1 ≤ m) (h2 : m ≤ 12) (w : World) :
    Calls Tryd.prog 41 #[.int .i64 m] w fun e w' => ∃ s : ByteArray, e = .returned (.string s) ∧ s.size ≤ 36 ∧ Below w.heap.size w w' := by
  have q1 : IntKind.i64.wrap (m - 1) = m - 1 := IntWalk.i64_in _ (by omega)
  have q2 : IntKind.i64.wrap (3 * (m - 1)) = 3 * (m - 1) := IntWalk.i64_in _ (by omega)
  have q3 : IntKind.i64.wrap (3 * m) = 3 * m := IntWalk.i64_in _ (by omega)
  refine calls_at 9 Tryd.func41 rfl rfl (Nat.le_of_ble_eq_true rfl) ?_
  intro a hA
  simp only [argsE, keepE, lookS, Nat.reduceBEq, cond_true, cond_false, Nat.reduceAdd, gv_tt, gv_ff, Bool.true_and, Bool.false_and, Bool.true_or, Bool.false_or] at hA
  refine wp_seq ?_
  refine wp_region_lit ?_
  refine wl_op hA rfl rfl (by decide) (fun ev h => by simp [go_sem, h.c, q1, q2, q3]; try first | exact ⟨rfl, rfl⟩ | rfl) fun a1 hA1 => ?_
  refine wl_nil ?_
  refine n_then ?_
  have hA2 := hA1.keep [0]
  simp only [argsE, keepE, lookS, Nat.reduceBEq, cond_true, cond_false, Nat.reduceAdd, gv_tt, gv_ff, Bool.true_and, Bool.false_and, Bool.true_or, Bool.false_or] at hA2
  clear hA hA1
  refine wp_seq ?_
  refine wp_region_lit ?_
  refine wl_op hA2 rfl rfl (by decide) (fun ev h => by simp [go_sem, h.get 0 rfl, q1, q2, q3]; try first | exact ⟨rfl, rfl⟩ | rfl) fun a3 hA3 => ?_
  refine wl_op hA3 rfl rfl (by decide) (fun ev h => by simp [go_sem, h.c, h.get 3 rfl, q1, q2, q3]; try first | exact ⟨rfl, rfl⟩ | rfl) fun a4 hA4 => ?_
  refine wl_op hA4 rfl rfl (by decide) (fun ev h => by simp [go_sem, h.c, h.get 4 rfl, q1, q2, q3]; try first | exact ⟨rfl, rfl⟩ | rfl) fun a5 hA5 => ?_
  refine wl_op hA5 rfl rfl (by decide) (fun ev h => by simp [go_sem, h.get 0 rfl, q1, q2, q3]; try first | exact ⟨rfl, rfl⟩ | rfl) fun a6 hA6 => ?_
  refine wl_op hA6 rfl rfl (by decide) (fun ev h => by simp [go_sem, h.c, h.get 6 rfl, q1, q2, q3]; try first | exact ⟨rfl, rfl⟩ | rfl) fun a7 hA7 => ?_
  -- limit slice slot 8
  refine wl_op hA7 rfl rfl (by decide) (fun ev h => by simp [go_sem, h.c, h.get 5 rfl, h.get 7 rfl, q1, q2, q3]; (rw [if_pos (by omega), if_pos (by omega)]; try first | exact ⟨rfl, rfl⟩ | rfl)) fun a8 hA8 => ?_
  refine wl_op hA8 rfl rfl (by decide) (fun ev h => by simp [go_sem, h.get 8 rfl, q1, q2, q3]; try first | exact ⟨rfl, rfl⟩ | rfl) fun a9 hA9 => ?_
  refine wl_nil ?_
  refine n_then ?_
  have hA10 := hA9.keep [2]
  simp only [argsE, keepE, lookS, Nat.reduceBEq, cond_true, cond_false, Nat.reduceAdd, gv_tt, gv_ff, Bool.true_and, Bool.false_and, Bool.true_or, Bool.false_or] at hA10
  clear hA2 hA3 hA4 hA5 hA6 hA7 hA8 hA9 a1 a3 a4 a5 a6 a7 a8
  refine wp_ret ?_
  refine ret_1 hA10 2 rfl rfl ?_
  refine ⟨_, rfl, ?_, Below.refl _ _⟩
  rw [ByteArray.size_extract]
  exact Nat.le_trans (Nat.sub_le _ _) (Nat.min_le_right _ _)
theorem two_some (v : Int) (h0 : 0 ≤ v) (h1 : v ≤ 99) (w : World) (htab : Lib.TabIs Tryd.prog w "internal/strconv.uint64pow10" .u64 Lib.pow10Tab) :
    Calls Tryd.prog 40 #[.int .i64 v] w fun e w' => ∃ s : ByteArray, e = .returned (.string s) ∧ 1 ≤ s.size ∧ s.size ≤ 10 ∧ Below w.heap.size w w' := by
  obtain ⟨n, rfl⟩ : ∃ n : Nat, v = n := ⟨v.toNat, by omega⟩
  have q1 : IntKind.i64.wrap (100 + (n : Int)) = 100 + (n : Int) := IntWalk.i64_in _ (by omega)
  refine calls_at 7 Tryd.func40 rfl rfl (Nat.le_of_ble_eq_true rfl) ?_
  intro a hA
  simp only [argsE, keepE, lookS, Nat.reduceBEq, cond_true, cond_false, Nat.reduceAdd, gv_tt, gv_ff, Bool.true_and, Bool.false_and, Bool.true_or, Bool.false_or] at hA
  refine wp_seq ?_
  refine wp_region_lit ?_
  refine wl_op hA rfl rfl (by decide) (fun ev h => by simp [go_sem, h.c, q1]; try first | exact ⟨rfl, rfl⟩ | rfl) fun a11 hA11 => ?_
  refine wl_nil ?_
  refine n_then ?_
  have hA12 := hA11.keep [0]
  simp only [argsE, keepE, lookS, Nat.reduceBEq, cond_true, cond_false, Nat.reduceAdd, gv_tt, gv_ff, Bool.true_and, Bool.false_and, Bool.true_or, Bool.false_or] at hA12
  clear hA hA11
  refine wp_seq ?_
  refine wp_region_lit ?_
  refine wl_op hA12 rfl rfl (by decide) (fun ev h => by simp [go_sem, h.get 0 rfl, q1]; try first | exact ⟨rfl, rfl⟩ | rfl) fun a13 hA13 => ?_
  refine wl_op hA13 rfl rfl (by decide) (fun ev h => by simp [go_sem, h.c, h.get 3 rfl, q1]; try first | exact ⟨rfl, rfl⟩ | rfl) fun a14 hA14 => ?_
  -- stop call slot 5
  refine wl_call hA14 rfl rfl (by decide) (fun ev h => by simp [go_sem, h.c, h.get 4 rfl, q1, h.f]; try first | exact ⟨rfl, rfl⟩ | rfl) (fmt_three n (by omega) w htab) ?_
  rintro e w1 ⟨rfl, hb⟩
  refine ⟨_, rfl, fun a15 hA15 => ?_⟩
  refine wl_op hA15 rfl rfl (by decide) (fun ev h => by simp [go_sem, h.c, h.get 5 rfl, q1]; try first | exact ⟨rfl, rfl⟩ | rfl) fun a16 hA16 => ?_
  refine wl_op hA16 rfl rfl (by decide) (fun ev h => by simp [go_sem, h.get 6 rfl, q1]; try first | exact ⟨rfl, rfl⟩ | rfl) fun a17 hA17 => ?_
  refine wl_nil ?_
  refine n_then ?_
  have hA18 := hA17.keep [2]
  simp only [argsE, keepE, lookS, Nat.reduceBEq, cond_true, cond_false, Nat.reduceAdd, gv_tt, gv_ff, Bool.true_and, Bool.false_and, Bool.true_or, Bool.false_or] at hA18
  clear hA12 hA13 hA14 hA15 hA16 hA17 a11 a13 a14 a15 a16
  refine wp_ret ?_
  refine ret_1 hA18 2 rfl rfl ?_
  have h3 : (⟨(49 :: digL n 2).toArray⟩ : ByteArray).size = 3 := by show (49 :: digL n 2).toArray.size = 3; simp [digL_length]
  exact ⟨_, rfl, by simp [digL_length, h3], by simp [digL_length, h3], hb⟩
/-- may a time be? -/
def dateOk (t : Int) : Bool := decide (0 ≤ t) && decide (t ≤ 253402300799)
set_option maxRecDepth 100000 in
set_option maxHeartbeats 1000000 in
theorem print_some (t : Int) (w : World) (htab : Lib.TabIs Tryd.prog w "internal/strconv.uint64pow10" .u64 Lib.pow10Tab) :
    Calls Tryd.prog 33 #[.int .i64 t] w fun e w' => ∃ s : ByteArray, e = .returned (.string s) ∧ s.toList.isEmpty = !dateOk t ∧ Below w.heap.size w w' := by
  have Ht := Lib.tabBelow_of_tabIs htab
  refine calls_at 58 Tryd.func33 rfl rfl (Nat.le_of_ble_eq_true rfl) ?_
  intro a hA
  simp only [argsE, keepE, lookS, Nat.reduceBEq, cond_true, cond_false, Nat.reduceAdd, gv_tt, gv_ff, Bool.true_and, Bool.false_and, Bool.true_or, Bool.false_or] at hA
  refine wp_seq ?_
  refine wp_region_lit ?_
  refine wl_op hA rfl rfl (by decide) (fun ev h => by simp [go_sem, h.c]; try first | exact ⟨rfl, rfl⟩ | rfl) fun a19 hA19 => ?_
  refine wl_nil ?_
  refine n_then ?_
  have hA20 := hA19.keep [0]
  simp only [argsE, keepE, lookS, Nat.reduceBEq, cond_true, cond_false, Nat.reduceAdd, gv_tt, gv_ff, Bool.true_and, Bool.false_and, Bool.true_or, Bool.false_or] at hA20
  clear hA hA19
  refine wp_seq ?_
  refine wp_seq ?_
  refine wp_region_lit ?_
  refine wl_op hA20 rfl rfl (by decide) (fun ev h => by simp [go_sem, h.get 0 rfl]; try first | exact ⟨rfl, rfl⟩ | rfl) fun a21 hA21 => ?_
  refine wl_op hA21 rfl rfl (by decide) (fun ev h => by simp [go_sem, h.c, h.get 8 rfl]; try first | exact ⟨rfl, rfl⟩ | rfl) fun a22 hA22 => ?_
  refine wl_op hA22 rfl rfl (by decide) (fun ev h => by simp [go_sem, h.get 9 rfl]; try first | exact ⟨rfl, rfl⟩ | rfl) fun a23 hA23 => ?_
  refine wl_guard _ hA23 rfl rfl rfl rfl (by decide) (fun hq ev h => by simp [go_sem, (h.get 0 rfl)]; try first | exact ⟨rfl, rfl⟩ | rfl) fun a24 hA24 => ?_
  refine wl_guard _ hA24 rfl rfl rfl rfl (by decide) (fun hq ev h => by simp [go_sem, h.c, ((h.get 11 rfl).trans (gw_t (beq_t hq)))]; try first | exact ⟨rfl, rfl⟩ | rfl) fun a25 hA25 => ?_
  refine wl_op hA25 rfl rfl (by decide) (fun ev h => by first | exact pick_and rfl (h.get 10 rfl) (h.c _) (h.get 12 rfl) | exact pick_or rfl (h.get 10 rfl) (h.c _) (h.get 12 rfl) | (simp [go_sem, h.c, h.get 10 rfl, h.get 12 rfl, gv_or, gv_and]; try first | exact ⟨rfl, rfl⟩ | rfl)) fun a26 hA26 => ?_
  refine wl_nil ?_
  refine n_then ?_
  have hA27 := hA26.keep [0, 13]
  simp only [argsE, keepE, lookS, Nat.reduceBEq, cond_true, cond_false, Nat.reduceAdd, gv_tt, gv_ff, Bool.true_and, Bool.false_and, Bool.true_or, Bool.false_or] at hA27
  clear hA20 hA21 hA22 hA23 hA24 hA25 hA26 a19 a21 a22 a23 a24 a25
  -- cond
  refine wp_if hA27 13 _ rfl (fun hq => ?yA) (fun hq => ?nA)
  case yA =>
    refine wp_seq ?_
    refine wp_region_lit ?_
    refine wl_op hA27 rfl rfl (by decide) (fun ev h => by simp [go_sem, h.c]; try first | exact ⟨rfl, rfl⟩ | rfl) fun a28 hA28 => ?_
    refine wl_nil ?_
    refine n_then ?_
    have hA29 := hA28.keep [2]
    simp only [argsE, keepE, lookS, Nat.reduceBEq, cond_true, cond_false, Nat.reduceAdd, gv_tt, gv_ff, Bool.true_and, Bool.false_and, Bool.true_or, Bool.false_or] at hA29
    clear hA27 hA28
    refine wp_ret ?_
    refine r_then ?_
    refine ret_1 hA29 2 rfl rfl ?_
    refine ⟨_, rfl, ?_, Below.refl _ _⟩
    unfold dateOk
    simp at hq
    rw [Bool.eq_iff_iff]
    simp
    omega
  case nA =>
    obtain ⟨h0, h1⟩ : 0 ≤ t ∧ t ≤ 253402300799 := by simp at hq; omega
    have q1 : IntKind.i64.wrap (t.tdiv 86400) = t / 86400 := IntWalk.i64_quo _ _ (by omega)
    have q2 : t.tmod 86400 = t % 86400 := Int.tmod_eq_emod_of_nonneg h0
    obtain ⟨y0, y1, m0, m1, d0, d1⟩ := civ_bd (t / 86400) (by omega) (by omega)
    refine wp_skip ?_
    refine n_then ?_
    refine wp_seq ?_
    refine wp_region_lit ?_
    refine wl_op hA27 rfl rfl (by decide) (fun ev h => by simp [go_sem, h.get 0 rfl, q1, q2]; try first | exact ⟨rfl, rfl⟩ | rfl) fun a30 hA30 => ?_
    refine wl_op hA30 rfl rfl (by decide) (fun ev h => by simp [go_sem, h.c, h.get 15 rfl, q1, q2]; try first | exact ⟨rfl, rfl⟩ | rfl) fun a31 hA31 => ?_
    -- stop call slot 17
    refine wl_call hA31 rfl rfl (by decide) (fun ev h => by simp [go_sem, h.get 16 rfl, q1, q2, h.f]; try first | exact ⟨rfl, rfl⟩ | rfl) (civil_any (t / 86400) (by omega) (by omega) w) ?_
    rintro e w1 ⟨rfl, hw⟩
    refine ⟨_, rfl, fun a32 hA32 => ?_⟩
    obtain rfl : w = w1 := hw.symm
    refine wl_op hA32 rfl rfl (by decide) (fun ev h => by simp [go_sem, h.get 17 rfl, q1, q2]; try first | exact ⟨rfl, rfl⟩ | rfl) fun a33 hA33 => ?_
    refine wl_op hA33 rfl rfl (by decide) (fun ev h => by simp [go_sem, h.get 14 rfl, q1, q2]; try first | exact ⟨rfl, rfl⟩ | rfl) fun a34 hA34 => ?_
    refine wl_op hA34 rfl rfl (by decide) (fun ev h => by simp [go_sem, h.get 14 rfl, q1, q2]; try first | exact ⟨rfl, rfl⟩ | rfl) fun a35 hA35 => ?_
    refine wl_op hA35 rfl rfl (by decide) (fun ev h => by simp [go_sem, h.get 14 rfl, q1, q2]; try first | exact ⟨rfl, rfl⟩ | rfl) fun a36 hA36 => ?_
    refine wl_op hA36 rfl rfl (by decide) (fun ev h => by simp [go_sem, h.get 18 rfl, q1, q2]; try first | exact ⟨rfl, rfl⟩ | rfl) fun a37 hA37 => ?_
    refine wl_op hA37 rfl rfl (by decide) (fun ev h => by simp [go_sem, h.get 19 rfl, q1, q2]; try first | exact ⟨rfl, rfl⟩ | rfl) fun a38 hA38 => ?_
    refine wl_op hA38 rfl rfl (by decide) (fun ev h => by simp [go_sem, h.get 20 rfl, q1, q2]; try first | exact ⟨rfl, rfl⟩ | rfl) fun a39 hA39 => ?_
    refine wl_nil ?_
    refine n_then ?_
    have hA40 := hA39.keep [0, 3, 4, 5]
    simp only [argsE, keepE, lookS, Nat.reduceBEq, cond_true, cond_false, Nat.reduceAdd, gv_tt, gv_ff, Bool.true_and, Bool.false_and, Bool.true_or, Bool.false_or] at hA40
    clear hA27 hA30 hA31 hA32 hA33 hA34 hA35 hA36 hA37 hA38 hA39 a30 a31 a32 a33 a34 a35 a36 a37 a38
    refine wp_seq ?_
    refine wp_region_lit ?_
    refine wl_op hA40 rfl rfl (by decide) (fun ev h => by simp [go_sem, h.get 0 rfl, q1, q2]; try first | exact ⟨rfl, rfl⟩ | rfl) fun a41 hA41 => ?_
    refine wl_op hA41 rfl rfl (by decide) (fun ev h => by simp [go_sem, h.c, h.get 21 rfl, q1, q2]; try first | exact ⟨rfl, rfl⟩ | rfl) fun a42 hA42 => ?_
    refine wl_op hA42 rfl rfl (by decide) (fun ev h => by simp [go_sem, h.get 22 rfl, q1, q2]; try first | exact ⟨rfl, rfl⟩ | rfl) fun a43 hA43 => ?_
    refine wl_nil ?_
    refine n_then ?_
    have hA44 := hA43.keep [3, 4, 5, 6]
    simp only [argsE, keepE, lookS, Nat.reduceBEq, cond_true, cond_false, Nat.reduceAdd, gv_tt, gv_ff, Bool.true_and, Bool.false_and, Bool.true_or, Bool.false_or] at hA44
    clear hA40 hA41 hA42 hA43 a39 a41 a42
    refine wp_seq ?_
    refine wp_region_lit ?_
    refine wl_op hA44 rfl rfl (by decide) (fun ev h => by simp [go_sem, h.get 5 rfl, q1, q2]; try first | exact ⟨rfl, rfl⟩ | rfl) fun a45 hA45 => ?_
    -- stop call slot 24
    refine wl_call hA45 rfl rfl (by decide) (fun ev h => by simp [go_sem, h.get 23 rfl, q1, q2, h.f]; try first | exact ⟨rfl, rfl⟩ | rfl) (two_some (civD (t / 86400)) (by omega) (by omega) w htab) ?_
    rintro e w2 ⟨s, rfl, hs, hs2, hb⟩
    refine ⟨_, rfl, fun a46 hA46 => ?_⟩
    have hs3 : (1 : Int) ≤ (s.size : Int) := by omega
    have hs4 : ¬ (9223372036854775807 < 1 + (s.size - 1)) := by omega
    refine wl_op hA46 rfl rfl (by decide) (fun ev h => by simp [go_sem, h.get 24 rfl, q1, q2]; try first | exact ⟨rfl, rfl⟩ | rfl) fun a47 hA47 => ?_
    refine wl_nil ?_
    refine n_then ?_
    have hA48 := hA47.keep [3, 4, 5, 6, 7]
    simp only [argsE, keepE, lookS, Nat.reduceBEq, cond_true, cond_false, Nat.reduceAdd, gv_tt, gv_ff, Bool.true_and, Bool.false_and, Bool.true_or, Bool.false_or] at hA48
    clear hA44 hA45 hA46 hA47 a43 a45 a46
    refine wp_seq ?_
    refine wp_seq ?_
    refine wp_region_lit ?_
    refine wl_op hA48 rfl rfl (by decide) (fun ev h => by simp [go_sem, h.get 5 rfl, q1, q2]; try first | exact ⟨rfl, rfl⟩ | rfl) fun a49 hA49 => ?_
    refine wl_op hA49 rfl rfl (by decide) (fun ev h => by simp [go_sem, h.c, h.get 25 rfl, q1, q2]; try first | exact ⟨rfl, rfl⟩ | rfl) fun a50 hA50 => ?_
    refine wl_nil ?_
    refine n_then ?_
    have hA51 := hA50.keep [3, 4, 6, 7, 26]
    simp only [argsE, keepE, lookS, Nat.reduceBEq, cond_true, cond_false, Nat.reduceAdd, gv_tt, gv_ff, Bool.true_and, Bool.false_and, Bool.true_or, Bool.false_or] at hA51
    clear hA48 hA49 hA50 a47 a49
    -- cond
    refine wp_join (fun a wx => ∃ s7 : ByteArray, At 58 [(3, .int .i64 (civY (t / 86400))), (4, .int .i64 (civM (t / 86400))), (6, .int .i64 (t % 86400)), (7, .string s7)] a ∧ s7.size ≤ 20 ∧ Below w.heap.size w wx) ?jfJ ?jrJ
    case jfJ =>
      refine wp_if hA51 26 _ rfl (fun hd => ?yD) (fun hd => ?nD)
      case yD =>
        refine wp_region_lit ?_
        refine wl_op hA51 rfl rfl (by decide) (fun ev h => by simp [go_sem, h.get 7 rfl, hs3, hs4]; try first | exact ⟨rfl, rfl⟩ | rfl) fun a52 hA52 => ?_
        refine wl_op hA52 rfl rfl (by decide) (fun ev h => by simp [go_sem, h.c, h.get 27 rfl, hs3, hs4]; try first | exact ⟨rfl, rfl⟩ | rfl) fun a53 hA53 => ?_
        refine wl_op hA53 rfl rfl (by decide) (fun ev h => by simp [go_sem, h.c, h.get 28 rfl, hs3, hs4]; try first | exact ⟨rfl, rfl⟩ | rfl) fun a54 hA54 => ?_
        refine wl_op hA54 rfl rfl (by decide) (fun ev h => by simp [go_sem, h.get 29 rfl, hs3, hs4]; try first | exact ⟨rfl, rfl⟩ | rfl) fun a55 hA55 => ?_
        refine wl_nil ?_
        refine n_then ?_
        have hA56 := hA55.keep [3, 4, 6, 7]
        simp only [argsE, keepE, lookS, Nat.reduceBEq, cond_true, cond_false, Nat.reduceAdd, gv_tt, gv_ff, Bool.true_and, Bool.false_and, Bool.true_or, Bool.false_or] at hA56
        clear hA51 hA52 hA53 hA54 hA55 a52 a53 a54
        -- joined
        exact ⟨_, hA56, by rw [ByteArray.size_append, ByteArray.size_extract]; show (1 : Nat) + _ ≤ 20; omega, hb⟩
      case nD =>
        refine wp_skip ?_
        refine n_then ?_
        have hA57 := hA51.keep [3, 4, 6, 7]
        simp only [argsE, keepE, lookS, Nat.reduceBEq, cond_true, cond_false, Nat.reduceAdd, gv_tt, gv_ff, Bool.true_and, Bool.false_and, Bool.true_or, Bool.false_or] at hA57
        clear hA51
        -- joined
        exact ⟨_, hA57, by omega, hb⟩
    rintro a wx ⟨s7, hA, hs7, hb⟩
    have q3 : IntKind.i64.wrap (10000 + civY (t / 86400)) = 10000 + civY (t / 86400) := IntWalk.i64_in _ (by omega)
    have q4 : IntKind.i64.wrap ((t % 86400).tdiv 3600) = t % 86400 / 3600 := IntWalk.i64_quo _ _ (by omega)
    have q5 : (t % 86400).tmod 3600 = t % 86400 % 3600 := Int.tmod_eq_emod_of_nonneg (by omega)
    have q6 : IntKind.i64.wrap ((t % 3600).tdiv 60) = t % 3600 / 60 := IntWalk.i64_quo _ _ (by omega)
    have q7 : (t % 86400).tmod 60 = t % 86400 % 60 := Int.tmod_eq_emod_of_nonneg (by omega)
    refine wp_seq ?_
    -- any
    refine wp_any_at hA [(.det ?dA0), (.det (.string (s7 ++ ⟨#[45]⟩))), (.det ?dA2), (.used (fun v _ => ∃ s : ByteArray, v = .string s ∧ s.size ≤ 36)), (.used (fun v _ => ∃ s : ByteArray, v = .string s ∧ s.size ≤ 60)), (.used (fun v _ => ∃ s : ByteArray, v = .string s ∧ s.size ≤ 61)), (.det ?dA6), (.det ?dA7), (.det (.string ⟨(49 :: digL (civY (t / 86400)).toNat 4).toArray⟩)), (.det ?dA9), (.used (fun v _ => ∃ s : ByteArray, v = .string s ∧ s.size ≤ 70)), (.used (fun v _ => ∃ s : ByteArray, v = .string s ∧ s.size ≤ 71)), (.det ?dA12), (.det ?dA13), (.used (fun v _ => ∃ s : ByteArray, v = .string s ∧ s.size ≤ 10)), (.used (fun v _ => ∃ s : ByteArray, v = .string s ∧ s.size ≤ 90)), (.used (fun v _ => ∃ s : ByteArray, v = .string s ∧ s.size ≤ 91)), (.det ?dA17), (.det ?dA18), (.det ?dA19), (.used (fun v _ => ∃ s : ByteArray, v = .string s ∧ s.size ≤ 10)), (.used (fun v _ => ∃ s : ByteArray, v = .string s ∧ s.size ≤ 110)), (.used (fun v _ => ∃ s : ByteArray, v = .string s ∧ s.size ≤ 111)), (.det ?dA23), (.det ?dA24), (.used (fun v _ => ∃ s : ByteArray, v = .string s ∧ s.size ≤ 10)), (.used (fun v _ => ∃ s : ByteArray, v = .string s ∧ s.size ≤ 130)), (.held (fun v _ => ∃ s : ByteArray, v = .string s ∧ s.toList.isEmpty = false)), (.held (fun v _ => ∃ s : ByteArray, v = .string s ∧ s.toList.isEmpty = false))] [] (fun wy => Below w.heap.size w wy) (TSp [] Grows) (by kernel_rfl) rfl (by kernel_rfl) (by kernel_rfl) rfl (hb.drew) (stab_sp [] [true, true, true, false, false, false, true, true, true, true, false, false, true, true, false, false, false, true, true, true, false, false, false, true, true, false, false, false, false] [true, true, true, false, false, false, true, true, true, true, false, false, true, true, false, false, false, true, true, true, false, false, false, true, true, false, false, true, true] [] rfl rfl rfl (by kernel_rfl) ⟨trivial, trivial, trivial, (fun _ _ _ _ hp _ => hp), (fun _ _ _ _ hp _ => hp), (fun _ _ _ _ hp _ => hp), trivial, trivial, trivial, trivial, (fun _ _ _ _ hp _ => hp), (fun _ _ _ _ hp _ => hp), trivial, trivial, (fun _ _ _ _ hp _ => hp), (fun _ _ _ _ hp _ => hp), (fun _ _ _ _ hp _ => hp), trivial, trivial, trivial, (fun _ _ _ _ hp _ => hp), (fun _ _ _ _ hp _ => hp), (fun _ _ _ _ hp _ => hp), trivial, trivial, (fun _ _ _ _ hp _ => hp), (fun _ _ _ _ hp _ => hp), (fun _ _ _ _ hp _ => hp), (fun _ _ _ _ hp _ => hp), trivial⟩ trivial) (fun _ h => by cases h) (fun _ _ _ _ _ h => by cases h) (fun _ h => by cases h) ⟨?oA0, ?oA1, ?oA2, ?oA3, ?oA4, ?oA5, ?oA6, ?oA7, ?oA8, ?oA9, ?oA10, ?oA11, ?oA12, ?oA13, ?oA14, ?oA15, ?oA16, ?oA17, ?oA18, ?oA19, ?oA20, ?oA21, ?oA22, ?oA23, ?oA24, ?oA25, ?oA26, ?oA27, ?oA28, trivial⟩ (by kernel_rfl) ?fA
    case oA0 =>
      intro ev wo hev hC hs hph
      have e7 := see_env hA hs 7 (by kernel_rfl) (by kernel_rfl) rfl
      exact ob_det (wanted_none rfl) rfl (by kernel_rfl) hC (TSp.of rfl (Grows.refl _)) (by simp [go_sem, e7]; try first | exact ⟨rfl, rfl⟩ | rfl)
    case oA1 =>
      intro ev wo hev hC hs hph
      have e30 := see_det hs 30 0 (by kernel_rfl) (by kernel_rfl) rfl
      exact ob_yes (wanted_none rfl) (does_value (by simp [go_sem, e30, hev.const]; omega) ⟨hC, TSp.of rfl (Grows.refl _), rfl, no_start (by kernel_rfl)⟩)
    case oA2 =>
      intro ev wo hev hC hs hph
      have e4 := see_env hA hs 4 (by kernel_rfl) (by kernel_rfl) rfl
      exact ob_det (wanted_none rfl) rfl (by kernel_rfl) hC (TSp.of rfl (Grows.refl _)) (by simp [go_sem, e4]; try first | exact ⟨rfl, rfl⟩ | rfl)
    case oA3 =>
      intro ev wo hev hC hs hph
      have e32 := see_det hs 32 2 (by kernel_rfl) (by kernel_rfl) rfl
      exact ob_yes (wanted_none rfl) (does_enter (by simp [go_sem, e32, hev.func, hev.const]; try first | exact ⟨rfl, rfl⟩ | rfl) (Calls.mono (month_some (civM (t / 86400)) m0 m1 wo) (by
        rintro ev2 w3 ⟨s, rfl, hz, hb3⟩
        exact ⟨_, rfl, hC.trans (hb3.mono hC.size), TSp.of rfl hb3, ⟨s, rfl, hz⟩, no_start (by kernel_rfl)⟩)))
    case oA4 =>
      intro ev wo hev hC hs hph
      have e31 := see_det hs 31 1 (by kernel_rfl) (by kernel_rfl) rfl
      have u33 := see_used hs 33 3 (by kernel_rfl) (by kernel_rfl) rfl
      obtain ⟨s33, f33, z33⟩ := u33
      exact ob_yes (wanted_none rfl) (does_value (by simp [go_sem, e31, f33, hev.const, digL_length]; rw [if_neg (by omega)]; try first | exact ⟨rfl, rfl⟩ | rfl) ⟨hC, TSp.of rfl (Grows.refl _), ⟨_, rfl, by rw [ByteArray.size_append]; rw [asize]; simp; omega⟩, no_start (by kernel_rfl)⟩)
    case oA5 =>
      intro ev wo hev hC hs hph
      have u34 := see_used hs 34 4 (by kernel_rfl) (by kernel_rfl) rfl
      obtain ⟨s34, f34, z34⟩ := u34
      exact ob_yes (wanted_none rfl) (does_value (by simp [go_sem, f34, hev.const, digL_length]; rw [if_neg (by omega)]; try first | exact ⟨rfl, rfl⟩ | rfl) ⟨hC, TSp.of rfl (Grows.refl _), ⟨_, rfl, by rw [asize]; simp; omega⟩, no_start (by kernel_rfl)⟩)
    case oA6 =>
      intro ev wo hev hC hs hph
      have e3 := see_env hA hs 3 (by kernel_rfl) (by kernel_rfl) rfl
      exact ob_det (wanted_none rfl) rfl (by kernel_rfl) hC (TSp.of rfl (Grows.refl _)) (by simp [go_sem, e3]; try first | exact ⟨rfl, rfl⟩ | rfl)
    case oA7 =>
      intro ev wo hev hC hs hph
      have e36 := see_det hs 36 6 (by kernel_rfl) (by kernel_rfl) rfl
      exact ob_det (wanted_none rfl) rfl (by kernel_rfl) hC (TSp.of rfl (Grows.refl _)) (by simp [go_sem, e36, hev.const, q3]; try first | exact ⟨rfl, rfl⟩ | rfl)
    case oA8 =>
      intro ev wo hev hC hs hph
      have e37 := see_det hs 37 7 (by kernel_rfl) (by kernel_rfl) rfl
      exact ob_yes (wanted_none rfl) (does_enter (by simp [go_sem, e37, hev.func, hev.const]; try first | exact ⟨rfl, rfl⟩ | rfl) (Calls.mono (five_int (civY (t / 86400)) (by omega) y1 wo (Ht wo hC)) (by
        rintro ev2 w3 ⟨rfl, hb3⟩
        exact ⟨_, rfl, hC.trans (hb3.mono hC.size), TSp.of rfl hb3, rfl, no_start (by kernel_rfl)⟩)))
    case oA9 =>
      intro ev wo hev hC hs hph
      have e38 := see_det hs 38 8 (by kernel_rfl) (by kernel_rfl) rfl
      exact ob_det (wanted_none rfl) rfl (by kernel_rfl) hC (TSp.of rfl (Grows.refl _)) (by simp [go_sem, e38, hev.const]; try first | exact ⟨rfl, rfl⟩ | rfl)
    case oA10 =>
      intro ev wo hev hC hs hph
      have u35 := see_used hs 35 5 (by kernel_rfl) (by kernel_rfl) rfl
      have e39 := see_det hs 39 9 (by kernel_rfl) (by kernel_rfl) rfl
      obtain ⟨s35, f35, z35⟩ := u35
      exact ob_yes (wanted_none rfl) (does_value (by simp [go_sem, f35, e39, hev.const, digL_length]; rw [if_neg (by omega)]; try first | exact ⟨rfl, rfl⟩ | rfl) ⟨hC, TSp.of rfl (Grows.refl _), ⟨_, rfl, by rw [ByteArray.size_append, ByteArray.size_extract]; omega⟩, no_start (by kernel_rfl)⟩)
    case oA11 =>
      intro ev wo hev hC hs hph
      have u40 := see_used hs 40 10 (by kernel_rfl) (by kernel_rfl) rfl
      obtain ⟨s40, f40, z40⟩ := u40
      exact ob_yes (wanted_none rfl) (does_value (by simp [go_sem, f40, hev.const, digL_length]; rw [if_neg (by omega)]; try first | exact ⟨rfl, rfl⟩ | rfl) ⟨hC, TSp.of rfl (Grows.refl _), ⟨_, rfl, by rw [asize]; simp; omega⟩, no_start (by kernel_rfl)⟩)
    case oA12 =>
      intro ev wo hev hC hs hph
      have e6 := see_env hA hs 6 (by kernel_rfl) (by kernel_rfl) rfl
      exact ob_det (wanted_none rfl) rfl (by kernel_rfl) hC (TSp.of rfl (Grows.refl _)) (by simp [go_sem, e6]; try first | exact ⟨rfl, rfl⟩ | rfl)
    case oA13 =>
      intro ev wo hev hC hs hph
      have e42 := see_det hs 42 12 (by kernel_rfl) (by kernel_rfl) rfl
      exact ob_det (wanted_none rfl) rfl (by kernel_rfl) hC (TSp.of rfl (Grows.refl _)) (by simp [go_sem, e42, hev.const, q4]; try first | exact ⟨rfl, rfl⟩ | rfl)
    case oA14 =>
      intro ev wo hev hC hs hph
      have e43 := see_det hs 43 13 (by kernel_rfl) (by kernel_rfl) rfl
      exact ob_yes (wanted_none rfl) (does_enter (by simp [go_sem, e43, hev.func, hev.const]; try first | exact ⟨rfl, rfl⟩ | rfl) (Calls.mono (two_some (t % 86400 / 3600) (by omega) (by omega) wo (Ht wo hC)) (by
        rintro ev2 w3 ⟨s, rfl, _, hz, hb3⟩
        exact ⟨_, rfl, hC.trans (hb3.mono hC.size), TSp.of rfl hb3, ⟨s, rfl, hz⟩, no_start (by kernel_rfl)⟩)))
    case oA15 =>
      intro ev wo hev hC hs hph
      have u41 := see_used hs 41 11 (by kernel_rfl) (by kernel_rfl) rfl
      have u44 := see_used hs 44 14 (by kernel_rfl) (by kernel_rfl) rfl
      obtain ⟨s41, f41, z41⟩ := u41
      obtain ⟨s44, f44, z44⟩ := u44
      exact ob_yes (wanted_none rfl) (does_value (by simp [go_sem, f41, f44, hev.const, digL_length]; rw [if_neg (by omega)]; try first | exact ⟨rfl, rfl⟩ | rfl) ⟨hC, TSp.of rfl (Grows.refl _), ⟨_, rfl, by rw [ByteArray.size_append]; omega⟩, no_start (by kernel_rfl)⟩)
    case oA16 =>
      intro ev wo hev hC hs hph
      have u45 := see_used hs 45 15 (by kernel_rfl) (by kernel_rfl) rfl
      obtain ⟨s45, f45, z45⟩ := u45
      exact ob_yes (wanted_none rfl) (does_value (by simp [go_sem, f45, hev.const, digL_length]; rw [if_neg (by omega)]; try first | exact ⟨rfl, rfl⟩ | rfl) ⟨hC, TSp.of rfl (Grows.refl _), ⟨_, rfl, by rw [asize]; simp; omega⟩, no_start (by kernel_rfl)⟩)
    case oA17 =>
      intro ev wo hev hC hs hph
      have e6 := see_env hA hs 6 (by kernel_rfl) (by kernel_rfl) rfl
      exact ob_det (wanted_none rfl) rfl (by kernel_rfl) hC (TSp.of rfl (Grows.refl _)) (by simp [go_sem, e6]; try first | exact ⟨rfl, rfl⟩ | rfl)
    case oA18 =>
      intro ev wo hev hC hs hph
      have e47 := see_det hs 47 17 (by kernel_rfl) (by kernel_rfl) rfl
      exact ob_det (wanted_none rfl) rfl (by kernel_rfl) hC (TSp.of rfl (Grows.refl _)) (by simp [go_sem, e47, hev.const, q5]; try first | exact ⟨rfl, rfl⟩ | rfl)
    case oA19 =>
      intro ev wo hev hC hs hph
      have e48 := see_det hs 48 18 (by kernel_rfl) (by kernel_rfl) rfl
      exact ob_det (wanted_none rfl) rfl (by kernel_rfl) hC (TSp.of rfl (Grows.refl _)) (by simp [go_sem, e48, hev.const, q6]; try first | exact ⟨rfl, rfl⟩ | rfl)
    case oA20 =>
      intro ev wo hev hC hs hph
      have e49 := see_det hs 49 19 (by kernel_rfl) (by kernel_rfl) rfl
      exact ob_yes (wanted_none rfl) (does_enter (by simp [go_sem, e49, hev.func, hev.const]; try first | exact ⟨rfl, rfl⟩ | rfl) (Calls.mono (two_some (t % 3600 / 60) (by omega) (by omega) wo (Ht wo hC)) (by
        rintro ev2 w3 ⟨s, rfl, _, hz, hb3⟩
        exact ⟨_, rfl, hC.trans (hb3.mono hC.size), TSp.of rfl hb3, ⟨s, rfl, hz⟩, no_start (by kernel_rfl)⟩)))
    case oA21 =>
      intro ev wo hev hC hs hph
      have u46 := see_used hs 46 16 (by kernel_rfl) (by kernel_rfl) rfl
      have u50 := see_used hs 50 20 (by kernel_rfl) (by kernel_rfl) rfl
      obtain ⟨s46, f46, z46⟩ := u46
      obtain ⟨s50, f50, z50⟩ := u50
      exact ob_yes (wanted_none rfl) (does_value (by simp [go_sem, f46, f50, hev.const, digL_length]; rw [if_neg (by omega)]; try first | exact ⟨rfl, rfl⟩ | rfl) ⟨hC, TSp.of rfl (Grows.refl _), ⟨_, rfl, by rw [ByteArray.size_append]; omega⟩, no_start (by kernel_rfl)⟩)
    case oA22 =>
      intro ev wo hev hC hs hph
      have u51 := see_used hs 51 21 (by kernel_rfl) (by kernel_rfl) rfl
      obtain ⟨s51, f51, z51⟩ := u51
      exact ob_yes (wanted_none rfl) (does_value (by simp [go_sem, f51, hev.const, digL_length]; rw [if_neg (by omega)]; try first | exact ⟨rfl, rfl⟩ | rfl) ⟨hC, TSp.of rfl (Grows.refl _), ⟨_, rfl, by rw [asize]; simp; omega⟩, no_start (by kernel_rfl)⟩)
    case oA23 =>
      intro ev wo hev hC hs hph
      have e6 := see_env hA hs 6 (by kernel_rfl) (by kernel_rfl) rfl
      exact ob_det (wanted_none rfl) rfl (by kernel_rfl) hC (TSp.of rfl (Grows.refl _)) (by simp [go_sem, e6]; try first | exact ⟨rfl, rfl⟩ | rfl)
    case oA24 =>
      intro ev wo hev hC hs hph
      have e53 := see_det hs 53 23 (by kernel_rfl) (by kernel_rfl) rfl
      exact ob_det (wanted_none rfl) rfl (by kernel_rfl) hC (TSp.of rfl (Grows.refl _)) (by simp [go_sem, e53, hev.const, q7]; try first | exact ⟨rfl, rfl⟩ | rfl)
    case oA25 =>
      intro ev wo hev hC hs hph
      have e54 := see_det hs 54 24 (by kernel_rfl) (by kernel_rfl) rfl
      exact ob_yes (wanted_none rfl) (does_enter (by simp [go_sem, e54, hev.func, hev.const]; try first | exact ⟨rfl, rfl⟩ | rfl) (Calls.mono (two_some (t % 86400 % 60) (by omega) (by omega) wo (Ht wo hC)) (by
        rintro ev2 w3 ⟨s, rfl, _, hz, hb3⟩
        exact ⟨_, rfl, hC.trans (hb3.mono hC.size), TSp.of rfl hb3, ⟨s, rfl, hz⟩, no_start (by kernel_rfl)⟩)))
    case oA26 =>
      intro ev wo hev hC hs hph
      have u52 := see_used hs 52 22 (by kernel_rfl) (by kernel_rfl) rfl
      have u55 := see_used hs 55 25 (by kernel_rfl) (by kernel_rfl) rfl
      obtain ⟨s52, f52, z52⟩ := u52
      obtain ⟨s55, f55, z55⟩ := u55
      exact ob_yes (wanted_none rfl) (does_value (by simp [go_sem, f52, f55, hev.const, digL_length]; rw [if_neg (by omega)]; try first | exact ⟨rfl, rfl⟩ | rfl) ⟨hC, TSp.of rfl (Grows.refl _), ⟨_, rfl, by rw [ByteArray.size_append]; omega⟩, no_start (by kernel_rfl)⟩)
    case oA27 =>
      intro ev wo hev hC hs hph
      have u56 := see_used hs 56 26 (by kernel_rfl) (by kernel_rfl) rfl
      obtain ⟨s56, f56, z56⟩ := u56
      exact ob_yes (wanted_none rfl) (does_value (v := .string (s56 ++ ⟨#[32, 43, 48, 48, 48, 48]⟩)) (by simp [go_sem, f56, hev.const]; omega) ⟨hC, TSp.of rfl (Grows.refl _), ⟨_, rfl, app_ne _ _ _⟩, no_start (by kernel_rfl)⟩)
    case oA28 =>
      intro ev wo hev hC hs hph
      have u57 := see_held hs 57 27 (by kernel_rfl) (by kernel_rfl) rfl
      exact ob_yes (wanted_none rfl) (does_value (v := ev (.tmp 57)) (by simp [go_sem]) ⟨hC, TSp.of rfl (Grows.refl _), u57, no_start (by kernel_rfl)⟩)
    intro sg wf hC hph
    intro x33 hx33
    intro x34 hx34
    intro x35 hx35
    intro x40 hx40
    intro x41 hx41
    intro x44 hx44
    intro x45 hx45
    intro x46 hx46
    intro x50 hx50
    intro x51 hx51
    intro x52 hx52
    intro x55 hx55
    intro x56 hx56
    intro x57 hx57 h57
    intro x2 hx2 h2
    intro a58 hA58
    refine n_then ?_
    have hA59 := hA58.keep [2]
    simp only [argsE, keepE, lookS, Nat.reduceBEq, cond_true, cond_false, Nat.reduceAdd, gv_tt, gv_ff, Bool.true_and, Bool.false_and, Bool.true_or, Bool.false_or] at hA59
    clear hA hA58
    refine wp_ret ?_
    refine ret_1 hA59 2 rfl rfl ?_
    obtain ⟨s, rfl, hs⟩ := h2
    refine ⟨s, rfl, ?_, hC⟩
    rw [hs]
    unfold dateOk
    simp
    omega
end Go.Proofs.YtmjikfeaopmejaaDoor
