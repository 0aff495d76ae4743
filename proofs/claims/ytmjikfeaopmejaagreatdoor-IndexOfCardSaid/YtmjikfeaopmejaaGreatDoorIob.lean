/-
  Walk: a time's text is none just if the time may not be.
-/
import Derived.Test.YtmjikfeaopmejaaGreatDoorIoa
import Derived.Test.YtmjikfeaopmejaaGreatDoorChecked
import Derived.Deep.Cut
import Derived.IntWalk
import Derived.Lib.AppendIntMem
import Derived.BigRegion
import Derived.Deep.RegionLaw
import Derived.Lib.ConvBytes
import Derived.Lib.AppendStr
namespace Go.Proofs.YtmjikfeaopmejaaGreatDoor
open Go.RowKit
set_option linter.unusedSimpArgs false
set_option linter.unusedVariables false
theorem ret_tup3 {y y' m m' d d' : Int} (h1 : y = y') (h2 : m = m') (h3 : d = d') : Ending.returned (.tuple #[.int .i64 y, .int .i64 m, .int .i64 d]) = .returned (.tuple #[.int .i64 y', .int .i64 m', .int .i64 d']) := by rw [h1, h2, h3]
set_option maxHeartbeats 1000000 in
theorem civil_any (n : Int) (h0 : -719468 ≤ n) (h1 : n ≤ 4000000) (w : World) :
    Calls Tryz.prog 84 #[.int .i64 n] w fun e w' => e = .returned (.tuple #[.int .i64 (civY n), .int .i64 (civM n), .int .i64 (civD n)]) ∧ w' = w := by
  go_enter Tryz.func84, Tryz.ntmps84
  go_upto_region 3 with (fail)
  have bE : 0 ≤ (n + 719468) / 146097 ∧ (n + 719468) / 146097 ≤ 40 := by omega
  have bO : 0 ≤ n + 719468 - (n + 719468) / 146097 * 146097 ∧ n + 719468 - (n + 719468) / 146097 * 146097 < 146097 := by omega
  have eE : Hid (cEra n = (n + 719468) / 146097) := rfl
  have eO : Hid (cOf n = n + 719468 - (n + 719468) / 146097 * 146097) := rfl
  generalize (n + 719468) / 146097 = E at *
  go_upto_region 4 with (fail)
  generalize n + 719468 - E * 146097 = O at *
  have bY : 0 ≤ (O - O / 1460 + O / 36524 - O / 146096) / 365 ∧ (O - O / 1460 + O / 36524 - O / 146096) / 365 ≤ 400 := by omega
  have eY : Hid (cYoe n = (O - O / 1460 + O / 36524 - O / 146096) / 365) := by show _ = _; unfold cYoe; rw [eO.out]
  go_upto_region 5 with (fail)
  generalize (O - O / 1460 + O / 36524 - O / 146096) / 365 = Y at *
  have eD : Hid (cDay n = O - (365 * Y + Y / 4 - Y / 100)) := by show _ = _; unfold cDay; rw [eO.out, eY.out]
  have bD : 0 ≤ O - (365 * Y + Y / 4 - Y / 100) ∧ O - (365 * Y + Y / 4 - Y / 100) ≤ 365 := by have := cDay_bd n; rw [eD.out] at this; exact this
  go_upto_region 6 with (fail)
  generalize O - (365 * Y + Y / 4 - Y / 100) = D at *
  have bM : 0 ≤ (5 * D + 2) / 153 ∧ (5 * D + 2) / 153 ≤ 11 := by omega
  have eM : Hid (cMp n = (5 * D + 2) / 153) := by show _ = _; unfold cMp; rw [eD.out]
  go_upto_region 7 with (fail)
  generalize (5 * D + 2) / 153 = M at *
  have hY : Hid (civY n = if M < 10 then Y + E * 400 else Y + E * 400 + 1) := by show _ = _; unfold civY; rw [eM.out, eY.out, eE.out]
  have hM : Hid (civM n = if M < 10 then M + 3 else M - 9) := by show _ = _; unfold civM; rw [eM.out]
  have hD : Hid (civD n = D - (153 * M + 2) / 5 + 1) := by show _ = _; unfold civD; rw [eM.out, eD.out]
  by_cases hlt : M < 10
  · go_wp2
    go_ret3
    exact ⟨ret_tup3 (by rw [hY.out, if_pos hlt]) (by rw [hM.out, if_pos hlt]) (by rw [hD.out]), rfl⟩
  · go_wp2
    go_ret3
    exact ⟨ret_tup3 (by rw [hY.out, if_neg (by omega)]) (by rw [hM.out, if_neg (by omega)]) (by rw [hD.out]), rfl⟩
def digL (v : Nat) : Nat → List UInt8
  | 0 => []
  | n + 1 => UInt8.ofNat (48 + v / 10 ^ n % 10) :: digL v n
theorem digL_length (v : Nat) : ∀ n, (digL v n).length = n
  | 0 => rfl
  | n + 1 => by simp [digL, digL_length v n]
theorem dec_three (v : Nat) (h : v ≤ 99) : Lib.itoa ((100 : Int) + v) = 49 :: digL v 2 := by
  have e : ((100 : Int) + v) = ((100 + v : Nat) : Int) := by omega
  rw [e]
  unfold Lib.itoa
  rw [if_neg (by omega), Int.toNat_natCast]
  unfold Lib.decDigits
  rw [dif_neg (by omega)]
  unfold Lib.decDigits
  rw [dif_neg (by omega)]
  unfold Lib.decDigits
  rw [dif_pos (by omega), show (100 + v) / 10 / 10 = 1 from by omega, show (100 + v) / 10 % 10 = v / 10 % 10 from by omega, show (100 + v) % 10 = v % 10 from by omega]
  simp [digL]
theorem dec_five (v : Nat) (h : v ≤ 9999) : Lib.itoa ((10000 : Int) + v) = 49 :: digL v 4 := by
  have e : ((10000 : Int) + v) = ((10000 + v : Nat) : Int) := by omega
  rw [e]
  unfold Lib.itoa
  rw [if_neg (by omega), Int.toNat_natCast]
  unfold Lib.decDigits
  rw [dif_neg (by omega)]
  unfold Lib.decDigits
  rw [dif_neg (by omega)]
  unfold Lib.decDigits
  rw [dif_neg (by omega)]
  unfold Lib.decDigits
  rw [dif_neg (by omega)]
  unfold Lib.decDigits
  rw [dif_pos (by omega), show (10000 + v) / 10 / 10 / 10 / 10 = 1 from by omega, show (10000 + v) / 10 / 10 / 10 % 10 = v / 1000 % 10 from by omega, show (10000 + v) / 10 / 10 % 10 = v / 100 % 10 from by omega, show (10000 + v) / 10 % 10 = v / 10 % 10 from by omega, show (10000 + v) % 10 = v % 10 from by omega]
  simp [digL]
theorem below_grow (w : World) (k : Nat) (os : Array Obj) : Below w.heap.size w (Sort.grow (w.drewN k) os) :=
  ⟨rfl, rfl, rfl, by simp [Sort.grow], fun i hi => by simp [Sort.grow, Array.getElem?_append, hi]⟩
/-- FormatInt(100 + n, 10) and FormatInt(10000 + n, 10) -/
theorem fmt_three (v : Nat) (hv : v ≤ 99) (w : World) (htab : Lib.TabIs Tryz.prog w "internal/strconv.uint64pow10" .u64 Lib.pow10Tab) :
    Calls Tryz.prog 87 #[.int .i64 (100 + (v : Int)), .int .i64 10] w fun e w' => e = .returned (.string ⟨(49 :: digL v 2).toArray⟩) ∧ Below w.heap.size w w' := by
  have hc := Tryz.strconv_FormatInt_10 (100 + (v : Int)) (by omega) (by omega) w htab
  rw [dec_three v hv] at hc
  exact hc.mono fun e w' ⟨he, k, os, hw⟩ => ⟨he, by rw [hw]; exact below_grow w k os⟩
theorem fmt_five (v : Nat) (hv : v ≤ 9999) (w : World) (htab : Lib.TabIs Tryz.prog w "internal/strconv.uint64pow10" .u64 Lib.pow10Tab) :
    Calls Tryz.prog 87 #[.int .i64 (10000 + (v : Int)), .int .i64 10] w fun e w' => e = .returned (.string ⟨(49 :: digL v 4).toArray⟩) ∧ Below w.heap.size w w' := by
  have hc := Tryz.strconv_FormatInt_10 (10000 + (v : Int)) (by omega) (by omega) w htab
  rw [dec_five v hv] at hc
  exact hc.mono fun e w' ⟨he, k, os, hw⟩ => ⟨he, by rw [hw]; exact below_grow w k os⟩
theorem dimN_bd (y m : Int) : 28 ≤ dimN y m ∧ dimN y m ≤ 31 := by
  unfold dimN
  split
  · split <;> omega
  · split <;> omega
theorem civ_bd (n : Int) (h0 : 0 ≤ n) (h1 : n ≤ 2932896) : 1970 ≤ civY n ∧ civY n ≤ 9999 ∧ 1 ≤ civM n ∧ civM n ≤ 12 ∧ 1 ≤ civD n ∧ civD n ≤ 31 := by
  have hs := since_civ n
  have hv := civ_valid n
  obtain ⟨v1, v2, v3, v4⟩ := hv
  have hd := (dimN_bd (civY n) (civM n)).2
  generalize civY n = y at *
  generalize civM n = m at *
  generalize civD n = d at *
  unfold sinceN at hs
  dsimp only at hs
  have a0 : 1969 ≤ y := by split at hs <;> omega
  have a1 : 1970 ≤ y := by
    by_cases e : y = 1969
    · subst e; split at hs <;> omega
    · omega
  have a2 : y ≤ 10000 := by split at hs <;> omega
  have a3 : y ≤ 9999 := by
    by_cases e : y = 10000
    · subst e; split at hs <;> omega
    · omega
  omega
theorem asize (s : ByteArray) (l : List UInt8) : (s ++ ⟨l.toArray⟩).size = s.size + l.length := by
  rw [ByteArray.size_append]
  show s.size + l.toArray.size = _
  rw [List.size_toArray]
theorem app_ne (s : ByteArray) (c : UInt8) (l : List UInt8) : (s ++ ⟨(c :: l).toArray⟩).toList.isEmpty = false := by
  rw [ByteArray.toList_eq, ByteArray.data_append]
  simp
theorem five_int (y : Int) (h0 : 0 ≤ y) (h1 : y ≤ 9999) (w : World) (htab : Lib.TabIs Tryz.prog w "internal/strconv.uint64pow10" .u64 Lib.pow10Tab) :
    Calls Tryz.prog 87 #[.int .i64 (10000 + y), .int .i64 10] w fun e w' => e = .returned (.string ⟨(49 :: digL y.toNat 4).toArray⟩) ∧ Below w.heap.size w w' := by
  obtain ⟨n, rfl⟩ : ∃ n : Nat, y = n := ⟨y.toNat, by omega⟩
  exact fmt_five n (by omega) w htab
theorem month_some (m : Int) (h1 : 1 ≤ m) (h2 : m ≤ 12) (w : World) :
    Calls Tryz.prog 86 #[.int .i64 m] w fun e w' => ∃ s : ByteArray, e = .returned (.string s) ∧ s.size ≤ 36 ∧ Below w.heap.size w w' := by
  have q1 : IntKind.i64.wrap (m - 1) = m - 1 := IntWalk.i64_in _ (by omega)
  have q2 : IntKind.i64.wrap (3 * (m - 1)) = 3 * (m - 1) := IntWalk.i64_in _ (by omega)
  have q3 : IntKind.i64.wrap (3 * m) = 3 * m := IntWalk.i64_in _ (by omega)
  refine calls_at 9 Tryz.func86 rfl rfl (Nat.le_of_ble_eq_true rfl) ?_
  intro a hA; replace hA := hA.norm
  refine wS (wR ?_)
  revert a; refine wo rfl rfl (by decide) (fun ev e h => by simp [go_sem, h, q1, q2, q3] <;> rfl) ?_; intro a hA
  replace hA := hA.keepN [0]
  refine wN (nT (wS (wR ?_)))
  revert a; (iterate 5 refine wo rfl rfl (by decide) (fun ev e h => by simp [go_sem, h, q1, q2, q3] <;> rfl) ?_); intro a hA
  refine wl_op hA rfl rfl (by decide) (fun ev h => by simp [go_sem, h.c, h.get 5 rfl, h.get 7 rfl, q1, q2, q3]; (rw [if_pos (by omega), if_pos (by omega)]; try first | exact ⟨rfl, rfl⟩ | rfl)) fun a hA => ?_
  revert a; refine wo rfl rfl (by decide) (fun ev e h => by simp [go_sem, h, q1, q2, q3] <;> rfl) ?_; intro a hA
  replace hA := hA.keepN [2]
  refine wN (nT (wp_ret ?_))
  refine ret_1 hA 2 rfl rfl ?_
  refine ⟨_, rfl, ?_, Below.refl _ _⟩
  rw [ByteArray.size_extract]
  exact Nat.le_trans (Nat.sub_le _ _) (Nat.min_le_right _ _)
theorem two_some (v : Int) (h0 : 0 ≤ v) (h1 : v ≤ 99) (w : World) (htab : Lib.TabIs Tryz.prog w "internal/strconv.uint64pow10" .u64 Lib.pow10Tab) :
    Calls Tryz.prog 85 #[.int .i64 v] w fun e w' => ∃ s : ByteArray, e = .returned (.string s) ∧ 1 ≤ s.size ∧ s.size ≤ 10 ∧ Below w.heap.size w w' := by
  obtain ⟨n, rfl⟩ : ∃ n : Nat, v = n := ⟨v.toNat, by omega⟩
  have q1 : IntKind.i64.wrap (100 + (n : Int)) = 100 + (n : Int) := IntWalk.i64_in _ (by omega)
  refine calls_at 7 Tryz.func85 rfl rfl (Nat.le_of_ble_eq_true rfl) ?_
  intro a hA; replace hA := hA.norm
  refine wS (wR ?_)
  revert a; refine wo rfl rfl (by decide) (fun ev e h => by simp [go_sem, h, q1] <;> rfl) ?_; intro a hA
  replace hA := hA.keepN [0]
  refine wN (nT (wS (wR ?_)))
  revert a; (iterate 2 refine wo rfl rfl (by decide) (fun ev e h => by simp [go_sem, h, q1] <;> rfl) ?_); intro a hA
  refine wl_call hA rfl rfl (by decide) (fun ev h => exec_call Tryz.func87 (by kernel_rfl) rfl (h.f _) (by first | (simp only [mL, h.get 4 rfl, h.c] <;> rfl) | (simp [mL, h.get 4 rfl, h.c, q1] <;> rfl))) (fmt_three n (by omega) w htab) ?_
  rintro e w1 ⟨rfl, hb⟩
  refine ⟨_, rfl, fun a hA => ?_⟩
  revert a; (iterate 2 refine wo rfl rfl (by decide) (fun ev e h => by simp [go_sem, h, q1] <;> rfl) ?_); intro a hA
  replace hA := hA.keepN [2]
  refine wN (nT (wp_ret ?_))
  refine ret_1 hA 2 rfl rfl ?_
  have h3 : (⟨(49 :: digL n 2).toArray⟩ : ByteArray).size = 3 := by show (49 :: digL n 2).toArray.size = 3; simp [digL_length]
  exact ⟨_, rfl, by simp [digL_length, h3], by simp [digL_length, h3], hb⟩
/-- may a time be? -/
def dateOk (t : Int) : Bool := decide (0 ≤ t) && decide (t ≤ 253402300799)
set_option maxRecDepth 100000 in
set_option maxHeartbeats 1000000 in
theorem print_some (t : Int) (w : World) (htab : Lib.TabIs Tryz.prog w "internal/strconv.uint64pow10" .u64 Lib.pow10Tab) :
    Calls Tryz.prog 63 #[.int .i64 t] w fun e w' => ∃ s : ByteArray, e = .returned (.string s) ∧ s.toList.isEmpty = !dateOk t ∧ Below w.heap.size w w' := by
  have Ht := Lib.tabBelow_of_tabIs htab
  refine calls_at 58 Tryz.func63 rfl rfl (Nat.le_of_ble_eq_true rfl) ?_
  intro a hA; replace hA := hA.norm
  refine wS (wR ?_)
  revert a; refine wo rfl rfl (by decide) (fun ev e h => by simp [go_sem, h] <;> rfl) ?_; intro a hA
  replace hA := hA.keepN [0]
  refine wN (nT (wS (wS (wR ?_))))
  revert a; (iterate 3 refine wo rfl rfl (by decide) (fun ev e h => by simp [go_sem, h] <;> rfl) ?_); (iterate 2 refine wg _ rfl rfl rfl rfl (by decide) (fun hq ev e h => by simp [go_sem, h, ↓gw_t (beq_t hq)] <;> rfl) ?_); refine wko rfl rfl (by decide) rfl rfl rfl ?_; intro a hA
  replace hA := hA.keepN [0, 13]
  refine wN (nT ?_)
  refine wp_if hA 13 _ rfl (fun hq => ?yA) (fun hq => ?nA)
  case yA =>
    refine wS (wR ?_)
    revert a; refine wo rfl rfl (by decide) (fun ev e h => by simp [go_sem, h] <;> rfl) ?_; intro a hA
    replace hA := hA.keepN [2]
    refine wN (nT (wp_ret (rT ?_)))
    refine ret_1 hA 2 rfl rfl ?_
    refine ⟨_, rfl, ?_, Below.refl _ _⟩
    unfold dateOk
    simp at hq
    rw [Bool.eq_iff_iff]
    simp
    omega
  case nA =>
    obtain ⟨h0, h1⟩ : 0 ≤ t ∧ t ≤ 253402300799 := by simp at hq; omega
    have q1 : IntKind.i64.wrap (t.tdiv 86400) = t / 86400 := IntWalk.i64_quo _ _ (by omega)
    have q2 : t.tmod 86400 = t % 86400 := Int.tmod_eq_emod_of_nonneg h0
    obtain ⟨y0, y1, m0, m1, d0, d1⟩ := civ_bd (t / 86400) (by omega) (by omega)
    refine wp_skip (nT (wS (wR ?_)))
    revert a; (iterate 2 refine wo rfl rfl (by decide) (fun ev e h => by simp [go_sem, h, q1, q2] <;> rfl) ?_); intro a hA
    refine wl_call hA rfl rfl (by decide) (fun ev h => exec_call Tryz.func84 (by kernel_rfl) rfl (h.f _) (by first | (simp only [mL, h.get 16 rfl, h.c] <;> rfl) | (simp [mL, h.get 16 rfl, h.c, q1, q2] <;> rfl))) (civil_any (t / 86400) (by omega) (by omega) w) ?_
    rintro e w1 ⟨rfl, hw⟩
    refine ⟨_, rfl, fun a hA => ?_⟩
    obtain rfl : w = w1 := hw.symm
    revert a; (iterate 7 refine wo rfl rfl (by decide) (fun ev e h => by simp [go_sem, h, q1, q2] <;> rfl) ?_); intro a hA
    replace hA := hA.keepN [0, 3, 4, 5]
    refine wN (nT (wS (wR ?_)))
    revert a; (iterate 3 refine wo rfl rfl (by decide) (fun ev e h => by simp [go_sem, h, q1, q2] <;> rfl) ?_); intro a hA
    replace hA := hA.keepN [3, 4, 5, 6]
    refine wN (nT (wS (wR ?_)))
    revert a; refine wo rfl rfl (by decide) (fun ev e h => by simp [go_sem, h, q1, q2] <;> rfl) ?_; intro a hA
    refine wl_call hA rfl rfl (by decide) (fun ev h => exec_call Tryz.func85 (by kernel_rfl) rfl (h.f _) (by first | (simp only [mL, h.get 23 rfl, h.c] <;> rfl) | (simp [mL, h.get 23 rfl, h.c, q1, q2] <;> rfl))) (two_some (civD (t / 86400)) (by omega) (by omega) w htab) ?_
    rintro e w2 ⟨s, rfl, hs, hs2, hb⟩
    refine ⟨_, rfl, fun a hA => ?_⟩
    have hs3 : (1 : Int) ≤ (s.size : Int) := by omega
    have hs4 : ¬ (9223372036854775807 < 1 + (s.size - 1)) := by omega
    revert a; refine wo rfl rfl (by decide) (fun ev e h => by simp [go_sem, h, q1, q2] <;> rfl) ?_; intro a hA
    replace hA := hA.keepN [3, 4, 5, 6, 7]
    refine wN (nT (wS (wS (wR ?_))))
    revert a; (iterate 2 refine wo rfl rfl (by decide) (fun ev e h => by simp [go_sem, h, q1, q2] <;> rfl) ?_); intro a hA
    replace hA := hA.keepN [3, 4, 6, 7, 26]
    refine wN (nT ?_)
    refine wp_join (fun a wx => ∃ s7 : ByteArray, At 58 [(3, .int .i64 (civY (t / 86400))), (4, .int .i64 (civM (t / 86400))), (6, .int .i64 (t % 86400)), (7, .string s7)] a ∧ s7.size ≤ 20 ∧ Below w.heap.size w wx) ?jfJ ?jrJ
    case jfJ =>
      refine wp_if hA 26 _ rfl (fun hd => ?yD) (fun hd => ?nD)
      case yD =>
        refine wR ?_
        revert a; (iterate 4 refine wo rfl rfl (by decide) (fun ev e h => by simp [go_sem, h, hs3, hs4] <;> rfl) ?_); intro a hA
        replace hA := hA.keepN [3, 4, 6, 7]
        refine wN (nT ?_)
        exact ⟨_, hA, by rw [ByteArray.size_append, ByteArray.size_extract]; show (1 : Nat) + _ ≤ 20; omega, hb⟩
      case nD =>
        replace hA := hA.keepN [3, 4, 6, 7]
        refine wp_skip (nT ?_)
        exact ⟨_, hA, by omega, hb⟩
    rintro a wx ⟨s7, hA, hs7, hb⟩
    have q3 : IntKind.i64.wrap (10000 + civY (t / 86400)) = 10000 + civY (t / 86400) := IntWalk.i64_in _ (by omega)
    have q4 : IntKind.i64.wrap ((t % 86400).tdiv 3600) = t % 86400 / 3600 := IntWalk.i64_quo _ _ (by omega)
    have q5 : (t % 86400).tmod 3600 = t % 86400 % 3600 := Int.tmod_eq_emod_of_nonneg (by omega)
    have q6 : IntKind.i64.wrap ((t % 3600).tdiv 60) = t % 3600 / 60 := IntWalk.i64_quo _ _ (by omega)
    have q7 : (t % 86400).tmod 60 = t % 86400 % 60 := Int.tmod_eq_emod_of_nonneg (by omega)
    refine wS ?_
    refine wp_any_at hA [(.det ?dA0), (.det (.string (s7 ++ ⟨#[45]⟩))), (.det ?dA2), (.used (fun v _ => ∃ s : ByteArray, v = .string s ∧ s.size ≤ 36)), (.used (fun v _ => ∃ s : ByteArray, v = .string s ∧ s.size ≤ 60)), (.used (fun v _ => ∃ s : ByteArray, v = .string s ∧ s.size ≤ 61)), (.det ?dA6), (.det ?dA7), (.det (.string ⟨(49 :: digL (civY (t / 86400)).toNat 4).toArray⟩)), (.det ?dA9), (.used (fun v _ => ∃ s : ByteArray, v = .string s ∧ s.size ≤ 70)), (.used (fun v _ => ∃ s : ByteArray, v = .string s ∧ s.size ≤ 71)), (.det ?dA12), (.det ?dA13), (.used (fun v _ => ∃ s : ByteArray, v = .string s ∧ s.size ≤ 10)), (.used (fun v _ => ∃ s : ByteArray, v = .string s ∧ s.size ≤ 90)), (.used (fun v _ => ∃ s : ByteArray, v = .string s ∧ s.size ≤ 91)), (.det ?dA17), (.det ?dA18), (.det ?dA19), (.used (fun v _ => ∃ s : ByteArray, v = .string s ∧ s.size ≤ 10)), (.used (fun v _ => ∃ s : ByteArray, v = .string s ∧ s.size ≤ 110)), (.used (fun v _ => ∃ s : ByteArray, v = .string s ∧ s.size ≤ 111)), (.det ?dA23), (.det ?dA24), (.used (fun v _ => ∃ s : ByteArray, v = .string s ∧ s.size ≤ 10)), (.used (fun v _ => ∃ s : ByteArray, v = .string s ∧ s.size ≤ 130)), (.held (fun v _ => ∃ s : ByteArray, v = .string s ∧ s.toList.isEmpty = false)), (.held (fun v _ => ∃ s : ByteArray, v = .string s ∧ s.toList.isEmpty = false))] [] (fun wy => Below w.heap.size w wy) (TSp [] Grows) (by kernel_rfl) rfl (by kernel_rfl) (by kernel_rfl) rfl (hb.drew) (stab_sp [] [true, true, true, false, false, false, true, true, true, true, false, false, true, true, false, false, false, true, true, true, false, false, false, true, true, false, false, false, false] [true, true, true, false, false, false, true, true, true, true, false, false, true, true, false, false, false, true, true, true, false, false, false, true, true, false, false, true, true] [] rfl rfl rfl (by kernel_rfl) ⟨trivial, trivial, trivial, (fun _ _ _ _ hp _ => hp), (fun _ _ _ _ hp _ => hp), (fun _ _ _ _ hp _ => hp), trivial, trivial, trivial, trivial, (fun _ _ _ _ hp _ => hp), (fun _ _ _ _ hp _ => hp), trivial, trivial, (fun _ _ _ _ hp _ => hp), (fun _ _ _ _ hp _ => hp), (fun _ _ _ _ hp _ => hp), trivial, trivial, trivial, (fun _ _ _ _ hp _ => hp), (fun _ _ _ _ hp _ => hp), (fun _ _ _ _ hp _ => hp), trivial, trivial, (fun _ _ _ _ hp _ => hp), (fun _ _ _ _ hp _ => hp), (fun _ _ _ _ hp _ => hp), (fun _ _ _ _ hp _ => hp), trivial⟩ trivial) (fun _ h => by cases h) (fun _ _ _ _ _ h => by cases h) (fun _ h => by cases h) ⟨?oA0, ?oA1, ?oA2, ?oA3, ?oA4, ?oA5, ?oA6, ?oA7, ?oA8, ?oA9, ?oA10, ?oA11, ?oA12, ?oA13, ?oA14, ?oA15, ?oA16, ?oA17, ?oA18, ?oA19, ?oA20, ?oA21, ?oA22, ?oA23, ?oA24, ?oA25, ?oA26, ?oA27, ?oA28, trivial⟩ (by kernel_rfl) ?fA
    case oA0 => intro ev wo hev hC hs hph; have x0 := se hA hs 7; exact od rfl rfl (by kernel_rfl) hC (TSp.of rfl (Grows.refl _)) (by simp [go_sem, x0] <;> rfl)
    case oA1 =>
      intro ev wo hev hC hs hph
      have e30 := sd hs 30 0
      exact ob_yes (wanted_none rfl) (does_value (by simp [go_sem, e30, hev.const]; omega) ⟨hC, TSp.of rfl (Grows.refl _), rfl, no_start (by kernel_rfl)⟩)
    case oA2 => intro ev wo hev hC hs hph; have x0 := se hA hs 4; exact od rfl rfl (by kernel_rfl) hC (TSp.of rfl (Grows.refl _)) (by simp [go_sem, x0] <;> rfl)
    case oA3 =>
      intro ev wo hev hC hs hph
      have e32 := sd hs 32 2
      exact ob_yes (wanted_none rfl) (does_enter (by simp [go_sem, e32, hev.func, hev.const]; try first | exact ⟨rfl, rfl⟩ | rfl) (Calls.mono (month_some (civM (t / 86400)) m0 m1 wo) (by
        rintro ev2 w3 ⟨s, rfl, hz, hb3⟩
        exact ⟨_, rfl, hC.trans (hb3.mono hC.size), TSp.of rfl hb3, ⟨s, rfl, hz⟩, no_start (by kernel_rfl)⟩)))
    case oA4 =>
      intro ev wo hev hC hs hph
      have e31 := sd hs 31 1
      have u33 := su hs 33 3
      obtain ⟨s33, f33, z33⟩ := u33
      exact ob_yes (wanted_none rfl) (does_value (by simp [go_sem, e31, f33, hev.const, digL_length]; rw [if_neg (by omega)]; try first | exact ⟨rfl, rfl⟩ | rfl) ⟨hC, TSp.of rfl (Grows.refl _), ⟨_, rfl, by rw [ByteArray.size_append]; rw [asize]; simp; omega⟩, no_start (by kernel_rfl)⟩)
    case oA5 =>
      intro ev wo hev hC hs hph
      have u34 := su hs 34 4
      obtain ⟨s34, f34, z34⟩ := u34
      exact ob_yes (wanted_none rfl) (does_value (by simp [go_sem, f34, hev.const, digL_length]; rw [if_neg (by omega)]; try first | exact ⟨rfl, rfl⟩ | rfl) ⟨hC, TSp.of rfl (Grows.refl _), ⟨_, rfl, by rw [asize]; simp; omega⟩, no_start (by kernel_rfl)⟩)
    case oA6 => intro ev wo hev hC hs hph; have x0 := se hA hs 3; exact od rfl rfl (by kernel_rfl) hC (TSp.of rfl (Grows.refl _)) (by simp [go_sem, x0] <;> rfl)
    case oA7 => intro ev wo hev hC hs hph; have x0 := sd hs 36 6; exact od rfl rfl (by kernel_rfl) hC (TSp.of rfl (Grows.refl _)) (by simp [go_sem, x0, hev.const, q3] <;> rfl)
    case oA8 =>
      intro ev wo hev hC hs hph
      have e37 := sd hs 37 7
      exact ob_yes (wanted_none rfl) (does_enter (by simp [go_sem, e37, hev.func, hev.const]; try first | exact ⟨rfl, rfl⟩ | rfl) (Calls.mono (five_int (civY (t / 86400)) (by omega) y1 wo (Ht wo hC)) (by
        rintro ev2 w3 ⟨rfl, hb3⟩
        exact ⟨_, rfl, hC.trans (hb3.mono hC.size), TSp.of rfl hb3, rfl, no_start (by kernel_rfl)⟩)))
    case oA9 => intro ev wo hev hC hs hph; have x0 := sd hs 38 8; exact od rfl rfl (by kernel_rfl) hC (TSp.of rfl (Grows.refl _)) (by simp [go_sem, x0, hev.const] <;> rfl)
    case oA10 =>
      intro ev wo hev hC hs hph
      have u35 := su hs 35 5
      have e39 := sd hs 39 9
      obtain ⟨s35, f35, z35⟩ := u35
      exact ob_yes (wanted_none rfl) (does_value (by simp [go_sem, f35, e39, hev.const, digL_length]; rw [if_neg (by omega)]; try first | exact ⟨rfl, rfl⟩ | rfl) ⟨hC, TSp.of rfl (Grows.refl _), ⟨_, rfl, by rw [ByteArray.size_append, ByteArray.size_extract]; omega⟩, no_start (by kernel_rfl)⟩)
    case oA11 =>
      intro ev wo hev hC hs hph
      have u40 := su hs 40 10
      obtain ⟨s40, f40, z40⟩ := u40
      exact ob_yes (wanted_none rfl) (does_value (by simp [go_sem, f40, hev.const, digL_length]; rw [if_neg (by omega)]; try first | exact ⟨rfl, rfl⟩ | rfl) ⟨hC, TSp.of rfl (Grows.refl _), ⟨_, rfl, by rw [asize]; simp; omega⟩, no_start (by kernel_rfl)⟩)
    case oA12 => intro ev wo hev hC hs hph; have x0 := se hA hs 6; exact od rfl rfl (by kernel_rfl) hC (TSp.of rfl (Grows.refl _)) (by simp [go_sem, x0] <;> rfl)
    case oA13 => intro ev wo hev hC hs hph; have x0 := sd hs 42 12; exact od rfl rfl (by kernel_rfl) hC (TSp.of rfl (Grows.refl _)) (by simp [go_sem, x0, hev.const, q4] <;> rfl)
    case oA14 =>
      intro ev wo hev hC hs hph
      have e43 := sd hs 43 13
      exact ob_yes (wanted_none rfl) (does_enter (by simp [go_sem, e43, hev.func, hev.const]; try first | exact ⟨rfl, rfl⟩ | rfl) (Calls.mono (two_some (t % 86400 / 3600) (by omega) (by omega) wo (Ht wo hC)) (by
        rintro ev2 w3 ⟨s, rfl, _, hz, hb3⟩
        exact ⟨_, rfl, hC.trans (hb3.mono hC.size), TSp.of rfl hb3, ⟨s, rfl, hz⟩, no_start (by kernel_rfl)⟩)))
    case oA15 =>
      intro ev wo hev hC hs hph
      have u41 := su hs 41 11
      have u44 := su hs 44 14
      obtain ⟨s41, f41, z41⟩ := u41
      obtain ⟨s44, f44, z44⟩ := u44
      exact ob_yes (wanted_none rfl) (does_value (by simp [go_sem, f41, f44, hev.const, digL_length]; rw [if_neg (by omega)]; try first | exact ⟨rfl, rfl⟩ | rfl) ⟨hC, TSp.of rfl (Grows.refl _), ⟨_, rfl, by rw [ByteArray.size_append]; omega⟩, no_start (by kernel_rfl)⟩)
    case oA16 =>
      intro ev wo hev hC hs hph
      have u45 := su hs 45 15
      obtain ⟨s45, f45, z45⟩ := u45
      exact ob_yes (wanted_none rfl) (does_value (by simp [go_sem, f45, hev.const, digL_length]; rw [if_neg (by omega)]; try first | exact ⟨rfl, rfl⟩ | rfl) ⟨hC, TSp.of rfl (Grows.refl _), ⟨_, rfl, by rw [asize]; simp; omega⟩, no_start (by kernel_rfl)⟩)
    case oA17 => intro ev wo hev hC hs hph; have x0 := se hA hs 6; exact od rfl rfl (by kernel_rfl) hC (TSp.of rfl (Grows.refl _)) (by simp [go_sem, x0] <;> rfl)
    case oA18 => intro ev wo hev hC hs hph; have x0 := sd hs 47 17; exact od rfl rfl (by kernel_rfl) hC (TSp.of rfl (Grows.refl _)) (by simp [go_sem, x0, hev.const, q5] <;> rfl)
    case oA19 => intro ev wo hev hC hs hph; have x0 := sd hs 48 18; exact od rfl rfl (by kernel_rfl) hC (TSp.of rfl (Grows.refl _)) (by simp [go_sem, x0, hev.const, q6] <;> rfl)
    case oA20 =>
      intro ev wo hev hC hs hph
      have e49 := sd hs 49 19
      exact ob_yes (wanted_none rfl) (does_enter (by simp [go_sem, e49, hev.func, hev.const]; try first | exact ⟨rfl, rfl⟩ | rfl) (Calls.mono (two_some (t % 3600 / 60) (by omega) (by omega) wo (Ht wo hC)) (by
        rintro ev2 w3 ⟨s, rfl, _, hz, hb3⟩
        exact ⟨_, rfl, hC.trans (hb3.mono hC.size), TSp.of rfl hb3, ⟨s, rfl, hz⟩, no_start (by kernel_rfl)⟩)))
    case oA21 =>
      intro ev wo hev hC hs hph
      have u46 := su hs 46 16
      have u50 := su hs 50 20
      obtain ⟨s46, f46, z46⟩ := u46
      obtain ⟨s50, f50, z50⟩ := u50
      exact ob_yes (wanted_none rfl) (does_value (by simp [go_sem, f46, f50, hev.const, digL_length]; rw [if_neg (by omega)]; try first | exact ⟨rfl, rfl⟩ | rfl) ⟨hC, TSp.of rfl (Grows.refl _), ⟨_, rfl, by rw [ByteArray.size_append]; omega⟩, no_start (by kernel_rfl)⟩)
    case oA22 =>
      intro ev wo hev hC hs hph
      have u51 := su hs 51 21
      obtain ⟨s51, f51, z51⟩ := u51
      exact ob_yes (wanted_none rfl) (does_value (by simp [go_sem, f51, hev.const, digL_length]; rw [if_neg (by omega)]; try first | exact ⟨rfl, rfl⟩ | rfl) ⟨hC, TSp.of rfl (Grows.refl _), ⟨_, rfl, by rw [asize]; simp; omega⟩, no_start (by kernel_rfl)⟩)
    case oA23 => intro ev wo hev hC hs hph; have x0 := se hA hs 6; exact od rfl rfl (by kernel_rfl) hC (TSp.of rfl (Grows.refl _)) (by simp [go_sem, x0] <;> rfl)
    case oA24 => intro ev wo hev hC hs hph; have x0 := sd hs 53 23; exact od rfl rfl (by kernel_rfl) hC (TSp.of rfl (Grows.refl _)) (by simp [go_sem, x0, hev.const, q7] <;> rfl)
    case oA25 =>
      intro ev wo hev hC hs hph
      have e54 := sd hs 54 24
      exact ob_yes (wanted_none rfl) (does_enter (by simp [go_sem, e54, hev.func, hev.const]; try first | exact ⟨rfl, rfl⟩ | rfl) (Calls.mono (two_some (t % 86400 % 60) (by omega) (by omega) wo (Ht wo hC)) (by
        rintro ev2 w3 ⟨s, rfl, _, hz, hb3⟩
        exact ⟨_, rfl, hC.trans (hb3.mono hC.size), TSp.of rfl hb3, ⟨s, rfl, hz⟩, no_start (by kernel_rfl)⟩)))
    case oA26 =>
      intro ev wo hev hC hs hph
      have u52 := su hs 52 22
      have u55 := su hs 55 25
      obtain ⟨s52, f52, z52⟩ := u52
      obtain ⟨s55, f55, z55⟩ := u55
      exact ob_yes (wanted_none rfl) (does_value (by simp [go_sem, f52, f55, hev.const, digL_length]; rw [if_neg (by omega)]; try first | exact ⟨rfl, rfl⟩ | rfl) ⟨hC, TSp.of rfl (Grows.refl _), ⟨_, rfl, by rw [ByteArray.size_append]; omega⟩, no_start (by kernel_rfl)⟩)
    case oA27 =>
      intro ev wo hev hC hs hph
      have u56 := su hs 56 26
      obtain ⟨s56, f56, z56⟩ := u56
      exact ob_yes (wanted_none rfl) (does_value (v := .string (s56 ++ ⟨#[32, 43, 48, 48, 48, 48]⟩)) (by simp [go_sem, f56, hev.const]; omega) ⟨hC, TSp.of rfl (Grows.refl _), ⟨_, rfl, app_ne _ _ _⟩, no_start (by kernel_rfl)⟩)
    case oA28 =>
      intro ev wo hev hC hs hph
      have u57 := sh hs 57 27
      exact ob_yes (wanted_none rfl) (does_value (v := ev (.tmp 57)) (by simp [go_sem]) ⟨hC, TSp.of rfl (Grows.refl _), u57, no_start (by kernel_rfl)⟩)
    intro sg wf hC hph
    intro x33 hx33
    intro x34 hx34
    intro x35 hx35
    intro x40 hx40
    intro x41 hx41
    intro x44 hx44
    intro x45 hx45
    intro x46 hx46
    intro x50 hx50
    intro x51 hx51
    intro x52 hx52
    intro x55 hx55
    intro x56 hx56
    intro x57 hx57 h57
    intro x2 hx2 h2
    intro a hA
    replace hA := hA.keepN [2]
    refine nT (wp_ret ?_)
    refine ret_1 hA 2 rfl rfl ?_
    obtain ⟨s, rfl, hs⟩ := h2
    refine ⟨s, rfl, ?_, hC⟩
    rw [hs]
    unfold dateOk
    simp
    omega
end Go.Proofs.YtmjikfeaopmejaaGreatDoor
/-
  Messages: what they are in memory; which may be.
-/
namespace Go.Proofs.YtmjikfeaopmejaaGreatDoor
open Go.RowKit
set_option linter.unusedSimpArgs false
set_option linter.unusedVariables false
structure MsgV where
  uid : Nat
  date : Int
  flags : Int
  a : Option Addr
  c : Nat
  b : List UInt8
def msgC (m : MsgV) : List Value := [.int .u32 (m.uid : Nat), .int .i64 m.date, .int .i64 m.flags, .slice m.a m.b.length m.c]
theorem msgC_len (m : MsgV) : (msgC m).length = 4 := rfl
/-- messages whose octets read -/
structure Msgs (w : World) (A : Option Addr) (n : Nat) (l : List MsgV) : Prop where
  len : l.length = n
  row : Reads w w.heap.size 4 A n (l.flatMap msgC)
  octs : ∀ m ∈ l, Reads w w.heap.size 1 m.a m.b.length (u8s m.b)
  uids : ∀ m ∈ l, m.uid < 4294967296
  caps : ∀ m ∈ l, m.b.length ≤ m.c ∧ m.c ≤ 9223372036854775807
theorem Msgs.below {w w' : World} {A : Option Addr} {n : Nat} {l : List MsgV} (h : Msgs w A n l) (hb : Below w.heap.size w w') : Msgs w' A n l :=
  ⟨h.len, (h.row.below hb).more hb.size, fun m hm => ((h.octs m hm).below hb).more hb.size, h.uids, h.caps⟩
theorem Msgs.at_ {w : World} {A : Option Addr} {n i : Nat} {l : List MsgV} {m : MsgV} (h : Msgs w A n l) (hm : l[i]? = some m) : ∃ ad, A = some ad ∧ (ad.add (i * 4)).block < w.heap.size ∧
    w.cell? (ad.add (i * 4)) = some (.int .u32 (m.uid : Nat)) ∧ w.cell? ⟨(ad.add (i * 4)).block, (ad.add (i * 4)).off + 1, none⟩ = some (.int .i64 m.date) ∧ w.cell? ⟨(ad.add (i * 4)).block, (ad.add (i * 4)).off + 2, none⟩ = some (.int .i64 m.flags) ∧ w.cell? ⟨(ad.add (i * 4)).block, (ad.add (i * 4)).off + 3, none⟩ = some (.slice m.a m.b.length m.c) := by
  have hlt := (List.getElem?_eq_some_iff.1 hm).1
  have := h.len
  obtain ⟨ad, e, hb, h0, hj⟩ := rowK_at msgC_len h.row (by omega) hm
  exact ⟨ad, e, by rw [block_of_add]; exact hb, h0 _ rfl, hj 1 _ (by omega) rfl, hj 2 _ (by omega) rfl, hj 3 _ (by omega) rfl⟩
/-- a mailbox's cells -/
def boxC (nm : ByteArray) (e nx : Nat) (A : Option Addr) (n c : Nat) : Array Value := #[.string nm, .int .u32 (e : Nat), .int .u32 (nx : Nat), .slice A n c]
/-- may a time and flags be? -/
def fitsDF (d f : Int) : Bool := dateOk d && decide (0 ≤ f) && decide (f ≤ 31)
def fitsV (m : MsgV) : Bool := fitsDF m.date m.flags
def lastU (l : List MsgV) : Nat → Nat
  | 0 => 0
  | j + 1 => match l[j]? with | some y => y.uid | none => 0
theorem lastU_succ {l : List MsgV} {j : Nat} {x : MsgV} (hx : l[j]? = some x) : lastU l (j + 1) = x.uid := by
  show (match l[j]? with | some y => y.uid | none => 0) = _
  rw [hx]
/-- is a message right where it stands? -/
def msgStep (nx : Nat) (l : List MsgV) (j : Nat) (m : MsgV) : Bool := decide (lastU l j < m.uid) && decide (m.uid < nx) && fitsV m && decide (m.b.length ≤ 20000)
def msgAt (nx : Nat) (l : List MsgV) (j : Nat) : Bool := match l[j]? with | some m => msgStep nx l j m | none => true
def msgsN (nx : Nat) (l : List MsgV) (j : Nat) : Bool := (List.range j).all (msgAt nx l)
theorem msgsN_succ {nx : Nat} {l : List MsgV} {j : Nat} {x : MsgV} (hx : l[j]? = some x) : msgsN nx l (j + 1) = (msgsN nx l j && msgStep nx l j x) := by
  unfold msgsN
  rw [List.range_succ, List.all_append]
  simp [msgAt, hx]
theorem msgs_no {nx : Nat} {l : List MsgV} {j : Nat} {x : MsgV} (hx : l[j]? = some x) (h : msgStep nx l j x = false) : msgsN nx l l.length = false := by
  unfold msgsN
  rw [List.all_eq_false]
  exact ⟨j, List.mem_range.2 (List.getElem?_eq_some_iff.1 hx).1, by unfold msgAt; rw [hx]; simp only [h]; simp⟩
theorem msgs_at {nx : Nat} {l : List MsgV} {j : Nat} {x : MsgV} (hx : l[j]? = some x) (h : msgsN nx l l.length = true) : msgStep nx l j x = true := by
  cases hs : msgStep nx l j x with
  | true => rfl
  | false => rw [msgs_no hx hs] at h; cases h
/-- is a mailbox right? -/
def boxRight (nm : ByteArray) (e nx : Nat) (l : List MsgV) : Bool := nameIs nm && decide (1 ≤ e) && decide (1 ≤ nx) && decide (l.length ≤ 500) && msgsN nx l l.length
end Go.Proofs.YtmjikfeaopmejaaGreatDoor
/-
  Notes: what they are; walks: which are formed, by both sides.
-/
namespace Go.Proofs.YtmjikfeaopmejaaGreatDoor
open Go.RowKit
set_option linter.unusedSimpArgs false
set_option linter.unusedVariables false
section
variable {P : Program} {Q : Exit → Act → World → Prop} {a : Act} {w : World} {n : Nat} {Γ : Env} {l rest : List Oper} {o : Oper} {t : Nat} {b : Bool}
/-- a guarded call that answers with some text and makes memory alone -/
theorem wl_gcalls {gi gt : Nat} {f : FuncId} {args : Array Value} {R : ByteArray → Prop} (q : Bool) (hA : At n Γ a) (hg : o.guard = some (gi, b)) (hgd : (l[gi]?).bind (·.dst) = some gt) (hl : look Γ gt = some (.bool q)) (hd : o.dst = some t) (ht : t < n)
    (hrun : q = b → ∀ ev, EvIn Γ ev → (execOp ev o).run P w = .ok (.enter f args) w) (hc : q = b → Calls P f args w fun e w' => ∃ s, e = .returned (.string s) ∧ R s ∧ Below w.heap.size w w')
    (hk : ∀ (s : ByteArray) a' w', (q = b → R s) → Below w.heap.size w w' → At n ((t, gv q b (.string s)) :: Γ) a' → wpList P l.toArray Q rest a' w') : wpList P l.toArray Q (o :: rest) a w := by
  refine wl_gcall q hA hg hgd hl hd ht hrun hc (fun v w' => (∃ s, v = .string s ∧ (q = b → R s) ∧ Below w.heap.size w w') ∨ (q ≠ b ∧ Below w.heap.size w w')) (fun _ e w' ⟨s, h1, h2, h3⟩ => ⟨_, h1, .inl ⟨s, rfl, fun _ => h2, h3⟩⟩) (fun h => .inr ⟨h, Below.refl _ _⟩) ?_
  rintro v a' w' (⟨s, rfl, h2, h3⟩ | ⟨h2, h3⟩) hA'
  · exact hk s a' w' h2 h3 hA'
  · refine hk ⟨#[]⟩ a' w' (fun e => absurd e h2) h3 ?_
    have e : gv q b v = gv q b (.string ⟨#[]⟩) := by
      have : (q == b) = false := by simpa using h2
      unfold gv gw
      rw [this]
      rfl
    rw [← e]
    exact hA'
end
structure NoteV where
  kind : Int
  ep : Nat
  nm : ByteArray
  m : MsgV
def noteC (k : Int) (e : Nat) (nm : ByteArray) (m : MsgV) : Array Value := #[.int .i64 k, .int .u32 (e : Nat), .string nm, .int .u32 (m.uid : Nat), .int .i64 m.date, .int .i64 m.flags, .slice m.a m.b.length m.c]
def bareV (d f : Int) (n : Nat) : Bool := d == 0 && f == 0 && (n : Int) == 0
def fullV (m : MsgV) : Bool := decide (1 ≤ m.uid) && (fitsDF m.date m.flags && decide (m.b.length ≤ 20000))
/-- may a note be? -/
def formedV (k : Int) (e : Nat) (nm : ByteArray) (m : MsgV) : Bool := decide (1 ≤ e) && (bif k == 1 then nameIs nm && bareV m.date m.flags m.b.length && m.uid == 0 else bif k == 2 then nameIs nm && fullV m else k == 3 && nm.toList.isEmpty && bareV m.date m.flags m.b.length && decide (1 ≤ m.uid))
theorem le1 (u : Nat) : decide ((1 : Int) ≤ (u : Int)) = decide (1 ≤ u) := by rw [Bool.eq_iff_iff]; simp; omega
theorem eq0 (u : Nat) : ((u : Int) == 0) = (u == 0) := by rw [Bool.eq_iff_iff]; simp
theorem le20000 (n : Nat) : decide ((n : Int) ≤ 20000) = decide (n ≤ 20000) := by rw [Bool.eq_iff_iff]; simp; omega
theorem formed_0 {k : Int} {e : Nat} (nm : ByteArray) (m : MsgV) (h : decide ((e : Int) < 1) = true) : formedV k e nm m = false := by
  have : ¬ 1 ≤ e := by simp at h; omega
  unfold formedV
  simp [this]
theorem formed_1 {k : Int} {e : Nat} (nm : ByteArray) (m : MsgV) (h : decide ((e : Int) < 1) = false) (h1 : (k == 1) = true) : formedV k e nm m = (nameIs nm && bareV m.date m.flags m.b.length && (m.uid : Int) == 0) := by
  have : 1 ≤ e := by simp at h; omega
  unfold formedV
  rw [h1, eq0]
  simp [this]
theorem formed_2 {k : Int} {e : Nat} (nm : ByteArray) (m : MsgV) (h : decide ((e : Int) < 1) = false) (h1 : (k == 1) = false) (h2 : (k == 2) = true) : formedV k e nm m = (nameIs nm && fullV m) := by
  have : 1 ≤ e := by simp at h; omega
  unfold formedV
  rw [h1, h2]
  simp [this]
theorem formed_3 {k : Int} {e : Nat} (nm : ByteArray) (m : MsgV) (h : decide ((e : Int) < 1) = false) (h1 : (k == 1) = false) (h2 : (k == 2) = false) : formedV k e nm m = (k == 3 && nm.toList.isEmpty && bareV m.date m.flags m.b.length && decide ((1 : Int) ≤ (m.uid : Int))) := by
  have : 1 ≤ e := by simp at h; omega
  unfold formedV
  rw [h1, h2, le1]
  simp [this]
theorem bNamed_any (s : ByteArray) (hs : s.size ≤ 9223372036854775807) (w : World) (hm : MaxCell w) :
    Calls Tryz.prog 36 #[.string s] w fun ev w' => ev = .returned (.bool (nameIs s)) ∧ Below w.heap.size w w' := by
  obtain ⟨mx, hmx⟩ := hm
  refine calls_at 16 Tryz.func36 rfl rfl (Nat.le_of_ble_eq_true rfl) ?_
  intro a hA; replace hA := hA.norm
  refine wS (wR ?_)
  revert a; refine wo rfl rfl (by decide) (fun ev e h => by simp [go_sem, h] <;> rfl) ?_; intro a hA
  replace hA := hA.keepN [0]
  refine wN (nT (wS (wR ?_)))
  revert a; refine wo rfl rfl (by decide) (fun ev e h => by simp [go_sem, h] <;> rfl) ?_; intro a hA
  refine wl_call hA rfl rfl (by decide) (fun ev h => exec_call Tryz.func62 (by kernel_rfl) rfl (h.f _) (by first | (simp only [mL, h.get 6 rfl, h.c] <;> rfl) | (simp [mL, h.get 6 rfl, h.c] <;> rfl))) (norm_all s mx _ hs hmx) ?_
  rintro e w1 ⟨rfl, hb⟩
  refine ⟨_, rfl, fun a hA => ?_⟩
  revert a; (iterate 5 refine wo rfl rfl (by decide) (fun ev e h => by simp [go_sem, h] <;> rfl) ?_); intro a hA
  replace hA := hA.keepN [0, 3, 4]
  refine wN (nT (wS (wR ?_)))
  revert a; (iterate 2 refine wo rfl rfl (by decide) (fun ev e h => by simp [go_sem, h] <;> rfl) ?_); (iterate 3 refine wg _ rfl rfl rfl rfl (by decide) (fun hq ev e h => by simp [go_sem, h, ↓gw_t (beq_t hq)] <;> rfl) ?_); refine wka rfl rfl (by decide) rfl rfl rfl ?_; refine wo rfl rfl (by decide) (fun ev e h => by simp [go_sem, h] <;> rfl) ?_; intro a hA
  replace hA := hA.keepN [2]
  refine wN (nT (wp_ret ?_))
  refine ret_1 hA 2 rfl rfl ?_
  exact ⟨ret_bool (by unfold nameIs; rfl), hb⟩
theorem bare_any (u d f : Int) (A : Option Addr) (n c : Nat) (w : World) :
    Calls Tryz.prog 37 #[.agg #[.int .u32 u, .int .i64 d, .int .i64 f, .slice A n c]] w fun ev w' => ev = .returned (.bool (bareV d f n)) ∧ Below w.heap.size w w' := by
  refine calls_at 17 Tryz.func37 rfl rfl (Nat.le_of_ble_eq_true rfl) ?_
  intro a hA; replace hA := hA.norm
  refine wS (wR ?_)
  refine wl_new hA rfl rfl (by decide) (fun ev h => by simp [go_sem, h.get 0 rfl]; try first | exact ⟨rfl, rfl⟩ | rfl) fun w1 a (K : Blk _ _ _ _) hz hb hA => ?_
  revert a; refine wo rfl rfl (by decide) (fun ev e h => by simp [go_sem, h, K.cell] <;> rfl) ?_; intro a hA
  replace hA := hA.keepN [1]
  refine wN (nT (wS (wR ?_)))
  revert a; (iterate 4 refine wo rfl rfl (by decide) (fun ev e h => by simp [go_sem, h, K.cell] <;> rfl) ?_); (iterate 3 refine wg _ rfl rfl rfl rfl (by decide) (fun hq ev e h => by simp [go_sem, h, ↓gw_t (beq_t hq), K.cell] <;> rfl) ?_); refine wka rfl rfl (by decide) rfl rfl rfl ?_; refine wo rfl rfl (by decide) (fun ev e h => by simp [go_sem, h, K.cell] <;> rfl) ?_; refine wg _ rfl rfl rfl rfl (by decide) (fun hq ev e h => by simp [go_sem, h, ↓gw_t (beq_t hq), K.cell] <;> rfl) ?_; intro a hA
  replace hA := hA.keepN [11, 12]
  revert a; (iterate 3 refine wg _ rfl rfl rfl rfl (by decide) (fun hq ev e h => by simp [go_sem, h, ↓gw_t (beq_t hq), K.cell] <;> rfl) ?_); refine wka rfl rfl (by decide) rfl rfl rfl ?_; refine wo rfl rfl (by decide) (fun ev e h => by simp [go_sem, h, K.cell] <;> rfl) ?_; intro a hA
  replace hA := hA.keepN [2]
  refine wN (nT (wp_ret ?_))
  refine ret_1 hA 2 rfl rfl ?_
  exact ⟨rfl, hb⟩
theorem full_eq (m : MsgV) (s : ByteArray) (hs : decide ((1 : Int) ≤ (m.uid : Int)) = true → s.toList.isEmpty = !dateOk m.date) : (decide ((1 : Int) ≤ (m.uid : Int)) && !s.toList.isEmpty && decide (0 ≤ m.flags) && decide (m.flags ≤ 31) && decide ((m.b.length : Int) ≤ 20000)) = fullV m := by
  unfold fullV fitsDF
  rw [le20000]
  rw [le1] at *
  cases hu : decide (1 ≤ m.uid) with
  | false => simp
  | true => rw [hs hu]; simp [Bool.and_assoc]
theorem rightMsg_any (m : MsgV) (w : World) (htab : Lib.TabIs Tryz.prog w "internal/strconv.uint64pow10" .u64 Lib.pow10Tab) :
    Calls Tryz.prog 38 #[.agg #[.int .u32 (m.uid : Nat), .int .i64 m.date, .int .i64 m.flags, .slice m.a m.b.length m.c]] w fun ev w' => ev = .returned (.bool (fullV m)) ∧ Below w.heap.size w w' := by
  have Ht := Lib.tabBelow_of_tabIs htab
  refine calls_at 28 Tryz.func38 rfl rfl (Nat.le_of_ble_eq_true rfl) ?_
  intro a hA; replace hA := hA.norm
  refine wS (wR ?_)
  refine wl_new hA rfl rfl (by decide) (fun ev h => by simp [go_sem, h.get 0 rfl]; try first | exact ⟨rfl, rfl⟩ | rfl) fun w1 a (K : Blk _ _ _ _) hz hb hA => ?_
  revert a; refine wo rfl rfl (by decide) (fun ev e h => by simp [go_sem, h, K.cell] <;> rfl) ?_; intro a hA
  replace hA := hA.keepN [1]
  refine wN (nT (wS (wR ?_)))
  revert a; (iterate 4 refine wo rfl rfl (by decide) (fun ev e h => by simp [go_sem, h, K.cell] <;> rfl) ?_); (iterate 2 refine wg _ rfl rfl rfl rfl (by decide) (fun hq ev e h => by simp [go_sem, h, ↓gw_t (beq_t hq), K.cell] <;> rfl) ?_); intro a hA
  refine wl_gcalls _ hA rfl rfl rfl rfl (by decide) (fun hq ev h => exec_call Tryz.func63 (by kernel_rfl) rfl (h.f _) (by first | (simp only [mL, ((h.get 8 rfl).trans (gw_t (beq_t hq))), h.c] <;> rfl) | (simp [mL, ((h.get 8 rfl).trans (gw_t (beq_t hq))), h.c, K.cell] <;> rfl))) (fun hq => print_some m.date _ (Ht _ hb)) fun s a w2 hs hb2 hA => ?_
  replace K := K.below hb2 K.lt
  revert a; refine wg _ rfl rfl rfl rfl (by decide) (fun hq ev e h => by simp [go_sem, h, ↓gw_t (beq_t hq), K.cell] <;> rfl) ?_; refine wka rfl rfl (by decide) rfl rfl rfl ?_; refine wo rfl rfl (by decide) (fun ev e h => by simp [go_sem, h, K.cell] <;> rfl) ?_; refine wg _ rfl rfl rfl rfl (by decide) (fun hq ev e h => by simp [go_sem, h, ↓gw_t (beq_t hq), K.cell] <;> rfl) ?_; intro a hA
  replace hA := hA.keepN [1, 12, 13]
  revert a; (iterate 2 refine wg _ rfl rfl rfl rfl (by decide) (fun hq ev e h => by simp [go_sem, h, ↓gw_t (beq_t hq), K.cell] <;> rfl) ?_); refine wka rfl rfl (by decide) rfl rfl rfl ?_; refine wo rfl rfl (by decide) (fun ev e h => by simp [go_sem, h, K.cell] <;> rfl) ?_; (iterate 3 refine wg _ rfl rfl rfl rfl (by decide) (fun hq ev e h => by simp [go_sem, h, ↓gw_t (beq_t hq), K.cell] <;> rfl) ?_); refine wka rfl rfl (by decide) rfl rfl rfl ?_; refine wo rfl rfl (by decide) (fun ev e h => by simp [go_sem, h, K.cell] <;> rfl) ?_; refine wg _ rfl rfl rfl rfl (by decide) (fun hq ev e h => by simp [go_sem, h, ↓gw_t (beq_t hq), K.cell] <;> rfl) ?_; intro a hA
  replace hA := hA.keepN [22, 23]
  revert a; (iterate 3 refine wg _ rfl rfl rfl rfl (by decide) (fun hq ev e h => by simp [go_sem, h, ↓gw_t (beq_t hq), K.cell] <;> rfl) ?_); refine wka rfl rfl (by decide) rfl rfl rfl ?_; refine wo rfl rfl (by decide) (fun ev e h => by simp [go_sem, h, K.cell] <;> rfl) ?_; intro a hA
  replace hA := hA.keepN [2]
  refine wN (nT (wp_ret ?_))
  refine ret_1 hA 2 rfl rfl ?_
  exact ⟨ret_bool (full_eq m s hs), hb.trans (hb2.mono hb.size)⟩
theorem refFits_any (u d f : Int) (A : Option Addr) (n c : Nat) (w : World) :
    Calls Tryz.prog 28 #[.agg #[.int .u32 u, .int .i64 d, .int .i64 f, .slice A n c]] w fun e w' => e = .returned (.bool (fitsDF d f && decide (n ≤ 20000))) ∧ Below w.heap.size w w' := by
  refine calls_at 27 Tryz.func28 rfl rfl (Nat.le_of_ble_eq_true rfl) ?_
  intro a hA; replace hA := hA.norm
  refine wS (wR ?_)
  refine wl_new hA rfl rfl (by decide) (fun ev h => by simp [go_sem, h.get 0 rfl]; try first | exact ⟨rfl, rfl⟩ | rfl) fun w1 a (K : Blk _ _ _ _) hz hb hA => ?_
  revert a; refine wo rfl rfl (by decide) (fun ev e h => by simp [go_sem, h, K.cell] <;> rfl) ?_; intro a hA
  replace hA := hA.keepN [1]
  refine wN (nT (wS (wR ?_)))
  revert a; (iterate 4 refine wo rfl rfl (by decide) (fun ev e h => by simp [go_sem, h, K.cell] <;> rfl) ?_); (iterate 3 refine wg _ rfl rfl rfl rfl (by decide) (fun hq ev e h => by simp [go_sem, h, ↓gw_t (beq_t hq), K.cell] <;> rfl) ?_); refine wka rfl rfl (by decide) rfl rfl rfl ?_; refine wo rfl rfl (by decide) (fun ev e h => by simp [go_sem, h, K.cell] <;> rfl) ?_; refine wg _ rfl rfl rfl rfl (by decide) (fun hq ev e h => by simp [go_sem, h, ↓gw_t (beq_t hq), K.cell] <;> rfl) ?_; intro a hA
  replace hA := hA.keepN [1, 11, 12]
  revert a; (iterate 2 refine wg _ rfl rfl rfl rfl (by decide) (fun hq ev e h => by simp [go_sem, h, ↓gw_t (beq_t hq), K.cell] <;> rfl) ?_); refine wka rfl rfl (by decide) rfl rfl rfl ?_; refine wo rfl rfl (by decide) (fun ev e h => by simp [go_sem, h, K.cell] <;> rfl) ?_; (iterate 3 refine wg _ rfl rfl rfl rfl (by decide) (fun hq ev e h => by simp [go_sem, h, ↓gw_t (beq_t hq), K.cell] <;> rfl) ?_); refine wka rfl rfl (by decide) rfl rfl rfl ?_; refine wo rfl rfl (by decide) (fun ev e h => by simp [go_sem, h, K.cell] <;> rfl) ?_; refine wg _ rfl rfl rfl rfl (by decide) (fun hq ev e h => by simp [go_sem, h, ↓gw_t (beq_t hq), K.cell] <;> rfl) ?_; intro a hA
  replace hA := hA.keepN [21, 22]
  revert a; (iterate 3 refine wg _ rfl rfl rfl rfl (by decide) (fun hq ev e h => by simp [go_sem, h, ↓gw_t (beq_t hq), K.cell] <;> rfl) ?_); refine wka rfl rfl (by decide) rfl rfl rfl ?_; refine wo rfl rfl (by decide) (fun ev e h => by simp [go_sem, h, K.cell] <;> rfl) ?_; intro a hA
  replace hA := hA.keepN [2]
  refine wN (nT (wp_ret ?_))
  refine ret_1 hA 2 rfl rfl ?_
  refine ⟨ret_bool ?_, hb⟩
  unfold fitsDF dateOk
  rw [show decide (f ≤ 31) = decide (f < 32) by rw [Bool.eq_iff_iff]; simp; omega, show decide (n ≤ 20000) = decide ((n : Int) ≤ 20000) by rw [Bool.eq_iff_iff]; simp; omega]
set_option maxRecDepth 100000 in
set_option maxHeartbeats 1000000 in
theorem formed_any (k : Int) (e : Nat) (nm : ByteArray) (m : MsgV) (w : World) (hm : MaxCell w) (hg : 0 < w.heap.size) (htab : Lib.TabIs Tryz.prog w "internal/strconv.uint64pow10" .u64 Lib.pow10Tab) (hs : nm.size ≤ 9223372036854775807) :
    Calls Tryz.prog 13 #[.agg (noteC k e nm m)] w fun ev w' => ev = .returned (.bool (formedV k e nm m)) ∧ Below w.heap.size w w' := by
  have Ht := Lib.tabBelow_of_tabIs htab
  have hm0 := fun (w' : World) (hb : Below w.heap.size w w') => hm.below hg hb
  refine calls_at 56 Tryz.func13 rfl rfl (Nat.le_of_ble_eq_true rfl) ?_
  intro a hA; replace hA := hA.norm
  refine wS (wR ?_)
  refine wl_new hA rfl rfl (by decide) (fun ev h => by simp [go_sem, h.get 0 rfl]; try first | exact ⟨rfl, rfl⟩ | rfl) fun w1 a (K : Blk _ _ _ _) hz hb0 hA => ?_
  unfold noteC at K
  revert a; refine wo rfl rfl (by decide) (fun ev e h => by simp [go_sem, h, K.cell] <;> rfl) ?_; intro a hA
  replace hA := hA.keepN [1]
  refine wN (nT (wS (wB (wS (wR ?_)))))
  revert a; (iterate 4 refine wo rfl rfl (by decide) (fun ev e h => by simp [go_sem, h, K.cell] <;> rfl) ?_); intro a hA
  replace hA := hA.keepN [1, 3]
  refine wN (nT ?_)
  refine wp_if hA 3 _ rfl (fun hq => ?yA) (fun hq => ?nA)
  case yA =>
    refine wS (wR ?_)
    revert a; refine wo rfl rfl (by decide) (fun ev e h => by simp [go_sem, h, K.cell] <;> rfl) ?_; intro a hA
    replace hA := hA.keepN [2]
    refine wN (nT (wp_ret (rB (rT ?_))))
    refine ret_1 hA 2 rfl rfl ?_
    exact ⟨ret_bool ((formed_0 nm m hq).symm), hb0⟩
  case nA =>
    refine wS (wR ?_)
    revert a; (iterate 4 refine wo rfl rfl (by decide) (fun ev e h => by simp [go_sem, h, K.cell] <;> rfl) ?_); intro a hA
    replace hA := hA.keepN [1, 7]
    refine wN (nT ?_)
    refine wp_if hA 7 _ rfl (fun hq1 => ?yB) (fun hq1 => ?nB)
    case yB =>
      refine wS (wR ?_)
      revert a; (iterate 2 refine wo rfl rfl (by decide) (fun ev e h => by simp [go_sem, h, K.cell] <;> rfl) ?_); intro a hA
      refine wl_call hA rfl rfl (by decide) (fun ev h => exec_call Tryz.func36 (by kernel_rfl) rfl (h.f _) (by first | (simp only [mL, h.get 12 rfl, h.c] <;> rfl) | (simp [mL, h.get 12 rfl, h.c, K.cell] <;> rfl))) (bNamed_any nm hs _ (hm0 _ hb0)) ?_
      rintro e w2 ⟨rfl, hb⟩
      refine ⟨_, rfl, fun a hA => ?_⟩
      replace K := K.below hb K.lt
      revert a; refine wo rfl rfl (by decide) (fun ev e h => by simp [go_sem, h, K.cell] <;> rfl) ?_; (iterate 2 refine wg _ rfl rfl rfl rfl (by decide) (fun hq ev e h => by simp [go_sem, h, ↓gw_t (beq_t hq), K.cell] <;> rfl) ?_); intro a hA
      refine wl_gcallv _ hA rfl rfl rfl rfl (by decide) (fun hq ev h => exec_call Tryz.func37 (by kernel_rfl) rfl (h.f _) (by first | (simp only [mL, ((h.get 16 rfl).trans (gw_t (beq_t hq))), h.c] <;> rfl) | (simp [mL, ((h.get 16 rfl).trans (gw_t (beq_t hq))), h.c, K.cell] <;> rfl))) (fun hq => bare_any (m.uid : Nat) m.date m.flags m.a m.b.length m.c _) fun a w3 hb3 hA => ?_
      replace K := K.below hb3 K.lt
      revert a; refine wka rfl rfl (by decide) rfl rfl rfl ?_; refine wo rfl rfl (by decide) (fun ev e h => by simp [go_sem, h, K.cell] <;> rfl) ?_; (iterate 3 refine wg _ rfl rfl rfl rfl (by decide) (fun hq ev e h => by simp [go_sem, h, ↓gw_t (beq_t hq), K.cell] <;> rfl) ?_); intro a hA
      replace hA := hA.keepN [19, 22]
      revert a; refine wg _ rfl rfl rfl rfl (by decide) (fun hq ev e h => by simp [go_sem, h, ↓gw_t (beq_t hq), K.cell] <;> rfl) ?_; refine wka rfl rfl (by decide) rfl rfl rfl ?_; refine wo rfl rfl (by decide) (fun ev e h => by simp [go_sem, h, K.cell] <;> rfl) ?_; intro a hA
      replace hA := hA.keepN [2]
      refine wN (nT (wp_ret (rB (rT ?_))))
      refine ret_1 hA 2 rfl rfl ?_
      exact ⟨ret_bool ((formed_1 nm m hq hq1).symm), (hb0.trans (hb.mono hb0.size)).trans (hb3.mono (Nat.le_trans hb0.size hb.size))⟩
    case nB =>
      refine wS (wR ?_)
      revert a; (iterate 4 refine wo rfl rfl (by decide) (fun ev e h => by simp [go_sem, h, K.cell] <;> rfl) ?_); intro a hA
      replace hA := hA.keepN [1, 25]
      refine wN (nT ?_)
      refine wp_if hA 25 _ rfl (fun hq2 => ?yC) (fun hq2 => ?nC)
      case yC =>
        refine wS (wR ?_)
        revert a; (iterate 2 refine wo rfl rfl (by decide) (fun ev e h => by simp [go_sem, h, K.cell] <;> rfl) ?_); intro a hA
        refine wl_call hA rfl rfl (by decide) (fun ev h => exec_call Tryz.func36 (by kernel_rfl) rfl (h.f _) (by first | (simp only [mL, h.get 30 rfl, h.c] <;> rfl) | (simp [mL, h.get 30 rfl, h.c, K.cell] <;> rfl))) (bNamed_any nm hs _ (hm0 _ hb0)) ?_
        rintro e w2 ⟨rfl, hb⟩
        refine ⟨_, rfl, fun a hA => ?_⟩
        replace K := K.below hb K.lt
        revert a; refine wo rfl rfl (by decide) (fun ev e h => by simp [go_sem, h, K.cell] <;> rfl) ?_; (iterate 2 refine wg _ rfl rfl rfl rfl (by decide) (fun hq ev e h => by simp [go_sem, h, ↓gw_t (beq_t hq), K.cell] <;> rfl) ?_); intro a hA
        refine wl_gcallv _ hA rfl rfl rfl rfl (by decide) (fun hq ev h => exec_call Tryz.func38 (by kernel_rfl) rfl (h.f _) (by first | (simp only [mL, ((h.get 34 rfl).trans (gw_t (beq_t hq))), h.c] <;> rfl) | (simp [mL, ((h.get 34 rfl).trans (gw_t (beq_t hq))), h.c, K.cell] <;> rfl))) (fun hq => rightMsg_any m _ (Ht _ (hb0.trans (hb.mono hb0.size)))) fun a w3 hb3 hA => ?_
        replace K := K.below hb3 K.lt
        revert a; refine wka rfl rfl (by decide) rfl rfl rfl ?_; refine wo rfl rfl (by decide) (fun ev e h => by simp [go_sem, h, K.cell] <;> rfl) ?_; intro a hA
        replace hA := hA.keepN [2]
        refine wN (nT (wp_ret (rB (rT ?_))))
        refine ret_1 hA 2 rfl rfl ?_
        exact ⟨ret_bool ((formed_2 nm m hq hq1 hq2).symm), (hb0.trans (hb.mono hb0.size)).trans (hb3.mono (Nat.le_trans hb0.size hb.size))⟩
      case nC =>
        refine wp_skip (nB (nT (wS (wR ?_))))
        revert a; (iterate 4 refine wo rfl rfl (by decide) (fun ev e h => by simp [go_sem, h, K.cell] <;> rfl) ?_); (iterate 3 refine wg _ rfl rfl rfl rfl (by decide) (fun hq ev e h => by simp [go_sem, h, ↓gw_t (beq_t hq), K.cell] <;> rfl) ?_); refine wka rfl rfl (by decide) rfl rfl rfl ?_; refine wo rfl rfl (by decide) (fun ev e h => by simp [go_sem, h, K.cell] <;> rfl) ?_; refine wg _ rfl rfl rfl rfl (by decide) (fun hq ev e h => by simp [go_sem, h, ↓gw_t (beq_t hq), K.cell] <;> rfl) ?_; intro a hA
        replace hA := hA.keepN [1, 45, 46]
        revert a; refine wg _ rfl rfl rfl rfl (by decide) (fun hq ev e h => by simp [go_sem, h, ↓gw_t (beq_t hq), K.cell] <;> rfl) ?_; intro a hA
        refine wl_gcallv _ hA rfl rfl rfl rfl (by decide) (fun hq ev h => exec_call Tryz.func37 (by kernel_rfl) rfl (h.f _) (by first | (simp only [mL, ((h.get 47 rfl).trans (gw_t (beq_t hq))), h.c] <;> rfl) | (simp [mL, ((h.get 47 rfl).trans (gw_t (beq_t hq))), h.c, K.cell] <;> rfl))) (fun hq => bare_any (m.uid : Nat) m.date m.flags m.a m.b.length m.c _) fun a w3 hb3 hA => ?_
        replace K := K.below hb3 K.lt
        revert a; refine wka rfl rfl (by decide) rfl rfl rfl ?_; refine wo rfl rfl (by decide) (fun ev e h => by simp [go_sem, h, K.cell] <;> rfl) ?_; (iterate 4 refine wg _ rfl rfl rfl rfl (by decide) (fun hq ev e h => by simp [go_sem, h, ↓gw_t (beq_t hq), K.cell] <;> rfl) ?_); refine wka rfl rfl (by decide) rfl rfl rfl ?_; refine wo rfl rfl (by decide) (fun ev e h => by simp [go_sem, h, K.cell] <;> rfl) ?_; intro a hA
        replace hA := hA.keepN [2]
        refine wN (nT (wp_ret ?_))
        refine ret_1 hA 2 rfl rfl ?_
        exact ⟨ret_bool ((formed_3 nm m hq hq1 hq2).symm), hb0.trans (hb3.mono hb0.size)⟩
end Go.Proofs.YtmjikfeaopmejaaGreatDoor
/-
  Walks: live messages that go are taken from a log's row.
-/
namespace Go.Proofs.YtmjikfeaopmejaaGreatDoor
open Go.RowKit
set_option linter.unusedSimpArgs false
set_option linter.unusedVariables false
structure LiveV where
  m : MsgV
  ep : Nat
  at_ : Nat
def liveC (x : LiveV) : List Value := [.int .u32 (x.m.uid : Nat), .int .i64 x.m.date, .int .i64 x.m.flags, .slice x.m.a x.m.b.length x.m.c, .int .u32 (x.ep : Nat), .int .i64 (x.at_ : Nat)]
theorem liveC_one (x : LiveV) : ∀ u ∈ liveC x, u.oneCell' = true := by
  intro u hu
  unfold liveC at hu
  simp only [List.mem_cons, List.not_mem_nil, or_false] at hu
  rcases hu with rfl | rfl | rfl | rfl | rfl | rfl <;> rfl
def liveSh : Sh LiveV := ⟨104, 40, 6, 64, .agg #[.int .u32 0, .int .i64 0, .int .i64 0, .slice none 0 0, .int .u32 0, .int .i64 0], liveC, fun x => [(x.m.a, x.m.b)], fun _ => rfl, liveC_one, Tryz.underlying40, by kernel_rfl, rfl, by decide, by decide⟩
/-- does a note take it away? -/
def goesL (ep uid : Nat) (x : LiveV) : Bool := x.ep == ep && x.m.uid == uid
def leftV (ep uid : Nat) (l : List LiveV) : List LiveV := l.filter fun x => !goesL ep uid x
theorem leftV_succ {ep uid j : Nat} {l : List LiveV} {x : LiveV} (hx : l[j]? = some x) : leftV ep uid (l.take (j + 1)) = leftV ep uid (l.take j) ++ bif goesL ep uid x then [] else [x] := by
  unfold leftV
  rw [List.take_add_one, hx, List.filter_append]
  congr 1
  cases hg : goesL ep uid x <;> simp [hg]
abbrev closL (pn : Nat) : Value := .func (.func 71) #[] #[.pointer (some ⟨pn, 0, none⟩)]
theorem nat_eq (a b : Nat) : ((a : Int) == (b : Int)) = (a == b) := by rw [Bool.eq_iff_iff, beq_iff_eq, beq_iff_eq]; omega
theorem take1_any (pn : Nat) (k : Int) (e : Nat) (nm : ByteArray) (m : MsgV) (x : LiveV) (w : World) (Kn : Blk w pn 30 (noteC k e nm m)) :
    Calls Tryz.prog 71 #[.agg #[.int .u32 (x.m.uid : Nat), .int .i64 x.m.date, .int .i64 x.m.flags, .slice x.m.a x.m.b.length x.m.c, .int .u32 (x.ep : Nat), .int .i64 (x.at_ : Nat)], .pointer (some ⟨pn, 0, none⟩)] w
      fun ev w' => ev = .returned (.bool (goesL e m.uid x)) ∧ Below w.heap.size w w' := by
  unfold noteC at Kn
  refine calls_at 18 Tryz.func71 rfl rfl (Nat.le_of_ble_eq_true rfl) ?_
  intro a hA; replace hA := hA.norm
  refine wS (wR ?_)
  refine wl_new hA rfl rfl (by decide) (fun ev h => by simp [go_sem, h.get 0 rfl]; try first | exact ⟨rfl, rfl⟩ | rfl) fun w1 a (K : Blk _ _ _ _) hz1 hb1 hA => ?_
  replace Kn := Kn.below hb1 Kn.lt
  revert a; refine wo rfl rfl (by decide) (fun ev e h => by simp [go_sem, h, K.cell, Kn.cell, nat_eq] <;> rfl) ?_; intro a hA
  replace hA := hA.keepN [1, 2]
  refine wN (nT (wS (wR ?_)))
  revert a; (iterate 6 refine wo rfl rfl (by decide) (fun ev e h => by simp [go_sem, h, K.cell, Kn.cell, nat_eq] <;> rfl) ?_); (iterate 4 refine wg _ rfl rfl rfl rfl (by decide) (fun hq ev e h => by simp [go_sem, h, ↓gw_t (beq_t hq), K.cell, Kn.cell, nat_eq] <;> rfl) ?_); intro a hA
  replace hA := hA.keepN [9, 12, 13]
  revert a; (iterate 3 refine wg _ rfl rfl rfl rfl (by decide) (fun hq ev e h => by simp [go_sem, h, ↓gw_t (beq_t hq), K.cell, Kn.cell, nat_eq] <;> rfl) ?_); refine wka rfl rfl (by decide) rfl rfl rfl ?_; refine wo rfl rfl (by decide) (fun ev e h => by simp [go_sem, h, K.cell, Kn.cell, nat_eq] <;> rfl) ?_; intro a hA
  replace hA := hA.keepN [3]
  refine wN (nT (wp_ret ?_))
  refine ret_1 hA 3 rfl rfl ?_
  exact ⟨ret_bool (by unfold goesL; rfl), hb1⟩
set_option maxRecDepth 100000 in
set_option maxHeartbeats 1000000 in
theorem indexL_any (pn : Nat) (k : Int) (e : Nat) (nm : ByteArray) (m : MsgV) (A : Option Addr) (c n : Nat) (l : List LiveV) (w : World) (Kn : Blk w pn 30 (noteC k e nm m)) (hl : l.length = n) (hn : n ≤ 16000000) (hr : RowR liveSh w A l) :
    Calls Tryz.prog 89 #[.slice A n c, closL pn] w
      fun ev w' => ∃ r : Int, ev = .returned (.int .i64 r) ∧ (r = -1 ∧ leftV e m.uid l = l ∨ ∃ i : Nat, i < n ∧ r = (i : Nat) ∧ leftV e m.uid (l.take (i + 1)) = l.take i) ∧ Below w.heap.size w w' := by
  have HB := Below.refl w.heap.size w
  unfold closL
  refine calls_at 19 Tryz.func89 rfl rfl (Nat.le_of_ble_eq_true rfl) ?_
  intro a hA; replace hA := hA.norm
  refine wS (wR ?_)
  revert a; refine wo rfl rfl (by decide) (fun ev e h => by simp [go_sem, h] <;> rfl) ?_; intro a hA
  replace hA := hA.keepN [0, 1]
  refine wN (nT (wS (wS (wR ?_))))
  revert a; (iterate 3 refine wo rfl rfl (by decide) (fun ev e h => by simp [go_sem, h] <;> rfl) ?_); intro a hA
  replace hA := hA.keepN [0, 1, 7, 8]
  refine wN (nT (wB ?_))
  refine wp_loop_at (fun kk a wx => ∃ (j : Nat), j + kk = n ∧ At 19 [(0, .slice A n c), (1, .func (.func 71) #[] #[.pointer (some ⟨pn, 0, none⟩)]), (7, .int .i64 (n : Nat)), (8, .int .i64 (j : Nat))] a ∧ leftV e m.uid (l.take j) = l.take j ∧ Below w.heap.size w wx) (n) ?_ ?_
  · exact ⟨0, by omega, hA, rfl, HB⟩
  clear HB
  rintro kk a wx ⟨j, hjk, hA, hleft, HB⟩
  refine wS (wR ?_)
  revert a; refine wo rfl rfl (by decide) (fun ev e h => by simp [go_sem, h] <;> rfl) ?_; intro a hA
  replace hA := hA.keepN [0, 1, 7, 8, 9]
  refine wN (nT (wS ?_))
  refine wp_if hA 9 _ rfl (fun hq => ?yL) (fun hq => ?nL)
  case yL =>
    have hlt : j < n := by simp at hq; omega
    obtain ⟨x, hx⟩ : ∃ x, l[j]? = some x := ⟨_, List.getElem?_eq_getElem (by omega)⟩
    obtain ⟨ad, rfl, hadl, kz, kk'⟩ := hr.cell hx
    have z0 := (HB.cell (by rw [block_of_add]; exact hadl)).trans (kz _ rfl)
    have z1 := (HB.cell (p := ⟨(ad.add (j * 6)).block, (ad.add (j * 6)).off + 1, none⟩) (by show (ad.add _).block < _; rw [block_of_add]; exact hadl)).trans (kk' 1 _ (by decide) rfl)
    have z2 := (HB.cell (p := ⟨(ad.add (j * 6)).block, (ad.add (j * 6)).off + 2, none⟩) (by show (ad.add _).block < _; rw [block_of_add]; exact hadl)).trans (kk' 2 _ (by decide) rfl)
    have z3 := (HB.cell (p := ⟨(ad.add (j * 6)).block, (ad.add (j * 6)).off + 3, none⟩) (by show (ad.add _).block < _; rw [block_of_add]; exact hadl)).trans (kk' 3 _ (by decide) rfl)
    have z4 := (HB.cell (p := ⟨(ad.add (j * 6)).block, (ad.add (j * 6)).off + 4, none⟩) (by show (ad.add _).block < _; rw [block_of_add]; exact hadl)).trans (kk' 4 _ (by decide) rfl)
    have z5 := (HB.cell (p := ⟨(ad.add (j * 6)).block, (ad.add (j * 6)).off + 5, none⟩) (by show (ad.add _).block < _; rw [block_of_add]; exact hadl)).trans (kk' 5 _ (by decide) rfl)
    have z0 : wx.cell? (ad.add (j * 6)) = some (.int .u32 (x.m.uid : Nat)) := z0
    have jj0 : (0 : Int) ≤ (j : Int) := by omega
    have jj1 : (j : Int) < (n : Int) := by omega
    have hwj : IntKind.i64.wrap ((j : Int) + 1) = (j : Int) + 1 := IntWalk.i64_in _ (by omega)
    refine wp_skip (nT (wS (wB (wS (wR ?_)))))
    revert a; (iterate 2 refine wo rfl rfl (by decide) (fun ev e h => by simp [go_sem, h, z0, z1, z2, z3, z4, z5, jj0, jj1, hwj] <;> rfl) ?_); intro a hA
    replace hA := hA.keepN [0, 1, 5, 7, 8]
    refine wN (nT (wS (wR ?_)))
    revert a; (iterate 5 refine wo rfl rfl (by decide) (fun ev e h => by simp [go_sem, h, z0, z1, z2, z3, z4, z5, jj0, jj1, hwj] <;> rfl) ?_); intro a hA
    refine wl_call hA rfl rfl (by decide) (fun ev h => by simp [go_sem, h.get 11 rfl, h.get 15 rfl, z0, z1, z2, z3, z4, z5, jj0, jj1, hwj]; try first | exact ⟨rfl, rfl⟩ | rfl) (take1_any pn k e nm m x _ (Kn.below HB Kn.lt)) ?_
    rintro e w2 ⟨rfl, hb2⟩
    refine ⟨_, rfl, fun a hA => ?_⟩
    have HB := HB.trans (hb2.mono HB.size)
    replace hA := hA.keepN [0, 1, 5, 7, 8, 16]
    refine wN (nT ?_)
    obtain ⟨q, hqe⟩ : ∃ q, goesL e m.uid x = q := ⟨_, rfl⟩
    rw [hqe] at hA
    have hl1 := leftV_succ (ep := e) (uid := m.uid) hx
    rw [hqe, hleft] at hl1
    refine wp_if hA 16 _ rfl (fun hq2 => ?yR) (fun hq2 => ?nR)
    case yR =>
      subst hq2
      refine wS (wR ?_)
      revert a; (iterate 2 refine wo rfl rfl (by decide) (fun ev e h => by simp [go_sem, h, z0, z1, z2, z3, z4, z5, jj0, jj1, hwj] <;> rfl) ?_); intro a hA
      replace hA := hA.keepN [4]
      refine wN (nT (wp_ret (rB (rT (rT (rB (rT ?_)))))))
      refine ret_1 hA 4 rfl rfl ?_
      exact ⟨_, rfl, .inr ⟨j, hlt, rfl, by rw [hl1]; simp⟩, HB⟩
    case nR =>
      subst hq2
      refine wp_skip (nB (nT (wR ?_)))
      revert a; (iterate 2 refine wo rfl rfl (by decide) (fun ev e h => by simp [go_sem, h, z0, z1, z2, z3, z4, z5, jj0, jj1, hwj] <;> rfl) ?_); intro a hA
      replace hA := hA.keepN [0, 1, 7, 8]
      refine wN (nT ?_)
      rw [show ((j : Int) + 1) = ((j + 1 : Nat) : Int) by omega] at hA
      exact ⟨kk - 1, by omega, j + 1, by omega, hA, by rw [hl1, List.take_add_one, hx]; rfl, HB⟩
  case nL =>
    have hjn : j = n := by simp at hq; omega
    subst hjn
    rw [← hl, List.take_length] at hleft
    replace hA := hA.keepN []
    refine wp_exit (xT (xT (xB (nT (wS (wR ?_))))))
    revert a; refine wo rfl rfl (by decide) (fun ev e h => by simp [go_sem, h] <;> rfl) ?_; intro a hA
    replace hA := hA.keepN [4]
    refine wN (nT (wp_ret ?_))
    refine ret_1 hA 4 rfl rfl ?_
    exact ⟨_, rfl, .inl ⟨rfl, hleft⟩, HB⟩
/-- a row of live messages out of a list whose octets stay -/
theorem OwnR.again {M : Type} {s : Sh M} {B g n c : Nat} {w w' : World} {S : Nat → Prop} {l l' : List M} (h : OwnR s B w (.slice (some ⟨g, 0, none⟩) n c) l) (ha : Apart S w w') (hS : ∀ m ∈ l, ∀ p ∈ s.parts m, 0 < p.2.length → ∀ ad, p.1 = some ad → ¬ S ad.block)
    (hr : w'.ownsRow B s.T s.k (.slice (some ⟨g, 0, none⟩) n c) l'.length (l'.flatMap s.f)) (hm : ∀ m ∈ l', m ∈ l) : OwnR s B w' (.slice (some ⟨g, 0, none⟩) n c) l' :=
  ⟨hr, fun m h' p hp => ha.reads (h.octs m (hm m h') p hp) (hS m (hm m h') p hp), fun g' hg' m h' => h.off g' hg' m (hm m h')⟩
set_option maxRecDepth 100000 in
set_option maxHeartbeats 2000000 in
theorem deleteL_any (pn B : Nat) (k : Int) (e : Nat) (nm : ByteArray) (m : MsgV) (A : Option Addr) (c n : Nat) (l : List LiveV) (w : World) (Kn : Blk w pn 30 (noteC k e nm m)) (hBw : B ≤ w.heap.size) (hn : n ≤ 16000000) (hl : l.length = n) (ho : OwnR liveSh B w (.slice A n c) l) :
    Calls Tryz.prog 70 #[.slice A n c, closL pn] w
      fun ev w' => ∃ v, ev = .returned v ∧ OwnR liveSh B w' v (leftV e m.uid l) ∧ Apart (fun i => (Value.slice A n c).ownBlock = some i) w w' := by
  have hrr : RowR liveSh w A l := by
    obtain ⟨A', c', e', hm, _⟩ := ho.reads
    injection e' with e1 _ e3
    subst e1
    exact hm
  have Idx := indexL_any pn k e nm m A c n l w Kn hl hn hrr
  unfold closL at Idx ⊢
  refine calls_at 42 Tryz.func70 rfl rfl (Nat.le_of_ble_eq_true rfl) ?_
  intro a hA; replace hA := hA.norm
  refine wS (wR ?_)
  revert a; refine wo rfl rfl (by decide) (fun ev e h => by simp [go_sem, h] <;> rfl) ?_; intro a hA
  replace hA := hA.keepN [0, 1]
  refine wN (nT (wS (wR ?_)))
  revert a; (iterate 2 refine wo rfl rfl (by decide) (fun ev e h => by simp [go_sem, h] <;> rfl) ?_); intro a hA
  refine wl_call hA rfl rfl (by decide) (fun ev h => exec_call Tryz.func89 (by kernel_rfl) rfl (h.f _) (by first | (simp only [mL, h.get 8 rfl, h.get 9 rfl, h.c] <;> rfl) | (simp [mL, h.get 8 rfl, h.get 9 rfl, h.c] <;> rfl))) (Idx) ?_
  rintro e w1 ⟨r, rfl, hI, hb1⟩
  refine ⟨_, rfl, fun a hA => ?_⟩
  revert a; refine wo rfl rfl (by decide) (fun ev e h => by simp [go_sem, h] <;> rfl) ?_; intro a hA
  replace hA := hA.keepN [0, 1, 5]
  refine wN (nT (wS (wS (wR ?_))))
  revert a; (iterate 2 refine wo rfl rfl (by decide) (fun ev e h => by simp [go_sem, h] <;> rfl) ?_); intro a hA
  replace hA := hA.keepN [0, 1, 5, 12]
  refine wN (nT ?_)
  refine wp_if hA 12 _ rfl (fun hq => ?yA) (fun hq => ?nA)
  case yA =>
    have hr1 : r = -1 := by simpa using hq
    refine wS (wR ?_)
    revert a; (iterate 2 refine wo rfl rfl (by decide) (fun ev e h => by simp [go_sem, h] <;> rfl) ?_); intro a hA
    replace hA := hA.keepN [4]
    refine wN (nT (wp_ret (rT ?_)))
    refine ret_1 hA 4 rfl rfl ?_
    rcases hI with ⟨_, h1⟩ | ⟨i, _, h1, _⟩
    · refine ⟨_, rfl, by rw [h1]; exact ho.below hb1, ?_⟩
      exact (Apart.refl _ w).below hb1
    · omega
  case nA =>
    have hr1 : ¬ r = -1 := by simpa using hq
    obtain ⟨i0, hi0, hr0, hleft0⟩ : ∃ i : Nat, i < n ∧ r = (i : Nat) ∧ leftV e m.uid (l.take (i + 1)) = l.take i := by
      rcases hI with ⟨h, _⟩ | h
      · exact absurd h hr1
      · exact h
    clear hI hq hr1 Idx
    subst hr0
    obtain ⟨g, cc, hv, hgB, hglt⟩ := ho.at_ (by omega)
    injection hv with hv1 _ hv3
    subst hv1 hv3
    have hgpn : g ≠ pn := own_ne ho.row Kn (by decide) g rfl
    have hoffS : ∀ x ∈ l, ∀ p ∈ liveSh.parts x, 0 < p.2.length → ∀ ad, p.1 = some ad → ¬ (ad.block = g) := fun x hx p hp hn ad ha h => ho.off g rfl x hx p hp hn ad ha h
    have hap : Apart (fun q => q = g) w w1 := (Apart.refl _ w).below hb1
    have ho1 := ho.below hb1
    have hwi : IntKind.i64.wrap ((i0 : Int) + 1) = (i0 : Int) + 1 := IntWalk.i64_in _ (by omega)
    refine wp_skip (nT (wS (wS (wR ?_))))
    revert a; (iterate 3 refine wo rfl rfl (by decide) (fun ev e h => by simp [go_sem, h, hwi] <;> rfl) ?_); intro a hA
    replace hA := hA.keepN [0, 1, 5, 6]
    refine wN (nT (wB ?_))
    rw [show ((i0 : Int) + 1) = ((i0 + 1 : Nat) : Int) by omega] at hA
    refine wp_loop_at (fun kk a wx => ∃ (i j : Nat) (l' : List LiveV), j + kk = n ∧ i < j ∧ At 42 [(0, .slice (some ⟨g, 0, none⟩) n c), (1, .func (.func 71) #[] #[.pointer (some ⟨pn, 0, none⟩)]), (5, .int .i64 (i : Nat)), (6, .int .i64 (j : Nat))] a ∧ OwnR liveSh B wx (.slice (some ⟨g, 0, none⟩) n c) l' ∧ l'.take i = leftV e m.uid (l.take j) ∧ l'.drop j = l.drop j ∧ (∀ x ∈ l', x ∈ l) ∧ Apart (fun q => q = g) w wx) (n - (i0 + 1)) ?_ ?_
    · exact ⟨i0, i0 + 1, l, by omega, by omega, hA, ho1, hleft0.symm, rfl, fun _ h => h, hap⟩
    clear hap ho1 hleft0
    rintro kk a wx ⟨i, j, l', hjk, hij, hA, ho', htake, hdrop, hmem, hap⟩
    have hlen' : l'.length = n := ho'.len
    have hBb : Below B w wx := hap.toBelow (fun q hq => by omega) hBw
    have hsz := hap.size
    refine wS (wS (wR ?_))
    revert a; (iterate 4 refine wo rfl rfl (by decide) (fun ev e h => by simp [go_sem, h] <;> rfl) ?_); intro a hA
    replace hA := hA.keepN [0, 1, 5, 6, 19]
    refine wN (nT ?_)
    refine wp_if hA 19 _ rfl (fun hq => ?yL) (fun hq => ?nL)
    case yL =>
      have hlt : j < n := by simp at hq; omega
      obtain ⟨x, hx⟩ : ∃ x, l[j]? = some x := ⟨_, List.getElem?_eq_getElem (by omega)⟩
      have hx' : l'[j]? = some x := by
        have h1 := congrArg List.head? hdrop
        rwa [List.head?_drop, List.head?_drop, hx] at h1
      obtain ⟨y, hy⟩ : ∃ y, l'[i]? = some y := ⟨_, List.getElem?_eq_getElem (by omega)⟩
      have hfr := ho'.row
      rw [ho'.len] at hfr
      have cell : ∀ {q z}, l'[q]? = some z → ∀ d u, (liveC z)[d]? = some u → d < 6 → wx.cell? ⟨g, q * 6 + d, none⟩ = some u := fun {q z} hz d u hu hd => by
        rw [hfr.cellAt _ (by have := (List.getElem?_eq_some_iff.1 hz).1; show _ < n * 6; omega)]
        exact (flatK_at liveSh.len l' q d z hz hd).trans hu
      have k0 : wx.cell? ⟨g, j * 6, none⟩ = some (.int .u32 (x.m.uid : Nat)) := cell hx' 0 _ rfl (by decide)
      have k1 := cell hx' 1 _ rfl (by decide)
      have k2 := cell hx' 2 _ rfl (by decide)
      have k3 := cell hx' 3 _ rfl (by decide)
      have k4 := cell hx' 4 _ rfl (by decide)
      have k5 := cell hx' 5 _ rfl (by decide)
      have jj0 : (0 : Int) ≤ (j : Int) := by omega
      have jj1 : (j : Int) < (n : Int) := by omega
      have ii0 : (0 : Int) ≤ (i : Int) := by omega
      have ii1 : (i : Int) < (n : Int) := by omega
      have hwj : IntKind.i64.wrap ((j : Int) + 1) = (j : Int) + 1 := IntWalk.i64_in _ (by omega)
      have hwi : IntKind.i64.wrap ((i : Int) + 1) = (i : Int) + 1 := IntWalk.i64_in _ (by omega)
      have hl1 := leftV_succ (ep := e) (uid := m.uid) hx
      refine wp_skip (nT (wS (wB (wS (wR ?_)))))
      revert a; (iterate 4 refine wo rfl rfl (by decide) (fun ev e h => by simp [go_sem, h, add0, k0, k1, k2, k3, k4, k5, jj0, jj1] <;> rfl) ?_); intro a hA
      refine wl_local [.int .u32 (x.m.uid : Nat), .int .i64 x.m.date, .int .i64 x.m.flags, .slice x.m.a x.m.b.length x.m.c, .int .u32 (x.ep : Nat), .int .i64 (x.at_ : Nat)] hA rfl rfl (by decide) (fun ev h => by simp [go_sem, add0, k0, k1, k2, k3, k4, k5, jj0, jj1]; try first | exact ⟨rfl, rfl⟩ | rfl) rfl rfl (by rfl) (fun w1 g ev hb h => by simp [go_sem, h.get 7 rfl, h.get 25 rfl, add0, k0, k1, k2, k3, k4, k5, jj0, jj1, setAll, hb.cell, hb.frozen]) fun w5 a (K7 : Blk _ _ _ _) hz5 hb5 hA => ?_
      replace ho' := ho'.below hb5
      replace hap := hap.below hb5
      replace hBb := hBb.trans (hb5.mono (Nat.le_trans hBw hsz))
      replace hA := hA.keepN [0, 1, 5, 6, 7]
      refine wN (nT (wS (wR ?_)))
      revert a; (iterate 2 refine wo rfl rfl (by decide) (fun ev e h => by simp [go_sem, h, K7.cell] <;> rfl) ?_); intro a hA
      refine wl_call hA rfl rfl (by decide) (fun ev h => by simp [go_sem, h.get 26 rfl, h.get 27 rfl, K7.cell]; try first | exact ⟨rfl, rfl⟩ | rfl) (take1_any pn k e nm m x _ (hap.blk Kn (fun h => hgpn h.symm))) ?_
      rintro e w7 ⟨rfl, hb7⟩
      refine ⟨_, rfl, fun a hA => ?_⟩
      replace ho' := ho'.below hb7
      replace K7 := K7.below hb7 K7.lt
      replace hBb := hBb.trans (hb7.mono (Nat.le_trans hBw hap.size))
      replace hap := hap.below hb7
      revert a; refine wo rfl rfl (by decide) (fun ev e h => by simp [go_sem, h, K7.cell] <;> rfl) ?_; intro a hA
      replace hA := hA.keepN [0, 1, 5, 6, 7, 29]
      refine wN (nT ?_)
      obtain ⟨q, hqe⟩ : ∃ q, goesL e m.uid x = q := ⟨_, rfl⟩
      rw [hqe] at hA
      rw [hqe] at hl1
      have hdrop1 : l'.drop (j + 1) = l.drop (j + 1) := by rw [← List.tail_drop, hdrop, List.tail_drop]
      have hmx : x ∈ l' := List.mem_of_getElem? hx'
      clear k0 k1 k2 k3 k4 k5 cell hfr
      refine wp_if hA 29 _ rfl (fun hq2 => ?yR) (fun hq2 => ?nR)
      case yR =>
        have hq2 : q = false := by simpa using hq2
        subst hq2
        rw [cond_false] at hl1
        have hfr := ho'.row
        rw [ho'.len] at hfr
        obtain ⟨h8, h9⟩ := ho'.put hy (ho'.octs x hmx) (ho'.off g rfl x hmx)
        have cell : ∀ {q z}, l'[q]? = some z → ∀ d u, (liveC z)[d]? = some u → d < 6 → w7.cell? ⟨g, q * 6 + d, none⟩ = some u := fun {q z} hz d u hu hd => by
          rw [hfr.cellAt _ (by have := (List.getElem?_eq_some_iff.1 hz).1; show _ < n * 6; omega)]
          exact (flatK_at liveSh.len l' q d z hz hd).trans hu
        have q0 : w7.cell? ⟨g, i * 6, none⟩ = some (.int .u32 (y.m.uid : Nat)) := cell hy 0 _ rfl (by decide)
        have q1 := cell hy 1 _ rfl (by decide)
        have q2 := cell hy 2 _ rfl (by decide)
        have q3 := cell hy 3 _ rfl (by decide)
        have q4 := cell hy 4 _ rfl (by decide)
        have q5 := cell hy 5 _ rfl (by decide)
        have hap9 := hap.grown h9 (fun q hq => .inr (Option.some.inj hq).symm)
        clear cell
        refine wS (wR ?_)
        revert a; (iterate 4 refine wo rfl rfl (by decide) (fun ev e h => by simp [go_sem, h, add0, ii0, ii1, K7.cell, q0, q1, q2, q3, q4, q5, hfr.frozenAt] <;> rfl) ?_); intro a hA
        refine wl_skip hA rfl rfl (fun ev h => by simp [go_sem, h.get 33 rfl, h.get 32 rfl, add0, ii0, ii1, K7.cell, q0, q1, q2, q3, q4, q5, hfr.frozenAt]; try first | exact ⟨rfl, rfl⟩ | rfl) ?_
        replace hA := hA.keepN [0, 1, 5, 6]
        refine wN (nT (wR ?_))
        revert a; (iterate 3 refine wo rfl rfl (by decide) (fun ev e h => by simp [go_sem, h, hwi, hwj] <;> rfl) ?_); intro a hA
        replace hA := hA.keepN [0, 1, 5, 6]
        refine wN (nB (nT (wR ?_)))
        revert a; (iterate 3 refine wo rfl rfl (by decide) (fun ev e h => by simp [go_sem, h, hwi, hwj] <;> rfl) ?_); intro a hA
        replace hA := hA.keepN [0, 1, 5, 6]
        refine wN (nT ?_)
        rw [show ((j : Int) + 1) = ((j + 1 : Nat) : Int) by omega, show ((i : Int) + 1) = ((i + 1 : Nat) : Int) by omega] at hA
        refine ⟨kk - 1, by omega, i + 1, j + 1, _, by omega, by omega, hA, h8, ?_, ?_, ?_, hap9⟩
        · rw [List.take_add_one, List.take_set_of_le (Nat.le_refl i), List.getElem?_set_self (by omega), htake, hl1]; rfl
        · rw [List.drop_set_of_lt (by omega)]; exact hdrop1
        · intro m' hm'
          rcases List.mem_or_eq_of_mem_set hm' with h | h
          · exact hmem _ h
          · subst h; exact hmem _ hmx
      case nR =>
        have hq2 : q = true := by simpa using hq2
        subst hq2
        rw [cond_true] at hl1
        refine wp_skip (nB (nT (wR ?_)))
        revert a; (iterate 3 refine wo rfl rfl (by decide) (fun ev e h => by simp [go_sem, h, hwj] <;> rfl) ?_); intro a hA
        replace hA := hA.keepN [0, 1, 5, 6]
        refine wN (nT ?_)
        rw [show ((j : Int) + 1) = ((j + 1 : Nat) : Int) by omega] at hA
        exact ⟨kk - 1, by omega, i, j + 1, l', by omega, by omega, hA, ho', by rw [htake, hl1, List.append_nil], hdrop1, hmem, hap⟩
    case nL =>
      have hjn : j = n := by simp at hq; omega
      subst hjn
      obtain ⟨A9, c9, e9, _, hc9⟩ := ho'.reads
      injection e9 with _ _ e9
      subst e9
      rw [hlen'] at hc9
      have hij2 : i ≤ j := by omega
      have hci : ¬ c = i := by omega
      have hjc : j ≤ c := hc9
      obtain ⟨w9, hcl, ho9, hg9⟩ := run_clearR (d := c - i) ho' hij (by rfl)
      have hcl : ∀ ty, (Builtin.clear_ #[40] ty #[.slice (some ⟨g, i * 6, none⟩) (j - i) (c - i)]).run Tryz.prog wx = .ok (.tuple #[]) w9 := hcl
      have hap9 := hap.grown hg9 (fun q hq => .inr (Option.some.inj hq).symm)
      rw [← hl, List.take_length] at htake
      rw [htake] at ho9
      have hic : i ≤ c := by omega
      replace hA := hA.keepN [0, 5]
      refine wp_exit (xT (xT (xB (nT (wS (wR ?_))))))
      revert a; (iterate 3 refine wo rfl rfl (by decide) (fun ev e h => by simp [go_sem, h, add0, hij2, hci, hjc] <;> rfl) ?_); intro a hA
      refine wl_val0 hA rfl rfl (fun ev h => by simp [go_sem, h.get 38 rfl, add0, hij2, hci, hjc, hcl]; try first | exact ⟨rfl, rfl⟩ | rfl) ?_
      replace hA := hA.keepN [0, 5]
      refine wN (nT (wS (wR ?_)))
      revert a; (iterate 4 refine wo rfl rfl (by decide) (fun ev e h => by simp [go_sem, h, hic, add0] <;> rfl) ?_); intro a hA
      replace hA := hA.keepN [4]
      refine wN (nT (wp_ret ?_))
      refine ret_1 hA 4 rfl rfl ?_
      refine ⟨_, rfl, ho9, hap9.mono' fun q hq => ?_⟩
      rw [hq]; rfl
end Go.Proofs.YtmjikfeaopmejaaGreatDoor
/-
  Numbers in bytes, sums, pages, and what is read back, as plain values.
-/
namespace Go.Proofs.YtmjikfeaopmejaaGreatDoor
/-- a number in n bytes -/
def be : Nat → Nat → List UInt8
  | 0, _ => []
  | n + 1, v => UInt8.ofNat (v / 256 ^ n) :: be n v
theorem be_length : ∀ n v, (be n v).length = n
  | 0, _ => rfl
  | n + 1, v => by rw [be, List.length_cons, be_length n v]
theorem be_snoc : ∀ n v, be (n + 1) v = be n (v / 256) ++ [UInt8.ofNat v]
  | 0, v => by simp [be]
  | n + 1, v => by
    rw [be, be_snoc n v, be, List.cons_append]
    congr 2
    rw [Nat.div_div_eq_div_mul, Nat.pow_succ, Nat.mul_comm]
/-- what bytes say -/
def beVal (l : List UInt8) : Nat := l.foldl (fun a c => a * 256 + c.toNat) 0
theorem beVal_snoc (l : List UInt8) (c : UInt8) : beVal (l ++ [c]) = beVal l * 256 + c.toNat := by simp [beVal, List.foldl_append]
theorem beVal_lt (l : List UInt8) : beVal l < 256 ^ l.length := by
  suffices h : ∀ (n : Nat) (l : List UInt8), l.length = n → beVal l < 256 ^ n from h _ l rfl
  intro n
  induction n with
  | zero => intro l h; rw [List.length_eq_zero_iff.1 h]; decide
  | succ n ih =>
    intro l h
    have hne : l ≠ [] := by intro e; rw [e] at h; cases h
    have e := (List.dropLast_concat_getLast hne).symm
    have hd : l.dropLast.length = n := by rw [List.length_dropLast]; omega
    have h1 := ih _ hd
    have h2 := (l.getLast hne).toNat_lt
    rw [e, beVal_snoc, Nat.pow_succ]
    omega
theorem beVal_be : ∀ n v, v < 256 ^ n → beVal (be n v) = v
  | 0, v, h => by simp at h; subst h; rfl
  | n + 1, v, h => by
    rw [be_snoc, beVal_snoc, beVal_be n (v / 256) (by rw [Nat.pow_succ] at h; exact Nat.div_lt_of_lt_mul (by omega))]
    have : (UInt8.ofNat v).toNat = v % 256 := by simp
    omega
/-- one bit of a sum -/
def crcBit (c : Nat) : Nat := if c % 2 = 1 then (c / 2) ^^^ 3988292384 else c / 2
def crcBits : Nat → Nat → Nat
  | 0, c => c
  | n + 1, c => crcBits n (crcBit c)
def crcByte (c : Nat) (x : UInt8) : Nat := crcBits 8 (c ^^^ x.toNat)
def crcGo (c : Nat) (l : List UInt8) : Nat := l.foldl crcByte c
def crc (l : List UInt8) : Nat := crcGo 4294967295 l ^^^ 4294967295
theorem crcBit_lt {c : Nat} (h : c < 2 ^ 32) : crcBit c < 2 ^ 32 := by
  unfold crcBit
  have : c / 2 < 2 ^ 32 := by omega
  split
  · exact Nat.xor_lt_two_pow this (by decide)
  · exact this
theorem crcBits_lt : ∀ (n : Nat) {c : Nat}, c < 2 ^ 32 → crcBits n c < 2 ^ 32
  | 0, _, h => h
  | n + 1, _, h => crcBits_lt n (crcBit_lt h)
theorem crcByte_lt {c : Nat} (h : c < 2 ^ 32) (x : UInt8) : crcByte c x < 2 ^ 32 :=
  crcBits_lt 8 (Nat.xor_lt_two_pow h (by have := x.toNat_lt; omega))
theorem crcGo_lt : ∀ (l : List UInt8) {c : Nat}, c < 2 ^ 32 → crcGo c l < 2 ^ 32
  | [], _, h => h
  | x :: r, _, h => crcGo_lt r (crcByte_lt h x)
theorem crc_lt (l : List UInt8) : crc l < 2 ^ 32 := Nat.xor_lt_two_pow (crcGo_lt l (by decide)) (by decide)
theorem crcGo_snoc (c : Nat) (l : List UInt8) (x : UInt8) : crcGo c (l ++ [x]) = crcByte (crcGo c l) x := by simp [crcGo, List.foldl_append]
theorem crcBits_succ : ∀ (n c : Nat), crcBits (n + 1) c = crcBit (crcBits n c)
  | 0, _ => rfl
  | n + 1, c => by
    show crcBits (n + 1) (crcBit c) = crcBit (crcBits n (crcBit c))
    exact crcBits_succ n (crcBit c)
/-- the document's sum: bit by bit -/
def refBit (c bit : Nat) : Nat := if (c % 2) ^^^ bit = 1 then (c / 2) ^^^ 3988292384 else c / 2
def refBits (x : Nat) : Nat → Nat → Nat
  | 0, c => c
  | n + 1, c => refBit (refBits x n c) (x / 2 ^ n % 2)
theorem xor_mod2 (a b : Nat) : (a ^^^ b) % 2 = (a % 2) ^^^ (b % 2) := by
  have := Nat.xor_mod_two_pow (a := a) (b := b) (n := 1)
  simpa using this
theorem xor_div2 (a b : Nat) : (a ^^^ b) / 2 = (a / 2) ^^^ (b / 2) := by
  have := Nat.xor_div_two_pow (a := a) (b := b) (n := 1)
  simpa using this
theorem bits_same (x c : Nat) : ∀ n, crcBits n (c ^^^ x) = refBits x n c ^^^ (x / 2 ^ n)
  | 0 => by simp [crcBits, refBits]
  | n + 1 => by
    rw [crcBits_succ, bits_same x c n]
    show crcBit _ = refBit (refBits x n c) (x / 2 ^ n % 2) ^^^ _
    generalize refBits x n c = r
    unfold crcBit refBit
    rw [xor_mod2, xor_div2, Nat.div_div_eq_div_mul, ← Nat.pow_succ]
    split
    · rw [Nat.xor_assoc, Nat.xor_assoc, Nat.xor_comm (x / 2 ^ (n + 1))]
    · rfl
theorem byte_same (c : Nat) (x : UInt8) : refBits x.toNat 8 c = crcByte c x := by
  unfold crcByte
  rw [bits_same, Nat.div_eq_of_lt (by have := x.toNat_lt; omega), Nat.xor_zero]
/-- a page -/
def pageHead (k : Nat) (p : List UInt8) : List UInt8 := [112, 97, 103, UInt8.ofNat k] ++ be 4 p.length ++ p
def pageB (k : Nat) (p : List UInt8) : List UInt8 := pageHead k p ++ be 4 (crc (pageHead k p))
theorem pageHead_length (k : Nat) (p : List UInt8) : (pageHead k p).length = p.length + 8 := by
  unfold pageHead; simp [be_length]; omega
theorem pageB_length (k : Nat) (p : List UInt8) : (pageB k p).length = p.length + 12 := by
  unfold pageB; rw [List.length_append, pageHead_length, be_length]
def midOf (b : List UInt8) : List UInt8 := (b.drop 8).take (b.length - 12)
theorem midOf_page (k : Nat) (p : List UInt8) : midOf (pageB k p) = p := by
  unfold midOf
  rw [pageB_length]
  unfold pageB
  generalize crc (pageHead k p) = c
  unfold pageHead
  rw [List.append_assoc, List.drop_left' (by simp [be_length])]
  exact List.take_left' (by simp)
/-- what a page holds; none: it is damaged -/
def pageGet (k : Nat) (b : List UInt8) : Option (List UInt8) := if 12 ≤ b.length ∧ (midOf b).length ≤ 60000 ∧ pageB k (midOf b) = b then some (midOf b) else none
theorem pageGet_page {k : Nat} {p : List UInt8} (h : p.length ≤ 60000) : pageGet k (pageB k p) = some p := by
  unfold pageGet
  rw [midOf_page, if_pos ⟨by rw [pageB_length]; omega, h, rfl⟩]
/-- a text, with its length ahead -/
def textB (s : ByteArray) : List UInt8 := be 2 s.size ++ s.data.toList
/-- what is left to be read; whether something wasn't there -/
structure InM where
  rest : List UInt8
  bad : Bool
def inTake (s : InM) (n : Int) : List UInt8 × InM :=
  if s.bad = true then ([], s) else if n < 0 ∨ (s.rest.length : Int) < n then ([], ⟨[], true⟩) else (s.rest.take n.toNat, ⟨s.rest.drop n.toNat, false⟩)
def inN (s : InM) (n : Nat) : Nat × InM := (beVal (inTake s n).1, (inTake s n).2)
def inText (s : InM) : ByteArray × InM := (⟨(inTake (inN s 2).2 (inN s 2).1).1.toArray⟩, (inTake (inN s 2).2 (inN s 2).1).2)
theorem inTake_append (l r : List UInt8) (n : Nat) (h : l.length = n) : inTake ⟨l ++ r, false⟩ n = (l, ⟨r, false⟩) := by
  unfold inTake
  rw [if_neg (by simp), if_neg (by simp; omega)]
  subst h
  simp
theorem inN_be (n v : Nat) (r : List UInt8) (h : v < 256 ^ n) : inN ⟨be n v ++ r, false⟩ n = (v, ⟨r, false⟩) := by
  unfold inN
  rw [inTake_append _ _ n (be_length n v), beVal_be n v h]
theorem inText_textB (s : ByteArray) (r : List UInt8) (h : s.size < 65536) : inText ⟨textB s ++ r, false⟩ = (s, ⟨r, false⟩) := by
  unfold inText textB
  rw [List.append_assoc, inN_be 2 s.size _ (by omega)]
  simp only
  rw [inTake_append _ _ s.size (by simp)]
end Go.Proofs.YtmjikfeaopmejaaGreatDoor
/-
  SHA-256, plainly: words are numbers below 2^32.
-/
namespace Go.Proofs.YtmjikfeaopmejaaGreatDoor
def rotr (x n : Nat) : Nat := (x >>> n ||| x <<< (32 - n)) % 4294967296
theorem rotr_lt (x n : Nat) : rotr x n < 4294967296 := Nat.mod_lt _ (by decide)
def shaK : List Nat := [
  0x428a2f98, 0x71374491, 0xb5c0fbcf, 0xe9b5dba5, 0x3956c25b, 0x59f111f1, 0x923f82a4, 0xab1c5ed5,
  0xd807aa98, 0x12835b01, 0x243185be, 0x550c7dc3, 0x72be5d74, 0x80deb1fe, 0x9bdc06a7, 0xc19bf174,
  0xe49b69c1, 0xefbe4786, 0x0fc19dc6, 0x240ca1cc, 0x2de92c6f, 0x4a7484aa, 0x5cb0a9dc, 0x76f988da,
  0x983e5152, 0xa831c66d, 0xb00327c8, 0xbf597fc7, 0xc6e00bf3, 0xd5a79147, 0x06ca6351, 0x14292967,
  0x27b70a85, 0x2e1b2138, 0x4d2c6dfc, 0x53380d13, 0x650a7354, 0x766a0abb, 0x81c2c92e, 0x92722c85,
  0xa2bfe8a1, 0xa81a664b, 0xc24b8b70, 0xc76c51a3, 0xd192e819, 0xd6990624, 0xf40e3585, 0x106aa070,
  0x19a4c116, 0x1e376c08, 0x2748774c, 0x34b0bcb5, 0x391c0cb3, 0x4ed8aa4a, 0x5b9cca4f, 0x682e6ff3,
  0x748f82ee, 0x78a5636f, 0x84c87814, 0x8cc70208, 0x90befffa, 0xa4506ceb, 0xbef9a3f7, 0xc67178f2]
def shaH : List Nat := [0x6a09e667, 0xbb67ae85, 0x3c6ef372, 0xa54ff53a, 0x510e527f, 0x9b05688c, 0x1f83d9ab, 0x5be0cd19]
/-- bytes up to whole blocks -/
def shaZeros (n : Nat) : Nat := (119 - n % 64) % 64
def shaPad (b : List UInt8) : List UInt8 := b ++ [128] ++ List.replicate (shaZeros b.length) 0 ++ be 8 (b.length * 8)
theorem shaPad_length (b : List UInt8) : (shaPad b).length % 64 = 0 := by
  unfold shaPad shaZeros
  simp only [List.length_append, List.length_cons, List.length_nil, List.length_replicate, be_length]
  omega
def smallS (x : Nat) : Nat := rotr x 7 ^^^ rotr x 18 ^^^ x >>> 3
def smallT (x : Nat) : Nat := rotr x 17 ^^^ rotr x 19 ^^^ x >>> 10
/-- a block's words: the next one -/
def shaNext (w : List Nat) (i : Nat) : Nat := (w.getD (i - 16) 0 + smallS (w.getD (i - 15) 0) + w.getD (i - 7) 0 + smallT (w.getD (i - 2) 0)) % 4294967296
def shaWord (b : List UInt8) (i : Nat) : Nat := beVal ((b.drop (4 * i)).take 4)
/-- the first words of a block -/
def shaW (b : List UInt8) : Nat → List Nat
  | 0 => []
  | i + 1 => shaW b i ++ [if i < 16 then shaWord b i else shaNext (shaW b i) i]
theorem shaW_length (b : List UInt8) : ∀ n, (shaW b n).length = n
  | 0 => rfl
  | n + 1 => by unfold shaW; rw [List.length_append, shaW_length b n]; rfl
def bigS (x : Nat) : Nat := rotr x 6 ^^^ rotr x 11 ^^^ rotr x 25
def bigT (x : Nat) : Nat := rotr x 2 ^^^ rotr x 13 ^^^ rotr x 22
def choose (e f g : Nat) : Nat := (e &&& f) ^^^ ((4294967295 - e) &&& g)
def most (a b c : Nat) : Nat := (a &&& b) ^^^ (a &&& c) ^^^ (b &&& c)
structure ShaS where
  a : Nat
  b : Nat
  c : Nat
  d : Nat
  e : Nat
  f : Nat
  g : Nat
  h : Nat
def ShaS.l (s : ShaS) : List Nat := [s.a, s.b, s.c, s.d, s.e, s.f, s.g, s.h]
def shaStep (k w : Nat) (s : ShaS) : ShaS :=
  ⟨(s.h + bigS s.e + choose s.e s.f s.g + k + w + bigT s.a + most s.a s.b s.c) % 4294967296, s.a, s.b, s.c, (s.d + (s.h + bigS s.e + choose s.e s.f s.g + k + w)) % 4294967296, s.e, s.f, s.g⟩
def shaSteps (w : List Nat) (s : ShaS) : Nat → ShaS
  | 0 => s
  | i + 1 => shaStep (shaK.getD i 0) (w.getD i 0) (shaSteps w s i)
def shaAdd (s t : ShaS) : ShaS := ⟨(s.a + t.a) % 4294967296, (s.b + t.b) % 4294967296, (s.c + t.c) % 4294967296, (s.d + t.d) % 4294967296, (s.e + t.e) % 4294967296, (s.f + t.f) % 4294967296, (s.g + t.g) % 4294967296, (s.h + t.h) % 4294967296⟩
def shaMix (s : ShaS) (blk : List UInt8) : ShaS := shaAdd (shaSteps (shaW blk 64) s 64) s
def sha0 : ShaS := ⟨0x6a09e667, 0xbb67ae85, 0x3c6ef372, 0xa54ff53a, 0x510e527f, 0x9b05688c, 0x1f83d9ab, 0x5be0cd19⟩
/-- so many blocks -/
def shaGo (all : List UInt8) : Nat → ShaS
  | 0 => sha0
  | i + 1 => shaMix (shaGo all i) ((all.drop (64 * i)).take 64)
def digest (b : List UInt8) : List UInt8 := (shaGo (shaPad b) ((shaPad b).length / 64)).l.flatMap (be 4)
-- bits
theorem compl_bit {e : Nat} (he : e < 2 ^ 32) (i : Nat) : (4294967295 - e).testBit i = (decide (i < 32) && !e.testBit i) := by
  have h := Nat.testBit_two_pow_sub_succ he i
  rw [show 2 ^ 32 - (e + 1) = 4294967295 - e by omega] at h
  exact h
theorem most_or (a b c : Nat) : (a &&& b) ||| (a &&& c) ||| (b &&& c) = most a b c := by
  apply Nat.eq_of_testBit_eq
  intro i
  unfold most
  simp only [Nat.testBit_or, Nat.testBit_and, Nat.testBit_xor]
  cases a.testBit i <;> cases b.testBit i <;> cases c.testBit i <;> rfl
theorem choose_alt {e f g : Nat} (he : e < 2 ^ 32) (hg : g < 2 ^ 32) : (e &&& f) ||| ((4294967295 ^^^ e) &&& g) = choose e f g := by
  apply Nat.eq_of_testBit_eq
  intro i
  unfold choose
  have h1 : (4294967295 : Nat).testBit i = decide (i < 32) := by
    have := Nat.testBit_two_pow_sub_one 32 i
    simpa using this
  simp only [Nat.testBit_or, Nat.testBit_and, Nat.testBit_xor, compl_bit he, h1]
  by_cases hi : i < 32
  · simp only [hi, decide_true, Bool.true_and]
    cases e.testBit i <;> cases f.testBit i <;> cases g.testBit i <;> rfl
  · have hg2 : g.testBit i = false := Nat.testBit_lt_two_pow (Nat.lt_of_lt_of_le hg (Nat.pow_le_pow_right (by omega) (by omega)))
    have he2 : e.testBit i = false := Nat.testBit_lt_two_pow (Nat.lt_of_lt_of_le he (Nat.pow_le_pow_right (by omega) (by omega)))
    simp [hi, hg2, he2]
/-- a word turned, in 32 bits -/
theorem rotr_u32 {x n : Nat} (hx : x < 4294967296) : (x <<< (32 - n)) % 4294967296 ||| x >>> n = rotr x n := by
  unfold rotr
  have h1 : x >>> n < 4294967296 := Nat.lt_of_le_of_lt (by rw [Nat.shiftRight_eq_div_pow]; exact Nat.div_le_self _ _) hx
  rw [show (4294967296 : Nat) = 2 ^ 32 from rfl] at *
  rw [Nat.or_mod_two_pow, Nat.mod_eq_of_lt h1, Nat.or_comm]
end Go.Proofs.YtmjikfeaopmejaaGreatDoor
/-
  Frames and scans, plainly.
-/
namespace Go.Proofs.YtmjikfeaopmejaaGreatDoor
def frameHd (k : Nat) (p : List UInt8) : List UInt8 := [99, 117, 98, UInt8.ofNat k] ++ be 4 p.length
def frameB (k : Nat) (p : List UInt8) : List UInt8 := frameHd k p ++ be 4 (crc (frameHd k p)) ++ digest p ++ p
theorem ShaS.l_len (s : ShaS) : (s.l.flatMap (be 4)).length = 32 := by
  simp [ShaS.l, be_length]
theorem digest_length (b : List UInt8) : (digest b).length = 32 := ShaS.l_len _
theorem frameHd_length (k : Nat) (p : List UInt8) : (frameHd k p).length = 8 := by unfold frameHd; simp [be_length]
theorem frameB_length (k : Nat) (p : List UInt8) : (frameB k p).length = 44 + p.length := by
  unfold frameB; simp [be_length, frameHd_length, digest_length]; omega
/-- what a head tells -/
def hdKind (b : List UInt8) : Nat := (b.getD 3 0).toNat
def hdLen (b : List UInt8) : Nat := beVal ((b.drop 4).take 4)
def hdCrc (b : List UInt8) : Nat := beVal ((b.drop 8).take 4)
def headOk (b : List UInt8) : Bool := decide (44 ≤ b.length) && (b.take 3 == [99, 117, 98]) && (decide (1 ≤ hdKind b) && decide (hdKind b ≤ 3) && decide (hdLen b ≤ 30000) && (hdCrc b == crc (b.take 8)))
theorem headOk_len {b : List UInt8} (h : headOk b = true) : 44 ≤ b.length := by
  unfold headOk at h
  simp only [Bool.and_eq_true, decide_eq_true_eq] at h
  exact h.1.1
theorem headOk_short {b : List UInt8} (h : b.length < 44) : headOk b = false := by
  cases hb : headOk b with
  | false => rfl
  | true => have := headOk_len hb; omega
/-- a record: where, of which kind, what -/
structure RecB where
  at_ : Nat
  kind : Nat
  b : List UInt8
def payOf (b : List UInt8) : List UInt8 := (b.drop 44).take (hdLen b)
def recsAt (b : List UInt8) (at_ : Nat) : List RecB := bif digest (payOf (b.drop at_)) == ((b.drop at_).drop 12).take 32 then [⟨at_, hdKind (b.drop at_), payOf (b.drop at_)⟩] else []
/-- all records from a place on; where the rest is torn -/
def scanAt (b : List UInt8) (at_ torn : Nat) (l : List RecB) : List RecB × Nat :=
  if h : at_ < b.length then
    if headOk (b.drop at_) = true then
      if hdLen (b.drop at_) + 44 + at_ > b.length then (l, at_)
      else scanAt b (at_ + 44 + hdLen (b.drop at_)) (at_ + 44 + hdLen (b.drop at_)) (l ++ recsAt b at_)
    else scanAt b (at_ + 1) torn l
  else (l, torn)
termination_by b.length - at_
def scan (b : List UInt8) : List RecB × Nat := scanAt b 0 0 []
section
variable {b : List UInt8} {at_ torn : Nat} {l : List RecB}
theorem scan_end (h : b.length ≤ at_) : scanAt b at_ torn l = (l, torn) := by
  rw [scanAt, dif_neg (by omega)]
theorem scan_torn (h : headOk (b.drop at_) = true) (h2 : b.length < hdLen (b.drop at_) + 44 + at_) : scanAt b at_ torn l = (l, at_) := by
  have h3 := headOk_len h
  rw [List.length_drop] at h3
  rw [scanAt, dif_pos (by omega), if_pos h, if_pos h2]
theorem scan_rec (h : headOk (b.drop at_) = true) (h2 : hdLen (b.drop at_) + 44 + at_ ≤ b.length) : scanAt b at_ torn l = scanAt b (at_ + 44 + hdLen (b.drop at_)) (at_ + 44 + hdLen (b.drop at_)) (l ++ recsAt b at_) := by
  have h3 := headOk_len h
  rw [List.length_drop] at h3
  rw [scanAt, dif_pos (by omega), if_pos h, if_neg (by omega)]
theorem scan_next (h : headOk (b.drop at_) = false) (h2 : at_ < b.length) : scanAt b at_ torn l = scanAt b (at_ + 1) torn l := by
  rw [scanAt, dif_pos h2, if_neg (by rw [h]; decide)]
/-- nothing stands between -/
theorem scan_skip : ∀ (k at_ : Nat), (∀ j, at_ ≤ j → j < at_ + k → headOk (b.drop j) = false) → at_ + k ≤ b.length → scanAt b at_ torn l = scanAt b (at_ + k) torn l
  | 0, _, _, _ => rfl
  | k + 1, at_, h, hl => by
    rw [scan_next (h at_ (Nat.le_refl _) (by omega)) (by omega)]
    have := scan_skip k (at_ + 1) (fun j h1 h2 => h j (by omega) (by omega)) (by omega)
    rw [this]
    congr 1
    omega
theorem scan_none (h : ∀ j, at_ ≤ j → headOk (b.drop j) = false) : scanAt b at_ torn l = (l, torn) := by
  rcases Nat.lt_or_ge at_ b.length with h1 | h1
  · rw [scan_skip (b.length - at_) at_ (fun j h2 _ => h j h2) (by omega)]
    exact scan_end (by omega)
  · exact scan_end h1
end
-- frames are found
theorem frame_parts (k : Nat) (p r : List UInt8) : frameB k p ++ r = [99, 117, 98, UInt8.ofNat k] ++ (be 4 p.length ++ (be 4 (crc (frameHd k p)) ++ (digest p ++ (p ++ r)))) := by
  unfold frameB frameHd
  simp only [List.append_assoc]
theorem crc_bound (l : List UInt8) : crc l < 4294967296 := by
  unfold crc
  exact Nat.xor_lt_two_pow (n := 32) (crcGo_lt _ (by decide)) (by decide)
theorem beVal_be' (n v : Nat) (h : v < 256 ^ n) : beVal (be n v) = v := by
  exact beVal_be n v h
theorem frame_head {k : Nat} {p : List UInt8} (r : List UInt8) (h1 : 1 ≤ k) (h2 : k ≤ 3) (hp : p.length ≤ 30000) : headOk (frameB k p ++ r) = true ∧ hdKind (frameB k p ++ r) = k ∧ hdLen (frameB k p ++ r) = p.length ∧ payOf (frameB k p ++ r) = p ∧ ((frameB k p ++ r).drop 12).take 32 = digest p := by
  have e1 : hdKind (frameB k p ++ r) = k := by
    rw [frame_parts]
    unfold hdKind
    show (UInt8.ofNat k).toNat = k
    simp; omega
  have e2 : hdLen (frameB k p ++ r) = p.length := by
    rw [frame_parts]
    unfold hdLen
    rw [List.drop_left' (by rfl), List.take_left' (be_length _ _)]
    exact beVal_be' 4 _ (by show _ < 4294967296; omega)
  have e3 : hdCrc (frameB k p ++ r) = crc (frameHd k p) := by
    rw [frame_parts]
    unfold hdCrc
    rw [← List.append_assoc, List.drop_left' (by simp [be_length]), List.take_left' (be_length _ _)]
    exact beVal_be' 4 _ (crc_bound _)
  have e4 : (frameB k p ++ r).take 8 = frameHd k p := by
    unfold frameB
    rw [List.append_assoc, List.append_assoc, List.append_assoc, List.take_left' (frameHd_length k p)]
  have e5 : (frameB k p ++ r).take 3 = [99, 117, 98] := by rw [frame_parts]; rfl
  refine ⟨?_, e1, e2, ?_, ?_⟩
  · unfold headOk
    rw [e1, e2, e3, e4, e5, List.length_append, frameB_length]
    simp [h1, h2, hp]
    omega
  · unfold payOf
    rw [e2, frame_parts, ← List.append_assoc, ← List.append_assoc, ← List.append_assoc, List.drop_left' (by simp [be_length, digest_length]), List.take_left' rfl]
  · rw [frame_parts, ← List.append_assoc, ← List.append_assoc, List.drop_left' (by simp [be_length]), List.take_left' (digest_length p)]
theorem scan_frame {b r : List UInt8} {k at_ torn : Nat} {p : List UInt8} {l : List RecB} (hb : b.drop at_ = frameB k p ++ r) (h1 : 1 ≤ k) (h2 : k ≤ 3) (hp : p.length ≤ 30000) : scanAt b at_ torn l = scanAt b (at_ + 44 + p.length) (at_ + 44 + p.length) (l ++ [⟨at_, k, p⟩]) := by
  obtain ⟨e1, e2, e3, e4, e5⟩ := frame_head r h1 h2 hp
  have hl := congrArg List.length hb
  rw [List.length_drop, List.length_append, frameB_length] at hl
  rw [← hb] at e1 e2 e3 e4 e5
  rw [scan_rec e1 (by rw [e3]; omega), e3]
  congr 2
  unfold recsAt
  rw [e4, e5, e2]
  simp
end Go.Proofs.YtmjikfeaopmejaaGreatDoor
/-
  Walk: which notes are formed, as the document says.
-/
namespace Go.Proofs.YtmjikfeaopmejaaGreatDoor
open Go.RowKit
set_option linter.unusedSimpArgs false
set_option linter.unusedVariables false
theorem gt0 (u : Nat) : decide ((0 : Int) < (u : Int)) = decide (1 ≤ u) := by rw [Bool.eq_iff_iff]; simp; omega
set_option maxRecDepth 100000 in
set_option maxHeartbeats 1000000 in
theorem refFormed_any (k : Int) (e : Nat) (nm : ByteArray) (m : MsgV) (w : World) (hs : nm.size ≤ 9223372036854775807) :
    Calls Tryz.prog 12 #[.agg (noteC k e nm m)] w fun ev w' => ev = .returned (.bool (formedV k e nm m)) ∧ Below w.heap.size w w' := by
  refine calls_at 82 Tryz.func12 rfl rfl (Nat.le_of_ble_eq_true rfl) ?_
  intro a hA; replace hA := hA.norm
  refine wS (wR ?_)
  refine wl_new hA rfl rfl (by decide) (fun ev h => by simp [go_sem, h.get 0 rfl]; try first | exact ⟨rfl, rfl⟩ | rfl) fun w1 a (K : Blk _ _ _ _) hz hb0 hA => ?_
  unfold noteC at K
  revert a; refine wo rfl rfl (by decide) (fun ev e h => by simp [go_sem, h, K.cell] <;> rfl) ?_; intro a hA
  replace hA := hA.keepN [1]
  refine wN (nT (wS (wR ?_)))
  revert a; (iterate 5 refine wo rfl rfl (by decide) (fun ev e h => by simp [go_sem, h, K.cell] <;> rfl) ?_); (iterate 4 refine wg _ rfl rfl rfl rfl (by decide) (fun hq ev e h => by simp [go_sem, h, ↓gw_t (beq_t hq), K.cell] <;> rfl) ?_); refine wka rfl rfl (by decide) rfl rfl rfl ?_; intro a hA
  replace hA := hA.keepN [1, 13]
  revert a; refine wo rfl rfl (by decide) (fun ev e h => by simp [go_sem, h, K.cell] <;> rfl) ?_; (iterate 5 refine wg _ rfl rfl rfl rfl (by decide) (fun hq ev e h => by simp [go_sem, h, ↓gw_t (beq_t hq), K.cell] <;> rfl) ?_); refine wka rfl rfl (by decide) rfl rfl rfl ?_; refine wo rfl rfl (by decide) (fun ev e h => by simp [go_sem, h, K.cell] <;> rfl) ?_; intro a hA
  replace hA := hA.keepN [1, 3]
  refine wN (nT (wS (wS (wR ?_))))
  revert a; (iterate 2 refine wo rfl rfl (by decide) (fun ev e h => by simp [go_sem, h, K.cell] <;> rfl) ?_); intro a hA
  replace hA := hA.keepN [1, 3, 22]
  refine wN (nT (wB (wS (wR ?_))))
  revert a; (iterate 2 refine wo rfl rfl (by decide) (fun ev e h => by simp [go_sem, h, K.cell] <;> rfl) ?_); intro a hA
  replace hA := hA.keepN [1, 3, 22, 23]
  refine wN (nT ?_)
  refine wp_if hA 23 _ rfl (fun hq1 => ?yA) (fun hq1 => ?nA)
  case yA =>
    refine wS (wR ?_)
    revert a; (iterate 4 refine wo rfl rfl (by decide) (fun ev e h => by simp [go_sem, h, K.cell] <;> rfl) ?_); (iterate 2 refine wg _ rfl rfl rfl rfl (by decide) (fun hq ev e h => by simp [go_sem, h, ↓gw_t (beq_t hq), K.cell] <;> rfl) ?_); intro a hA
    refine wl_gcallv _ hA rfl rfl rfl rfl (by decide) (fun hq ev h => exec_call Tryz.func27 (by kernel_rfl) rfl (h.f _) (by first | (simp only [mL, ((h.get 30 rfl).trans (gw_t (beq_t hq))), h.c] <;> rfl) | (simp [mL, ((h.get 30 rfl).trans (gw_t (beq_t hq))), h.c, K.cell] <;> rfl))) (fun hq => refNamed_any nm hs _) fun a w2 hb hA => ?_
    replace K := K.below hb K.lt
    revert a; refine wka rfl rfl (by decide) rfl rfl rfl ?_; refine wo rfl rfl (by decide) (fun ev e h => by simp [go_sem, h, K.cell] <;> rfl) ?_; refine wg _ rfl rfl rfl rfl (by decide) (fun hq ev e h => by simp [go_sem, h, ↓gw_t (beq_t hq), K.cell] <;> rfl) ?_; refine wka rfl rfl (by decide) rfl rfl rfl ?_; intro a hA
    replace hA := hA.keepN [1, 35]
    revert a; refine wo rfl rfl (by decide) (fun ev e h => by simp [go_sem, h, K.cell] <;> rfl) ?_; (iterate 4 refine wg _ rfl rfl rfl rfl (by decide) (fun hq ev e h => by simp [go_sem, h, ↓gw_t (beq_t hq), K.cell] <;> rfl) ?_); refine wka rfl rfl (by decide) rfl rfl rfl ?_; refine wo rfl rfl (by decide) (fun ev e h => by simp [go_sem, h, K.cell] <;> rfl) ?_; intro a hA
    replace hA := hA.keepN [2]
    refine wN (nT (wp_ret (rB (rT ?_))))
    refine ret_1 hA 2 rfl rfl ?_
    exact ⟨ret_bool (by unfold formedV bareV; rw [hq1, eq0 m.uid, cond_true]; simp only [Bool.and_assoc]; rfl), hb0.trans (hb.mono hb0.size)⟩
  case nA =>
    refine wS (wR ?_)
    revert a; (iterate 2 refine wo rfl rfl (by decide) (fun ev e h => by simp [go_sem, h, K.cell] <;> rfl) ?_); intro a hA
    replace hA := hA.keepN [1, 3, 22, 42]
    refine wN (nT ?_)
    refine wp_if hA 42 _ rfl (fun hq2 => ?yB) (fun hq2 => ?nB)
    case yB =>
      refine wS (wR ?_)
      revert a; (iterate 4 refine wo rfl rfl (by decide) (fun ev e h => by simp [go_sem, h, K.cell] <;> rfl) ?_); (iterate 2 refine wg _ rfl rfl rfl rfl (by decide) (fun hq ev e h => by simp [go_sem, h, ↓gw_t (beq_t hq), K.cell] <;> rfl) ?_); intro a hA
      refine wl_gcallv _ hA rfl rfl rfl rfl (by decide) (fun hq ev h => exec_call Tryz.func27 (by kernel_rfl) rfl (h.f _) (by first | (simp only [mL, ((h.get 49 rfl).trans (gw_t (beq_t hq))), h.c] <;> rfl) | (simp [mL, ((h.get 49 rfl).trans (gw_t (beq_t hq))), h.c, K.cell] <;> rfl))) (fun hq => refNamed_any nm hs _) fun a w2 hb hA => ?_
      replace K := K.below hb K.lt
      revert a; refine wka rfl rfl (by decide) rfl rfl rfl ?_; refine wo rfl rfl (by decide) (fun ev e h => by simp [go_sem, h, K.cell] <;> rfl) ?_; (iterate 2 refine wg _ rfl rfl rfl rfl (by decide) (fun hq ev e h => by simp [go_sem, h, ↓gw_t (beq_t hq), K.cell] <;> rfl) ?_); intro a hA
      replace hA := hA.keepN [1, 52, 54]
      revert a; (iterate 2 refine wg _ rfl rfl rfl rfl (by decide) (fun hq ev e h => by simp [go_sem, h, ↓gw_t (beq_t hq), K.cell] <;> rfl) ?_); refine wka rfl rfl (by decide) rfl rfl rfl ?_; refine wo rfl rfl (by decide) (fun ev e h => by simp [go_sem, h, K.cell] <;> rfl) ?_; (iterate 2 refine wg _ rfl rfl rfl rfl (by decide) (fun hq ev e h => by simp [go_sem, h, ↓gw_t (beq_t hq), K.cell] <;> rfl) ?_); intro a hA
      refine wl_gcallv _ hA rfl rfl rfl rfl (by decide) (fun hq ev h => exec_call Tryz.func28 (by kernel_rfl) rfl (h.f _) (by first | (simp only [mL, ((h.get 60 rfl).trans (gw_t (beq_t hq))), h.c] <;> rfl) | (simp [mL, ((h.get 60 rfl).trans (gw_t (beq_t hq))), h.c, K.cell] <;> rfl))) (fun hq => refFits_any (m.uid : Nat) m.date m.flags m.a m.b.length m.c _) fun a w3 hb3 hA => ?_
      replace K := K.below hb3 K.lt
      revert a; refine wka rfl rfl (by decide) rfl rfl rfl ?_; refine wo rfl rfl (by decide) (fun ev e h => by simp [go_sem, h, K.cell] <;> rfl) ?_; intro a hA
      replace hA := hA.keepN [2]
      refine wN (nT (wp_ret (rB (rT ?_))))
      refine ret_1 hA 2 rfl rfl ?_
      exact ⟨ret_bool (by unfold formedV fullV; rw [hq1, hq2, cond_false, cond_true]; simp only [Bool.and_assoc]; rfl), (hb0.trans (hb.mono hb0.size)).trans (hb3.mono (Nat.le_trans hb0.size hb.size))⟩
    case nB =>
      refine wS (wR ?_)
      revert a; (iterate 2 refine wo rfl rfl (by decide) (fun ev e h => by simp [go_sem, h, K.cell] <;> rfl) ?_); intro a hA
      replace hA := hA.keepN [1, 3, 63]
      refine wN (nT ?_)
      refine wp_if hA 63 _ rfl (fun hq3 => ?yC) (fun hq3 => ?nC)
      case yC =>
        refine wS (wR ?_)
        revert a; (iterate 4 refine wo rfl rfl (by decide) (fun ev e h => by simp [go_sem, h, K.cell] <;> rfl) ?_); (iterate 3 refine wg _ rfl rfl rfl rfl (by decide) (fun hq ev e h => by simp [go_sem, h, ↓gw_t (beq_t hq), K.cell] <;> rfl) ?_); refine wka rfl rfl (by decide) rfl rfl rfl ?_; refine wo rfl rfl (by decide) (fun ev e h => by simp [go_sem, h, K.cell] <;> rfl) ?_; refine wg _ rfl rfl rfl rfl (by decide) (fun hq ev e h => by simp [go_sem, h, ↓gw_t (beq_t hq), K.cell] <;> rfl) ?_; intro a hA
        replace hA := hA.keepN [1, 73, 74]
        revert a; refine wka rfl rfl (by decide) rfl rfl rfl ?_; refine wo rfl rfl (by decide) (fun ev e h => by simp [go_sem, h, K.cell] <;> rfl) ?_; (iterate 4 refine wg _ rfl rfl rfl rfl (by decide) (fun hq ev e h => by simp [go_sem, h, ↓gw_t (beq_t hq), K.cell] <;> rfl) ?_); refine wka rfl rfl (by decide) rfl rfl rfl ?_; refine wo rfl rfl (by decide) (fun ev e h => by simp [go_sem, h, K.cell] <;> rfl) ?_; intro a hA
        replace hA := hA.keepN [2]
        refine wN (nT (wp_ret (rB (rT ?_))))
        refine ret_1 hA 2 rfl rfl ?_
        exact ⟨ret_bool (by unfold formedV bareV; rw [hq1, hq2, hq3, cond_false, cond_false, Bool.true_and]; simp only [Bool.and_assoc]; rfl), hb0⟩
      case nC =>
        refine wp_skip (nB (nT (wS (wR ?_))))
        revert a; refine wo rfl rfl (by decide) (fun ev e h => by simp [go_sem, h, K.cell] <;> rfl) ?_; intro a hA
        replace hA := hA.keepN [2]
        refine wN (nT (wp_ret ?_))
        refine ret_1 hA 2 rfl rfl ?_
        exact ⟨ret_bool (by unfold formedV; rw [hq1, hq2, hq3]; simp), hb0⟩
end Go.Proofs.YtmjikfeaopmejaaGreatDoor
/-
  Walk of the document's numbers in bytes.
-/
namespace Go.Proofs.YtmjikfeaopmejaaGreatDoor
open Go.RowKit
theorem u8s_set (l : List UInt8) (i : Nat) (c : UInt8) : u8s (l.set i c) = (u8s l).set i (.int .u8 ((c.toNat : Nat) : Int)) := by simp [u8s, List.map_set]
theorem zeros_be (m j v : Nat) : (List.replicate (m + 1) (0 : UInt8) ++ be j v).set m (UInt8.ofNat (v / 256 ^ j)) = List.replicate m 0 ++ be (j + 1) v := by
  rw [List.replicate_succ', List.append_assoc, List.set_append_right _ _ (by simp)]
  simp [be]
theorem made8 (n : Nat) : madeCells (Value.int IntKind.u8 0).cells n = (u8s (List.replicate n 0)).toArray := by
  unfold madeCells u8s
  apply Array.ext
  · simp
  · intro i h1 h2; simp [Value.cells, Nat.mod_one]
set_option maxRecDepth 100000 in
theorem refBytes_any (v n : Nat) (hv : v < 18446744073709551616) (hn : n ≤ 1000) (w : World) :
    Calls Tryz.prog 46 #[.int .u64 (v : Nat), .int .i64 (n : Nat)] w fun e w' => ∃ r, e = .returned r ∧ w'.ownsRow w.heap.size 5 1 r n (u8s (be n v)) ∧ Below w.heap.size w w' := by
  obtain ⟨i0, hi0, hz0, hz1, hz2⟩ := info_parts u8_info
  have hmk := run_make_rowN (P := Tryz.prog) 23 5 i0 (.int .u8 0) Tryz.underlying23 hi0 hz0 .i64 .i64 n n (Nat.le_refl _) (by rw [hz2]; omega) (by omega) w
  rw [hz1, Nat.mul_one, made8] at hmk
  have hown : (w.alloc (.cells (u8s (List.replicate n 0)).toArray 5)).ownsRow w.heap.size 5 1 (.slice (some ⟨w.heap.size, 0, none⟩) n n) n (u8s (List.replicate n 0 ++ be 0 v)) := by
    have := World.ownsRow_lit (base := w.heap.size) (e := 5) (size := 1) w (u8s (List.replicate n 0)).toArray n (Nat.le_refl _) (by unfold maxLen; omega) (by simp [u8s])
    simpa [be] using this
  have HO := Lib.hid hown
  have HB := Lib.hid ((Below.refl w.heap.size w).alloc (Nat.le_refl _) (.cells (u8s (List.replicate n 0)).toArray 5))
  obtain ⟨g, hg⟩ : ∃ g, w.heap.size = g := ⟨_, rfl⟩
  rw [hg] at HO
  have HG := Lib.hid hg
  clear hown
  go_enter Tryz.func46, Tryz.ntmps46
  go_wp2
  clear hg hmk
  go_loopw [0, 6] (fun z i wr => ∃ (m j vj : Nat), m + j = n ∧ i = .int .i64 ((m : Int) - 1) ∧ z = .int .u64 (vj : Nat) ∧ Hid (vj = v / 256 ^ j) ∧ Hid (wr.ownsRow g 5 1 (.slice (some ⟨g, 0, none⟩) n n) n (u8s (List.replicate m 0 ++ be j v))) ∧ Hid (Below w.heap.size w wr)) (fun _ i _ => (intOf i + 1).toNat)
  case atStart => exact ⟨n, 0, v, by omega, rfl, rfl, by show v = _; simp, HO, HB⟩
  case round =>
    obtain ⟨m, j, vj, hmj, rfl, rfl, hvj, ho, hb⟩ := hrel
    rcases m with _ | m
    · go_wp2
      go_ret
      have hj : j = n := by omega
      subst hj
      refine ⟨_, rfl, ?_, hb.out⟩
      have := ho.out
      rw [HG.out]
      simpa using this
    · have hc0 : wr.cell? ⟨g, m, none⟩ = some (.int .u8 0) := by
        rw [ho.out.cellAt m (by omega), u8s_get, List.getElem?_append_left (by simp)]
        simp
      have hf0 := ho.out.frozenAt m
      have hvl : vj < 18446744073709551616 := by rw [hvj.out]; exact Nat.lt_of_le_of_lt (Nat.div_le_self _ _) hv
      have hst := (ho.out.stored m (.int .u8 (((UInt8.ofNat (v / 256 ^ j)).toNat : Nat) : Int)))
      rw [← u8s_set, zeros_be, ← hvj.out] at hst
      have hs8 : (((UInt8.ofNat vj).toNat : Nat) : Int) = (vj : Int) % 256 := by simp
      rw [hs8] at hst
      have HS := Lib.hid hst.1
      have hb2 := hb.out.grown hst.2 (by have := HB.out.size; exact hb.out.size) (fun k hk => by injection hk with hk; have := HG.out; omega)
      have HB2 := Lib.hid hb2
      have HV2 : Hid (vj / 256 = v / 256 ^ (j + 1)) := by rw [hvj.out, Nat.div_div_eq_div_mul, ← Nat.pow_succ]; exact rfl
      have e : (((m + 1 : Nat) : Int) - 1) = (m : Int) := by omega
      have m0 : (0 : Int) ≤ (m : Int) := by omega
      have m1 : (m : Int) < (n : Int) := by omega
      rw [e]
      clear hst hb2 hvj e hs8
      go_wp2
      go_roundw
      case rel => exact ⟨m, j + 1, vj / 256, by omega, by first | go_num | rfl, by rw [Int.natCast_ediv]; rfl, HV2, HS, HB2⟩
      case measure => simp [intOf]
end Go.Proofs.YtmjikfeaopmejaaGreatDoor
/-
  Numbers, texts and bytes that are put: the program's codec.Out.
-/
namespace Go.Proofs.YtmjikfeaopmejaaGreatDoor
open Go.RowKit
/-- a block of bytes -/
def U8Row (w : World) (g : Nat) : Prop := ∃ cs p, w.heap[g]? = some (.cells cs 5 p)
theorem U8Row.same {w w' : World} {g : Nat} (h : U8Row w g) (e : w'.heap[g]? = w.heap[g]?) : U8Row w' g := by
  obtain ⟨cs, p, hg⟩ := h
  exact ⟨cs, p, e.trans hg⟩
theorem lt_of_get {w : World} {g : Nat} {o : Obj} (h : w.heap[g]? = some o) : g < w.heap.size := by
  rcases Nat.lt_or_ge g w.heap.size with h' | h'
  · exact h'
  · rw [Array.getElem?_eq_none h'] at h; cases h
theorem U8Row.lt {w : World} {g : Nat} (h : U8Row w g) : g < w.heap.size := by
  obtain ⟨cs, p, hg⟩ := h
  exact lt_of_get hg
/-- but for one block and for rows of bytes that are not older than B nothing has turned -/
structure OBut (B o : Nat) (w w' : World) : Prop where
  os : w'.os = w.os
  tape : w'.tape = w.tape
  output : w'.output = w.output
  size : w.heap.size ≤ w'.heap.size
  block : ∀ i, i < w.heap.size → i ≠ o → (i < B ∨ ¬ U8Row w i) → w'.heap[i]? = w.heap[i]?
section
variable {B o : Nat} {w w' w'' : World}
theorem OBut.refl (B o : Nat) (w : World) : OBut B o w w := ⟨rfl, rfl, rfl, Nat.le_refl _, fun _ _ _ _ => rfl⟩
theorem OBut.trans (h : OBut B o w w') (k : OBut B o w' w'') : OBut B o w w'' := by
  refine ⟨k.os.trans h.os, k.tape.trans h.tape, k.output.trans h.output, Nat.le_trans h.size k.size, fun i hi h1 h2 => ?_⟩
  have e := h.block i hi h1 h2
  refine (k.block i (Nat.lt_of_lt_of_le hi h.size) h1 ?_).trans e
  rcases h2 with h2 | h2
  · exact .inl h2
  · exact .inr fun hf => h2 (hf.same e.symm)
theorem OBut.of_below (k : Below w.heap.size w w') : OBut B o w w' := ⟨k.os, k.tape, k.output, k.size, fun i hi _ _ => k.block i hi⟩
theorem OBut.below (h : OBut B o w w') (k : Below w'.heap.size w' w'') : OBut B o w w'' := h.trans (.of_below k)
theorem OBut.drew (h : OBut B o w w') : OBut B o w w'.drew := ⟨h.os, h.tape, h.output, h.size, h.block⟩
theorem OBut.alloc (h : OBut B o w w') (x : Obj) : OBut B o w (w'.alloc x) := h.below ((Below.refl _ _).alloc (Nat.le_refl _) x)
theorem OBut.set_ (h : OBut B o w w') (i : Nat) (u : Value) : OBut B o w (w'.setCell ⟨o, i, none⟩ u) :=
  h.trans ⟨rfl, rfl, rfl, by simp [World.setCell], fun j _ h1 _ => Below.heap_setCell _ _ _ _ h1⟩
theorem OBut.grown (h : OBut B o w w') {base : Nat} {v : Value} {n : Nat} {xs : List Value} (hv : w'.ownsRow base 5 1 v n xs) (hB : B ≤ base) (g : w'.grownBy w'' v.ownBlock) : OBut B o w w'' := by
  refine h.trans ⟨g.os, g.tape, g.output, g.size, fun i hi _ h2 => g.block i hi (fun e => ?_)⟩
  have hlt := hv.lt i e.symm
  rcases h2 with h2 | h2
  · omega
  · refine h2 ?_
    rcases hv.2 with ⟨rfl, _⟩ | ⟨g', cap, cur, rfl, _, hg, _⟩
    · cases e
    · injection e with e
      subst e
      exact ⟨cur, _, hg⟩
theorem OBut.toBelow (h : OBut B o w w') {C : Nat} (hC : C ≤ w.heap.size) (hB : C ≤ B) (ho : C ≤ o) : Below C w w' :=
  ⟨h.os, h.tape, h.output, h.size, fun i hi => h.block i (by omega) (by omega) (.inl (by omega))⟩
theorem Blk.obut {g : Nat} {t : TypeId} {cs : Array Value} (h : Blk w g t cs) (hb : OBut B o w w') (hg : g ≠ o) (ht : t ≠ 5) : Blk w' g t cs := by
  refine (hb.block g h.lt hg (.inr ?_)).trans h
  rintro ⟨cs', p, h'⟩
  unfold Blk at h
  rw [h] at h'
  injection h' with h'
  injection h' with _ h'
  exact ht h'
end
structure OutAt (w : World) (B o : Nat) (l : List UInt8) (sp : Bool) (v : Value) : Prop where
  le : B ≤ o
  cells : Blk w o 74 #[v, .bool sp]
  own : w.ownsRow B 5 1 v l.length (u8s l)
theorem OutAt.below {w w' : World} {B o : Nat} {l : List UInt8} {sp : Bool} {v : Value} (h : OutAt w B o l sp v) (hb : Below w.heap.size w w') : OutAt w' B o l sp v :=
  ⟨h.le, h.cells.below hb h.cells.lt, own_below h.own hb⟩
theorem OutAt.c0 {w : World} {B o : Nat} {l : List UInt8} {sp : Bool} {v : Value} (h : OutAt w B o l sp v) : w.cell? ⟨o, 0, none⟩ = some v := by rw [h.cells.cell]; rfl
theorem OutAt.c1 {w : World} {B o : Nat} {l : List UInt8} {sp : Bool} {v : Value} (h : OutAt w B o l sp v) : w.cell? ⟨o, 1, none⟩ = some (.bool sp) := by rw [h.cells.cell]; rfl
theorem out_new {w : World} {B : Nat} (hB : B ≤ w.heap.size) : OutAt (w.alloc (.cells #[.slice none 0 0, .bool false] 74)) B w.heap.size [] false (.slice none 0 0) :=
  ⟨hB, Blk.new w _ _, World.ownsRow_nil _ _ _ _⟩
/-- append of bytes, shut: so that a run equation serves the walk -/
def append8S (args : Array Value) : Sem Next := do pure (.value (← Builtin.append_ #[23, 23] 23 args))
theorem builtin_append8 (cs : Array Bool) (args : Array Value) : builtin .append #[23, 23] 23 cs args = append8S args := rfl
theorem run_append8 {w : World} {B : Nat} {v : Value} {l m : List UInt8} (h : w.ownsRow B 5 1 v l.length (u8s l)) {A : Option Addr} {n : Nat} (c : Nat) {Bd : Nat} (hn : n = m.length) (hr : Reads w Bd 1 A n (u8s m)) (hlen : l.length + m.length ≤ 1000000000) (hB : B ≤ w.heap.size) :
    ∃ A' c' w', (append8S #[v, .slice A n c]).run Tryz.prog w = .ok (.value (.slice A' (l ++ m).length c')) w' ∧ w'.ownsRow B 5 1 (.slice A' (l ++ m).length c') (l ++ m).length (u8s (l ++ m)) ∧ w.grownBy w' v.ownBlock := by
  subst hn
  obtain ⟨i0, hi0, hz0, hz1, hz2⟩ := info_parts u8_info
  obtain ⟨v', w', hrun, ho, hg⟩ := run_append_any (P := Tryz.prog) w B 23 23 5 i0 _ 1 1 Tryz.underlying23 hi0 hz0 hz1 hz2 rfl (by omega) v l.length (u8s l) h A m.length c (u8s m) (Gives.of_reads hr (u8s_one m)) (by unfold maxLen; omega) (by omega) hB
  rw [← u8s_append, ← List.length_append] at ho
  obtain ⟨A', c', rfl, _, _⟩ := own_reads ho
  exact ⟨A', c', w', by unfold append8S; simp only [Sem.run_bind, hrun, Result.andThen_ok, Sem.run_pure], ho, hg⟩
theorem out_ne {w : World} {B o : Nat} {l : List UInt8} {sp : Bool} {v : Value} (h : OutAt w B o l sp v) : some o ≠ v.ownBlock := fun e => by
  rcases h.own.2 with ⟨rfl, _⟩ | ⟨g', cap, cur, rfl, _, hgg, _⟩
  · cases e
  · injection e with e
    subst e
    have := h.cells
    unfold Blk at this
    rw [this] at hgg
    injection hgg with hgg
    injection hgg with _ hgg
    exact absurd hgg (by decide)
theorem out_push {X w2 : World} {B o : Nat} {l l2 : List UInt8} {sp : Bool} {v v2 : Value} (h : OutAt X B o l sp v) (hg : X.grownBy w2 v.ownBlock) (hown : w2.ownsRow B 5 1 v2 l2.length (u8s l2)) :
    Blk w2 o 74 #[v, .bool sp] ∧ OutAt (w2.setCell ⟨o, 0, none⟩ v2) B o l2 sp v2 ∧ OBut B o X (w2.setCell ⟨o, 0, none⟩ v2) := by
  have ho2 := h.cells.grown hg (out_ne h)
  refine ⟨ho2, ⟨h.le, ho2.set_ 0 _, own_keep hown fun g hgg => Below.heap_setCell _ _ _ _ (fun e => ?_)⟩, ((OBut.refl B o X).grown h.own (Nat.le_refl B) hg).set_ 0 _⟩
  rcases hown.2 with ⟨h0, _⟩ | ⟨g', cap, cur, h0, _, hgg', _⟩
  · rw [h0] at hgg; cases hgg
  · rw [h0] at hgg
    injection hgg with hgg
    subst hgg
    simp only at e
    subst e
    unfold Blk at ho2
    rw [ho2] at hgg'
    injection hgg' with hgg'
    injection hgg' with _ hgg'
    exact absurd hgg' (by decide)
theorem shr_bytes (v m : Nat) : (v : Int) / 2 ^ (8 * m) = ((v / 256 ^ m : Nat) : Int) := by
  have e : (256 : Nat) ^ m = 2 ^ (8 * m) := by rw [Nat.pow_mul]
  rw [e, Int.natCast_ediv, Int.natCast_pow]; rfl
section
attribute [local go_sem ↓ 100000] builtin_append8
set_option maxRecDepth 100000 in
theorem out_N {w : World} {B o : Nat} {l : List UInt8} {sp : Bool} {v0 : Value} (h : OutAt w B o l sp v0) (hB : B ≤ w.heap.size) (hl : l.length ≤ 900000000) (v n : Nat) (hn : 1 ≤ n ∧ n ≤ 7) (hv : v < 256 ^ n) :
    Calls Tryz.prog 31 #[.pointer (some ⟨o, 0, none⟩), .int .i64 (v : Nat), .int .i64 (n : Nat)] w fun e w' => e = .returned (.tuple #[]) ∧ (∃ v', OutAt w' B o (l ++ be n v) sp v') ∧ OBut B o w w' := by
  have hv7 : v < 72057594037927936 := Nat.lt_of_lt_of_le hv (Nat.le_trans (Nat.pow_le_pow_right (by omega) hn.2) (by decide))
  have H := Lib.hid h
  have n1 : decide ((n : Int) < 1) = false := by simp; omega
  have n2 : decide (7 < (n : Int)) = false := by simp; omega
  have n3 : decide ((v : Int) < 0) = false := by simp
  have hz : (v : Int) / 2 ^ (8 * n) = 0 := by
    rw [shr_bytes, Nat.div_eq_of_lt hv]; rfl
  go_enter Tryz.func31, Tryz.ntmps31
  go_wp2
  go_loopw [6] (fun i wr => ∃ (m : Nat) (l1 : List UInt8) (v1 : Value), i = .int .i64 ((m : Int) - 1) ∧ m ≤ n ∧ Hid (l1 ++ be m v = l ++ be n v) ∧ Hid (OutAt wr B o l1 sp v1) ∧ Hid (OBut B o w wr)) (fun i _ => (intOf i + 1).toNat)
  case atStart => exact ⟨n, l, v0, by go_num, Nat.le_refl _, rfl, H, OBut.refl _ _ _⟩
  case round =>
    obtain ⟨m, l1, v1, rfl, hm, hl1, ho, hb⟩ := hrel
    rcases m with _ | m
    · go_wp2
      go_end0
      have h1 := ho.out
      have h2 := hl1.out
      rw [be, List.append_nil] at h2
      rw [h2] at h1
      exact ⟨rfl, ⟨v1, h1⟩, hb.out⟩
    · have e : (((m + 1 : Nat) : Int) - 1) = (m : Int) := by omega
      rw [e]
      obtain ⟨qm, hqm⟩ : ∃ qm, v / 256 ^ m = qm := ⟨_, rfl⟩
      have hq : (v : Int) / 2 ^ (8 * m) = (qm : Int) := by rw [shr_bytes, hqm]
      have hs8 : (((UInt8.ofNat qm).toNat : Nat) : Int) = (qm : Int) % 256 := by simp
      have hll : l1.length ≤ 900000010 := by
        have := congrArg List.length hl1.out
        rw [List.length_append, List.length_append, be_length, be_length] at this
        omega
      have hbx := ((Below.refl wr.heap.size wr).alloc (Nat.le_refl _) (.cells #[.int .u8 (((UInt8.ofNat qm).toNat : Nat) : Int)] 5)).drew
      have hox := ho.out.below hbx
      obtain ⟨A2, c2, w2, E1, hown, hg⟩ := run_append8 (n := 1) (m := [UInt8.ofNat qm]) hox.own 1 rfl (lit_one wr (UInt8.ofNat qm)).drew (by simp; omega) (Nat.le_trans (Nat.le_trans hB hb.out.size) hbx.size)
      have hl2 : (l1 ++ [UInt8.ofNat qm]) ++ be m v = l ++ be n v := by rw [List.append_assoc, ← hl1.out, ← hqm]; rfl
      obtain ⟨l2, hl2e⟩ : ∃ l2, l1 ++ [UInt8.ofNat qm] = l2 := ⟨_, rfl⟩
      rw [hl2e] at E1 hown hl2
      obtain ⟨ho2, p1, p2⟩ := out_push hox hg hown
      have HFIN : Hid (OutAt (w2.setCell ⟨o, 0, none⟩ (.slice A2 l2.length c2)) B o l2 sp (.slice A2 l2.length c2) ∧ OBut B o w (w2.setCell ⟨o, 0, none⟩ (.slice A2 l2.length c2))) := ⟨p1, (hb.out.below hbx).trans p2⟩
      rw [hs8] at E1
      have c0 := ho.out.c0
      have hol := ho.out.cells.lt
      have z0 : w2.cell? ⟨o, 0, none⟩ = some v1 := by rw [ho2.cell]; rfl
      have zf := ho2.frozen 0
      have m0 : (0 : Int) ≤ (m : Int) := by omega
      have hm7 : m ≤ 7 := by omega
      have HL2 := Lib.hid hl2
      clear hbx hox hown hg ho2 p1 p2 hl2 hl2e hs8 e hqm hll hl1
      go_wp2
      go_region
      all_goals (try go_wp2)
      go_roundw
      case rel => exact ⟨m, l2, _, by go_num, by omega, HL2, HFIN.out.1, HFIN.out.2⟩
      case measure => simp [intOf]
end
end Go.Proofs.YtmjikfeaopmejaaGreatDoor
/-
  Bytes and texts that are put, and what all of it is: the program's codec.Out; the clone of bytes.
-/
namespace Go.Proofs.YtmjikfeaopmejaaGreatDoor
open Go.RowKit
attribute [local go_sem ↓ 100000] builtin_append8
theorem empty_new (w : World) : (w.alloc (.cells #[] 5)).ownsRow w.heap.size 5 1 (.slice (some ⟨w.heap.size, 0, none⟩) 0 0) ([] : List UInt8).length (u8s []) := bytes_empty w
theorem nil_nil (w : World) : (binOp .eql 23 (.slice none 0 0) (.slice none 0 0)).run Tryz.prog w = .ok (.bool true) w := by kernel_rfl
theorem some_nil (g n c : Nat) (w : World) : (binOp .eql 23 (.slice (some ⟨g, 0, none⟩) n c) (.slice none 0 0)).run Tryz.prog w = .ok (.bool false) w := by kernel_rfl
set_option maxRecDepth 100000 in
theorem sclone_any {w : World} {B n : Nat} {v : Value} {l : List UInt8} (h : w.ownsRow B 5 1 v n (u8s l)) (hl : l.length = n) (hn : n ≤ 900000000) :
    Calls Tryz.prog 54 #[v] w fun e w' => ∃ v, e = .returned v ∧ w'.ownsRow w.heap.size 5 1 v n (u8s l) ∧ Below w.heap.size w w' := by
  obtain ⟨_, _, _, hr, _⟩ := own_reads h
  rcases h.2 with ⟨rfl, rfl⟩ | ⟨g, c, cur, rfl, _⟩
  · obtain rfl := List.length_eq_zero_iff.1 hl
    have he := nil_nil w
    go_enter Tryz.func54, Tryz.ntmps54
    go_wp2
    go_ret
    exact ⟨_, rfl, World.ownsRow_nil _ _ _ _, Below.refl _ _⟩
  · have hr := Reads.of_own h
    have he := some_nil g n c w
    have hbx := (Below.refl w.heap.size w).alloc (Nat.le_refl _) (.cells #[] 5)
    obtain ⟨A2, c2, w2, E1, hown, hg⟩ := run_append8 (n := n) (m := l) (empty_new w) c hl.symm (hr.below hbx) (by simp; omega) hbx.size
    have hb2 := hbx.grown hg hbx.size (fun k hk => ((empty_new w).lt k hk).1)
    simp only [List.nil_append] at E1 hown
    rw [hl] at E1 hown
    have HO := Lib.hid hown
    have HB2 := Lib.hid hb2
    clear hr hbx hown hg hb2
    go_enter Tryz.func54, Tryz.ntmps54
    go_wp2
    go_ret
    exact ⟨_, rfl, HO.out, HB2.out⟩
set_option maxRecDepth 100000 in
theorem out_Raw {w : World} {B o : Nat} {l : List UInt8} {sp : Bool} {v0 : Value} (h : OutAt w B o l sp v0) (hB : B ≤ w.heap.size) (hl : l.length ≤ 800000000) (A : Option Addr) (n c : Nat) (m : List UInt8) (hm : m.length = n) (hn : n ≤ 100000000) (hr : Reads w w.heap.size 1 A n (u8s m)) :
    Calls Tryz.prog 33 #[.pointer (some ⟨o, 0, none⟩), .slice A n c] w fun e w' => e = .returned (.tuple #[]) ∧ (∃ v', OutAt w' B o (l ++ m) sp v') ∧ OBut B o w w' := by
  obtain ⟨A2, c2, w2, E1, hown, hg⟩ := run_append8 (n := n) (m := m) h.own c hm.symm hr (by omega) hB
  obtain ⟨ho2, p1, p2⟩ := out_push h hg hown
  have c0 := h.c0
  have z0 : w2.cell? ⟨o, 0, none⟩ = some v0 := by rw [ho2.cell]; rfl
  have zf := ho2.frozen 0
  obtain ⟨l2, hl2⟩ : ∃ l2, l ++ m = l2 := ⟨_, rfl⟩
  rw [hl2] at E1 p1 p2 ⊢
  have H1 := Lib.hid p1
  have H2 := Lib.hid p2
  clear h hr hown hg ho2 p1 p2 hl2
  go_enter Tryz.func33, Tryz.ntmps33
  go_wp2
  go_end0
  exact ⟨rfl, ⟨_, H1.out⟩, H2.out⟩
set_option maxRecDepth 100000 in
theorem out_Text {w : World} {B o : Nat} {l : List UInt8} {sp : Bool} {v0 : Value} (h : OutAt w B o l sp v0) (hB : B ≤ w.heap.size) (hl : l.length ≤ 700000000) (s : ByteArray) (hs : s.size < 65536) :
    Calls Tryz.prog 32 #[.pointer (some ⟨o, 0, none⟩), .string s] w fun e w' => e = .returned (.tuple #[]) ∧ (∃ v', OutAt w' B o (l ++ textB s) sp v') ∧ OBut B o w w' := by
  have HN := Lib.hid (out_N h hB (by omega) s.size 2 (by omega) (by omega))
  have hcv : ∀ w1 : World, (convert 9 23 (.string s)).run Tryz.prog w1 = .ok (.slice (some ⟨w1.heap.size, 0, none⟩) s.size (grownCap w1 s.size 0 5)) (Lib.bytesWorld w1 5 s) := fun w1 => Lib.run_convert_string_bytes w1 9 23 5 s Tryz.underlying9 Tryz.underlying23 Tryz.underlying5
  go_enter Tryz.func32, Tryz.ntmps32
  go_wp2_with fail
  refine HN.out.mono ?_
  rintro e w1 ⟨rfl, ⟨v1, h1⟩, hb1⟩
  have hbx : Below w1.heap.size w1 (Lib.bytesWorld w1 5 s) := ⟨rfl, rfl, rfl, by rw [Lib.bytesWorld_size]; omega, fun k hk => Lib.bytesWorld_at_old w1 5 s k hk⟩
  have hx := h1.below hbx
  have hrd : Reads (Lib.bytesWorld w1 5 s) (Lib.bytesWorld w1 5 s).heap.size 1 (some ⟨w1.heap.size, 0, none⟩) s.size (u8s s.data.toList) := by
    refine ⟨by rw [u8s_length, Array.length_toList, Nat.mul_one]; rfl, fun _ => ⟨_, rfl, by rw [Lib.bytesWorld_size]; exact Nat.lt_succ_self _, fun j u hu => ?_⟩⟩
    have hj : j < s.size := by
      rcases Nat.lt_or_ge j s.size with h | h
      · exact h
      · rw [u8s_get, List.getElem?_eq_none (by simpa using h)] at hu; cases hu
    have ha : (⟨w1.heap.size, 0, none⟩ : Addr).add j = ⟨w1.heap.size, j, none⟩ := by unfold Addr.add; split <;> simp_all
    rw [ha, Lib.bytesWorld_cell w1 5 s j hj, ← hu, u8s_get]
    have hj2 : j < s.data.toList.length := by simpa using hj
    rw [List.getD_eq_getElem?_getD, List.getElem?_eq_getElem hj2]
    rfl
  have HR := Lib.hid (out_Raw hx (Nat.le_trans (Nat.le_trans hB hb1.size) hbx.size) (by rw [List.length_append, be_length]; omega) (some ⟨w1.heap.size, 0, none⟩) s.size (grownCap w1 s.size 0 5) s.data.toList rfl (by omega) hrd)
  have HB1 := Lib.hid (hb1.below hbx)
  have hcv1 := hcv w1
  clear hcv hx hrd h1 hb1 hbx
  go_wp2_with fail
  refine HR.out.mono ?_
  rintro e w2 ⟨rfl, ⟨v2, h2⟩, hb2⟩
  have H2 := Lib.hid h2
  have HB2 := Lib.hid (HB1.out.trans hb2)
  clear h2 hb2
  go_wp2
  go_end0
  refine ⟨rfl, ⟨v2, ?_⟩, HB2.out⟩
  have := H2.out
  rw [List.append_assoc] at this
  exact this
set_option maxRecDepth 100000 in
theorem out_End {w : World} {B o : Nat} {l : List UInt8} {v0 : Value} (h : OutAt w B o l false v0) (hl : l.length ≤ 800000000) :
    Calls Tryz.prog 34 #[.pointer (some ⟨o, 0, none⟩)] w fun e w' => ∃ v, e = .returned (.tuple #[v, .int .i64 0]) ∧ w'.ownsRow w.heap.size 5 1 v l.length (u8s l) ∧ Below w.heap.size w w' := by
  have HC := Lib.hid (sclone_any h.own rfl (by omega))
  have c0 := h.c0
  have c1 := h.c1
  clear h
  go_enter Tryz.func34, Tryz.ntmps34
  go_wp2_with fail
  refine HC.out.mono ?_
  rintro e w2 ⟨v, rfl, ho, hb⟩
  go_wp2
  go_ret2
  exact ⟨v, rfl, ho, hb⟩
end Go.Proofs.YtmjikfeaopmejaaGreatDoor
/-
  Walk of the document's text.
-/
namespace Go.Proofs.YtmjikfeaopmejaaGreatDoor
open Go.RowKit
attribute [local go_sem ↓ 100000] builtin_append8
/-- a row of bytes, added to -/
theorem append8_step {w0 w : World} (hb : Below w0.heap.size w0 w) {v : Value} {l m : List UInt8} (h : w.ownsRow w0.heap.size 5 1 v l.length (u8s l)) {A : Option Addr} {n : Nat} (c : Nat) {Bd : Nat} (hn : n = m.length) (hr : Reads w Bd 1 A n (u8s m)) (hlen : l.length + m.length ≤ 1000000000) :
    ∃ A' c' w', (append8S #[v, .slice A n c]).run Tryz.prog w = .ok (.value (.slice A' (l ++ m).length c')) w' ∧ w'.ownsRow w0.heap.size 5 1 (.slice A' (l ++ m).length c') (l ++ m).length (u8s (l ++ m)) ∧ Below w0.heap.size w0 w' := by
  obtain ⟨A2, c2, w2, E, ho, hg⟩ := run_append8 h c hn hr hlen hb.size
  exact ⟨A2, c2, w2, E, ho, hb.grown hg hb.size fun k hk => (h.lt k hk).1⟩
theorem append8_at {w0 w : World} (hb : Below w0.heap.size w0 w) {v : Value} {l m : List UInt8} {n1 n n2 : Nat} (h : w.ownsRow w0.heap.size 5 1 v n1 (u8s l)) {A : Option Addr} (c : Nat) {Bd : Nat} (hn : m.length = n) (h2 : n1 + n = n2) (hr : Reads w Bd 1 A n (u8s m)) (hlen : n2 ≤ 1000000000) :
    ∃ A' c' w', (append8S #[v, .slice A n c]).run Tryz.prog w = .ok (.value (.slice A' n2 c')) w' ∧ w'.ownsRow w0.heap.size 5 1 (.slice A' n2 c') n2 (u8s (l ++ m)) ∧ Reads w' w'.heap.size 1 A' n2 (u8s (l ++ m)) ∧ Below w0.heap.size w0 w' := by
  have h1 : l.length = n1 := by have := h.1; rw [u8s_length] at this; omega
  have hlm : (l ++ m).length = n2 := by rw [List.length_append]; omega
  obtain ⟨A2, c2, w2, E, ho, hb2⟩ := append8_step hb (own8 h) c hn.symm hr (by omega)
  rw [hlm] at E ho
  exact ⟨A2, c2, w2, E, ho, Reads.of_own ho, hb2⟩
theorem own_lit8 {w : World} {l : List UInt8} (hl : l.length ≤ 1000) {cs : Array Value} (hcs : cs = (u8s l).toArray) : (w.alloc (.cells cs 5)).ownsRow w.heap.size 5 1 (.slice (some ⟨w.heap.size, 0, none⟩) l.length l.length) l.length (u8s l) := by
  subst hcs
  have := World.ownsRow_lit (base := w.heap.size) (e := 5) (size := 1) w (u8s l).toArray l.length (Nat.le_refl _) (by unfold maxLen; omega) (by simp [u8s])
  simpa using this
def append8T (args : Array Value) : Sem Next := do pure (.value (← Builtin.append_ #[23, 9] 23 args))
theorem builtin_append8T (cs : Array Bool) (args : Array Value) : builtin .append #[23, 9] 23 cs args = append8T args := rfl
attribute [local go_sem ↓ 100000] builtin_append8T
theorem append8T_step {w0 w : World} (hb : Below w0.heap.size w0 w) {v : Value} {l : List UInt8} (h : w.ownsRow w0.heap.size 5 1 v l.length (u8s l)) (s : ByteArray) (hlen : l.length + s.size ≤ 1000000000) :
    ∃ A' c' w', (append8T #[v, .string s]).run Tryz.prog w = .ok (.value (.slice A' (l ++ s.data.toList).length c')) w' ∧ w'.ownsRow w0.heap.size 5 1 (.slice A' (l ++ s.data.toList).length c') (l ++ s.data.toList).length (u8s (l ++ s.data.toList)) ∧ Below w0.heap.size w0 w' := by
  obtain ⟨i0, hi0, hz0, hz1, hz2⟩ := info_parts u8_info
  obtain ⟨v', w', hrun, ho, hg, _⟩ := Lib.run_append_own_string (P := Tryz.prog) w w0.heap.size 23 9 23 5 i0 Tryz.underlying23 Tryz.underlying9 hi0 hz0 hz1 hz2 v l.length (u8s l) h s (by unfold maxLen; omega) (by omega) hb.size
  have ho' : w'.ownsRow w0.heap.size 5 1 v' (l ++ s.data.toList).length (u8s (l ++ s.data.toList)) := by
    rw [u8s_append, List.length_append]
    exact ho
  obtain ⟨A', c', rfl, _, _⟩ := own_reads ho'
  exact ⟨A', c', w', by unfold append8T; simp only [Sem.run_bind, hrun, Result.andThen_ok, Sem.run_pure], ho', hb.grown hg hb.size fun k hk => (h.lt k hk).1⟩
set_option maxRecDepth 100000 in
theorem refText_any (s : ByteArray) (hs : s.size ≤ 1000000) (w : World) :
    Calls Tryz.prog 47 #[.string s] w fun e w' => ∃ v, e = .returned v ∧ w'.ownsRow w.heap.size 5 1 v (textB s).length (u8s (textB s)) ∧ Below w.heap.size w w' := by
  have R1 := Lib.hid (refBytes_any s.size 2 (by omega) (by omega) w)
  go_enter Tryz.func47, Tryz.ntmps47
  go_wp2_with fail
  refine R1.out.mono ?_
  rintro e w1 ⟨v1, rfl, ho1, hb1⟩
  obtain ⟨A2, c2, w2, E, ho2, hb2⟩ := append8T_step hb1 (own8 ho1) s (by rw [be_length]; omega)
  obtain ⟨n2, hn2⟩ : ∃ n2, (be 2 s.size ++ s.data.toList).length = n2 := ⟨_, rfl⟩
  rw [hn2] at E ho2
  have HN2 : Hid ((textB s).length = n2) := hn2
  clear hn2
  have HO := Lib.hid ho2
  have HB := Lib.hid hb2
  clear ho1 hb1 ho2 hb2
  go_wp2
  go_ret
  refine ⟨_, rfl, ?_, HB.out⟩
  rw [HN2.out]
  exact HO.out
end Go.Proofs.YtmjikfeaopmejaaGreatDoor
/-
  What is read back: the program's codec.In.
-/
namespace Go.Proofs.YtmjikfeaopmejaaGreatDoor
open Go.RowKit
/-- but for one block nothing has turned -/
structure IBut (i : Nat) (w w' : World) : Prop where
  os : w'.os = w.os
  tape : w'.tape = w.tape
  output : w'.output = w.output
  size : w.heap.size ≤ w'.heap.size
  block : ∀ j, j < w.heap.size → j ≠ i → w'.heap[j]? = w.heap[j]?
section
variable {i : Nat} {w w' w'' : World}
theorem IBut.refl (i : Nat) (w : World) : IBut i w w := ⟨rfl, rfl, rfl, Nat.le_refl _, fun _ _ _ => rfl⟩
theorem IBut.trans (h : IBut i w w') (k : IBut i w' w'') : IBut i w w'' :=
  ⟨k.os.trans h.os, k.tape.trans h.tape, k.output.trans h.output, Nat.le_trans h.size k.size, fun j hj h1 => (k.block j (Nat.lt_of_lt_of_le hj h.size) h1).trans (h.block j hj h1)⟩
theorem IBut.of_below (k : Below w.heap.size w w') : IBut i w w' := ⟨k.os, k.tape, k.output, k.size, fun j hj _ => k.block j hj⟩
theorem IBut.below (h : IBut i w w') (k : Below w'.heap.size w' w'') : IBut i w w'' := h.trans (.of_below k)
theorem IBut.set_ (h : IBut i w w') (j : Nat) (u : Value) : IBut i w (w'.setCell ⟨i, j, none⟩ u) :=
  h.trans ⟨rfl, rfl, rfl, by simp [World.setCell], fun k _ h1 => Below.heap_setCell _ _ _ _ h1⟩
theorem IBut.toBelow (h : IBut i w w') {C : Nat} (hC : C ≤ w.heap.size) (hi : C ≤ i) : Below C w w' :=
  ⟨h.os, h.tape, h.output, h.size, fun j hj => h.block j (by omega) (by omega)⟩
theorem Reads.ibut {B n : Nat} {A : Option Addr} {l : List UInt8} (h : Reads w B 1 A n (u8s l)) (hB : B ≤ w.heap.size) {t : TypeId} {cs : Array Value} (hi : Blk w i t cs) (hcs : ∀ (k : Int) (j : Nat), cs[j]? ≠ some (.int .u8 k)) (hb : IBut i w w') : Reads w' w'.heap.size 1 A n (u8s l) := by
  refine ⟨h.1, fun hn => ?_⟩
  obtain ⟨ad, e, hlt, hc⟩ := h.2 hn
  have hl : 0 < l.length := by have := h.1; rw [u8s_length] at this; omega
  have h0 := hc 0 _ (by rw [u8s_get, List.getElem?_eq_getElem hl]; rfl)
  have a2 : ad.block ≠ i := by
    intro e
    have hcell := h0
    unfold World.cell? at hcell
    rw [block_of_add, e] at hcell
    unfold Blk at hi
    rw [hi] at hcell
    simp only at hcell
    split at hcell
    · cases hcell
    · exact hcs _ _ hcell
  refine ⟨ad, e, Nat.lt_of_lt_of_le hlt (Nat.le_trans hB hb.size), fun j u hu => ?_⟩
  have hk := hb.block ad.block (by omega) a2
  exact (World.cell?_of_block (by rw [block_of_add]; exact hk)).trans (hc j u hu)
end
structure InAt (w : World) (i : Nat) (s : InM) (v : Value) : Prop where
  cells : Blk w i 119 #[v, .bool s.bad]
  row : (v = .slice none 0 0 ∧ s.rest = []) ∨ ∃ ad c, v = .slice (some ad) s.rest.length c ∧ s.rest.length ≤ c ∧ Reads w w.heap.size 1 (some ad) s.rest.length (u8s s.rest) ∧ U8Row w ad.block
section
variable {w w' : World} {i : Nat} {s : InM} {v : Value}
theorem InAt.below (h : InAt w i s v) (hb : Below w.heap.size w w') : InAt w' i s v := by
  refine ⟨h.cells.below hb h.cells.lt, ?_⟩
  rcases h.row with h | ⟨ad, c, e, hc, hr, hu⟩
  · exact .inl h
  · exact .inr ⟨ad, c, e, hc, (hr.below hb).more hb.size, hu.same (hb.block _ hu.lt)⟩
theorem InAt.c0 (h : InAt w i s v) : w.cell? ⟨i, 0, none⟩ = some v := by rw [h.cells.cell]; rfl
theorem InAt.c1 (h : InAt w i s v) : w.cell? ⟨i, 1, none⟩ = some (.bool s.bad) := by rw [h.cells.cell]; rfl
theorem in_no8 {A : Option Addr} {n c : Nat} {b : Bool} : ∀ (k : Int) (j : Nat), (#[.slice A n c, .bool b] : Array Value)[j]? ≠ some (.int .u8 k) := by
  intro k j h
  rcases j with _ | _ | j <;> simp at h
set_option maxRecDepth 100000 in
theorem in_take (h : InAt w i s v) (hl : s.rest.length ≤ 1000000) (n : Int) :
    Calls Tryz.prog 65 #[.pointer (some ⟨i, 0, none⟩), .int .i64 n] w fun e w' => ∃ r, e = .returned r ∧ Took w' r (inTake s n).1 ∧ (∃ v', InAt w' i (inTake s n).2 v') ∧ IBut i w w' := by
  obtain ⟨rest, bad⟩ := s
  have c0 := h.c0
  have c1 := h.c1
  have f0 := h.cells.frozen 0
  have f1 := h.cells.frozen 1
  have H := Lib.hid h
  cases bad with
  | true =>
    have e : inTake ⟨rest, true⟩ n = ([], ⟨rest, true⟩) := by unfold inTake; rw [if_pos rfl]
    rw [e]
    clear h
    go_enter Tryz.func65, Tryz.ntmps65
    go_wp2
    go_ret
    exact ⟨_, rfl, Took.nil _, ⟨v, H.out⟩, IBut.refl _ _⟩
  | false =>
    obtain ⟨m, hm⟩ : ∃ m, rest.length = m := ⟨_, rfl⟩
    by_cases hbad : n < 0 ∨ (m : Int) < n
    · have e : inTake ⟨rest, false⟩ n = ([], ⟨[], true⟩) := by unfold inTake; rw [if_neg (by simp), if_pos (by simpa [hm] using hbad)]
      rw [e]
      have HF : Hid (InAt ((w.setCell ⟨i, 0, none⟩ (.slice none 0 0)).setCell ⟨i, 1, none⟩ (.bool true)) i ⟨[], true⟩ (.slice none 0 0) ∧ IBut i w ((w.setCell ⟨i, 0, none⟩ (.slice none 0 0)).setCell ⟨i, 1, none⟩ (.bool true))) :=
        ⟨⟨(h.cells.set_ 0 _).set_ 1 _, .inl ⟨rfl, rfl⟩⟩, ((IBut.refl i w).set_ 0 _).set_ 1 _⟩
      have hv : ∃ A c, v = .slice A m c := by
        rcases h.row with ⟨e1, e2⟩ | ⟨ad, c, e1, _⟩
        · simp only at e2; subst e2; exact ⟨none, 0, by rw [← hm]; exact e1⟩
        · exact ⟨some ad, c, by rw [← hm]; exact e1⟩
      obtain ⟨A, c, rfl⟩ := hv
      clear h
      rcases (show n < 0 ∨ (0 ≤ n ∧ (m : Int) < n) by omega) with hneg | ⟨hpos, hbig⟩
      · have g1 : decide (n < 0) = true := by simp; omega
        go_enter Tryz.func65, Tryz.ntmps65
        go_wp2
        go_ret
        exact ⟨_, rfl, Took.nil _, ⟨_, HF.out.1⟩, HF.out.2⟩
      · have g1 : decide (n < 0) = false := by simp; omega
        have g2 : decide ((m : Int) < n) = true := by simp; omega
        go_enter Tryz.func65, Tryz.ntmps65
        go_wp2
        go_ret
        exact ⟨_, rfl, Took.nil _, ⟨_, HF.out.1⟩, HF.out.2⟩
    · obtain ⟨k, rfl⟩ : ∃ k : Nat, n = k := ⟨n.toNat, by omega⟩
      have hkm : k ≤ m := by omega
      have e : inTake ⟨rest, false⟩ k = (rest.take k, ⟨rest.drop k, false⟩) := by unfold inTake; rw [if_neg (by simp), if_neg (by simpa [hm] using hbad)]; rfl
      rw [e]
      have htl : (rest.take k).length = k := by rw [List.length_take]; omega
      have hdl : (rest.drop k).length = m - k := by rw [List.length_drop, hm]
      have g1 : decide ((k : Int) < 0) = false := by simp
      have g2 : decide ((m : Int) < (k : Int)) = false := by simp; omega
      have i0 : (0 : Int) ≤ (k : Int) := by omega
      have i1 : (k : Int) ≤ (m : Int) := by omega
      rcases h.row with ⟨rfl, e2⟩ | ⟨ad, c, rfl, hc, hr, hu⟩
      · simp only at e2
        subst e2
        obtain rfl : m = 0 := by rw [← hm]; rfl
        obtain rfl : k = 0 := by omega
        have HF : Hid (InAt (w.setCell ⟨i, 0, none⟩ (.slice none 0 0)) i ⟨[], false⟩ (.slice none 0 0) ∧ IBut i w (w.setCell ⟨i, 0, none⟩ (.slice none 0 0))) :=
          ⟨⟨h.cells.set_ 0 _, .inl ⟨rfl, rfl⟩⟩, (IBut.refl i w).set_ 0 _⟩
        clear h htl hdl
        go_enter Tryz.func65, Tryz.ntmps65
        go_wp2
        go_ret
        exact ⟨_, rfl, Took.nil _, ⟨_, HF.out.1⟩, HF.out.2⟩
      · simp only at hc hr c0 f0 H
        rw [hm] at hc hr c0 H
        have hsk : Reads w w.heap.size 1 (if c = k then some ad else some (ad.add k)) (m - k) (u8s (rest.drop k)) := hr.drop8 hkm hc
        have htk := hr.take8 hkm
        obtain ⟨ad2, had2, hblk⟩ : ∃ ad2, (if c = k then some ad else some (ad.add k)) = some ad2 ∧ ad2.block = ad.block := by
          split
          · exact ⟨_, rfl, rfl⟩
          · exact ⟨_, rfl, block_of_add _ _⟩
        rw [had2] at hsk
        have hI := h.cells.set_ 0 (.slice (some ad2) (m - k) (c - k))
        have hB : IBut i w (w.setCell ⟨i, 0, none⟩ (.slice (some ad2) (m - k) (c - k))) := (IBut.refl i w).set_ 0 _
        have hs2 := hsk.ibut (Nat.le_refl _) h.cells in_no8 hB
        have ht2 := htk.ibut (Nat.le_refl _) h.cells in_no8 hB
        have HF : Hid (Took (w.setCell ⟨i, 0, none⟩ (.slice (some ad2) (m - k) (c - k))) (.slice (some ad) k c) (rest.take k) ∧ (∃ v', InAt (w.setCell ⟨i, 0, none⟩ (.slice (some ad2) (m - k) (c - k))) i ⟨rest.drop k, false⟩ v') ∧ IBut i w (w.setCell ⟨i, 0, none⟩ (.slice (some ad2) (m - k) (c - k)))) :=
          ⟨⟨some ad, c, by rw [htl], by rw [htl]; exact ht2⟩, ⟨_, ⟨hI, .inr ⟨ad2, c - k, by simp only; rw [hdl], by simp only; omega, by simp only; rw [hdl]; exact hs2, by
            rw [hblk]
            refine hu.same (hB.block _ hu.lt (fun e => ?_))
            obtain ⟨cs, p, hg⟩ := hu
            have hx := h.cells
            unfold Blk at hx
            rw [e, hx] at hg
            injection hg with hg
            injection hg with _ hg
            exact absurd hg (by decide)⟩⟩⟩, hB⟩
        have i2 : (k : Int) ≤ (c : Int) := by omega
        have i3 : (m : Int) ≤ (c : Int) := by omega
        clear h hsk htk hI hB hs2 ht2 hr htl hdl e hbad hu hblk
        by_cases hck : c = k
        · rw [if_pos hck] at had2
          injection had2 with had2
          subst had2
          subst hck
          rw [show m - c = 0 by omega, Nat.sub_self] at HF
          go_enter Tryz.func65, Tryz.ntmps65
          go_wp2
          go_ret
          exact ⟨_, rfl, HF.out⟩
        · rw [if_neg hck] at had2
          injection had2 with had2
          go_enter Tryz.func65, Tryz.ntmps65
          go_wp2
          go_ret
          exact ⟨_, rfl, HF.out⟩
end
end Go.Proofs.YtmjikfeaopmejaaGreatDoor
/-
  Rows of bytes that are owned, beside the codec.
-/
/-
  Walk: a note's payload.
-/
namespace Go.Proofs.YtmjikfeaopmejaaGreatDoor
open Go.RowKit
set_option linter.unusedSimpArgs false
set_option linter.unusedVariables false
def enc1 (k : Int) (m : MsgV) : List UInt8 := bif k == 1 then [] else be 4 m.uid
def enc2 (k : Int) (m : MsgV) : List UInt8 := bif k == 2 then be 6 m.date.toNat ++ be 1 m.flags.toNat else []
def enc3 (k : Int) (nm : ByteArray) : List UInt8 := bif k == 3 then [] else textB nm
/-- a note's octets -/
def encV (k : Int) (e : Nat) (nm : ByteArray) (m : MsgV) : List UInt8 := be 4 e ++ enc1 k m ++ enc2 k m ++ enc3 k nm ++ m.b
theorem textB_size (s : ByteArray) : (textB s).length = 2 + s.size := by unfold textB; simp [be_length]
theorem enc1_len (k : Int) (m : MsgV) : (enc1 k m).length ≤ 4 := by unfold enc1; cases k == 1 <;> simp [be_length]
theorem enc2_len (k : Int) (m : MsgV) : (enc2 k m).length ≤ 7 := by unfold enc2; cases k == 2 <;> simp [be_length]
theorem enc3_len (k : Int) (nm : ByteArray) : (enc3 k nm).length ≤ 2 + nm.size := by unfold enc3; cases k == 3 <;> simp [textB_size]
theorem bare_len {d f : Int} {n : Nat} (h : bareV d f n = true) : n = 0 := by
  unfold bareV at h
  simp only [Bool.and_eq_true, beq_iff_eq] at h
  omega
theorem full_parts {m : MsgV} (h : fullV m = true) : m.b.length ≤ 20000 ∧ 1 ≤ m.uid ∧ 0 ≤ m.date ∧ m.date ≤ 253402300799 ∧ 0 ≤ m.flags ∧ m.flags ≤ 31 := by
  unfold fullV fitsDF dateOk at h
  simp only [Bool.and_eq_true, decide_eq_true_eq] at h
  omega
theorem formed_parts {k : Int} {e : Nat} {nm : ByteArray} {m : MsgV} (h : formedV k e nm m = true) : 1 ≤ e ∧ nm.size ≤ 60 ∧ m.b.length ≤ 20000 ∧ (k = 1 ∨ k = 2 ∨ k = 3) ∧ ((k == 2) = true → 0 ≤ m.date ∧ m.date ≤ 253402300799 ∧ 0 ≤ m.flags ∧ m.flags ≤ 31) := by
  unfold formedV at h
  rw [Bool.and_eq_true, decide_eq_true_eq] at h
  obtain ⟨h0, h⟩ := h
  refine ⟨h0, ?_⟩
  cases h1 : k == 1 with
  | true =>
    have e1 : k = 1 := by simpa using h1
    rw [h1, cond_true, Bool.and_eq_true, Bool.and_eq_true] at h
    refine ⟨nameIs_size h.1.1, by rw [bare_len h.1.2]; omega, .inl e1, fun h2 => ?_⟩
    rw [e1] at h2
    cases h2
  | false =>
    rw [h1, cond_false] at h
    cases h2 : k == 2 with
    | true =>
      rw [h2, cond_true, Bool.and_eq_true] at h
      obtain ⟨p1, p2, p3⟩ := full_parts h.2
      exact ⟨nameIs_size h.1, p1, .inr (.inl (by simpa using h2)), fun _ => p3⟩
    | false =>
      rw [h2, cond_false] at h
      simp only [Bool.and_eq_true, beq_iff_eq] at h
      have hz : nm.size = 0 := by
        have := h.1.1.2
        rw [ByteArray.toList_eq] at this
        have h4 := congrArg List.length (List.isEmpty_iff.1 this)
        rw [Array.length_toList] at h4
        exact h4
      exact ⟨by omega, by rw [bare_len h.1.2]; omega, .inr (.inr h.1.1.1), fun e => by cases e⟩
set_option maxRecDepth 100000 in
set_option maxHeartbeats 2000000 in
theorem encode_any (k : Int) (e : Nat) (nm : ByteArray) (m : MsgV) (w : World) (hm : MaxCell w) (hg : 0 < w.heap.size) (htab : Lib.TabIs Tryz.prog w "internal/strconv.uint64pow10" .u64 Lib.pow10Tab) (hs : nm.size ≤ 9223372036854775807) (he : e < 4294967296) (hu : m.uid < 4294967296) (hr : Reads w w.heap.size 1 m.a m.b.length (u8s m.b)) :
    Calls Tryz.prog 10 #[.agg (noteC k e nm m)] w fun ev w' => ∃ r, ev = .returned (.tuple #[r, .int .i64 (bif formedV k e nm m then 0 else 1)]) ∧ Own8 w.heap.size w' r (bif formedV k e nm m then encV k e nm m else []) ∧ Below w.heap.size w w' := by
  have Ht := Lib.tabBelow_of_tabIs htab
  refine calls_at 44 Tryz.func10 rfl rfl (Nat.le_of_ble_eq_true rfl) ?_
  intro a hA; replace hA := hA.norm
  refine wS (wR ?_)
  refine wl_new hA rfl rfl (by decide) (fun ev h => by simp [go_sem, h.get 0 rfl]; try first | exact ⟨rfl, rfl⟩ | rfl) fun w1 a (K : Blk _ _ _ _) hz hb0 hA => ?_
  unfold noteC at K
  revert a; (iterate 2 refine wo rfl rfl (by decide) (fun ev e h => by simp [go_sem, h, K.cell] <;> rfl) ?_); intro a hA
  replace hA := hA.keepN [1]
  refine wN (nT (wS (wS (wR ?_))))
  revert a; refine wo rfl rfl (by decide) (fun ev e h => by simp [go_sem, h, K.cell] <;> rfl) ?_; intro a hA
  have HB := Below.refl w1.heap.size w1
  refine wl_call hA rfl rfl (by decide) (fun ev h => exec_call Tryz.func13 (by kernel_rfl) rfl (h.f _) (by first | (simp only [mL, h.get 5 rfl, h.c] <;> rfl) | (simp [mL, h.get 5 rfl, h.c, K.cell] <;> rfl))) (formed_any k e nm m _ (hm.below hg hb0) (Nat.lt_of_lt_of_le hg hb0.size) (htab := Ht _ hb0) hs) ?_
  rintro e w2 ⟨rfl, hb⟩
  refine ⟨_, rfl, fun a hA => ?_⟩
  replace HB := HB.trans (hb.mono HB.size)
  revert a; refine wo rfl rfl (by decide) (fun ev e h => by simp [go_sem, h, K.cell] <;> rfl) ?_; intro a hA
  replace hA := hA.keepN [1, 7]
  refine wN (nT ?_)
  refine wp_if hA 7 _ rfl (fun hv => ?yA) (fun hv => ?nA)
  case yA =>
    have hv : formedV k e nm m = false := by simpa using hv
    rw [hv, cond_false, cond_false]
    refine wS (wR ?_)
    revert a; (iterate 2 refine wo rfl rfl (by decide) (fun ev e h => by simp [go_sem, h, K.cell] <;> rfl) ?_); intro a hA
    replace hA := hA.keepN [2, 3]
    refine wN (nT (wp_ret (rT ?_)))
    refine ret_2 hA 2 3 rfl rfl rfl ?_
    exact ⟨_, rfl, Own8.nil _, hb0.trans (HB.mono hb0.size)⟩
  case nA =>
    have hv : formedV k e nm m = true := by simpa using hv
    rw [hv, cond_true, cond_true]
    obtain ⟨h1e, h60, h20, hk, hdf⟩ := formed_parts hv
    have l1 := enc1_len k m
    have l2 := enc2_len k m
    have l3 := enc3_len k nm
    refine wp_skip (nT (wS (wR ?_)))
    have hB2 := HB.size
    refine wl_new hA rfl rfl (by decide) (fun ev h => by simp [go_sem, K.cell]; try first | exact ⟨rfl, rfl⟩ | rfl) fun w3 a (Ko : Blk _ _ _ _) hz hb hA => ?_
    replace HB := HB.trans (hb.mono HB.size)
    obtain ⟨o, hoe⟩ : ∃ o, w2.heap.size = o := ⟨_, rfl⟩
    rw [hoe] at Ko hA hB2
    have hO : OutAt w3 w1.heap.size o [] false (.slice none 0 0) := ⟨hB2, Ko, World.ownsRow_nil _ _ _ _⟩
    have K0 := K.below HB K.lt
    have hwe : IntKind.i64.wrap (e : Int) = (e : Int) := IntWalk.i64_in _ (by omega)
    have hwu : IntKind.i64.wrap (m.uid : Int) = (m.uid : Int) := IntWalk.i64_in _ (by omega)
    replace hA := hA.keepN [1, 4]
    refine wN (nT (wS (wR ?_)))
    revert a; (iterate 2 refine wo rfl rfl (by decide) (fun ev e h => by simp [go_sem, h, K0.cell, hwe] <;> rfl) ?_); intro a hA
    refine wl_op hA rfl rfl (by decide) (fun ev h => by simp [go_sem, h.get 9 rfl, K0.cell, hwe]; try first | exact ⟨rfl, rfl⟩ | rfl) fun a hA => ?_
    refine wl_call hA rfl rfl (by decide) (fun ev h => exec_call Tryz.func31 (by kernel_rfl) rfl (h.f _) (by first | (simp only [mL, h.get 4 rfl, h.get 10 rfl, h.c] <;> rfl) | (simp [mL, h.get 4 rfl, h.get 10 rfl, h.c, K0.cell, hwe] <;> rfl))) (out_N hO HB.size (by simp) e 4 (by omega) (show e < 256 ^ 4 from he)) ?_
    rintro e w4 ⟨rfl, ⟨v4, hO⟩, hob⟩
    refine ⟨_, rfl, fun a hA => ?_⟩
    replace HB := HB.trans (hob.toBelow HB.size (Nat.le_refl _) hB2)
    have K0 := K.below HB K.lt
    rw [List.nil_append] at hO
    replace hA := hA.keepN [1, 4]
    refine wN (nT (wS (wS (wR ?_))))
    revert a; (iterate 3 refine wo rfl rfl (by decide) (fun ev e h => by simp [go_sem, h, K0.cell] <;> rfl) ?_); intro a hA
    replace hA := hA.keepN [1, 4, 14]
    refine wN (nT ?_)
    refine wp_join (fun a wx => ∃ v, At 44 [(1, .pointer (some ⟨w.heap.size, 0, none⟩)), (4, .pointer (some ⟨o, 0, none⟩))] a ∧ OutAt wx w1.heap.size o (be 4 e ++ enc1 k m) false v ∧ Below w1.heap.size w1 wx) ?jfJ ?jrJ
    case jfJ =>
      refine wp_if hA 14 _ rfl (fun hq => ?yD) (fun hq => ?nD)
      case yD =>
        have hq : (k == 1) = false := by simpa using hq
        refine wR ?_
        revert a; (iterate 3 refine wo rfl rfl (by decide) (fun ev e h => by simp [go_sem, h, K0.cell, hwu] <;> rfl) ?_); intro a hA
        refine wl_op hA rfl rfl (by decide) (fun ev h => by simp [go_sem, h.get 17 rfl, K0.cell, hwu]; try first | exact ⟨rfl, rfl⟩ | rfl) fun a hA => ?_
        refine wl_call hA rfl rfl (by decide) (fun ev h => exec_call Tryz.func31 (by kernel_rfl) rfl (h.f _) (by first | (simp only [mL, h.get 4 rfl, h.get 18 rfl, h.c] <;> rfl) | (simp [mL, h.get 4 rfl, h.get 18 rfl, h.c, K0.cell, hwu] <;> rfl))) (out_N hO HB.size (by simp [be_length]) m.uid 4 (by omega) (show m.uid < 256 ^ 4 from hu)) ?_
        rintro e w5 ⟨rfl, ⟨v5, hO⟩, hob⟩
        refine ⟨_, rfl, fun a hA => ?_⟩
        replace HB := HB.trans (hob.toBelow HB.size (Nat.le_refl _) hB2)
        replace hA := hA.keepN [1, 4]
        refine wN (nT ?_)
        exact ⟨_, hA, by unfold enc1; rw [hq, cond_false]; exact hO, HB⟩
      case nD =>
        have hq : (k == 1) = true := by simpa using hq
        replace hA := hA.keepN [1, 4]
        refine wp_skip (nT ?_)
        exact ⟨_, hA, by unfold enc1; rw [hq, cond_true, List.append_nil]; exact hO, HB⟩
    clear hO HB K0
    rintro a wx ⟨v6, hA, hO, HB⟩
    have K0 := K.below HB K.lt
    refine wS (wS (wR ?_))
    revert a; (iterate 3 refine wo rfl rfl (by decide) (fun ev e h => by simp [go_sem, h, K0.cell] <;> rfl) ?_); intro a hA
    replace hA := hA.keepN [1, 4, 22]
    refine wN (nT ?_)
    refine wp_join (fun a wx => ∃ v, At 44 [(1, .pointer (some ⟨w.heap.size, 0, none⟩)), (4, .pointer (some ⟨o, 0, none⟩))] a ∧ OutAt wx w1.heap.size o (be 4 e ++ enc1 k m ++ enc2 k m) false v ∧ Below w1.heap.size w1 wx) ?jfL ?jrL
    case jfL =>
      refine wp_if hA 22 _ rfl (fun hq => ?yD2) (fun hq => ?nD2)
      case yD2 =>
        obtain ⟨d0, d1, f0, f1⟩ := hdf hq
        obtain ⟨dt, hdt⟩ : ∃ dt : Nat, m.date = (dt : Int) := ⟨m.date.toNat, by omega⟩
        obtain ⟨ft, hft⟩ : ∃ ft : Nat, m.flags = (ft : Int) := ⟨m.flags.toNat, by omega⟩
        refine wS (wR ?_)
        revert a; (iterate 3 refine wo rfl rfl (by decide) (fun ev e h => by simp [go_sem, h, K0.cell, hdt] <;> rfl) ?_); intro a hA
        refine wl_call hA rfl rfl (by decide) (fun ev h => exec_call Tryz.func31 (by kernel_rfl) rfl (h.f _) (by first | (simp only [mL, h.get 4 rfl, h.get 25 rfl, h.c] <;> rfl) | (simp [mL, h.get 4 rfl, h.get 25 rfl, h.c, K0.cell, hdt] <;> rfl))) (out_N hO HB.size (by simp only [List.length_append, be_length]; omega) dt 6 (by omega) (show dt < 256 ^ 6 by omega)) ?_
        rintro e w7 ⟨rfl, ⟨v7, hO⟩, hob⟩
        refine ⟨_, rfl, fun a hA => ?_⟩
        replace HB := HB.trans (hob.toBelow HB.size (Nat.le_refl _) hB2)
        have K0 := K.below HB K.lt
        replace hA := hA.keepN [1, 4]
        refine wN (nT (wR ?_))
        revert a; (iterate 3 refine wo rfl rfl (by decide) (fun ev e h => by simp [go_sem, h, K0.cell, hft] <;> rfl) ?_); intro a hA
        refine wl_call hA rfl rfl (by decide) (fun ev h => exec_call Tryz.func31 (by kernel_rfl) rfl (h.f _) (by first | (simp only [mL, h.get 4 rfl, h.get 29 rfl, h.c] <;> rfl) | (simp [mL, h.get 4 rfl, h.get 29 rfl, h.c, K0.cell, hft] <;> rfl))) (out_N hO HB.size (by simp only [List.length_append, be_length]; omega) ft 1 (by omega) (show ft < 256 ^ 1 by omega)) ?_
        rintro e w8 ⟨rfl, ⟨v8, hO⟩, hob⟩
        refine ⟨_, rfl, fun a hA => ?_⟩
        replace HB := HB.trans (hob.toBelow HB.size (Nat.le_refl _) hB2)
        replace hA := hA.keepN [1, 4]
        refine wN (nT ?_)
        exact ⟨_, hA, by unfold enc2; rw [hq, cond_true, hdt, hft, Int.toNat_natCast, Int.toNat_natCast, ← List.append_assoc]; exact hO, HB⟩
      case nD2 =>
        replace hA := hA.keepN [1, 4]
        refine wp_skip (nT ?_)
        exact ⟨_, hA, by unfold enc2; rw [hq, cond_false, List.append_nil]; exact hO, HB⟩
    clear hO HB K0
    rintro a wx ⟨v9, hA, hO, HB⟩
    have K0 := K.below HB K.lt
    refine wS (wS (wR ?_))
    revert a; (iterate 3 refine wo rfl rfl (by decide) (fun ev e h => by simp [go_sem, h, K0.cell] <;> rfl) ?_); intro a hA
    replace hA := hA.keepN [1, 4, 33]
    refine wN (nT ?_)
    refine wp_join (fun a wx => ∃ v, At 44 [(1, .pointer (some ⟨w.heap.size, 0, none⟩)), (4, .pointer (some ⟨o, 0, none⟩))] a ∧ OutAt wx w1.heap.size o (be 4 e ++ enc1 k m ++ enc2 k m ++ enc3 k nm) false v ∧ Below w1.heap.size w1 wx) ?jfM ?jrM
    case jfM =>
      refine wp_if hA 33 _ rfl (fun hq => ?yD3) (fun hq => ?nD3)
      case yD3 =>
        have hq : (k == 3) = false := by simpa using hq
        refine wR ?_
        revert a; (iterate 2 refine wo rfl rfl (by decide) (fun ev e h => by simp [go_sem, h, K0.cell] <;> rfl) ?_); intro a hA
        refine wl_call hA rfl rfl (by decide) (fun ev h => exec_call Tryz.func32 (by kernel_rfl) rfl (h.f _) (by first | (simp only [mL, h.get 4 rfl, h.get 35 rfl, h.c] <;> rfl) | (simp [mL, h.get 4 rfl, h.get 35 rfl, h.c, K0.cell] <;> rfl))) (out_Text hO HB.size (by simp only [List.length_append, be_length]; omega) nm (by omega)) ?_
        rintro e w10 ⟨rfl, ⟨v10, hO⟩, hob⟩
        refine ⟨_, rfl, fun a hA => ?_⟩
        replace HB := HB.trans (hob.toBelow HB.size (Nat.le_refl _) hB2)
        replace hA := hA.keepN [1, 4]
        refine wN (nT ?_)
        exact ⟨_, hA, by unfold enc3; rw [hq, cond_false]; exact hO, HB⟩
      case nD3 =>
        have hq : (k == 3) = true := by simpa using hq
        replace hA := hA.keepN [1, 4]
        refine wp_skip (nT ?_)
        exact ⟨_, hA, by unfold enc3; rw [hq, cond_true, List.append_nil]; exact hO, HB⟩
    clear hO HB K0
    rintro a wx ⟨v11, hA, hO, HB⟩
    have K0 := K.below HB K.lt
    have HW := hb0.trans (HB.mono hb0.size)
    refine wS (wR ?_)
    revert a; (iterate 3 refine wo rfl rfl (by decide) (fun ev e h => by simp [go_sem, h, K0.cell] <;> rfl) ?_); intro a hA
    refine wl_call hA rfl rfl (by decide) (fun ev h => exec_call Tryz.func33 (by kernel_rfl) rfl (h.f _) (by first | (simp only [mL, h.get 4 rfl, h.get 39 rfl, h.c] <;> rfl) | (simp [mL, h.get 4 rfl, h.get 39 rfl, h.c, K0.cell] <;> rfl))) (out_Raw hO HB.size (by simp only [List.length_append, be_length]; omega) m.a m.b.length m.c m.b rfl (by omega) ((hr.below HW).more HW.size)) ?_
    rintro e w12 ⟨rfl, ⟨v12, hO⟩, hob⟩
    refine ⟨_, rfl, fun a hA => ?_⟩
    replace HB := HB.trans (hob.toBelow HB.size (Nat.le_refl _) hB2)
    replace hA := hA.keepN [4]
    refine wN (nT (wS (wR ?_)))
    refine wl_call hA rfl rfl (by decide) (fun ev h => exec_call Tryz.func34 (by kernel_rfl) rfl (h.f _) (by first | (simp only [mL, h.get 4 rfl, h.c] <;> rfl) | (simp [mL, h.get 4 rfl, h.c] <;> rfl))) (out_End hO (by simp only [List.length_append, be_length]; omega)) ?_
    rintro e w13 ⟨r, rfl, hown, hb⟩
    refine ⟨_, rfl, fun a hA => ?_⟩
    have HW := (hb0.trans (HB.mono hb0.size))
    revert a; (iterate 4 refine wo rfl rfl (by decide) (fun ev e h => by simp [go_sem, h] <;> rfl) ?_); intro a hA
    replace hA := hA.keepN [2, 3]
    refine wN (nT (wp_ret ?_))
    refine ret_2 hA 2 3 rfl rfl rfl ?_
    exact ⟨r, rfl, (Own8.of hown).mono HW.size, HW.trans (hb.mono HW.size)⟩
end Go.Proofs.YtmjikfeaopmejaaGreatDoor
/-
  Numbers and texts that are read back: the program's codec.In.
-/
namespace Go.Proofs.YtmjikfeaopmejaaGreatDoor
open Go.RowKit
theorem wrap_i64_small (n : Int) (h0 : 0 ≤ n) (h1 : n < 9223372036854775808) : IntKind.i64.wrap n = n := by
  simp [IntKind.wrap, IntKind.bits, IntKind.signed]
  split <;> omega
theorem i64_or_nat (a b : Nat) (ha : a < 9223372036854775808) (hb : b < 9223372036854775808) : bits .or .i64 (a : Int) (b : Int) = ((a ||| b : Nat) : Int) := by
  show IntKind.i64.wrap ((BitVec.ofInt 64 (a : Int) ||| BitVec.ofInt 64 (b : Int)).toNat : Int) = _
  rw [BitVec.toNat_or, ofInt_u64 a (by omega), ofInt_u64 b (by omega)]
  have h : a ||| b < 2 ^ 63 := Nat.or_lt_two_pow (by omega) (by omega)
  exact wrap_i64_small _ (by omega) (by omega)
theorem i64_join (v c : Nat) (hv : v < 281474976710656) (hc : c < 256) : bits .or .i64 ((v : Int) * 256) (c : Int) = ((v * 256 + c : Nat) : Int) := by
  have h := i64_or_nat (v * 256) c (by omega) (by omega)
  rw [nat_join 8 (v * 256) c (by omega) (by omega)] at h
  rw [← h]; rfl
theorem beVal_step {l : List UInt8} {j : Nat} {x : UInt8} (hx : l[j]? = some x) : beVal (l.take (j + 1)) = beVal (l.take j) * 256 + x.toNat := by
  rw [List.take_add_one, hx, ← beVal_snoc]; rfl
theorem inTake_len (s : InM) (n : Nat) : (inTake s n).1.length ≤ n := by
  unfold inTake
  split
  · simp
  · split
    · simp
    · simp only [Int.toNat_natCast, List.length_take]; omega
theorem inTake_rest (s : InM) (n : Int) : (inTake s n).2.rest.length ≤ s.rest.length := by
  unfold inTake
  split
  · exact Nat.le_refl _
  · split
    · simp
    · simp
theorem inN_lt (s : InM) (n : Nat) : (inN s n).1 < 256 ^ n := Nat.lt_of_lt_of_le (beVal_lt _) (Nat.pow_le_pow_right (by omega) (inTake_len s n))
section
variable {w w' : World} {i : Nat} {s : InM} {v : Value}
set_option maxRecDepth 100000 in
theorem in_N (h : InAt w i s v) (hl : s.rest.length ≤ 1000000) (n : Nat) (hn : 1 ≤ n ∧ n ≤ 7) :
    Calls Tryz.prog 40 #[.pointer (some ⟨i, 0, none⟩), .int .i64 (n : Nat)] w fun e w' => e = .returned (.int .i64 ((inN s n).1 : Nat)) ∧ (∃ v', InAt w' i (inN s n).2 v') ∧ IBut i w w' := by
  have H := Lib.hid (in_take h hl n)
  have n1 : decide ((n : Int) < 1) = false := by simp; omega
  have n2 : decide (7 < (n : Int)) = false := by simp; omega
  unfold inN
  have hlen := inTake_len s n
  dsimp only
  generalize inTake s n = r at *
  obtain ⟨l, s2⟩ := r
  simp only at H hlen ⊢
  clear h
  go_enter Tryz.func40, Tryz.ntmps40
  go_wp2_with fail
  refine H.out.mono ?_
  rintro e w1 ⟨r, rfl, ⟨A, c, rfl, hr⟩, hi, hb⟩
  obtain ⟨m, hm⟩ : ∃ m, l.length = m := ⟨_, rfl⟩
  rw [hm] at hr hlen ⊢
  have HR := Lib.hid hr
  have HI : Hid (∃ v', InAt w1 i s2 v') := hi
  have HB := Lib.hid hb
  clear hr hi hb H
  go_wp2
  go_loopw [5, 18] (fun z k wr => ∃ (j cc : Nat), k = .int .i64 j ∧ j ≤ m ∧ z = .int .i64 cc ∧ Hid (cc = beVal (l.take j)) ∧ wr = w1) (fun _ k _ => m - (intOf k).toNat)
  case atStart => exact ⟨0, 0, rfl, by omega, rfl, rfl, rfl⟩
  case round =>
    obtain ⟨j, cc, rfl, hj, rfl, hcc, rfl⟩ := hrel
    by_cases hlt : j < m
    · obtain ⟨x, hx⟩ : ∃ x, l[j]? = some x := ⟨_, List.getElem?_eq_getElem (by omega)⟩
      obtain ⟨ad, rfl, _, hc⟩ := HR.out.2 (by omega)
      have hcx := hc j (.int .u8 (x.toNat : Int)) (by rw [u8s_get, hx]; rfl)
      have hst := beVal_step hx
      rw [← hcc.out] at hst
      obtain ⟨xn, hxn⟩ : ∃ xn, x.toNat = xn := ⟨_, rfl⟩
      have hx8 : xn < 256 := by rw [← hxn]; exact x.toNat_lt
      have hcl : cc < 281474976710656 := by
        rw [hcc.out]
        have h1 := beVal_lt (l.take j)
        refine Nat.lt_of_lt_of_le h1 (Nat.le_trans (Nat.pow_le_pow_right (by omega) (show _ ≤ 6 from ?_)) (by decide))
        rw [List.length_take]; omega
      rw [hxn] at hcx hst
      have HST := Lib.hid hst
      have hjn := i64_join cc xn hcl hx8
      clear hst hx hc hxn
      go_wp2
      go_roundw
      case rel => exact ⟨j + 1, cc * 256 + xn, by go_num, by omega, rfl, HST.out.symm, by first | rfl | trivial⟩
      case measure => simp [intOf]; omega
    · obtain rfl : j = m := by omega
      go_wp2
      go_ret
      refine ⟨?_, HI.out, HB.out⟩
      rw [hcc.out, List.take_of_length_le (by omega)]
      rfl
theorem inText_rest (s : InM) : (inText s).2.rest.length ≤ s.rest.length := Nat.le_trans (inTake_rest _ _) (inTake_rest _ _)
set_option maxRecDepth 100000 in
theorem in_Text (h : InAt w i s v) (hl : s.rest.length ≤ 1000000) :
    Calls Tryz.prog 41 #[.pointer (some ⟨i, 0, none⟩)] w fun e w' => e = .returned (.string (inText s).1) ∧ (∃ v', InAt w' i (inText s).2 v') ∧ IBut i w w' := by
  have R1 := Lib.hid (in_N h hl 2 (by omega))
  have hle : (inN s 2).2.rest.length ≤ 1000000 := Nat.le_trans (inTake_rest s _) hl
  unfold inText
  generalize inN s 2 = r at *
  obtain ⟨nn, s2⟩ := r
  simp only at R1 hle ⊢
  clear h
  go_enter Tryz.func41, Tryz.ntmps41
  go_wp2_with fail
  refine R1.out.mono ?_
  rintro e w1 ⟨rfl, ⟨v1, h1⟩, hb1⟩
  have R2 := Lib.hid (in_take h1 hle (nn : Int))
  have HB1 := Lib.hid hb1
  clear h1 hb1 R1
  go_wp2_with fail
  refine R2.out.mono ?_
  rintro e w2 ⟨r, rfl, ⟨A, c, rfl, hr⟩, hi, hb2⟩
  have hcv := conv_reads (c := c) rfl hr
  have HI : Hid (∃ v', InAt w2 i (inTake s2 nn).2 v') := hi
  have HB2 := Lib.hid (HB1.out.trans hb2)
  clear hr hi hb2
  go_wp2
  go_ret
  exact ⟨rfl, HI.out, HB2.out⟩
end
theorem own_or {w : World} {B n : Nat} {v : Value} {l : List UInt8} (h : w.ownsRow B 5 1 v n (u8s l)) (hn : l.length = n) : (v = .slice none 0 0 ∧ l = []) ∨ ∃ ad c, v = .slice (some ad) l.length c ∧ l.length ≤ c ∧ Reads w w.heap.size 1 (some ad) l.length (u8s l) ∧ U8Row w ad.block := by
  subst hn
  rcases h.2 with ⟨rfl, h0⟩ | ⟨g, c, cur, rfl, _, hgg, hc, _⟩
  · exact .inl ⟨rfl, List.length_eq_zero_iff.1 h0⟩
  · exact .inr ⟨_, c, rfl, hc, Reads.of_own h, ⟨cur, _, hgg⟩⟩
set_option maxRecDepth 100000 in
theorem in_new (A : Option Addr) (n c : Nat) (l : List UInt8) (hl : l.length = n) (hn : n ≤ 1000000) (w : World) (hr : Reads w w.heap.size 1 A n (u8s l)) :
    Calls Tryz.prog 39 #[.slice A n c] w fun e w' => ∃ i v, e = .returned (.pointer (some ⟨i, 0, none⟩)) ∧ InAt w' i ⟨l, false⟩ v ∧ w.heap.size ≤ i ∧ Below w.heap.size w w' := by
  have R1 := Lib.hid (clone_any A n c l w hl (by omega) hr)
  clear hr
  go_enter Tryz.func39, Tryz.ntmps39
  go_wp2_with fail
  refine R1.out.mono ?_
  rintro e w1 ⟨v, rfl, ho, hb⟩
  have hx := (Below.refl w1.heap.size w1).alloc (Nat.le_refl _) (.cells #[v, .bool false] 119)
  have HI : Hid (InAt (w1.alloc (.cells #[v, .bool false] 119)) w1.heap.size ⟨l, false⟩ v) := ⟨Blk.new w1 _ _, own_or (own_below ho hx) hl⟩
  have HB := Lib.hid (hb.trans (hx.mono hb.size))
  have HS : Hid (w.heap.size ≤ w1.heap.size) := hb.size
  have hv : ∃ A c, v = .slice A n c := by
    obtain ⟨A, c, e, _⟩ := own_reads ho
    exact ⟨A, c, e⟩
  obtain ⟨A', c', rfl⟩ := hv
  clear ho hb hx
  go_wp2
  go_ret
  exact ⟨_, _, rfl, HI.out, HS.out, HB.out⟩
end Go.Proofs.YtmjikfeaopmejaaGreatDoor
/-
  Walks: the rest of what is read back; what stays as it is beside it.
-/
namespace Go.Proofs.YtmjikfeaopmejaaGreatDoor
open Go.RowKit
set_option linter.unusedSimpArgs false
set_option linter.unusedVariables false
theorem Blk.ibut {w w' : World} {g i : Nat} {t : TypeId} {cs : Array Value} (h : Blk w g t cs) (hb : IBut i w w') (hne : g ≠ i) : Blk w' g t cs := (hb.block g h.lt hne).trans h
theorem InAt.only {w w' : World} {g i : Nat} {s : InM} {v : Value} {t : TypeId} {cs : Array Value} (h : InAt w i s v) (hs : Only g w w') (hne : i ≠ g) (K : Blk w g t cs) (ht : t ≠ 5) : InAt w' i s v := by
  refine ⟨(hs.block i hne).trans h.cells, ?_⟩
  rcases h.row with h | ⟨ad, c, e, hc, hr, hu⟩
  · exact .inl h
  · have ha : ad.block ≠ g := by
      rintro rfl
      obtain ⟨cs', p, hg⟩ := hu
      unfold Blk at K
      rw [K] at hg
      injection hg with hg
      injection hg with _ h2
      exact ht h2
    refine .inr ⟨ad, c, e, hc, ⟨hr.1, fun hn => ?_⟩, hu.same (hs.block _ ha)⟩
    obtain ⟨ad', e', hlt, hcc⟩ := hr.2 hn
    have ea : ad = ad' := Option.some.inj e'
    subst ea
    exact ⟨ad, rfl, by rw [hs.size]; exact hlt, fun j u hu => (World.cell?_of_block (by rw [block_of_add]; exact hs.block _ ha)).trans (hcc j u hu)⟩
theorem inTake_le (s : InM) (n : Int) : (inTake s n).1.length ≤ s.rest.length := by
  unfold inTake
  split
  · exact Nat.zero_le _
  · split
    · exact Nat.zero_le _
    · show (List.take _ _).length ≤ _
      rw [List.length_take]
      exact Nat.min_le_right _ _
theorem in_Raw {w : World} {i : Nat} {s : InM} {v : Value} (h : InAt w i s v) (hl : s.rest.length ≤ 1000000) (n : Int) :
    Calls Tryz.prog 42 #[.pointer (some ⟨i, 0, none⟩), .int .i64 n] w fun e w' => ∃ r, e = .returned r ∧ Own8 w.heap.size w' r (inTake s n).1 ∧ (∃ v', InAt w' i (inTake s n).2 v') ∧ IBut i w w' := by
  have hn := inTake_le s n
  refine calls_at 9 Tryz.func42 rfl rfl (Nat.le_of_ble_eq_true rfl) ?_
  intro a hA; replace hA := hA.norm
  refine wS (wR ?_)
  revert a; refine wo rfl rfl (by decide) (fun ev e h => by simp [go_sem, h] <;> rfl) ?_; intro a hA
  replace hA := hA.keepN [0, 1]
  refine wN (nT (wS (wR ?_)))
  revert a; (iterate 2 refine wo rfl rfl (by decide) (fun ev e h => by simp [go_sem, h] <;> rfl) ?_); intro a hA
  refine wl_call hA rfl rfl (by decide) (fun ev h => exec_call Tryz.func65 (by kernel_rfl) rfl (h.f _) (by first | (simp only [mL, h.get 5 rfl, h.get 6 rfl, h.c] <;> rfl) | (simp [mL, h.get 5 rfl, h.get 6 rfl, h.c] <;> rfl))) (in_take h hl n) ?_
  rintro e w1 ⟨r, rfl, ⟨A, c, rfl, hr⟩, ⟨v1, h1⟩, hib⟩
  refine ⟨_, rfl, fun a hA => ?_⟩
  refine wl_call hA rfl rfl (by decide) (fun ev h => exec_call Tryz.func64 (by kernel_rfl) rfl (h.f _) (by first | (simp only [mL, h.get 7 rfl, h.c] <;> rfl) | (simp [mL, h.get 7 rfl, h.c] <;> rfl))) (clone_any A _ c _ _ rfl (by omega) hr) ?_
  rintro e w2 ⟨v2, rfl, ho, hb⟩
  refine ⟨_, rfl, fun a hA => ?_⟩
  revert a; refine wo rfl rfl (by decide) (fun ev e h => by simp [go_sem, h] <;> rfl) ?_; intro a hA
  replace hA := hA.keepN [4]
  refine wN (nT (wp_ret ?_))
  refine ret_1 hA 4 rfl rfl ?_
  exact ⟨_, rfl, (Own8.of ho).mono hib.size, ⟨v1, h1.below hb⟩, hib.below hb⟩
theorem in_Left {w : World} {i : Nat} {s : InM} {v : Value} (h : InAt w i s v) :
    Calls Tryz.prog 43 #[.pointer (some ⟨i, 0, none⟩)] w fun e w' => e = .returned (.int .i64 (s.rest.length : Nat)) ∧ Below w.heap.size w w' := by
  obtain ⟨A, c, hv⟩ : ∃ A c, v = .slice A s.rest.length c := by
    rcases h.row with ⟨rfl, e⟩ | ⟨ad, c, e, _⟩
    · exact ⟨none, 0, by rw [e]; rfl⟩
    · exact ⟨_, _, e⟩
  subst hv
  have K := h.cells
  have HB := Below.refl w.heap.size w
  refine calls_at 10 Tryz.func43 rfl rfl (Nat.le_of_ble_eq_true rfl) ?_
  intro a hA; replace hA := hA.norm
  refine wS (wR ?_)
  revert a; refine wo rfl rfl (by decide) (fun ev e h => by simp [go_sem, h] <;> rfl) ?_; intro a hA
  replace hA := hA.keepN [0]
  refine wN (nT (wS (wS (wR ?_))))
  revert a; (iterate 2 refine wo rfl rfl (by decide) (fun ev e h => by simp [go_sem, h] <;> rfl) ?_); intro a hA
  replace hA := hA.keepN [0, 4]
  refine wN (nT ?_)
  refine wp_if hA 4 _ rfl (fun hq => ?yA) (fun hq => ?nA)
  case yA => cases hq
  case nA =>
    refine wp_skip (nT (wS (wR ?_)))
    revert a; (iterate 6 refine wo rfl rfl (by decide) (fun ev e h => by simp [go_sem, h, K.cell] <;> rfl) ?_); intro a hA
    replace hA := hA.keepN [2]
    refine wN (nT (wp_ret ?_))
    refine ret_1 hA 2 rfl rfl ?_
    exact ⟨rfl, HB⟩
theorem in_Bad {w : World} {i : Nat} {s : InM} {v : Value} (h : InAt w i s v) :
    Calls Tryz.prog 44 #[.pointer (some ⟨i, 0, none⟩)] w fun e w' => e = .returned (.bool s.bad) ∧ Below w.heap.size w w' := by
  have K := h.cells
  have HB := Below.refl w.heap.size w
  refine calls_at 11 Tryz.func44 rfl rfl (Nat.le_of_ble_eq_true rfl) ?_
  intro a hA; replace hA := hA.norm
  refine wS (wR ?_)
  revert a; refine wo rfl rfl (by decide) (fun ev e h => by simp [go_sem, h, K.cell] <;> rfl) ?_; intro a hA
  replace hA := hA.keepN [0]
  refine wN (nT (wS (wR ?_)))
  revert a; (iterate 3 refine wo rfl rfl (by decide) (fun ev e h => by simp [go_sem, h, K.cell] <;> rfl) ?_); (iterate 4 refine wg _ rfl rfl rfl rfl (by decide) (fun hq ev e h => by simp [go_sem, h, ↓gw_t (beq_t hq), K.cell] <;> rfl) ?_); refine wka rfl rfl (by decide) rfl rfl rfl ?_; refine wo rfl rfl (by decide) (fun ev e h => by simp [go_sem, h, K.cell] <;> rfl) ?_; intro a hA
  replace hA := hA.keepN [2]
  refine wN (nT (wp_ret ?_))
  refine ret_1 hA 2 rfl rfl ?_
  exact ⟨rfl, HB⟩
end Go.Proofs.YtmjikfeaopmejaaGreatDoor
/-
  Walk: the note of a payload.
-/
namespace Go.Proofs.YtmjikfeaopmejaaGreatDoor
open Go.RowKit
set_option linter.unusedSimpArgs false
set_option linter.unusedVariables false
/-- what is read, part by part -/
def rd1 (p : List UInt8) : Nat × InM := inN ⟨p, false⟩ 4
def rd2 (k : Int) (p : List UInt8) : Nat × InM := bif k == 1 then (0, (rd1 p).2) else inN (rd1 p).2 4
def rd3 (k : Int) (p : List UInt8) : (Nat × Nat) × InM := bif k == 2 then (((inN (rd2 k p).2 6).1, (inN (inN (rd2 k p).2 6).2 1).1), (inN (inN (rd2 k p).2 6).2 1).2) else ((0, 0), (rd2 k p).2)
def rd4 (k : Int) (p : List UInt8) : ByteArray × InM := bif k == 3 then (⟨#[]⟩, (rd3 k p).2) else inText (rd3 k p).2
def rd5 (k : Int) (p : List UInt8) : List UInt8 × InM := inTake (rd4 k p).2 ((rd4 k p).2.rest.length : Nat)
/-- what is read: a message -/
def rdM (k : Int) (p : List UInt8) (a : Option Addr) (c : Nat) : MsgV := ⟨(rd2 k p).1, ((rd3 k p).1.1 : Nat), ((rd3 k p).1.2 : Nat), a, c, (rd5 k p).1⟩
/-- is it a note's? -/
def decOk (k : Int) (p : List UInt8) : Bool := !(rd5 k p).2.bad && (formedV k (rd1 p).1 (rd4 k p).1 (rdM k p none 0) && (encV k (rd1 p).1 (rd4 k p).1 (rdM k p none 0) == p))
theorem formed_ac (k : Int) (e : Nat) (nm : ByteArray) (p : List UInt8) (a : Option Addr) (c : Nat) : formedV k e nm (rdM k p a c) = formedV k e nm (rdM k p none 0) := rfl
theorem enc_ac (k : Int) (e : Nat) (nm : ByteArray) (p : List UInt8) (a : Option Addr) (c : Nat) : encV k e nm (rdM k p a c) = encV k e nm (rdM k p none 0) := rfl
theorem inN_rest (s : InM) (n : Nat) : (inN s n).2.rest.length ≤ s.rest.length := inTake_rest s n
theorem rd2_rest (k : Int) (p : List UInt8) : (rd2 k p).2.rest.length ≤ p.length := by
  have h1 : (rd1 p).2.rest.length ≤ p.length := inN_rest _ _
  unfold rd2
  cases k == 1
  · exact Nat.le_trans (inN_rest _ _) h1
  · exact h1
theorem rd3_rest (k : Int) (p : List UInt8) : (rd3 k p).2.rest.length ≤ p.length := by
  have h2 := rd2_rest k p
  unfold rd3
  cases k == 2
  · exact h2
  · exact Nat.le_trans (inN_rest _ _) (Nat.le_trans (inN_rest _ _) h2)
theorem rd4_rest (k : Int) (p : List UInt8) : (rd4 k p).2.rest.length ≤ p.length := by
  have h3 := rd3_rest k p
  unfold rd4
  cases k == 3
  · exact Nat.le_trans (inText_rest _) h3
  · exact h3
theorem rd2_lt (k : Int) (p : List UInt8) : (rd2 k p).1 < 4294967296 := by
  unfold rd2
  cases k == 1
  · exact inN_lt _ 4
  · show (0 : Nat) < _
    decide
theorem rd3_lt (k : Int) (p : List UInt8) : (rd3 k p).1.1 < 281474976710656 ∧ (rd3 k p).1.2 < 256 := by
  unfold rd3
  cases k == 2
  · exact ⟨show (0 : Nat) < _ by decide, show (0 : Nat) < _ by decide⟩
  · exact ⟨inN_lt _ 6, inN_lt _ 1⟩
theorem text_small (s : InM) : (inText s).1.size < 65536 := by
  have h1 := inN_lt s 2
  have h2 := inTake_len (inN s 2).2 (inN s 2).1
  have h3 : (inText s).1.size = (inTake (inN s 2).2 (inN s 2).1).1.length := by
    show (List.toArray _).size = _
    rw [List.size_toArray]
  rw [h3]
  exact Nat.lt_of_le_of_lt h2 h1
theorem rd4_size (k : Int) (p : List UInt8) : (rd4 k p).1.size < 65536 := by
  unfold rd4
  cases k == 3
  · exact text_small _
  · show (0 : Nat) < _
    decide
theorem own8_at {B n c : Nat} {w : World} {A : Option Addr} {l : List UInt8} (h : Own8 B w (.slice A n c) l) : Reads w w.heap.size 1 A l.length (u8s l) := by
  obtain ⟨A', c', e, hr⟩ := h.took
  injection e with e1
  subst e1
  exact hr
def noteZ : Array Value := #[.int .i64 0, .int .u32 0, .string ⟨#[]⟩, .int .u32 0, .int .i64 0, .int .i64 0, .slice none 0 0]
set_option maxRecDepth 100000 in
set_option maxHeartbeats 4000000 in
theorem decode_new (k : Int) (A : Option Addr) (n c : Nat) (p : List UInt8) (hl : p.length = n) (hn : n ≤ 1000000) (w : World) (hm : MaxCell w) (hg : 0 < w.heap.size) (htab : Lib.TabIs Tryz.prog w "internal/strconv.uint64pow10" .u64 Lib.pow10Tab) (hr : Reads w w.heap.size 1 A n (u8s p)) :
    Calls Tryz.prog 14 #[.int .i64 k, .slice A n c] w fun ev w' => ∃ a c', ev = .returned (.tuple #[.agg (bif decOk k p then noteC k (rd1 p).1 (rd4 k p).1 (rdM k p a c') else noteZ), .int .i64 (bif decOk k p then 0 else 2)]) ∧ (decOk k p = true → Reads w' w'.heap.size 1 a (rd5 k p).1.length (u8s (rd5 k p).1) ∧ ∀ ad, a = some ad → w.heap.size ≤ ad.block) ∧ Below w.heap.size w w' := by
  have Ht := Lib.tabBelow_of_tabIs htab
  have q1 : (rd1 p).1 < 4294967296 := inN_lt _ 4
  have q1r : (rd1 p).2.rest.length ≤ p.length := inN_rest _ _
  have q2 := rd2_lt k p
  have q2r := rd2_rest k p
  obtain ⟨q3a, q3b⟩ := rd3_lt k p
  have q3r := rd3_rest k p
  have q4 := rd4_size k p
  have q4r := rd4_rest k p
  obtain ⟨Z, hZ⟩ : ∃ Z : Array Value, Z = noteZ := ⟨_, rfl⟩
  have HB0 := Below.refl w.heap.size w
  refine calls_at 68 Tryz.func14 rfl rfl (Nat.le_of_ble_eq_true rfl) ?_
  intro a hA; replace hA := hA.norm
  refine wS (wR ?_)
  refine wl_new hA rfl rfl (by decide) (fun ev h => by simp [go_sem]; try first | exact ⟨rfl, rfl⟩ | rfl) fun w1 a (K4 : Blk _ _ _ _) hz1 hb0 hA => ?_
  obtain ⟨g4, hg4⟩ : ∃ g4, w.heap.size = g4 := ⟨_, rfl⟩
  rw [hg4] at K4 hA
  have h4 : g4 < w1.heap.size := by omega
  have HB : Below w.heap.size w w1 := hb0
  revert a; refine wo rfl rfl (by decide) (fun ev e h => by simp [go_sem, h] <;> rfl) ?_; intro a hA
  replace hA := hA.keepN [0, 1, 4]
  refine wN (nT (wS (wR ?_)))
  revert a; refine wo rfl rfl (by decide) (fun ev e h => by simp [go_sem, h] <;> rfl) ?_; intro a hA
  refine wl_call hA rfl rfl (by decide) (fun ev h => exec_call Tryz.func39 (by kernel_rfl) rfl (h.f _) (by first | (simp only [mL, h.get 10 rfl, h.c] <;> rfl) | (simp [mL, h.get 10 rfl, h.c] <;> rfl))) (in_new A n c p hl hn _ ((hr.below hb0).more hb0.size)) ?_
  rintro e w2 ⟨i, v1, rfl, hI, hi, hb⟩
  refine ⟨_, rfl, fun a hA => ?_⟩
  replace K4 := K4.below hb K4.lt
  replace HB := HB.trans (hb.mono HB.size)
  have h4i : g4 ≠ i := by omega
  revert a; refine wo rfl rfl (by decide) (fun ev e h => by simp [go_sem, h] <;> rfl) ?_; intro a hA
  replace hA := hA.keepN [0, 1, 4, 6]
  refine wN (nT (wS (wR ?_)))
  revert a; (iterate 2 refine wo rfl rfl (by decide) (fun ev e h => by simp [go_sem, h] <;> rfl) ?_); intro a hA
  refine wl_call hA rfl rfl (by decide) (fun ev h => exec_call Tryz.func40 (by kernel_rfl) rfl (h.f _) (by first | (simp only [mL, h.get 13 rfl, h.c] <;> rfl) | (simp [mL, h.get 13 rfl, h.c] <;> rfl))) (in_N hI (by show p.length ≤ _; omega) 4 (by omega)) ?_
  rintro e w3 ⟨rfl, ⟨v2, hI⟩, hib⟩
  refine ⟨_, rfl, fun a hA => ?_⟩
  replace K4 := K4.ibut hib h4i
  replace HB := HB.trans (hib.toBelow HB.size (by omega))
  rw [show (inN ⟨p, false⟩ 4) = rd1 p from rfl] at hI hA
  have hw1 : IntKind.u32.wrap ((rd1 p).1 : Int) = ((rd1 p).1 : Int) := IntWalk.u32_in _ (by omega)
  refine wl_op hA rfl rfl (by decide) (fun ev h => by simp [go_sem, h.get 14 rfl, hw1]; try first | exact ⟨rfl, rfl⟩ | rfl) fun a hA => ?_
  revert a; refine wo rfl rfl (by decide) (fun ev e h => by simp [go_sem, h, hw1] <;> rfl) ?_; intro a hA
  have hi3 := hI.cells.lt
  refine wl_local [.int .i64 k, .int .u32 ((rd1 p).1 : Nat), .string ⟨#[]⟩, .int .u32 0, .int .i64 0, .int .i64 0, .slice none 0 0] hA rfl rfl (by decide) (fun ev h => by simp [go_sem, hw1]; try first | exact ⟨rfl, rfl⟩ | rfl) rfl rfl (by rfl) (fun w1 g ev hb h => by simp [go_sem, h.get 7 rfl, h.get 16 rfl, hw1, setAll, hb.cell, hb.frozen]) fun w4 a (K7 : Blk _ _ _ _) hz4 hb4 hA => ?_
  replace K4 := K4.below hb4 K4.lt
  replace HB := HB.trans (hb4.mono HB.size)
  replace hI := hI.below hb4
  obtain ⟨g7, hg7⟩ : ∃ g7, w3.heap.size = g7 := ⟨_, rfl⟩
  have h3w := HB.size
  rw [hg7] at K7 hA hi3
  have h47 : g4 ≠ g7 := by have := K4.lt; omega
  have hi7 : i ≠ g7 := by omega
  have hw7 : w.heap.size ≤ g7 := by omega
  have hw4 : w.heap.size ≤ i := by omega
  replace hA := hA.keepN [0, 1, 4, 6, 7]
  refine wN (nT (wS (wS (wR ?_))))
  revert a; (iterate 2 refine wo rfl rfl (by decide) (fun ev e h => by simp [go_sem, h, hw1] <;> rfl) ?_); intro a hA
  replace hA := hA.keepN [0, 1, 4, 6, 7, 18]
  refine wN (nT ?_)
  refine wp_join (fun a wx => ∃ v, At 68 [(0, .int .i64 k), (1, .slice A n c), (4, .pointer (some ⟨g4, 0, none⟩)), (6, .pointer (some ⟨i, 0, none⟩)), (7, .pointer (some ⟨g7, 0, none⟩))] a ∧ InAt wx i (rd2 k p).2 v ∧ Blk wx g4 30 noteZ ∧ Blk wx g7 30 #[.int .i64 k, .int .u32 ((rd1 p).1 : Nat), .string ⟨#[]⟩, .int .u32 ((rd2 k p).1 : Nat), .int .i64 0, .int .i64 0, .slice none 0 0] ∧ Below w.heap.size w wx) ?jfJ ?jrJ
  case jfJ =>
    refine wp_if hA 18 _ rfl (fun hq => ?yD) (fun hq => ?nD)
    case yD =>
      have hq : (k == 1) = false := by simpa using hq
      have e2 : rd2 k p = inN (rd1 p).2 4 := by unfold rd2; rw [hq, cond_false]
      refine wR ?_
      revert a; refine wo rfl rfl (by decide) (fun ev e h => by simp [go_sem, h, hw1] <;> rfl) ?_; intro a hA
      refine wl_call hA rfl rfl (by decide) (fun ev h => exec_call Tryz.func40 (by kernel_rfl) rfl (h.f _) (by first | (simp only [mL, h.get 19 rfl, h.c] <;> rfl) | (simp [mL, h.get 19 rfl, h.c, hw1] <;> rfl))) (in_N hI (by omega) 4 (by omega)) ?_
      rintro e w5 ⟨rfl, ⟨v5, hI⟩, hib⟩
      refine ⟨_, rfl, fun a hA => ?_⟩
      rw [← e2] at hI hA
      replace K4 := K4.ibut hib h4i
      replace K7 := K7.ibut hib hi7.symm
      replace HB := HB.trans (hib.toBelow HB.size hw4)
      have hw2 : IntKind.u32.wrap ((rd2 k p).1 : Int) = ((rd2 k p).1 : Int) := IntWalk.u32_in _ (by omega)
      refine wl_op hA rfl rfl (by decide) (fun ev h => by simp [go_sem, h.get 20 rfl, hw2]; try first | exact ⟨rfl, rfl⟩ | rfl) fun a hA => ?_
      revert a; (iterate 2 refine wo rfl rfl (by decide) (fun ev e h => by simp [go_sem, h, hw2] <;> rfl) ?_); intro a hA
      have K7b := K7
      refine wl_setf ([.int .i64 k, .int .u32 ((rd1 p).1 : Nat), .string ⟨#[]⟩, .int .u32 ((rd2 k p).1 : Nat), .int .i64 0, .int .i64 0, .slice none 0 0]) _ hA rfl rfl K7 (j := 3) (by rfl) (fun ev h => by simp [go_sem, h.get 23 rfl, h.get 21 rfl, hw2, K7.cell, K7.frozen]; try first | exact ⟨rfl, rfl⟩ | rfl) fun w6 (K7 : Blk _ _ _ _) hs => ?_
      replace hA := hA.keepN [0, 1, 4, 6, 7]
      refine wN (nT ?_)
      exact ⟨_, hA, hI.only hs hi7 K7b (by decide), hs.blk K4 h47, K7, hs.below HB hw7⟩
    case nD =>
      have hq : (k == 1) = true := by simpa using hq
      have e2 : rd2 k p = (0, (rd1 p).2) := by unfold rd2; rw [hq, cond_true]
      replace hA := hA.keepN [0, 1, 4, 6, 7]
      refine wp_skip (nT ?_)
      rw [e2]
      exact ⟨_, hA, hI, K4, K7, HB⟩
  clear hI K4 K7 HB
  rintro a wx ⟨v7, hA, hI, K4, K7, HB⟩
  refine wS (wS (wR ?_))
  revert a; (iterate 2 refine wo rfl rfl (by decide) (fun ev e h => by simp [go_sem, h, hw1] <;> rfl) ?_); intro a hA
  replace hA := hA.keepN [0, 1, 4, 6, 7, 25]
  refine wN (nT ?_)
  refine wp_join (fun a wx => ∃ v, At 68 [(0, .int .i64 k), (1, .slice A n c), (4, .pointer (some ⟨g4, 0, none⟩)), (6, .pointer (some ⟨i, 0, none⟩)), (7, .pointer (some ⟨g7, 0, none⟩))] a ∧ InAt wx i (rd3 k p).2 v ∧ Blk wx g4 30 noteZ ∧ Blk wx g7 30 #[.int .i64 k, .int .u32 ((rd1 p).1 : Nat), .string ⟨#[]⟩, .int .u32 ((rd2 k p).1 : Nat), .int .i64 ((rd3 k p).1.1 : Nat), .int .i64 ((rd3 k p).1.2 : Nat), .slice none 0 0] ∧ Below w.heap.size w wx) ?jfL ?jrL
  case jfL =>
    refine wp_if hA 25 _ rfl (fun hq => ?yD2) (fun hq => ?nD2)
    case yD2 =>
      have e3 : rd3 k p = (((inN (rd2 k p).2 6).1, (inN (inN (rd2 k p).2 6).2 1).1), (inN (inN (rd2 k p).2 6).2 1).2) := by unfold rd3; rw [hq, cond_true]
      rw [e3]
      have q6 := inN_rest (rd2 k p).2 6
      refine wR ?_
      revert a; refine wo rfl rfl (by decide) (fun ev e h => by simp [go_sem, h, hw1] <;> rfl) ?_; intro a hA
      refine wl_call hA rfl rfl (by decide) (fun ev h => exec_call Tryz.func40 (by kernel_rfl) rfl (h.f _) (by first | (simp only [mL, h.get 26 rfl, h.c] <;> rfl) | (simp [mL, h.get 26 rfl, h.c, hw1] <;> rfl))) (in_N hI (by omega) 6 (by omega)) ?_
      rintro e w8 ⟨rfl, ⟨v8, hI⟩, hib⟩
      refine ⟨_, rfl, fun a hA => ?_⟩
      replace K4 := K4.ibut hib h4i
      replace K7 := K7.ibut hib hi7.symm
      replace HB := HB.trans (hib.toBelow HB.size hw4)
      revert a; refine wo rfl rfl (by decide) (fun ev e h => by simp [go_sem, h, hw1] <;> rfl) ?_; intro a hA
      refine wl_call hA rfl rfl (by decide) (fun ev h => exec_call Tryz.func40 (by kernel_rfl) rfl (h.f _) (by first | (simp only [mL, h.get 28 rfl, h.c] <;> rfl) | (simp [mL, h.get 28 rfl, h.c, hw1] <;> rfl))) (in_N hI (by omega) 1 (by omega)) ?_
      rintro e w9 ⟨rfl, ⟨v9, hI⟩, hib⟩
      refine ⟨_, rfl, fun a hA => ?_⟩
      replace K4 := K4.ibut hib h4i
      replace K7 := K7.ibut hib hi7.symm
      replace HB := HB.trans (hib.toBelow HB.size hw4)
      revert a; (iterate 2 refine wo rfl rfl (by decide) (fun ev e h => by simp [go_sem, h, hw1] <;> rfl) ?_); intro a hA
      have K7b := K7
      refine wl_setf ([.int .i64 k, .int .u32 ((rd1 p).1 : Nat), .string ⟨#[]⟩, .int .u32 ((rd2 k p).1 : Nat), .int .i64 ((inN (rd2 k p).2 6).1 : Nat), .int .i64 0, .slice none 0 0]) _ hA rfl rfl K7 (j := 4) (by rfl) (fun ev h => by simp [go_sem, h.get 31 rfl, h.get 27 rfl, hw1, K7.cell, K7.frozen]; try first | exact ⟨rfl, rfl⟩ | rfl) fun w10 (K7 : Blk _ _ _ _) hs => ?_
      replace hI := hI.only hs hi7 K7b (by decide)
      replace K4 := hs.blk K4 h47
      replace HB := hs.below HB hw7
      revert a; (iterate 2 refine wo rfl rfl (by decide) (fun ev e h => by simp [go_sem, h, hw1] <;> rfl) ?_); intro a hA
      have K7b := K7
      refine wl_setf ([.int .i64 k, .int .u32 ((rd1 p).1 : Nat), .string ⟨#[]⟩, .int .u32 ((rd2 k p).1 : Nat), .int .i64 ((inN (rd2 k p).2 6).1 : Nat), .int .i64 ((inN (inN (rd2 k p).2 6).2 1).1 : Nat), .slice none 0 0]) _ hA rfl rfl K7 (j := 5) (by rfl) (fun ev h => by simp [go_sem, h.get 33 rfl, h.get 29 rfl, hw1, K7.cell, K7.frozen]; try first | exact ⟨rfl, rfl⟩ | rfl) fun w11 (K7 : Blk _ _ _ _) hs => ?_
      replace hA := hA.keepN [0, 1, 4, 6, 7]
      refine wN (nT ?_)
      exact ⟨_, hA, hI.only hs hi7 K7b (by decide), hs.blk K4 h47, K7, hs.below HB hw7⟩
    case nD2 =>
      have e3 : rd3 k p = ((0, 0), (rd2 k p).2) := by unfold rd3; rw [hq, cond_false]
      replace hA := hA.keepN [0, 1, 4, 6, 7]
      refine wp_skip (nT ?_)
      rw [e3]
      exact ⟨_, hA, hI, K4, K7, HB⟩
  clear hI K4 K7 HB
  rintro a wx ⟨v12, hA, hI, K4, K7, HB⟩
  refine wS (wS (wR ?_))
  revert a; (iterate 2 refine wo rfl rfl (by decide) (fun ev e h => by simp [go_sem, h, hw1] <;> rfl) ?_); intro a hA
  replace hA := hA.keepN [1, 4, 6, 7, 35]
  refine wN (nT ?_)
  refine wp_join (fun a wx => ∃ v, At 68 [(1, .slice A n c), (4, .pointer (some ⟨g4, 0, none⟩)), (6, .pointer (some ⟨i, 0, none⟩)), (7, .pointer (some ⟨g7, 0, none⟩))] a ∧ InAt wx i (rd4 k p).2 v ∧ Blk wx g4 30 noteZ ∧ Blk wx g7 30 #[.int .i64 k, .int .u32 ((rd1 p).1 : Nat), .string (rd4 k p).1, .int .u32 ((rd2 k p).1 : Nat), .int .i64 ((rd3 k p).1.1 : Nat), .int .i64 ((rd3 k p).1.2 : Nat), .slice none 0 0] ∧ Below w.heap.size w wx) ?jfM ?jrM
  case jfM =>
    refine wp_if hA 35 _ rfl (fun hq => ?yD3) (fun hq => ?nD3)
    case yD3 =>
      have hq : (k == 3) = false := by simpa using hq
      have e4 : rd4 k p = inText (rd3 k p).2 := by unfold rd4; rw [hq, cond_false]
      rw [e4]
      refine wR ?_
      revert a; refine wo rfl rfl (by decide) (fun ev e h => by simp [go_sem, h, hw1] <;> rfl) ?_; intro a hA
      refine wl_call hA rfl rfl (by decide) (fun ev h => exec_call Tryz.func41 (by kernel_rfl) rfl (h.f _) (by first | (simp only [mL, h.get 36 rfl, h.c] <;> rfl) | (simp [mL, h.get 36 rfl, h.c, hw1] <;> rfl))) (in_Text hI (by omega)) ?_
      rintro e w13 ⟨rfl, ⟨v13, hI⟩, hib⟩
      refine ⟨_, rfl, fun a hA => ?_⟩
      replace K4 := K4.ibut hib h4i
      replace K7 := K7.ibut hib hi7.symm
      replace HB := HB.trans (hib.toBelow HB.size hw4)
      revert a; refine wo rfl rfl (by decide) (fun ev e h => by simp [go_sem, h, hw1] <;> rfl) ?_; intro a hA
      have K7b := K7
      refine wl_setf ([.int .i64 k, .int .u32 ((rd1 p).1 : Nat), .string (inText (rd3 k p).2).1, .int .u32 ((rd2 k p).1 : Nat), .int .i64 ((rd3 k p).1.1 : Nat), .int .i64 ((rd3 k p).1.2 : Nat), .slice none 0 0]) _ hA rfl rfl K7 (j := 2) (by rfl) (fun ev h => by simp [go_sem, h.get 38 rfl, h.get 37 rfl, hw1, K7.cell, K7.frozen]; try first | exact ⟨rfl, rfl⟩ | rfl) fun w14 (K7 : Blk _ _ _ _) hs => ?_
      replace hA := hA.keepN [1, 4, 6, 7]
      refine wN (nT ?_)
      exact ⟨_, hA, hI.only hs hi7 K7b (by decide), hs.blk K4 h47, K7, hs.below HB hw7⟩
    case nD3 =>
      have hq : (k == 3) = true := by simpa using hq
      have e4 : rd4 k p = (⟨#[]⟩, (rd3 k p).2) := by unfold rd4; rw [hq, cond_true]
      replace hA := hA.keepN [1, 4, 6, 7]
      refine wp_skip (nT ?_)
      rw [e4]
      exact ⟨_, hA, hI, K4, K7, HB⟩
  clear hI K4 K7 HB
  rintro a wx ⟨v15, hA, hI, K4, K7, HB⟩
  unfold noteZ at K4
  refine wS (wR ?_)
  revert a; (iterate 2 refine wo rfl rfl (by decide) (fun ev e h => by simp [go_sem, h, hw1] <;> rfl) ?_); intro a hA
  refine wl_call hA rfl rfl (by decide) (fun ev h => exec_call Tryz.func43 (by kernel_rfl) rfl (h.f _) (by first | (simp only [mL, h.get 40 rfl, h.c] <;> rfl) | (simp [mL, h.get 40 rfl, h.c, hw1] <;> rfl))) (in_Left hI) ?_
  rintro e w16 ⟨rfl, hb⟩
  refine ⟨_, rfl, fun a hA => ?_⟩
  replace K4 := K4.below hb K4.lt
  replace K7 := K7.below hb K7.lt
  replace HB := HB.trans (hb.mono HB.size)
  replace hI := hI.below hb
  refine wl_call hA rfl rfl (by decide) (fun ev h => exec_call Tryz.func42 (by kernel_rfl) rfl (h.f _) (by first | (simp only [mL, h.get 39 rfl, h.get 41 rfl, h.c] <;> rfl) | (simp [mL, h.get 39 rfl, h.get 41 rfl, h.c, hw1] <;> rfl))) (in_Raw hI (by omega) ((rd4 k p).2.rest.length : Nat)) ?_
  rintro e w17 ⟨vr, rfl, hor, ⟨v17, hI⟩, hib⟩
  refine ⟨_, rfl, fun a hA => ?_⟩
  rw [show (inTake (rd4 k p).2 ((rd4 k p).2.rest.length : Nat)) = rd5 k p from rfl] at hor hI
  have h716 := K7.lt
  replace K4 := K4.ibut hib h4i
  replace K7 := K7.ibut hib hi7.symm
  replace HB := HB.trans (hib.toBelow HB.size hw4)
  obtain ⟨Ao, co, rfl, hro⟩ := hor.took
  clear hro
  revert a; (iterate 2 refine wo rfl rfl (by decide) (fun ev e h => by simp [go_sem, h, hw1] <;> rfl) ?_); intro a hA
  have K7b := K7
  refine wl_setf ([.int .i64 k, .int .u32 ((rd1 p).1 : Nat), .string (rd4 k p).1, .int .u32 ((rd2 k p).1 : Nat), .int .i64 ((rd3 k p).1.1 : Nat), .int .i64 ((rd3 k p).1.2 : Nat), .slice Ao (rd5 k p).1.length co]) _ hA rfl rfl K7 (j := 6) (by rfl) (fun ev h => by simp [go_sem, h.get 44 rfl, h.get 42 rfl, hw1, K7.cell, K7.frozen]; try first | exact ⟨rfl, rfl⟩ | rfl) fun w18 (K7 : Blk _ _ _ _) hs => ?_
  replace hI := hI.only hs hi7 K7b (by decide)
  replace K4 := hs.blk K4 h47
  replace HB := hs.below HB hw7
  replace hor := hor.keep fun g hg => hs.block g (by have := (World.ownsRow.lt hor g hg).1; omega)
  replace hA := hA.keepN [1, 4, 6, 7]
  refine wN (nT (wS (wS (wR ?_))))
  revert a; refine wo rfl rfl (by decide) (fun ev e h => by simp [go_sem, h, hw1] <;> rfl) ?_; intro a hA
  refine wl_call hA rfl rfl (by decide) (fun ev h => exec_call Tryz.func44 (by kernel_rfl) rfl (h.f _) (by first | (simp only [mL, h.get 45 rfl, h.c] <;> rfl) | (simp [mL, h.get 45 rfl, h.c, hw1] <;> rfl))) (in_Bad hI) ?_
  rintro e w19 ⟨rfl, hb⟩
  refine ⟨_, rfl, fun a hA => ?_⟩
  replace K4 := K4.below hb K4.lt
  replace K7 := K7.below hb K7.lt
  replace HB := HB.trans (hb.mono HB.size)
  replace hI := hI.below hb
  replace hor := hor.below hb
  revert a; refine wo rfl rfl (by decide) (fun ev e h => by simp [go_sem, h, K7.cell] <;> rfl) ?_; refine wg _ rfl rfl rfl rfl (by decide) (fun hq ev e h => by simp [go_sem, h, ↓gw_t (beq_t hq), K7.cell] <;> rfl) ?_; intro a hA
  refine wl_gcallv _ hA rfl rfl rfl rfl (by decide) (fun hq ev h => exec_call Tryz.func13 (by kernel_rfl) rfl (h.f _) (by first | (simp only [mL, ((h.get 48 rfl).trans (gw_t (beq_t hq))), h.c] <;> rfl) | (simp [mL, ((h.get 48 rfl).trans (gw_t (beq_t hq))), h.c, K7.cell] <;> rfl))) (fun hq => formed_any k (rd1 p).1 (rd4 k p).1 (rdM k p Ao co) _ (hm.below hg HB) (Nat.lt_of_lt_of_le hg HB.size) (htab := Ht _ HB) (by omega)) fun a w20 hb hA => ?_
  replace K4 := K4.below hb K4.lt
  replace K7 := K7.below hb K7.lt
  replace HB := HB.trans (hb.mono HB.size)
  replace hor := hor.below hb
  revert a; refine wg _ rfl rfl rfl rfl (by decide) (fun hq ev e h => by simp [go_sem, h, ↓gw_t (beq_t hq), K7.cell] <;> rfl) ?_; refine wko rfl rfl (by decide) rfl rfl rfl ?_; intro a hA
  replace hA := hA.keepN [1, 4, 7, 51]
  refine wN (nT ?_)
  refine wp_if hA 51 _ rfl (fun hq => ?yE) (fun hq => ?nE)
  case yE =>
    have hno : decOk k p = false := by
      rw [formed_ac] at hq
      unfold decOk
      cases hb : (rd5 k p).2.bad with
      | true => rfl
      | false =>
        rw [hb, Bool.false_or] at hq
        have hf : formedV k (rd1 p).1 (rd4 k p).1 (rdM k p none 0) = false := by simpa using hq
        rw [hf]
        rfl
    refine wS (wR ?_)
    revert a; refine wo rfl rfl (by decide) (fun ev e h => by simp [go_sem, h, K7.cell] <;> rfl) ?_; intro a hA
    refine wl_set [.int .i64 0, .int .u32 0, .string ⟨#[]⟩, .int .u32 0, .int .i64 0, .int .i64 0, .slice none 0 0] hA rfl rfl K4 (by rfl) (fun ev h => by simp [go_sem, h.get 4 rfl, h.get 52 rfl, K7.cell, setAll, K4.cell, K4.frozen]) fun w21 (K4 : Blk _ _ _ _) hs => ?_
    revert a; refine wo rfl rfl (by decide) (fun ev e h => by simp [go_sem, h, K4.cell] <;> rfl) ?_; intro a hA
    replace hA := hA.keepN [4, 5]
    refine wN (nT (wp_ret (rT ?_)))
    refine bodyPost_ret (by simp [results, Tryz.results14, go_sem, hA.env 4 _ rfl, hA.env 5 _ rfl, K4.cell]; try first | exact ⟨rfl, rfl⟩ | rfl) hA.defers ?_
    exact ⟨none, 0, by rw [hno]; rfl, fun h => (by rw [hno] at h; cases h), hs.below HB (by omega)⟩
  case nE =>
    rw [Bool.or_eq_false_iff] at hq
    obtain ⟨hbd, hq⟩ := hq
    have hf : formedV k (rd1 p).1 (rd4 k p).1 (rdM k p Ao co) = true := by simpa using hq
    refine wp_skip (nT (wS (wS (wR ?_))))
    revert a; refine wo rfl rfl (by decide) (fun ev e h => by simp [go_sem, h, K7.cell] <;> rfl) ?_; intro a hA
    refine wl_call hA rfl rfl (by decide) (fun ev h => exec_call Tryz.func10 (by kernel_rfl) rfl (h.f _) (by first | (simp only [mL, h.get 54 rfl, h.c] <;> rfl) | (simp [mL, h.get 54 rfl, h.c, K7.cell] <;> rfl))) (encode_any k (rd1 p).1 (rd4 k p).1 (rdM k p Ao co) _ (hm.below hg HB) (Nat.lt_of_lt_of_le hg HB.size) (htab := Ht _ HB) (by omega) q1 q2 (own8_at hor)) ?_
    rintro e w22 ⟨r, rfl, hoe, hb⟩
    refine ⟨_, rfl, fun a hA => ?_⟩
    replace K4 := K4.below hb K4.lt
    replace K7 := K7.below hb K7.lt
    replace HB := HB.trans (hb.mono HB.size)
    replace hor := hor.below hb
    rw [hf, cond_true] at hoe hA
    obtain ⟨Ar, cr, rfl, hrr⟩ := hoe.took
    revert a; (iterate 5 refine wo rfl rfl (by decide) (fun ev e h => by simp [go_sem, h, K7.cell] <;> rfl) ?_); intro a hA
    replace hA := hA.keepN [1, 4, 7, 8, 9]
    refine wN (nT (wS (wR ?_)))
    revert a; (iterate 3 refine wo rfl rfl (by decide) (fun ev e h => by simp [go_sem, h, K7.cell] <;> rfl) ?_); (iterate 2 refine wg _ rfl rfl rfl rfl (by decide) (fun hq ev e h => by simp [go_sem, h, ↓gw_t (beq_t hq), K7.cell] <;> rfl) ?_); intro a hA
    have hrp := (hr.below HB).more HB.size
    refine wl_gcallv _ hA rfl rfl rfl rfl (by decide) (fun hq ev h => exec_call Tryz.func45 (by kernel_rfl) rfl (h.f _) (by first | (simp only [mL, ((h.get 61 rfl).trans (gw_t (beq_t hq))), ((h.get 62 rfl).trans (gw_t (beq_t hq))), h.c] <;> rfl) | (simp [mL, ((h.get 61 rfl).trans (gw_t (beq_t hq))), ((h.get 62 rfl).trans (gw_t (beq_t hq))), h.c, K7.cell] <;> rfl))) (fun hq => (equal_any Ar A _ cr n c _ p _ rfl hl hrr hrp).mono fun e' w' h => ⟨h.1, h.2 ▸ Below.refl _ _⟩) fun a w23 hb hA => ?_
    replace K4 := K4.below hb K4.lt
    replace K7 := K7.below hb K7.lt
    replace HB := HB.trans (hb.mono HB.size)
    replace hor := hor.below hb
    revert a; refine wg _ rfl rfl rfl rfl (by decide) (fun hq ev e h => by simp [go_sem, h, ↓gw_t (beq_t hq), K7.cell] <;> rfl) ?_; refine wko rfl rfl (by decide) rfl rfl rfl ?_; intro a hA
    replace hA := hA.keepN [4, 7, 65]
    refine wN (nT ?_)
    refine wp_if hA 65 _ rfl (fun hq2 => ?yF) (fun hq2 => ?nF)
    case yF =>
      have hno : decOk k p = false := by
        have he : (encV k (rd1 p).1 (rd4 k p).1 (rdM k p Ao co) == p) = false := by simpa using hq2
        rw [enc_ac] at he
        unfold decOk
        rw [he, Bool.and_false, Bool.and_false]
      refine wS (wR ?_)
      revert a; refine wo rfl rfl (by decide) (fun ev e h => by simp [go_sem, h, K7.cell] <;> rfl) ?_; intro a hA
      refine wl_set [.int .i64 0, .int .u32 0, .string ⟨#[]⟩, .int .u32 0, .int .i64 0, .int .i64 0, .slice none 0 0] hA rfl rfl K4 (by rfl) (fun ev h => by simp [go_sem, h.get 4 rfl, h.get 66 rfl, K7.cell, setAll, K4.cell, K4.frozen]) fun w24 (K4 : Blk _ _ _ _) hs => ?_
      revert a; refine wo rfl rfl (by decide) (fun ev e h => by simp [go_sem, h, K4.cell] <;> rfl) ?_; intro a hA
      replace hA := hA.keepN [4, 5]
      refine wN (nT (wp_ret (rT ?_)))
      refine bodyPost_ret (by simp [results, Tryz.results14, go_sem, hA.env 4 _ rfl, hA.env 5 _ rfl, K4.cell]; try first | exact ⟨rfl, rfl⟩ | rfl) hA.defers ?_
      exact ⟨none, 0, by rw [hno]; rfl, fun h => (by rw [hno] at h; cases h), hs.below HB (by omega)⟩
    case nF =>
      have hyes : decOk k p = true := by
        have he : (encV k (rd1 p).1 (rd4 k p).1 (rdM k p Ao co) == p) = true := by simpa using hq2
        rw [enc_ac] at he
        rw [formed_ac] at hf
        unfold decOk
        rw [he, hf, hbd]
        rfl
      refine wp_skip (nT (wS (wR ?_)))
      revert a; refine wo rfl rfl (by decide) (fun ev e h => by simp [go_sem, h, K7.cell] <;> rfl) ?_; intro a hA
      refine wl_set [.int .i64 k, .int .u32 ((rd1 p).1 : Nat), .string (rd4 k p).1, .int .u32 ((rd2 k p).1 : Nat), .int .i64 ((rd3 k p).1.1 : Nat), .int .i64 ((rd3 k p).1.2 : Nat), .slice Ao (rd5 k p).1.length co] hA rfl rfl K4 (by rfl) (fun ev h => by simp [go_sem, h.get 4 rfl, h.get 67 rfl, K7.cell, setAll, K4.cell, K4.frozen]) fun w25 (K4 : Blk _ _ _ _) hs => ?_
      replace hor := hor.keep fun g hg => hs.block g (by have := (World.ownsRow.lt hor g hg).1; omega)
      revert a; refine wo rfl rfl (by decide) (fun ev e h => by simp [go_sem, h, K4.cell] <;> rfl) ?_; intro a hA
      replace hA := hA.keepN [4, 5]
      refine wN (nT (wp_ret ?_))
      refine bodyPost_ret (by simp [results, Tryz.results14, go_sem, hA.env 4 _ rfl, hA.env 5 _ rfl, K4.cell]; try first | exact ⟨rfl, rfl⟩ | rfl) hA.defers ?_
      exact ⟨Ao, co, by rw [hyes]; rfl, fun _ => ⟨own8_at hor, fun ad ha => by have := (World.ownsRow.lt hor ad.block (by rw [ha]; rfl)).1; omega⟩, hs.below HB (by omega)⟩
theorem decode_any (k : Int) (A : Option Addr) (n c : Nat) (p : List UInt8) (hl : p.length = n) (hn : n ≤ 1000000) (w : World) (hm : MaxCell w) (hg : 0 < w.heap.size) (htab : Lib.TabIs Tryz.prog w "internal/strconv.uint64pow10" .u64 Lib.pow10Tab) (hr : Reads w w.heap.size 1 A n (u8s p)) :
    Calls Tryz.prog 14 #[.int .i64 k, .slice A n c] w fun ev w' => ∃ a c', ev = .returned (.tuple #[.agg (bif decOk k p then noteC k (rd1 p).1 (rd4 k p).1 (rdM k p a c') else noteZ), .int .i64 (bif decOk k p then 0 else 2)]) ∧ (decOk k p = true → Reads w' w'.heap.size 1 a (rd5 k p).1.length (u8s (rd5 k p).1)) ∧ Below w.heap.size w w' :=
  (decode_new k A n c p hl hn w hm hg htab hr).mono fun ev w' ⟨a, c', h1, h2, h3⟩ => ⟨a, c', h1, fun h => (h2 h).1, h3⟩
end Go.Proofs.YtmjikfeaopmejaaGreatDoor
/-
  Plainly: a formed note's payload is read back as that note.
-/
namespace Go.Proofs.YtmjikfeaopmejaaGreatDoor
open Go.RowKit
theorem bare_zero {d f : Int} {n : Nat} (h : bareV d f n = true) : d = 0 ∧ f = 0 := by
  unfold bareV at h
  simp only [Bool.and_eq_true, beq_iff_eq] at h
  exact ⟨h.1.1, h.1.2⟩
theorem empty_name {nm : ByteArray} (h : nm.toList.isEmpty = true) : nm = ⟨#[]⟩ := by
  rw [ByteArray.toList_eq] at h
  have h4 := List.isEmpty_iff.1 h
  obtain ⟨⟨l⟩⟩ := nm
  have : l = [] := h4
  rw [this]
/-- what a formed note's kind leaves out -/
theorem formed_rest {k : Int} {e : Nat} {nm : ByteArray} {m : MsgV} (h : formedV k e nm m = true) : ((k == 1) = true → m.uid = 0) ∧ ((k == 2) = false → m.date = 0 ∧ m.flags = 0) ∧ ((k == 3) = true → nm = ⟨#[]⟩) ∧ 0 ≤ m.date ∧ m.date ≤ 253402300799 ∧ 0 ≤ m.flags ∧ m.flags ≤ 31 := by
  unfold formedV at h
  rw [Bool.and_eq_true] at h
  obtain ⟨_, h⟩ := h
  cases h1 : k == 1 with
  | true =>
    rw [h1, cond_true, Bool.and_eq_true, Bool.and_eq_true, beq_iff_eq] at h
    obtain ⟨hd, hf⟩ := bare_zero h.1.2
    have e1 : k = 1 := by simpa using h1
    exact ⟨fun _ => h.2, fun _ => ⟨hd, hf⟩, fun h3 => (by rw [e1] at h3; cases h3), by omega, by omega, by omega, by omega⟩
  | false =>
    rw [h1, cond_false] at h
    cases h2 : k == 2 with
    | true =>
      rw [h2, cond_true, Bool.and_eq_true] at h
      obtain ⟨_, _, p⟩ := full_parts h.2
      have e2 : k = 2 := by simpa using h2
      exact ⟨fun e => (by cases e), fun e => (by cases e), fun h3 => (by rw [e2] at h3; cases h3), p⟩
    | false =>
      rw [h2, cond_false, Bool.and_eq_true, Bool.and_eq_true, Bool.and_eq_true] at h
      obtain ⟨hd, hf⟩ := bare_zero h.1.2
      exact ⟨fun e => (by cases e), fun _ => ⟨hd, hf⟩, fun _ => empty_name h.1.1.2, by omega, by omega, by omega, by omega⟩
section
variable {k : Int} {e : Nat} {nm : ByteArray} {m : MsgV}
theorem rd1_enc (he : e < 4294967296) : rd1 (encV k e nm m) = (e, ⟨enc1 k m ++ (enc2 k m ++ (enc3 k nm ++ m.b)), false⟩) := by
  unfold rd1 encV
  rw [List.append_assoc, List.append_assoc, List.append_assoc]
  exact inN_be 4 e _ he
theorem rd2_enc (h : formedV k e nm m = true) (he : e < 4294967296) (hu : m.uid < 4294967296) : rd2 k (encV k e nm m) = (m.uid, ⟨enc2 k m ++ (enc3 k nm ++ m.b), false⟩) := by
  obtain ⟨h1, _⟩ := formed_rest h
  unfold rd2
  rw [rd1_enc he]
  unfold enc1
  cases hk : k == 1 with
  | true => rw [h1 hk, cond_true, cond_true]; rfl
  | false => rw [cond_false, cond_false]; exact inN_be 4 m.uid _ hu
theorem rd3_enc (h : formedV k e nm m = true) (he : e < 4294967296) (hu : m.uid < 4294967296) : rd3 k (encV k e nm m) = ((m.date.toNat, m.flags.toNat), ⟨enc3 k nm ++ m.b, false⟩) := by
  obtain ⟨_, h2, _, d0, d1, f0, f1⟩ := formed_rest h
  unfold rd3
  rw [rd2_enc h he hu]
  unfold enc2
  cases hk : k == 2 with
  | true =>
    rw [cond_true, cond_true, List.append_assoc]
    rw [inN_be 6 m.date.toNat _ (show m.date.toNat < 256 ^ 6 by omega)]
    rw [inN_be 1 m.flags.toNat _ (show m.flags.toNat < 256 ^ 1 by omega)]
  | false =>
    obtain ⟨e1, e2⟩ := h2 hk
    rw [cond_false, cond_false, e1, e2]
    rfl
theorem rd4_enc (h : formedV k e nm m = true) (he : e < 4294967296) (hu : m.uid < 4294967296) : rd4 k (encV k e nm m) = (nm, ⟨m.b, false⟩) := by
  obtain ⟨_, _, h3, _⟩ := formed_rest h
  obtain ⟨_, hs, _⟩ := formed_parts h
  unfold rd4
  rw [rd3_enc h he hu]
  unfold enc3
  cases hk : k == 3 with
  | true => rw [cond_true, cond_true, h3 hk]; rfl
  | false => rw [cond_false, cond_false]; exact inText_textB nm _ (by omega)
theorem rd5_enc (h : formedV k e nm m = true) (he : e < 4294967296) (hu : m.uid < 4294967296) : rd5 k (encV k e nm m) = (m.b, ⟨[], false⟩) := by
  unfold rd5
  rw [rd4_enc h he hu]
  have := inTake_append m.b [] m.b.length rfl
  rw [List.append_nil] at this
  exact this
/-- what is read back is the note -/
theorem rdM_enc (h : formedV k e nm m = true) (he : e < 4294967296) (hu : m.uid < 4294967296) (a : Option Addr) (c : Nat) : rdM k (encV k e nm m) a c = ⟨m.uid, m.date, m.flags, a, c, m.b⟩ := by
  obtain ⟨_, _, _, d0, d1, f0, f1⟩ := formed_rest h
  unfold rdM
  rw [rd2_enc h he hu, rd3_enc h he hu, rd5_enc h he hu]
  show MsgV.mk m.uid ((m.date.toNat : Nat) : Int) ((m.flags.toNat : Nat) : Int) a c m.b = _
  rw [Int.toNat_of_nonneg d0, Int.toNat_of_nonneg f0]
theorem decOk_enc (h : formedV k e nm m = true) (he : e < 4294967296) (hu : m.uid < 4294967296) : decOk k (encV k e nm m) = true := by
  unfold decOk
  rw [rd5_enc h he hu, rd1_enc he, rd4_enc h he hu, rdM_enc h he hu]
  have e1 : formedV k e nm ⟨m.uid, m.date, m.flags, none, 0, m.b⟩ = formedV k e nm m := rfl
  have e2 : encV k e nm ⟨m.uid, m.date, m.flags, none, 0, m.b⟩ = encV k e nm m := rfl
  show (!false && (formedV k e nm ⟨m.uid, m.date, m.flags, none, 0, m.b⟩ && (encV k e nm ⟨m.uid, m.date, m.flags, none, 0, m.b⟩ == encV k e nm m))) = true
  rw [e1, e2, h]
  simp
end
end Go.Proofs.YtmjikfeaopmejaaGreatDoor
/-
  Logs, plainly: what notes, one behind the other, say; told at once and note by note.
-/
namespace Go.Proofs.YtmjikfeaopmejaaGreatDoor
open Go.RowKit
/-- a note, without addresses, and where its record stands -/
structure NoteB where
  k : Int
  ep : Nat
  nm : ByteArray
  u : Nat
  d : Int
  f : Int
  o : List UInt8
  at_ : Nat
def behindN (u : Nat) : Nat := if u = 4294967295 then u else u + 1
/-- what a log says -/
structure LogS where
  nm : ByteArray
  ep : Nat
  nx : Nat
  live : List NoteB
def log0 : LogS := ⟨⟨#[]⟩, 0, 1, []⟩
def goneB (n x : NoteB) : Bool := x.ep == n.ep && x.u == n.u
def epN (s : LogS) (n : NoteB) : Nat := if s.ep < n.ep then n.ep else s.ep
def nxN (s : LogS) (n : NoteB) : Nat := if (epN s n == n.ep && !(n.k == 1)) = true then max (if s.ep < n.ep then 1 else s.nx) (behindN n.u) else if s.ep < n.ep then 1 else s.nx
def liveN (l : List NoteB) (n : NoteB) : List NoteB := bif n.k == 2 then l ++ [n] else bif n.k == 3 then l.filter (fun x => !goneB n x) else l
def takeN (s : LogS) (n : NoteB) : LogS := ⟨bif n.k == 3 then s.nm else n.nm, epN s n, nxN s n, liveN s.live n⟩
def takeAll (l : List NoteB) : LogS := l.foldl takeN log0
-- at once
def ofEp (l : List NoteB) : Nat := l.foldl (fun e n => max e n.ep) 0
def ofNm (l : List NoteB) : ByteArray := l.foldl (fun s n => bif decide (n.k < 3) then n.nm else s) ⟨#[]⟩
def nxStep (E x : Nat) (n : NoteB) : Nat := bif decide (1 < n.k) && n.ep == E then max x (behindN n.u) else x
def ofNx (E : Nat) (l : List NoteB) : Nat := l.foldl (nxStep E) 1
def ofLive : List NoteB → List NoteB
  | [] => []
  | n :: r => bif n.k == 2 && !r.any (fun m => m.k == 3 && goneB m n) then n :: ofLive r else ofLive r
def KindOk (n : NoteB) : Prop := n.k = 1 ∨ n.k = 2 ∨ n.k = 3
theorem ofLive_snoc (n : NoteB) (h : KindOk n) : ∀ l : List NoteB, ofLive (l ++ [n]) = liveN (ofLive l) n
  | [] => by
    unfold liveN
    rcases h with h | h | h <;> simp [ofLive, h]
  | m :: r => by
    have ih := ofLive_snoc n h r
    rw [List.cons_append]
    unfold ofLive
    rw [ih, List.any_append]
    have e1 : ([n].any fun x => x.k == 3 && goneB x m) = (n.k == 3 && goneB n m) := by simp
    rw [e1]
    generalize hA : (r.any fun x => x.k == 3 && goneB x m) = A
    unfold liveN
    rcases h with h | h | h
    · rw [h]
      cases hm : m.k == 2 <;> cases A <;> simp
    · rw [h]
      cases hm : m.k == 2 <;> cases A <;> simp
    · rw [h]
      cases hg : goneB n m <;> cases hm : m.k == 2 <;> cases A <;> simp [hg]
theorem ofEp_snoc (n : NoteB) (l : List NoteB) : ofEp (l ++ [n]) = max (ofEp l) n.ep := by unfold ofEp; rw [List.foldl_append]; rfl
theorem ofNm_snoc (n : NoteB) (h : KindOk n) (l : List NoteB) : ofNm (l ++ [n]) = bif n.k == 3 then ofNm l else n.nm := by
  unfold ofNm
  rw [List.foldl_append]
  rcases h with h | h | h <;> simp [h]
theorem ofEp_le {l : List NoteB} {n : NoteB} (h : n ∈ l) : n.ep ≤ ofEp l := by
  suffices H : ∀ (l : List NoteB) (e : Nat), e ≤ l.foldl (fun e n => max e n.ep) e ∧ ∀ n ∈ l, n.ep ≤ l.foldl (fun e n => max e n.ep) e from (H l 0).2 n h
  intro l
  induction l with
  | nil => intro e; exact ⟨Nat.le_refl _, fun n h => (by cases h)⟩
  | cons x r ih =>
    intro e
    obtain ⟨h1, h2⟩ := ih (max e x.ep)
    rw [List.foldl_cons]
    refine ⟨Nat.le_trans (Nat.le_max_left _ _) h1, fun n hn => ?_⟩
    rcases List.mem_cons.1 hn with e | e
    · subst e; exact Nat.le_trans (Nat.le_max_right _ _) h1
    · exact h2 n e
theorem ofNx_none {E : Nat} : ∀ (l : List NoteB) (x : Nat), (∀ n ∈ l, n.ep ≠ E) → l.foldl (nxStep E) x = x
  | [], _, _ => rfl
  | n :: r, x, h => by
    rw [List.foldl_cons, show nxStep E x n = x by unfold nxStep; have : (n.ep == E) = false := by simpa using h n List.mem_cons_self
                                                  rw [this, Bool.and_false]; rfl]
    exact ofNx_none r x fun m hm => h m (List.mem_cons_of_mem _ hm)
theorem ofNx_snoc (E : Nat) (n : NoteB) (l : List NoteB) : ofNx E (l ++ [n]) = nxStep E (ofNx E l) n := by unfold ofNx; rw [List.foldl_append]; rfl
def ofAll (l : List NoteB) : LogS := ⟨ofNm l, ofEp l, ofNx (ofEp l) l, ofLive l⟩
theorem ofAll_snoc (n : NoteB) (h : KindOk n) (l : List NoteB) : ofAll (l ++ [n]) = takeN (ofAll l) n := by
  have hE : ofEp (l ++ [n]) = epN (ofAll l) n := by
    rw [ofEp_snoc]
    unfold epN ofAll
    simp only
    split <;> omega
  unfold takeN
  show LogS.mk _ _ _ _ = _
  rw [ofNm_snoc n h, ofLive_snoc n h, hE]
  congr 1
  rw [ofNx_snoc]
  unfold nxN nxStep
  have hk : decide (1 < n.k) = !(n.k == 1) := by rcases h with h | h | h <;> rw [h] <;> rfl
  rw [hk]
  by_cases hlt : (ofAll l).ep < n.ep
  · have e1 : epN (ofAll l) n = n.ep := by unfold epN; rw [if_pos hlt]
    have e2 : ofNx n.ep l = 1 := ofNx_none l 1 fun m hm e => by
      have := ofEp_le hm
      have h3 : ofEp l < n.ep := hlt
      omega
    rw [e1, e2, if_pos hlt]
    cases hq : n.k == 1 <;> simp
  · have e1 : epN (ofAll l) n = (ofAll l).ep := by unfold epN; rw [if_neg hlt]
    rw [e1, if_neg hlt]
    show (bif (!(n.k == 1) && n.ep == ofEp l) then max (ofNx (ofEp l) l) (behindN n.u) else ofNx (ofEp l) l) = (if (ofEp l == n.ep && !(n.k == 1)) = true then max (ofNx (ofEp l) l) (behindN n.u) else ofNx (ofEp l) l)
    rw [Bool.and_comm, show (n.ep == ofEp l) = (ofEp l == n.ep) by rw [Bool.eq_iff_iff, beq_iff_eq, beq_iff_eq]; exact eq_comm]
    cases ofEp l == n.ep && !(n.k == 1) <;> rfl
/-- note by note, and at once: the same -/
theorem takeAll_of (l : List NoteB) (h : ∀ n ∈ l, KindOk n) : takeAll l = ofAll l := by
  suffices H : ∀ (r : List NoteB), (∀ n ∈ r, KindOk n) → takeAll r.reverse = ofAll r.reverse by
    have := H l.reverse (fun n hn => h n (List.mem_reverse.1 hn))
    rwa [List.reverse_reverse] at this
  intro r
  induction r with
  | nil => intro _; rfl
  | cons n r ih =>
    intro hr
    rw [List.reverse_cons, ofAll_snoc n (hr n List.mem_cons_self), ← ih fun m hm => hr m (List.mem_cons_of_mem _ hm)]
    unfold takeAll
    rw [List.foldl_append]
    rfl
/-- are live messages of one epoch, and do they rise? -/
def riseN (E : Nat) : Nat → List NoteB → Bool
  | _, [] => true
  | last, n :: r => n.ep == E && decide (last < n.u) && !(n.u == 4294967295) && riseN E n.u r
def cleanS (s : LogS) : Bool := riseN s.ep 0 s.live
def bare4 (n : NoteB) : Nat × Int × Int × List UInt8 := (n.u, n.d, n.f, n.o)
def renum : Nat → List NoteB → List (Nat × Int × Int × List UInt8)
  | _, [] => []
  | i, n :: r => ((i + 1) % 4294967296, n.d, n.f, n.o) :: renum (i + 1) r
/-- a mailbox, without addresses -/
structure BoxB where
  nm : ByteArray
  ep : Nat
  nx : Nat
  msgs : List (Nat × Int × Int × List UInt8)
def boxS (s : LogS) : BoxB := bif cleanS s then ⟨s.nm, s.ep, s.nx, s.live.map bare4⟩ else ⟨s.nm, behindN s.ep, (s.live.length + 1) % 4294967296, renum 0 s.live⟩
end Go.Proofs.YtmjikfeaopmejaaGreatDoor
/-
  A region that draws its order, whose last operations wait, each, for all that stand ahead: these come in the text's order.
-/
namespace Go.Proofs.YtmjikfeaopmejaaGreatDoor
open Go Go.RowKit
/-- an operation waits for j, or for one of the tail behind j, or for one that waits for j -/
def waitsB (L : List Oper) (m : Nat) (o : Oper) (i j : Nat) : Bool := onB o j || ((List.range i).any fun k => Nat.ble m k && Nat.blt j k && onB o k) || o.after.any fun e => Region.binds .any e && blk L j L.length e.on
/-- from place k on each operation waits for all ahead -/
def seqFrom (L : List Oper) (m : Nat) : Nat → List Oper → Bool
  | _, [] => true
  | k, o :: r => (List.range k).all (fun j => waitsB L m o k j) && seqFrom L m (k + 1) r
theorem seqFrom_at {L : List Oper} {m : Nat} : ∀ {r : List Oper} {k : Nat}, seqFrom L m k r = true → ∀ i o, r[i]? = some o → ∀ j, j < k + i → onB o j = true ∨ (∃ k', m ≤ k' ∧ j < k' ∧ onB o k' = true) ∨ ∃ e ∈ o.after, Region.binds .any e = true ∧ blk L j L.length e.on = true := by
  intro r
  induction r with
  | nil => intro k _ i o ho; simp at ho
  | cons x r ih =>
    intro k h i o ho j hj
    unfold seqFrom at h
    rw [Bool.and_eq_true] at h
    cases i with
    | zero =>
      have e : x = o := by simpa using ho
      subst e
      have h2 := List.all_eq_true.1 h.1 j (List.mem_range.2 hj)
      unfold waitsB at h2
      rw [Bool.or_eq_true, Bool.or_eq_true] at h2
      rcases h2 with (h2 | h2) | h2
      · exact .inl h2
      · obtain ⟨k', _, hk⟩ := List.any_eq_true.1 h2
        simp only [Bool.and_eq_true] at hk
        exact .inr (.inl ⟨k', Nat.le_of_ble_eq_true hk.1.1, by simpa [Nat.blt_eq] using hk.1.2, hk.2⟩)
      · obtain ⟨e, he, hb⟩ := Array.any_eq_true'.1 h2
        simp only [Bool.and_eq_true] at hb
        exact .inr (.inr ⟨e, he, hb.1, hb.2⟩)
    | succ i => exact ih h.2 i o (by simpa using ho) j (by omega)
/-- each operation waits for those ahead alone -/
def backFrom : Nat → List Oper → Bool
  | _, [] => true
  | k, o :: r => (o.after.all fun e => !Region.binds .any e || decide (e.on < k)) && backFrom (k + 1) r
theorem backFrom_at : ∀ {r : List Oper} {k : Nat}, backFrom k r = true → ∀ i o, r[i]? = some o → ∀ e ∈ o.after, Region.binds .any e = true → e.on < k + i := by
  intro r
  induction r with
  | nil => intro k _ i o ho; simp at ho
  | cons x r ih =>
    intro k h i o ho e he hb
    unfold backFrom at h
    rw [Bool.and_eq_true] at h
    cases i with
    | zero =>
      have e2 : x = o := by simpa using ho
      subst e2
      have := Array.all_eq_true'.1 h.1 e he
      rw [hb] at this
      simpa using this
    | succ i =>
      have := ih h.2 i o (by simpa using ho) e he hb
      omega
section
variable {P : Program} {Q : Exit → Act → World → Prop} {l1 l2 : List Oper}
theorem wpOp_get {ops : Array Oper} {K : Act → World → Prop} {i : Nat} {o : Oper} {a : Act} {w : World} (h : ops[i]? = some o) : wpOp P ops Q i K a w = (if Region.wanted o (yielded ops a.tmps) then o.wp P a w K Q ∨ (o.asks P a w ∧ LetsOut Q) else K (a.put o.dst undef) w) := by
  unfold wpOp; rw [h]
/-- the tail -/
theorem wpAny_tail (hseq : seqFrom (l1 ++ l2) l1.length l1.length l2 = true) (hback : backFrom l1.length l2 = true) (hback1 : backFrom 0 l1 = true) : ∀ (r : List Oper) (k : Nat) (fuel : Nat) (listed : Array Bool) (a : Act) (w : World), l2.drop k = r → k ≤ l2.length → r.length ≤ fuel → listed.size = (l1 ++ l2).length →
    (∀ i, i < l1.length + k → listed.getD i false = true) → (∀ i, l1.length + k ≤ i → listed.getD i false = false) → wpList P (l1 ++ l2).toArray Q r a w → wpAny P .any (l1 ++ l2).toArray Q fuel listed a w := by
  intro r
  induction r with
  | nil =>
    intro k fuel listed a w hr hk hf hs h1 h2 hwp
    have hkl : l2.length ≤ k := List.drop_eq_nil_iff.1 hr
    have hready : Region.ready .any (l1 ++ l2).toArray listed = [] := by
      rw [List.eq_nil_iff_forall_not_mem]
      intro i hi
      obtain ⟨hun, o, ho, _⟩ := mem_ready.1 hi
      rw [List.getElem?_toArray] at ho
      have hlt := (List.getElem?_eq_some_iff.1 ho).1
      rw [List.length_append] at hlt
      have := h1 i (by omega)
      rw [getD_two hun] at this
      cases this
    cases fuel with
    | zero => exact ⟨hready, hwp⟩
    | succ f => exact ⟨fun _ => hwp, fun i hi => by rw [hready] at hi; cases hi⟩
  | cons o r ih =>
    intro k fuel listed a w hr hk hf hs h1 h2 hwp
    cases fuel with
    | zero => simp at hf
    | succ f =>
      have hkl : k < l2.length := by
        rcases Nat.lt_or_ge k l2.length with h | h
        · exact h
        · rw [List.drop_eq_nil_of_le h] at hr; cases hr
      have ho2 : l2[k]? = some o := by
        have := congrArg List.head? hr
        rwa [List.head?_drop] at this
      have hr2 : l2.drop (k + 1) = r := by
        rw [← List.tail_drop, hr]; rfl
      have hget : (l1 ++ l2).toArray[l1.length + k]? = some o := by
        rw [List.getElem?_toArray, List.getElem?_append_right (by omega), Nat.add_sub_cancel_left, ho2]
      have hmem : l1.length + k ∈ Region.ready .any (l1 ++ l2).toArray listed := by
        refine mem_ready.2 ⟨getD_inn (by rw [hs, List.length_append]; omega) (h2 _ (Nat.le_refl _)), o, hget, fun e he hb => h1 _ ?_⟩
        exact backFrom_at hback k o ho2 e he hb
      refine ⟨fun hn => ?_, fun i hi => ?_⟩
      · rw [hn] at hmem; cases hmem
      · obtain ⟨hun, oi, hoi, hall⟩ := mem_ready.1 hi
        have hgi : l1.length + k ≤ i := by
          rcases Nat.lt_or_ge i (l1.length + k) with h | h
          · have := h1 i h
            rw [getD_two hun] at this
            cases this
          · exact h
        have hik : i = l1.length + k := by
          rcases Nat.eq_or_lt_of_le hgi with h | h
          · exact h.symm
          · exfalso
            rw [List.getElem?_toArray, List.getElem?_append_right (by omega)] at hoi
            rcases seqFrom_at hseq (i - l1.length) oi hoi (l1.length + k) (by omega) with hon | ⟨k', _, hk', hon⟩ | ⟨e, he, hb, hbl⟩
            · obtain ⟨e, he, hb, heq⟩ := onB_spec hon
              have := hall e he hb
              rw [heq, h2 _ (Nat.le_refl _)] at this
              cases this
            · obtain ⟨e, he, hb, heq⟩ := onB_spec hon
              have := hall e he hb
              rw [heq, h2 _ (by omega)] at this
              cases this
            · have hcl : ∀ j oj, (l1 ++ l2)[j]? = some oj → listed.getD j false = true → ∀ e ∈ oj.after, Region.binds .any e = true → listed.getD e.on false = true := fun j oj hj hlj e he hb => by
                have hjk : j < l1.length + k := by
                  rcases Nat.lt_or_ge j (l1.length + k) with h | h
                  · exact h
                  · rw [h2 j h] at hlj; cases hlj
                refine h1 _ ?_
                rcases Nat.lt_or_ge j l1.length with h | h
                · rw [List.getElem?_append_left h] at hj
                  have := backFrom_at hback1 j oj hj e he hb
                  omega
                · rw [List.getElem?_append_right h] at hj
                  have := backFrom_at hback (j - l1.length) oj hj e he hb
                  omega
              have := blk_listed hcl (l1.length + k) _ e.on hbl (hall e he hb)
              rw [h2 _ (Nat.le_refl _)] at this
              cases this
        subst hik
        rw [hget] at hoi
        injection hoi with hoi
        subst hoi
        rw [wpOp_get hget]
        have hset : ∀ i, i < l1.length + (k + 1) → (listed.setIfInBounds (l1.length + k) true).getD i false = true := fun i hi => by
          by_cases e : l1.length + k = i
          · subst e
            have : l1.length + k < listed.size := by rw [hs, List.length_append]; omega
            simp [this]
          · rw [getD_set_ne false e]; exact h1 i (by omega)
        have hset2 : ∀ i, l1.length + (k + 1) ≤ i → (listed.setIfInBounds (l1.length + k) true).getD i false = false := fun i hi => by
          rw [getD_set_ne false (by omega)]; exact h2 i (by omega)
        unfold wpList at hwp
        have next : ∀ a w, wpList P (l1 ++ l2).toArray Q r a w → wpAny P .any (l1 ++ l2).toArray Q f (listed.setIfInBounds (l1.length + k) true) a w := fun a w h =>
          ih (k + 1) f _ a w hr2 (by omega) (by simp at hf; omega) (by simpa using hs) hset hset2 h
        by_cases hw : Region.wanted o (yielded (l1 ++ l2).toArray a.tmps) = true
        · rw [if_pos hw] at hwp ⊢
          exact hwp.imp (Oper.wp_mono next) id
        · rw [if_neg hw] at hwp ⊢
          exact next _ _ hwp
theorem then_wp {next : Act → World → Prop} {o : Oper} {a : Act} {w : World} {K : Act → World → Prop} (h : o.wp P a w K (Exit.then next Q)) : o.wp P a w K Q := by
  unfold Oper.wp at *
  generalize (execOp a.eval o).run P w = r at *
  cases r with
  | ok n w' => cases n <;> exact h
  | halt x w' => cases x <;> exact h
theorem then_lets {next : Act → World → Prop} (h : LetsOut (Exit.then next Q)) : LetsOut Q := h
/-- the part ahead -/
theorem wpAny_split (hseq : seqFrom (l1 ++ l2) l1.length l1.length l2 = true) (hback : backFrom l1.length l2 = true) (hback1 : backFrom 0 l1 = true) (hg : (l1.all fun o => match o.guard with | some (g, _) => decide (g < l1.length) | none => true) = true) :
    ∀ (fuel1 fuel : Nat) (listed1 listed : Array Bool) (a : Act) (w : World), fuel1 + l2.length ≤ fuel → listed1.size = l1.length → listed.size = (l1 ++ l2).length → (∀ i, i < l1.length → listed.getD i false = listed1.getD i false) → (∀ i, l1.length ≤ i → listed.getD i false = false) → (∀ j oj, l1[j]? = some oj → listed1.getD j false = true → ∀ e ∈ oj.after, Region.binds .any e = true → listed1.getD e.on false = true) →
      wpAny P .any l1.toArray (Exit.then (wpList P (l1 ++ l2).toArray Q l2) Q) fuel1 listed1 a w → wpAny P .any (l1 ++ l2).toArray Q fuel listed a w := by
  have allOf : ∀ (listed1 : Array Bool), listed1.size = l1.length → Region.ready .any l1.toArray listed1 = [] → ∀ j, j < l1.length → listed1.getD j false = true := by
    intro listed1 hs hr j
    induction j using Nat.strongRecOn with
    | _ j jh =>
      intro hj
      cases hl : listed1.getD j false with
      | true => rfl
      | false =>
        exfalso
        have hnr : j ∉ Region.ready .any l1.toArray listed1 := by rw [hr]; simp
        refine hnr (mem_ready.2 ⟨getD_inn (by rw [hs]; exact hj) hl, l1[j], by rw [List.getElem?_toArray, List.getElem?_eq_getElem hj], fun e he hb => ?_⟩)
        have hlt := backFrom_at hback1 j l1[j] (List.getElem?_eq_getElem hj) e he hb
        exact jh e.on (by omega) (by omega)
  have fin : ∀ (fuel : Nat) (listed1 listed : Array Bool) (a : Act) (w : World), l2.length ≤ fuel → listed1.size = l1.length → listed.size = (l1 ++ l2).length → (∀ i, i < l1.length → listed.getD i false = listed1.getD i false) → (∀ i, l1.length ≤ i → listed.getD i false = false) →
      Region.ready .any l1.toArray listed1 = [] → wpList P (l1 ++ l2).toArray Q l2 a w → wpAny P .any (l1 ++ l2).toArray Q fuel listed a w := fun fuel listed1 listed a w hf h1 h2 h3 h4 hr hwp =>
    wpAny_tail hseq hback hback1 l2 0 fuel listed a w rfl (Nat.zero_le _) hf h2 (fun i hi => by rw [h3 i hi]; exact allOf listed1 h1 hr i hi) h4 hwp
  intro fuel1
  induction fuel1 with
  | zero =>
    intro fuel listed1 listed a w hf h1 h2 h3 h4 _ hwp
    exact fin fuel listed1 listed a w (by omega) h1 h2 h3 h4 hwp.1 hwp.2
  | succ fuel1 ih =>
    intro fuel listed1 listed a w hf h1 h2 h3 h4 hcl hwp
    by_cases hr : Region.ready .any l1.toArray listed1 = []
    · exact fin fuel listed1 listed a w (by omega) h1 h2 h3 h4 hr (hwp.1 hr)
    · obtain ⟨fuel, rfl⟩ : ∃ f, fuel = f + 1 := ⟨fuel - 1, by omega⟩
      have hto : ∀ i, i ∈ Region.ready .any l1.toArray listed1 → i ∈ Region.ready .any (l1 ++ l2).toArray listed := fun i hi => by
        obtain ⟨hun, o, ho, hall⟩ := mem_ready.1 hi
        rw [List.getElem?_toArray] at ho
        have hlt := (List.getElem?_eq_some_iff.1 ho).1
        refine mem_ready.2 ⟨getD_inn (by rw [h2, List.length_append]; omega) (by rw [h3 i hlt]; exact getD_two hun), o, by rw [List.getElem?_toArray, List.getElem?_append_left hlt]; exact ho, fun e he hb => ?_⟩
        have hlt2 := backFrom_at hback1 i o ho e he hb
        rw [h3 _ (by omega)]
        exact hall e he hb
      refine ⟨fun hn => ?_, fun i hi => ?_⟩
      · obtain ⟨i, hi⟩ := List.exists_mem_of_ne_nil _ hr
        have := hto i hi
        rw [hn] at this
        cases this
      · obtain ⟨hun, o, ho, hall⟩ := mem_ready.1 hi
        have hget := ho
        rw [List.getElem?_toArray] at ho
        have hlt : i < l1.length := by
          rcases Nat.lt_or_ge i l1.length with h | h
          · exact h
          · exfalso
            rw [List.getElem?_append_right h] at ho
            obtain ⟨j, hj⟩ := List.exists_mem_of_ne_nil _ hr
            obtain ⟨hun2, oj, hoj, _⟩ := mem_ready.1 hj
            rw [List.getElem?_toArray] at hoj
            have hjl := (List.getElem?_eq_some_iff.1 hoj).1
            rcases seqFrom_at hseq (i - l1.length) o ho j (by omega) with hon | ⟨k', hk', _, hon⟩ | ⟨e, he, hb, hbl⟩
            · obtain ⟨e, he, hb, heq⟩ := onB_spec hon
              have := hall e he hb
              rw [heq, h3 j hjl, getD_two hun2] at this
              cases this
            · obtain ⟨e, he, hb, heq⟩ := onB_spec hon
              have := hall e he hb
              rw [heq, h4 _ hk'] at this
              cases this
            · have hcl2 : ∀ j oj, (l1 ++ l2)[j]? = some oj → listed.getD j false = true → ∀ e ∈ oj.after, Region.binds .any e = true → listed.getD e.on false = true := fun j oj hj hlj e he hb => by
                rcases Nat.lt_or_ge j l1.length with h | h
                · rw [List.getElem?_append_left h] at hj
                  have hlt := backFrom_at hback1 j oj hj e he hb
                  rw [h3 _ (by omega)]
                  exact hcl j oj hj (by rw [← h3 j h]; exact hlj) e he hb
                · rw [h4 j h] at hlj; cases hlj
              have := blk_listed hcl2 j _ e.on hbl (hall e he hb)
              rw [h3 j hjl, getD_two hun2] at this
              cases this
        rw [List.getElem?_append_left hlt] at ho
        have hi1 : i ∈ Region.ready .any l1.toArray listed1 := by
          refine mem_ready.2 ⟨getD_inn (by rw [h1]; exact hlt) (by rw [← h3 i hlt]; exact getD_two hun), o, by rw [List.getElem?_toArray]; exact ho, fun e he hb => ?_⟩
          have hlt2 := backFrom_at hback1 i o ho e he hb
          rw [← h3 _ (by omega)]
          exact hall e he hb
        have hst := hwp.2 i hi1
        have hget1 : l1.toArray[i]? = some o := by rw [List.getElem?_toArray]; exact ho
        rw [wpOp_get hget1] at hst
        rw [wpOp_get hget]
        have next : ∀ a w, wpAny P .any l1.toArray (Exit.then (wpList P (l1 ++ l2).toArray Q l2) Q) fuel1 (listed1.setIfInBounds i true) a w → wpAny P .any (l1 ++ l2).toArray Q fuel (listed.setIfInBounds i true) a w := fun a w h => by
          refine ih fuel _ _ a w (by omega) (by simpa using h1) (by simpa using h2) (fun j hj => ?_) (fun j hj => ?_) ?_ h
          · by_cases e : i = j
            · subst e
              have q1 : i < listed.size := by rw [h2, List.length_append]; omega
              have q2 : i < listed1.size := by omega
              simp [q1, q2]
            · rw [getD_set_ne false e, getD_set_ne false e]; exact h3 j hj
          · rw [getD_set_ne false (by omega)]; exact h4 j hj
          · intro j oj hj hlj e he hb
            by_cases hij : i = j
            · subst hij
              have : oj = o := Option.some.inj (hj.symm.trans ho)
              subst this
              have hlt2 := backFrom_at hback1 i oj ho e he hb
              have h5 := hall e he hb
              rw [h3 _ (by omega)] at h5
              exact getD_set_true h5
            · rw [getD_set_ne false hij] at hlj
              exact getD_set_true (hcl j oj hj hlj e he hb)
        have hwt : Region.wanted o (yielded (l1 ++ l2).toArray a.tmps) = Region.wanted o (yielded l1.toArray a.tmps) := by
          rw [wanted_eq, wanted_eq]
          unfold wantedBy
          have hgo := List.all_eq_true.1 hg o (List.mem_of_getElem? ho)
          cases hgd : o.guard with
          | none => rfl
          | some gb =>
            obtain ⟨g, b⟩ := gb
            rw [hgd] at hgo
            simp only [decide_eq_true_eq] at hgo
            simp only [List.getElem?_append_left hgo]
        rw [hwt]
        by_cases hw : Region.wanted o (yielded l1.toArray a.tmps) = true
        · rw [if_pos hw] at hst ⊢
          exact hst.imp (fun h => Oper.wp_mono next (then_wp h)) fun h => ⟨h.1, then_lets h.2⟩
        · rw [if_neg hw] at hst ⊢
          exact next _ _ hst
theorem wp_region_split {id : Nat} {d : Bool} {l : List Oper} {a : Act} {w : World} (m : Nat) (h : (Code.region id (l.take m ++ l.drop m).toArray d).wp P Q a w) : (Code.region id l.toArray d).wp P Q a w := by
  rwa [List.take_append_drop] at h
theorem wp_any_split_at {id : Nat} {d : Bool} {a : Act} {w : World} {n : Nat} {Γ : Env} (hA : At n Γ a) (F : List Fact) (Ph : List Phase) (C : World → Prop) (T : Nat → World → World → Prop) (hm : P.follows .mixedOrders = true) (hdr : d = true) (hB : checkB l1 n = true) (hdB : dstsB l1 n = true) (hFl : F.length = l1.length)
    (hseq : seqFrom (l1 ++ l2) l1.length l1.length l2 = true) (hback : backFrom l1.length l2 = true) (hback1 : backFrom 0 l1 = true) (hg : (l1.all fun o => match o.guard with | some (g, _) => decide (g < l1.length) | none => true) = true) (hC : C { w with drawn := w.drawn + 1 })
    (hstab : ∀ i j x w w', needB l1 F i j = true → i ≠ j → C w → (F.getD j (.det undef)).says x w → T i w w' → (F.getD j (.det undef)).says x w')
    (hph0 : ∀ ph ∈ Ph, ph.start = none → ph.p (sig a.eval) { w with drawn := w.drawn + 1 })
    (hph : ∀ i (ph : Phase) σ w w', ph ∈ Ph → ph.start ≠ some i → ph.upto ≠ some i → liveB l1 i ph.start ph.upto = true → C w → ph.p σ w → T i w w' → ph.p σ w')
    (hpl : ∀ ph ∈ Ph, ∀ a, ph.start = some a → a < l1.length)
    (hob : ObAll P l1 F Ph C T a.tmps 0 l1)
    (hlk : lkB l1 (Ph.map fun ph => (ph.start, ph.looks)) = true)
    (hfin : ∀ σ w', C w' → (∀ ph ∈ Ph, ph.upto = none → ph.p σ w') → FinE σ (fun Γ => ∀ a', At n Γ a' → wpList P (l1 ++ l2).toArray Q l2 a' w') w' (l1.zip F) Γ) : (Code.region id (l1 ++ l2).toArray d).wp P Q a w := by
  subst hdr
  have h1 := wpAny_facts (P := P) (l := l1) (Q := Exit.then (wpList P (l1 ++ l2).toArray Q l2) Q) (a := a) (w := w) n F Ph C T hA.size hB hFl hC hstab hph0 hph hpl (ob_all hob) hlk fun σ w' hC' hp' => by
    refine fin_env (Q := Exit.then (wpList P (l1 ++ l2).toArray Q l2) Q) hA.defers _ _ Γ (fun p hp t ht => ?_) hA (hfin σ w' hC' hp')
    have hpl := (List.of_mem_zip (a := p.1) (b := p.2) hp).1
    unfold dstsB at hdB
    have := List.all_eq_true.1 hdB p.1 hpl
    rw [ht] at this
    simpa using this
  refine wp_region_any hm (wpAny_split hseq hback hback1 hg _ _ _ _ a _ ?_ ?_ ?_ (fun i hi => ?_) (fun i hi => ?_) (fun j oj _ hl => ?_) h1)
  · simp
  · simp
  · simp
  · rw [Array.getD_eq_getD_getElem?, Array.getD_eq_getD_getElem?, Array.getElem?_replicate, Array.getElem?_replicate]
    split <;> split <;> rfl
  · rw [Array.getD_eq_getD_getElem?, Array.getElem?_replicate]
    split <;> rfl
  · exfalso
    rw [Array.getD_eq_getD_getElem?, Array.getElem?_replicate] at hl
    split at hl <;> cases hl
end
end Go.Proofs.YtmjikfeaopmejaaGreatDoor
