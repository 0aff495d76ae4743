/-
  date.two, number (both), ascii, signs, named, walked.
-/
import Derived.Test.YtfnckkmnncdelaaDoorDateMonth
import Derived.Test.YtfnckkmnncdelaaDoorShelf2
namespace Go.Proofs.YtfnckkmnncdelaaDoor
open Go.RowKit
def digitB (c : UInt8) : Bool := decide (48 ≤ (c.toNat : Int)) && decide ((c.toNat : Int) ≤ 57)
def dec (l : List UInt8) : Int := l.foldl (fun n c => n * 10 + ((c.toNat : Int) - 48)) 0
/-- the number of digits; -1: they are none -/
def numV (l : List UInt8) : Int := if l.all digitB = true then dec l else -1
theorem dec_snoc (l : List UInt8) (c : UInt8) : dec (l ++ [c]) = dec l * 10 + ((c.toNat : Int) - 48) := by simp [dec]
theorem dec_bd (l : List UInt8) : ∀ n, l.length = n → l.all digitB = true → 0 ≤ dec l ∧ dec l < ((10 ^ n : Nat) : Int) := by
  intro n
  induction n generalizing l with
  | zero =>
    intro h _
    have : l = [] := List.eq_nil_of_length_eq_zero h
    subst this; decide
  | succ n ih =>
    intro h ha
    have hne : l ≠ [] := by intro e; subst e; simp at h
    obtain ⟨l', c, rfl⟩ : ∃ l' c, l = l' ++ [c] := ⟨l.dropLast, l.getLast hne, (List.dropLast_concat_getLast hne).symm⟩
    simp only [List.all_append, List.all_cons, List.all_nil, Bool.and_true, Bool.and_eq_true] at ha
    have := ih l' (by simpa using h) ha.1
    have hc := ha.2
    unfold digitB at hc
    simp only [Bool.and_eq_true, decide_eq_true_eq] at hc
    rw [dec_snoc, Nat.pow_succ]
    omega
theorem numV_bad (s : ByteArray) (k : Nat) (h : k < s.size) (hb : digitB s[k] = false) : numV s.data.toList = -1 := by
  unfold numV
  rw [if_neg]
  rw [List.all_eq_true]
  intro ha
  have := ha s[k] (by rw [show s[k] = s.data.toList[k]'(by simpa using h) from rfl]; exact List.getElem_mem _)
  rw [hb] at this; cases this
theorem all_take_snoc (s : ByteArray) (k : Nat) (h : k < s.size) (p : UInt8 → Bool) (h1 : (s.data.toList.take k).all p = true) (h2 : p s[k] = true) : (s.data.toList.take (k + 1)).all p = true := by
  rw [take_snoc s k h]; simp [h1, h2]
set_option maxHeartbeats 1000000 in
theorem number_any (s : ByteArray) (hs : s.size ≤ 9) (w : World) :
    Calls Tryd.prog 40 #[.string s] w fun e w' => e = .returned (.int .i64 (numV s.data.toList)) ∧ w' = w := by
  go_enter Tryd.func40, Tryd.ntmps40
  go_wp2
  go_loop [3, 7] (fun n i => ∃ (k : Nat) (v : Int), n = .int .i64 v ∧ 0 ≤ v ∧ v ≤ 999999999 ∧ i = .int .i64 k ∧ k ≤ s.size ∧ Hid (v = dec (s.data.toList.take k)) ∧ Hid ((s.data.toList.take k).all digitB = true)) (fun _ i => s.size - (intOf i).toNat)
  case atStart => exact ⟨0, 0, rfl, by omega, by omega, rfl, by omega, rfl, rfl⟩
  case round =>
    obtain ⟨k, v, rfl, hv0, hv1, rfl, hk, hv, ha⟩ := hrel
    by_cases hlt : k < s.size
    · have hb := s[k].toNat_lt
      have hse := take_snoc s k hlt
      have Hse := Lib.hid hse; clear hse
      rcases Bool.eq_false_or_eq_true (digitB s[k]) with hd | hd
      · have ha' := all_take_snoc s k hlt digitB ha.out hd
        have Ha := Lib.hid ha'; clear ha'
        have hbd := dec_bd (s.data.toList.take (k + 1)) (k + 1) (by simp; omega) Ha.out
        have hp : 10 ^ (k + 1) ≤ 1000000000 := Nat.pow_le_pow_right (n := 10) (by omega) (show k + 1 ≤ 9 by omega)
        rw [Hse.out, dec_snoc, ← hv.out] at hbd
        have hv2 : v * 10 + ((s[k].toNat : Int) - 48) ≤ 999999999 := by omega
        have hv3 := hbd.1
        clear hbd hp
        unfold digitB at hd
        simp only [Bool.and_eq_true, decide_eq_true_eq] at hd
        obtain ⟨d1, d2⟩ := hd
        go_wp2
        go_round
        case rel => exact ⟨k + 1, _, rfl, by omega, by omega, by go_num, by omega, by show _ = _; rw [Hse.out, dec_snoc, ← hv.out], Ha.out⟩
        case measure => simp [intOf] <;> omega
      · have Hn := Lib.hid (numV_bad s k hlt hd)
        have hd' : (s[k].toNat : Int) < 48 ∨ 57 < (s[k].toNat : Int) := by
          unfold digitB at hd
          simp only [Bool.and_eq_false_iff, decide_eq_false_iff_not] at hd
          omega
        clear hd
        rcases hd' with hd | hd
        all_goals
          go_wp2
          go_ret
          exact ⟨ret_int Hn.out.symm, rfl⟩
    · obtain rfl : k = s.size := by omega
      have hf : numV s.data.toList = v := by
        have h1 := ha.out
        have h2 := hv.out
        rw [toList_take s _ rfl] at h1 h2
        unfold numV; rw [if_pos h1, h2]
      have Hf := Lib.hid hf; clear hf
      go_wp2
      go_ret
      exact ⟨ret_int Hf.out.symm, rfl⟩
set_option maxHeartbeats 1000000 in
theorem refNumber_any (s : ByteArray) (hs : s.size ≤ 9) (w : World) :
    Calls Tryd.prog 45 #[.string s] w fun e w' => e = .returned (.int .i64 (numV s.data.toList)) ∧ w' = w := by
  go_enter Tryd.func45, Tryd.ntmps45
  go_wp2
  go_loop [3, 7] (fun n i => ∃ (k : Nat) (v : Int), n = .int .i64 v ∧ 0 ≤ v ∧ v ≤ 999999999 ∧ i = .int .i64 k ∧ k ≤ s.size ∧ Hid (v = dec (s.data.toList.take k)) ∧ Hid ((s.data.toList.take k).all digitB = true)) (fun _ i => s.size - (intOf i).toNat)
  case atStart => exact ⟨0, 0, rfl, by omega, by omega, rfl, by omega, rfl, rfl⟩
  case round =>
    obtain ⟨k, v, rfl, hv0, hv1, rfl, hk, hv, ha⟩ := hrel
    by_cases hlt : k < s.size
    · have hb := s[k].toNat_lt
      have hse := take_snoc s k hlt
      have Hse := Lib.hid hse; clear hse
      rcases Bool.eq_false_or_eq_true (digitB s[k]) with hd | hd
      · have ha' := all_take_snoc s k hlt digitB ha.out hd
        have Ha := Lib.hid ha'; clear ha'
        have hbd := dec_bd (s.data.toList.take (k + 1)) (k + 1) (by simp; omega) Ha.out
        have hp : 10 ^ (k + 1) ≤ 1000000000 := Nat.pow_le_pow_right (n := 10) (by omega) (show k + 1 ≤ 9 by omega)
        rw [Hse.out, dec_snoc, ← hv.out] at hbd
        have hv2 : v * 10 + ((s[k].toNat : Int) - 48) ≤ 999999999 := by omega
        have hv3 := hbd.1
        clear hbd hp
        unfold digitB at hd
        simp only [Bool.and_eq_true, decide_eq_true_eq] at hd
        obtain ⟨d1, d2⟩ := hd
        go_wp2
        go_round
        case rel => exact ⟨k + 1, _, rfl, by omega, by omega, by go_num, by omega, by show _ = _; rw [Hse.out, dec_snoc, ← hv.out], Ha.out⟩
        case measure => simp [intOf] <;> omega
      · have Hn := Lib.hid (numV_bad s k hlt hd)
        have hd' : (s[k].toNat : Int) < 48 ∨ 57 < (s[k].toNat : Int) := by
          unfold digitB at hd
          simp only [Bool.and_eq_false_iff, decide_eq_false_iff_not] at hd
          omega
        clear hd
        rcases hd' with hd | hd
        all_goals
          go_wp2
          go_ret
          exact ⟨ret_int Hn.out.symm, rfl⟩
    · obtain rfl : k = s.size := by omega
      have hf : numV s.data.toList = v := by
        have h1 := ha.out
        have h2 := hv.out
        rw [toList_take s _ rfl] at h1 h2
        unfold numV; rw [if_pos h1, h2]
      have Hf := Lib.hid hf; clear hf
      go_wp2
      go_ret
      exact ⟨ret_int Hf.out.symm, rfl⟩
def lowB (c : UInt8) : Bool := decide ((c.toNat : Int) < 128)
def asciiV (s : ByteArray) : Bool := s.data.toList.all lowB
set_option maxRecDepth 10000 in
set_option maxHeartbeats 1000000 in
theorem ascii_any (s : ByteArray) (hs : s.size ≤ 1000) (w : World) :
    Calls Tryd.prog 38 #[.string s] w fun e w' => e = .returned (.bool (asciiV s)) ∧ w' = w := by
  go_enter Tryd.func38, Tryd.ntmps38
  go_wp2
  go_loop [6] (fun i => ∃ (k : Nat), i = .int .i64 k ∧ k ≤ s.size ∧ Hid ((s.data.toList.take k).all lowB = true)) (fun i => s.size - (intOf i).toNat)
  case atStart => exact ⟨0, rfl, by omega, rfl⟩
  case round =>
    obtain ⟨k, rfl, hk, ha⟩ := hrel
    by_cases hlt : k < s.size
    · by_cases h128 : (s[k].toNat : Int) < 128
      · have Ha := Lib.hid (all_take_snoc s k hlt lowB ha.out (by unfold lowB; exact decide_eq_true h128))
        go_wp2
        go_round
        case rel => exact ⟨k + 1, by go_num, by omega, Ha⟩
        case measure => simp [intOf] <;> omega
      · have hf : asciiV s = false := by
          unfold asciiV
          rw [List.all_eq_false]
          exact ⟨s[k], by rw [show s[k] = s.data.toList[k]'(by simpa using hlt) from rfl]; exact List.getElem_mem _, by unfold lowB; simp; omega⟩
        have Hf := Lib.hid hf; clear hf
        go_wp2
        go_ret
        exact ⟨ret_bool Hf.out.symm, rfl⟩
    · obtain rfl : k = s.size := by omega
      have hf : asciiV s = true := by
        have := ha.out
        rw [toList_take s _ rfl] at this
        exact this
      have Hf := Lib.hid hf; clear hf ha
      go_wp2
      go_ret
      exact ⟨ret_bool Hf.out.symm, rfl⟩
/-- do the signs between numbers stand there? -/
def signsV (s : ByteArray) : Bool := ((bat s 2).toNat : Int) == 45 && ((bat s 6).toNat : Int) == 45 && ((bat s 11).toNat : Int) == 32 && ((bat s 14).toNat : Int) == 58 && ((bat s 17).toNat : Int) == 58 && ((bat s 20).toNat : Int) == 32 &&
  (((bat s 21).toNat : Int) == 43 || ((bat s 21).toNat : Int) == 45)
set_option maxRecDepth 10000 in
set_option maxHeartbeats 1000000 in
theorem signs_any (s : ByteArray) (hs : 26 ≤ s.size) (w : World) :
    Calls Tryd.prog 39 #[.string s] w fun e w' => e = .returned (.bool (signsV s)) ∧ w' = w := by
  have hv : signsV s = (((s[2].toNat : Int) == 45) && ((s[6].toNat : Int) == 45) && ((s[11].toNat : Int) == 32) && ((s[14].toNat : Int) == 58) && ((s[17].toNat : Int) == 58) && ((s[20].toNat : Int) == 32) &&
      (((s[21].toNat : Int) == 43) || ((s[21].toNat : Int) == 45))) := by
    unfold signsV
    rw [bat_eq s 2 (by omega), bat_eq s 6 (by omega), bat_eq s 11 (by omega), bat_eq s 14 (by omega), bat_eq s 17 (by omega), bat_eq s 20 (by omega), bat_eq s 21 (by omega)]
  have Hv := Lib.hid hv; clear hv
  go_enter Tryd.func39, Tryd.ntmps39
  go_wp2
  all_goals go_ret
  all_goals exact ⟨ret_bool (by rw [Hv.out]; simp [*]), rfl⟩
/-- the digits of 100 to 199, without the first -/
theorem dec_three (v : Nat) (h : v ≤ 99) : Lib.itoa ((100 : Int) + v) = 49 :: digL v 2 := by
  have e : ((100 : Int) + v) = ((100 + v : Nat) : Int) := by omega
  rw [e]
  unfold Lib.itoa
  rw [if_neg (by omega), Int.toNat_natCast]
  unfold Lib.decDigits
  rw [dif_neg (by omega)]
  unfold Lib.decDigits
  rw [dif_neg (by omega)]
  unfold Lib.decDigits
  rw [dif_pos (by omega), show (100 + v) / 10 / 10 = 1 from by omega, show (100 + v) / 10 % 10 = v / 10 % 10 from by omega, show (100 + v) % 10 = v % 10 from by omega]
  simp [digL]
theorem dec_five (v : Nat) (h : v ≤ 9999) : Lib.itoa ((10000 : Int) + v) = 49 :: digL v 4 := by
  have e : ((10000 : Int) + v) = ((10000 + v : Nat) : Int) := by omega
  rw [e]
  unfold Lib.itoa
  rw [if_neg (by omega), Int.toNat_natCast]
  unfold Lib.decDigits
  rw [dif_neg (by omega)]
  unfold Lib.decDigits
  rw [dif_neg (by omega)]
  unfold Lib.decDigits
  rw [dif_neg (by omega)]
  unfold Lib.decDigits
  rw [dif_neg (by omega)]
  unfold Lib.decDigits
  rw [dif_pos (by omega), show (10000 + v) / 10 / 10 / 10 / 10 = 1 from by omega, show (10000 + v) / 10 / 10 / 10 % 10 = v / 1000 % 10 from by omega, show (10000 + v) / 10 / 10 % 10 = v / 100 % 10 from by omega, show (10000 + v) / 10 % 10 = v / 10 % 10 from by omega, show (10000 + v) % 10 = v % 10 from by omega]
  simp [digL]
/-- such a text's second byte on -/
theorem extract_tail (c : UInt8) (l : List UInt8) (n : Nat) (h : l.length + 1 = n) : (⟨(c :: l).toArray⟩ : ByteArray).extract 1 n = ⟨l.toArray⟩ := by
  apply ByteArray.ext
  subst h
  simp
theorem below_grow (w : World) (k : Nat) (os : Array Obj) : Below w.heap.size w (Sort.grow (w.drewN k) os) :=
  ⟨rfl, rfl, rfl, by simp [Sort.grow], fun i hi => by simp [Sort.grow, Array.getElem?_append, hi]⟩
/-- FormatInt(100 + n, 10) and FormatInt(10000 + n, 10) -/
theorem fmt_three (v : Nat) (hv : v ≤ 99) (w : World) (htab : Lib.TabIs Tryd.prog w "internal/strconv.uint64pow10" .u64 Lib.pow10Tab) :
    Calls Tryd.prog 50 #[.int .i64 (100 + (v : Int)), .int .i64 10] w fun e w' => e = .returned (.string ⟨(49 :: digL v 2).toArray⟩) ∧ Below w.heap.size w w' := by
  have hc := Tryd.strconv_FormatInt_10 (100 + (v : Int)) (by omega) (by omega) w htab
  rw [dec_three v hv] at hc
  exact hc.mono fun e w' ⟨he, k, os, hw⟩ => ⟨he, by rw [hw]; exact below_grow w k os⟩
theorem fmt_five (v : Nat) (hv : v ≤ 9999) (w : World) (htab : Lib.TabIs Tryd.prog w "internal/strconv.uint64pow10" .u64 Lib.pow10Tab) :
    Calls Tryd.prog 50 #[.int .i64 (10000 + (v : Int)), .int .i64 10] w fun e w' => e = .returned (.string ⟨(49 :: digL v 4).toArray⟩) ∧ Below w.heap.size w w' := by
  have hc := Tryd.strconv_FormatInt_10 (10000 + (v : Int)) (by omega) (by omega) w htab
  rw [dec_five v hv] at hc
  exact hc.mono fun e w' ⟨he, k, os, hw⟩ => ⟨he, by rw [hw]; exact below_grow w k os⟩
set_option maxHeartbeats 1000000 in
theorem two_any (v : Nat) (hv : v ≤ 99) (w : World) (htab : Lib.TabIs Tryd.prog w "internal/strconv.uint64pow10" .u64 Lib.pow10Tab) :
    Calls Tryd.prog 48 #[.int .i64 v] w fun e w' => e = .returned (.string (digB v 2)) ∧ Below w.heap.size w w' := by
  have Hc := Lib.hid (fmt_three v hv w htab); clear htab
  have hl := digL_length v 2
  have He := Lib.hid (extract_tail 49 (digL v 2) 3 (by omega))
  have HB : Hid (digB v 2 = ⟨(digL v 2).toArray⟩) := rfl
  generalize digL v 2 = L at *
  go_enter Tryd.func48, Tryd.ntmps48
  go_wp2_with fail
  refine Hc.out.mono ?_
  rintro e w1 ⟨rfl, hb⟩
  go_wp2
  go_ret
  exact ⟨ret_str (by rw [HB.out, ← He.out]), hb⟩
end Go.Proofs.YtfnckkmnncdelaaDoor
