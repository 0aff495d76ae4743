/-
  cubbyref06.Parse, walked.
-/
import Derived.Test.YtfnckkmnncdelaaDoorDateNamed
import Derived.Test.YtfnckkmnncdelaaDoorRefNorm
namespace Go.Proofs.YtfnckkmnncdelaaDoor
open Go.RowKit
/-- from place a to place b -/
def sub (s : ByteArray) (a b : Nat) : List UInt8 := (s.extract a b).data.toList
theorem ret_ib {a : Int} {b : Bool} {p : Int × Bool} (h : p = (a, b)) : Ending.returned (.tuple #[.int .i64 a, .bool b]) = .returned (.tuple #[.int .i64 p.1, .bool p.2]) := by rw [h]
theorem sub_length (s : ByteArray) (a b : Nat) (h : b ≤ s.size) : (s.extract a b).data.toList.length = b - a := by simp; omega
theorem numV_lt (l : List UInt8) (n : Nat) (h : l.length = n) : -1 ≤ numV l ∧ numV l < ((10 ^ n : Nat) : Int) := by
  unfold numV
  split
  · rename_i ha
    have := dec_bd l n h ha
    omega
  · have : 0 < 10 ^ n := Nat.pow_pos (by omega)
    omega
theorem numV_two (l : List UInt8) (h : l.length = 2) : -1 ≤ numV l ∧ numV l ≤ 99 := by have := numV_lt l 2 h; omega
theorem numV_one (l : List UInt8) (h : l.length = 1) : -1 ≤ numV l ∧ numV l ≤ 9 := by have := numV_lt l 1 h; omega
theorem numV_four (l : List UInt8) (h : l.length = 4) : -1 ≤ numV l ∧ numV l ≤ 9999 := by have := numV_lt l 4 h; omega
def refMonV (l : List UInt8) : Nat → Int
  | 0 => 0
  | k + 1 => if alikeL l (monB ((k : Int) + 1)).data.toList = true then (k : Int) + 1 else refMonV l k
theorem refMonV_bd (l : List UInt8) : ∀ k, 0 ≤ refMonV l k ∧ refMonV l k ≤ k
  | 0 => by simp [refMonV]
  | k + 1 => by
    have := refMonV_bd l k
    unfold refMonV
    split <;> omega
theorem refMonV_hit (l : List UInt8) (k : Nat) (h : alikeL l (monB ((k : Int) + 1)).data.toList = true) : refMonV l (k + 1) = (k : Int) + 1 := by unfold refMonV; rw [if_pos h]
theorem refMonV_miss (l : List UInt8) (k : Nat) (h : alikeL l (monB ((k : Int) + 1)).data.toList = false) : refMonV l (k + 1) = refMonV l k := by
  show (if _ then _ else _) = _; rw [if_neg (by rw [h]; decide)]
def refCore (d m y h mi se zh zm : Int) (pos : Bool) : Int × Bool :=
  if m = 0 ∨ d < 1 ∨ y < 1969 ∨ h < 0 ∨ 23 < h ∨ mi < 0 ∨ 59 < mi ∨ se < 0 ∨ 59 < se ∨ zh < 0 ∨ 14 < zh ∨ zm < 0 ∨ 59 < zm then (0, false)
  else if dimN y m < d then (0, false)
  else
    let t := (sinceN y m 1 + d - 1) * 86400 + h * 3600 + mi * 60 + se
    let u := if pos = true then t - zh * 3600 - zm * 60 else t + zh * 3600 + zm * 60
    if u < 0 ∨ 253402300799 < u then (0, false) else (u, true)
def firstL (s : ByteArray) : List UInt8 := if ((bat s 0).toNat : Int) = 32 then sub s 1 2 else sub s 0 2
def refParseV (s : ByteArray) : Int × Bool :=
  if s.size = 26 ∧ signsV s = true then
    refCore (numV (firstL s)) (refMonV (sub s 3 6) 12) (numV (sub s 7 11)) (numV (sub s 12 14)) (numV (sub s 15 17)) (numV (sub s 18 20)) (numV (sub s 22 24)) (numV (sub s 24 26)) (((bat s 21).toNat : Int) == 43)
  else (0, false)
theorem since_first : sinceN 1969 1 1 = -365 := by decide
theorem since_year (y : Int) : sinceN (y + 1) 1 1 = sinceN y 1 1 + yearN y := by
  have h4 : y / 4 = (y - 1) / 4 + (if y % 4 = 0 then 1 else 0) := by split <;> omega
  have h100 : y / 100 = (y - 1) / 100 + (if y % 100 = 0 then 1 else 0) := by split <;> omega
  have h400 : y / 400 = (y - 1) / 400 + (if y % 400 = 0 then 1 else 0) := by split <;> omega
  have e : yearN y = 365 + (if y % 4 = 0 then 1 else 0) - (if y % 100 = 0 then 1 else 0) + (if y % 400 = 0 then 1 else 0) := by
    unfold yearN leapN
    by_cases a : y % 4 = 0
    · by_cases b : y % 100 = 0
      · by_cases c : y % 400 = 0 <;> simp [a, b, c]
      · have c : ¬ y % 400 = 0 := by omega
        simp [a, b, c]
    · have b : ¬ y % 100 = 0 := by omega
      have c : ¬ y % 400 = 0 := by omega
      simp [a, b, c]
  rw [e]
  unfold sinceN
  simp only [show (1 : Int) ≤ 2 from by omega, if_true, show y + 1 - 1 = y from by omega]
  omega
theorem since_month (y m : Int) (h1 : 1 ≤ m) (h2 : m ≤ 11) : sinceN y (m + 1) 1 = sinceN y m 1 + dimN y m := by
  have h4 : y / 4 = (y - 1) / 4 + (if y % 4 = 0 then 1 else 0) := by split <;> omega
  have h100 : y / 100 = (y - 1) / 100 + (if y % 100 = 0 then 1 else 0) := by split <;> omega
  have h400 : y / 400 = (y - 1) / 400 + (if y % 400 = 0 then 1 else 0) := by split <;> omega
  have e : dimN y 2 = 28 + (if y % 4 = 0 then 1 else 0) - (if y % 100 = 0 then 1 else 0) + (if y % 400 = 0 then 1 else 0) := by
    unfold dimN leapN
    by_cases a : y % 4 = 0
    · by_cases b : y % 100 = 0
      · by_cases c : y % 400 = 0 <;> simp [a, b, c]
      · have c : ¬ y % 400 = 0 := by omega
        simp [a, b, c]
    · have b : ¬ y % 100 = 0 := by omega
      have c : ¬ y % 400 = 0 := by omega
      simp [a, b, c]
  have hm : m = 1 ∨ m = 2 ∨ m = 3 ∨ m = 4 ∨ m = 5 ∨ m = 6 ∨ m = 7 ∨ m = 8 ∨ m = 9 ∨ m = 10 ∨ m = 11 := by omega
  rcases hm with rfl | rfl | rfl | rfl | rfl | rfl | rfl | rfl | rfl | rfl | rfl
  · unfold sinceN dimN; simp; omega
  · rw [e]; unfold sinceN; simp; omega
  all_goals
    unfold sinceN dimN; simp; omega
theorem since_bd (y m : Int) (h0 : 1969 ≤ y) (h1 : y ≤ 9999) (m0 : 1 ≤ m) (m1 : m ≤ 12) : -365 ≤ sinceN y m 1 ∧ sinceN y m 1 ≤ 4000000 := by
  unfold sinceN
  dsimp only
  split <;> omega
theorem dimN_bd (y m : Int) : 28 ≤ dimN y m ∧ dimN y m ≤ 31 := by
  unfold dimN
  split
  · split <;> omega
  · split <;> omega
theorem since_lin (y m d : Int) : sinceN y m 1 + d - 1 = sinceN y m d := by unfold sinceN; dsimp only; omega
theorem monB_size (m : Int) : (monB m).size ≤ 3 := by
  unfold monB
  show (List.toArray _).size ≤ 3
  simp only [List.size_toArray, List.length_take]
  omega
theorem first_blank (s : ByteArray) (h : 26 ≤ s.size) (hp0 : 0 < (s.extract 0 2).size) (hz : ((((s.extract 0 2)[0]'hp0).toNat : Int) == 32) = true) :
    ((s.extract 0 2).extract 1 (min 2 s.size)).data.toList = firstL s ∧ ((s.extract 0 2).extract 1 (min 2 s.size)).size = 1 := by
  have e0 : (s.extract 0 2)[0]'hp0 = bat s 0 := by
    rw [bat_eq s 0 (by omega), ByteArray.getElem_extract]
  rw [e0] at hz
  have hm : min 2 s.size = 2 := by omega
  rw [hm]
  constructor
  · unfold firstL sub
    rw [if_pos (by simpa using hz)]
    simp [ByteArray.extract_extract]
  · simp; omega
theorem first_plain (s : ByteArray) (h : 26 ≤ s.size) (hp0 : 0 < (s.extract 0 2).size) (hz : ((((s.extract 0 2)[0]'hp0).toNat : Int) == 32) = false) :
    (s.extract 0 2).data.toList = firstL s ∧ (s.extract 0 2).size = 2 := by
  have e0 : (s.extract 0 2)[0]'hp0 = bat s 0 := by
    rw [bat_eq s 0 (by omega), ByteArray.getElem_extract]
  rw [e0] at hz
  refine ⟨?_, by simp; omega⟩
  unfold firstL sub
  rw [if_neg (by simpa using hz)]
theorem ne_of_eq {a b : Int} (h : (a == b) = true) : (a != b) = false := by simp at h; simp [h]
theorem eq_of_ne {a b : Int} (h : (a != b) = true) : (a == b) = false := by simp at h; simp [h]
set_option maxRecDepth 100000 in
set_option maxHeartbeats 4000000 in
theorem refParse_bad (s : ByteArray) (hs : s.size ≤ 1000) (hsz : 26 ≤ s.size) (hne : ((s.size : Int) != 26) = false) (hg : signsV s = false) (w : World) :
    Calls Tryd.prog 21 #[.string s] w fun e w' => e = .returned (.tuple #[.int .i64 (refParseV s).1, .bool (refParseV s).2]) ∧ Below w.heap.size w w' := by
  have Hv : Hid (refParseV s = (0, false)) := by show refParseV s = _; unfold refParseV; rw [if_neg (by rw [hg]; simp)]
  unfold signsV at hg
  rw [bat_eq s 2 (by omega), bat_eq s 6 (by omega), bat_eq s 11 (by omega), bat_eq s 14 (by omega), bat_eq s 17 (by omega), bat_eq s 20 (by omega), bat_eq s 21 (by omega)] at hg
  have hg2 : (((s[2].toNat : Int) != 45) = true) ∨ (((s[2].toNat : Int) != 45) = false ∧ ((s[6].toNat : Int) != 45) = true) ∨
      (((s[2].toNat : Int) != 45) = false ∧ ((s[6].toNat : Int) != 45) = false ∧ ((s[11].toNat : Int) != 32) = true) ∨
      (((s[2].toNat : Int) != 45) = false ∧ ((s[6].toNat : Int) != 45) = false ∧ ((s[11].toNat : Int) != 32) = false ∧ ((s[14].toNat : Int) != 58) = true) ∨
      (((s[2].toNat : Int) != 45) = false ∧ ((s[6].toNat : Int) != 45) = false ∧ ((s[11].toNat : Int) != 32) = false ∧ ((s[14].toNat : Int) != 58) = false ∧ ((s[17].toNat : Int) != 58) = true) ∨
      (((s[2].toNat : Int) != 45) = false ∧ ((s[6].toNat : Int) != 45) = false ∧ ((s[11].toNat : Int) != 32) = false ∧ ((s[14].toNat : Int) != 58) = false ∧ ((s[17].toNat : Int) != 58) = false ∧ ((s[20].toNat : Int) != 32) = true) ∨
      (((s[2].toNat : Int) != 45) = false ∧ ((s[6].toNat : Int) != 45) = false ∧ ((s[11].toNat : Int) != 32) = false ∧ ((s[14].toNat : Int) != 58) = false ∧ ((s[17].toNat : Int) != 58) = false ∧ ((s[20].toNat : Int) != 32) = false ∧ ((s[21].toNat : Int) != 43) = true ∧ ((s[21].toNat : Int) != 45) = true) := by
    simp only [Bool.and_eq_false_iff, Bool.or_eq_false_iff, beq_eq_false_iff_ne, bne_iff_ne, bne_eq_false_iff_eq] at hg ⊢
    omega
  clear hg
  rcases hg2 with h1 | ⟨h1, h2⟩ | ⟨h1, h2, h3⟩ | ⟨h1, h2, h3, h4⟩ | ⟨h1, h2, h3, h4, h5⟩ | ⟨h1, h2, h3, h4, h5, h6⟩ | ⟨h1, h2, h3, h4, h5, h6, h7, h8⟩
  all_goals
    go_enter Tryd.func21, Tryd.ntmps21
    go_wp2
    go_ret2
    exact ⟨ret_ib Hv.out, Below.refl _ _⟩
set_option maxRecDepth 100000 in
set_option maxHeartbeats 4000000 in
theorem refParse_short (s : ByteArray) (_hs : s.size ≤ 1000) (h26 : s.size ≠ 26) (w : World) :
    Calls Tryd.prog 21 #[.string s] w fun e w' => e = .returned (.tuple #[.int .i64 (refParseV s).1, .bool (refParseV s).2]) ∧ Below w.heap.size w w' := by
  have Hv : Hid (refParseV s = (0, false)) := by show refParseV s = _; unfold refParseV; rw [if_neg (fun h => h26 h.1)]
  have hne : ((s.size : Int) != 26) = true := by simp; omega
  clear h26
  go_enter Tryd.func21, Tryd.ntmps21
  go_wp2
  go_ret2
  exact ⟨ret_ib Hv.out, Below.refl _ _⟩
end Go.Proofs.YtfnckkmnncdelaaDoor
