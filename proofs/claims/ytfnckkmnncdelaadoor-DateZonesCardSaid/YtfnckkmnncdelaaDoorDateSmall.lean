/-
  The small functions of days, walked: leap, year, days, month, digits, number.
-/
import Derived.Test.YtfnckkmnncdelaaDoorCalLaw
import Derived.Test.YtfnckkmnncdelaaDoorText
import Derived.Test.YtfnckkmnncdelaaDoorMem
import Derived.Test.YtfnckkmnncdelaaDoorProg
namespace Go.Proofs.YtfnckkmnncdelaaDoor
open Go.RowKit
set_option maxHeartbeats 400000 in
theorem leap_any (y : Int) (h0 : 0 ≤ y) (h1 : y ≤ 20000) (w : World) :
    Calls Tryd.prog 67 #[.int .i64 y] w fun e w' => e = .returned (.bool (leapN y)) ∧ w' = w := by
  go_enter Tryd.func67, Tryd.ntmps67
  go_wp2
  all_goals go_ret
  all_goals exact ⟨ret_bool (by unfold leapN; simp [*]), rfl⟩
def yearN (y : Int) : Int := if leapN y = true then 366 else 365
set_option maxHeartbeats 400000 in
theorem year_any (y : Int) (h0 : 0 ≤ y) (h1 : y ≤ 20000) (w : World) :
    Calls Tryd.prog 47 #[.int .i64 y] w fun e w' => e = .returned (.int .i64 (yearN y)) ∧ w' = w := by
  rcases Bool.eq_false_or_eq_true (leapN y) with hl | hl
  · have Hv : Hid (yearN y = 366) := by show yearN y = _; unfold yearN; rw [if_pos hl]
    go_enter Tryd.func47, Tryd.ntmps47
    go_wp2_with (go_at_call 67; refine (leap_any y h0 h1 _).mono ?_; rintro e w' ⟨rfl, rfl⟩; rw [hl])
    go_ret
    exact ⟨ret_int Hv.out.symm, rfl⟩
  · have Hv : Hid (yearN y = 365) := by show yearN y = _; unfold yearN; rw [if_neg (by rw [hl]; decide)]
    go_enter Tryd.func47, Tryd.ntmps47
    go_wp2_with (go_at_call 67; refine (leap_any y h0 h1 _).mono ?_; rintro e w' ⟨rfl, rfl⟩; rw [hl])
    go_ret
    exact ⟨ret_int Hv.out.symm, rfl⟩
theorem twelve {P : Int → Prop} (m : Int) (h1 : 1 ≤ m) (h2 : m ≤ 12) (k1 : P 1) (k2 : P 2) (k3 : P 3) (k4 : P 4) (k5 : P 5) (k6 : P 6) (k7 : P 7) (k8 : P 8) (k9 : P 9) (k10 : P 10) (k11 : P 11) (k12 : P 12) : P m := by
  have : m = 1 ∨ m = 2 ∨ m = 3 ∨ m = 4 ∨ m = 5 ∨ m = 6 ∨ m = 7 ∨ m = 8 ∨ m = 9 ∨ m = 10 ∨ m = 11 ∨ m = 12 := by omega
  rcases this with rfl | rfl | rfl | rfl | rfl | rfl | rfl | rfl | rfl | rfl | rfl | rfl <;> assumption
/-- so many digits of a number -/
def digL (v : Nat) : Nat → List UInt8
  | 0 => []
  | n + 1 => UInt8.ofNat (48 + v / 10 ^ n % 10) :: digL v n
def digB (v : Nat) (n : Nat) : ByteArray := ⟨(digL v n).toArray⟩
theorem digL_length (v : Nat) : ∀ n, (digL v n).length = n
  | 0 => rfl
  | n + 1 => by simp [digL, digL_length v n]
theorem digB_size (v n : Nat) : (digB v n).size = n := by
  show (digL v n).toArray.size = n
  simp [digL_length]
theorem conv_one (x : Int) (h0 : 0 ≤ x) (h1 : x ≤ 255) (w : World) :
    (convert 31 9 (.slice (some ⟨w.heap.size, 0, none⟩) 1 1)).run Tryd.prog (w.alloc (.cells #[.int .u8 x] 5)) = .ok (.string ⟨#[UInt8.ofNat x.toNat]⟩) (w.alloc (.cells #[.int .u8 x] 5)) := by
  refine run_string_bytes (P := Tryd.prog) _ _ _ 5 ⟨w.heap.size, 0, none⟩ [UInt8.ofNat x.toNat] 1 Tryd.underlying31 Tryd.underlying5 Tryd.underlying9 ?_
  intro j b hb
  cases j with
  | zero =>
    simp only [List.getElem?_cons_zero, Option.some.injEq] at hb
    subst hb
    rw [u8_nat _ (by omega)]
    have := (Blk.new w 5 #[.int .u8 x]).cell 0
    rw [show (⟨w.heap.size, 0, none⟩ : Addr).add 0 = ⟨w.heap.size, 0, none⟩ from rfl, this, show ((x.toNat : Nat) : Int) = x from by omega]
    rfl
  | succ j => simp at hb
set_option maxRecDepth 100000 in
set_option maxHeartbeats 1000000 in
theorem digits_any (v n : Nat) (hv : v ≤ 99999) (hn : n ≤ 9) (w : World) :
    Calls Tryd.prog 51 #[.int .i64 v, .int .i64 n] w fun e w' => e = .returned (.string (digB v n)) ∧ Below w.heap.size w w' := by
  have hconv := fun (W : World) (x : Int) (h0 : 0 ≤ x) (h1 : x ≤ 255) => conv_one x h0 h1 W
  go_enter Tryd.func51, Tryd.ntmps51
  go_wp2
  go_loopw [0, 5, 7] (fun x s i wr => ∃ (k : Nat), x = .int .i64 ((v / 10 ^ k : Nat) : Int) ∧ s = .string (digB v k) ∧ i = .int .i64 k ∧ k ≤ n ∧ Below w.heap.size w wr) (fun _ _ i _ => n - (intOf i).toNat)
  case atStart => exact ⟨0, by simp, rfl, rfl, by omega, Below.refl _ _⟩
  case round =>
    obtain ⟨k, rfl, rfl, rfl, hk, hb⟩ := hrel
    have hq : v / 10 ^ k ≤ 99999 := Nat.le_trans (Nat.div_le_self _ _) hv
    have hs : Hid (digB v (k + 1) = ⟨(UInt8.ofNat (48 + v / 10 ^ k % 10) :: digL v k).toArray⟩) := rfl
    have hd : Hid (v / 10 ^ (k + 1) = v / 10 ^ k / 10) := by show _ = _; rw [Nat.pow_succ, Nat.div_div_eq_div_mul]
    by_cases hlt : k < n
    · have hS : (digB v k).size ≤ 9 := by rw [digB_size]; omega
      generalize v / 10 ^ k = q at *
      generalize hB : digB v k = S at *
      have HB := Lib.hid hB; clear hB
      have hcv := fun (W : World) => hconv W (48 + (q : Int) % 10) (by omega) (by omega)
      clear hconv
      go_wp2
      go_wp2
      go_roundw
      case rel =>
        refine ⟨k + 1, ?_, ?_, by go_num, by omega, hb.alloc hb.size _⟩
        · rw [hd.out]; go_num
        · rw [hs.out]
          have := HB.out
          subst this
          unfold digB
          simp only [Value.string.injEq]
          apply ByteArray.ext; simp
      case measure => simp [intOf] <;> omega
    · obtain rfl : k = n := by omega
      go_wp2
      go_ret
      exact ⟨rfl, hb⟩
end Go.Proofs.YtfnckkmnncdelaaDoor
