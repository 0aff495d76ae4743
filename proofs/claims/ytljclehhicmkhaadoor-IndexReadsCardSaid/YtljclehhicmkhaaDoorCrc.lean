/-
  Walks of the sum of 32 bits: the program's, and the document's.
-/
import Derived.Test.YtljclehhicmkhaaDoorCodecLaw
import Derived.Test.YtljclehhicmkhaaDoorU8
import Derived.Laws.BitsAllLaws
namespace Go.Proofs.YtljclehhicmkhaaDoor
open Go.RowKit
theorem crcGo_step {l : List UInt8} {j : Nat} {x : UInt8} (c : Nat) (hx : l[j]? = some x) : crcGo c (l.take (j + 1)) = crcByte (crcGo c (l.take j)) x := by
  rw [List.take_add_one, hx, ← crcGo_snoc]; rfl
theorem and_one (c : Nat) : c &&& 1 = c % 2 := by rw [Nat.and_one_is_mod]
theorem refBits_lt (x : Nat) {c : Nat} (h : c < 2 ^ 32) : ∀ k, refBits x k c < 2 ^ 32
  | 0 => h
  | k + 1 => by
    have ih := refBits_lt x h k
    show refBit _ _ < _
    unfold refBit
    have : refBits x k c / 2 < 2 ^ 32 := by omega
    split
    · exact Nat.xor_lt_two_pow this (by decide)
    · exact this
set_option maxRecDepth 100000 in
theorem crc_any (A : Option Addr) (n c : Nat) (l : List UInt8) (w : World) (hn : l.length = n) (hn2 : n ≤ 1000000000000) (hr : Reads w w.heap.size 1 A n (u8s l)) :
    Calls Tryd.prog 46 #[.slice A n c] w fun e w' => e = .returned (.int .u32 (crc l : Nat)) ∧ w' = w := by
  have HR := Lib.hid hr
  clear hr
  go_enter Tryd.func46, Tryd.ntmps46
  go_wp2
  go_loopw [3, 9] (fun v i wr => ∃ (j cc : Nat), i = .int .i64 j ∧ j ≤ n ∧ v = .int .u32 cc ∧ Hid (cc = crcGo 4294967295 (l.take j)) ∧ wr = w) (fun _ i _ => n - (intOf i).toNat)
  case atStart => exact ⟨0, 4294967295, rfl, by omega, rfl, rfl, rfl⟩
  case round =>
    obtain ⟨j, cc, rfl, hj, rfl, hcc, rfl⟩ := hrel
    have hl : cc < 4294967296 := by rw [hcc.out]; exact crcGo_lt _ (by decide)
    by_cases hlt : j < n
    · obtain ⟨x, hx⟩ : ∃ x, l[j]? = some x := ⟨_, List.getElem?_eq_getElem (by omega)⟩
      obtain ⟨ad, rfl, _, hc⟩ := HR.out.2 (by omega)
      have hcx := hc j (.int .u8 (x.toNat : Int)) (by rw [u8s_get, hx]; rfl)
      have hst := crcGo_step 4294967295 hx
      rw [← hcc.out] at hst
      have HST := Lib.hid hst
      obtain ⟨xn, hxn⟩ : ∃ xn, x.toNat = xn := ⟨_, rfl⟩
      have hx8 : xn < 256 := by rw [← hxn]; exact x.toNat_lt
      obtain ⟨c1, hc1⟩ : ∃ c1, cc ^^^ xn = c1 := ⟨_, rfl⟩
      have hl1 : c1 < 4294967296 := by rw [← hc1]; exact Nat.xor_lt_two_pow (n := 32) hl (by omega)
      have hb1 : bits .xor .u32 (cc : Int) ((xn : Int) % 4294967296) = (c1 : Int) := by
        rw [show (xn : Int) % 4294967296 = (xn : Int) by omega, u32_xor_nat _ _ hl (by omega), hc1]
      have hb2 : bits .xor .u32 (cc : Int) (xn : Int) = (c1 : Int) := by rw [u32_xor_nat _ _ hl (by omega), hc1]
      have HC1 : Hid (crcByte cc x = crcBits 8 c1) := by unfold crcByte; rw [hxn, hc1]; exact rfl
      rw [hxn] at hcx
      clear hst hx hc hc1 hxn
      go_wp2
      go_loopw [3, 17] (fun v i wr2 => ∃ (k cn : Nat), i = .int .i64 k ∧ k ≤ 8 ∧ v = .int .u32 cn ∧ Hid (cn = crcBits k c1) ∧ wr2 = wr) (fun _ i _ => 8 - (intOf i).toNat)
      case atStart => exact ⟨0, c1, rfl, by omega, rfl, rfl, rfl⟩
      case round =>
        obtain ⟨k, cn, rfl, hk, rfl, hcn, rfl⟩ := hrel
        have hln : cn < 4294967296 := by rw [hcn.out]; exact crcBits_lt _ hl1
        by_cases hk8 : k < 8
        · have hst : crcBits (k + 1) c1 = crcBit cn := by rw [crcBits_succ, hcn.out]
          have ha : bits .and .u32 (cn : Int) 1 = ((cn % 2 : Nat) : Int) := by
            have := u32_and_nat cn 1 hln (by decide)
            rw [and_one] at this
            exact this
          have HS2 := Lib.hid hst
          clear hst
          by_cases hb : cn % 2 = 1
          · have hv : crcBit cn = (cn / 2) ^^^ 3988292384 := by unfold crcBit; rw [if_pos hb]
            rw [hb] at ha
            have hx2 : bits .xor .u32 ((cn : Int) / 2) 3988292384 = (((cn / 2) ^^^ 3988292384 : Nat) : Int) := by
              have := u32_xor_nat (cn / 2) 3988292384 (by omega) (by decide)
              rw [← this]; rfl
            have HV := Lib.hid hv
            clear hv hb
            go_wp2
            go_roundw
            case rel => exact ⟨k + 1, _, by go_num, by omega, rfl, by rw [HS2.out, HV.out]; exact rfl, by first | rfl | trivial⟩
            case measure => simp [intOf]; omega
          · have hv : crcBit cn = cn / 2 := by unfold crcBit; rw [if_neg hb]
            have hb0 : cn % 2 = 0 := by omega
            rw [hb0] at ha
            have HV := Lib.hid hv
            clear hv hb hb0
            go_wp2
            go_roundw
            case rel => exact ⟨k + 1, cn / 2, by go_num, by omega, by rw [Int.natCast_ediv]; rfl, by rw [HS2.out, HV.out]; exact rfl, by first | rfl | trivial⟩
            case measure => simp [intOf]; omega
        · obtain rfl : k = 8 := by omega
          go_wp2
          go_roundw
          case rel => exact ⟨j + 1, cn, by go_num, by omega, rfl, by rw [HST.out, HC1.out]; exact hcn, by first | rfl | trivial⟩
          case measure => simp [intOf]; omega
    · obtain rfl : j = n := by omega
      have hx2 : bits .xor .u32 (cc : Int) 4294967295 = ((cc ^^^ 4294967295 : Nat) : Int) := by
        have := u32_xor_nat cc 4294967295 hl (by decide)
        rw [← this]; rfl
      go_wp2
      go_ret
      refine ⟨?_, rfl⟩
      unfold crc
      rw [hcc.out, List.take_of_length_le (by omega)]
      rfl
set_option maxRecDepth 100000 in
theorem refCrc_any (A : Option Addr) (n c : Nat) (l : List UInt8) (w : World) (hn : l.length = n) (hn2 : n ≤ 1000000000000) (hr : Reads w w.heap.size 1 A n (u8s l)) :
    Calls Tryd.prog 29 #[.slice A n c] w fun e w' => e = .returned (.int .u32 (crc l : Nat)) ∧ w' = w := by
  have HR := Lib.hid hr
  clear hr
  go_enter Tryd.func29, Tryd.ntmps29
  go_wp2
  go_loopw [3, 9] (fun v i wr => ∃ (j cc : Nat), i = .int .i64 j ∧ j ≤ n ∧ v = .int .u64 cc ∧ Hid (cc = crcGo 4294967295 (l.take j)) ∧ wr = w) (fun _ i _ => n - (intOf i).toNat)
  case atStart => exact ⟨0, 4294967295, rfl, by omega, rfl, rfl, rfl⟩
  case round =>
    obtain ⟨j, cc, rfl, hj, rfl, hcc, rfl⟩ := hrel
    have hl : cc < 4294967296 := by rw [hcc.out]; exact crcGo_lt _ (by decide)
    by_cases hlt : j < n
    · obtain ⟨x, hx⟩ : ∃ x, l[j]? = some x := ⟨_, List.getElem?_eq_getElem (by omega)⟩
      obtain ⟨ad, rfl, _, hc⟩ := HR.out.2 (by omega)
      have hcx := hc j (.int .u8 (x.toNat : Int)) (by rw [u8s_get, hx]; rfl)
      have hst := crcGo_step 4294967295 hx
      rw [← hcc.out] at hst
      have HST := Lib.hid hst
      obtain ⟨xn, hxn⟩ : ∃ xn, x.toNat = xn := ⟨_, rfl⟩
      have hx8 : xn < 256 := by rw [← hxn]; exact x.toNat_lt
      have HC1 : Hid (refBits xn 8 cc = crcByte cc x) := by rw [← hxn]; exact byte_same cc x
      rw [hxn] at hcx
      have jj0 : (0 : Int) ≤ (j : Int) := by omega
      have jj1 : (j : Int) < (n : Int) := by omega
      clear hst hx hc hxn
      go_wp2
      go_loopw [3, 12] (fun v i wr2 => ∃ (k cn : Nat), i = .int .i64 k ∧ k ≤ 8 ∧ v = .int .u64 cn ∧ Hid (cn = refBits xn k cc) ∧ wr2 = wr) (fun _ i _ => 8 - (intOf i).toNat)
      case atStart => exact ⟨0, cc, rfl, by omega, rfl, rfl, rfl⟩
      case round =>
        obtain ⟨k, cn, rfl, hk, rfl, hcn, rfl⟩ := hrel
        have hln : cn < 4294967296 := by rw [hcn.out]; exact refBits_lt xn hl k
        by_cases hk8 : k < 8
        · have hst : refBits xn (k + 1) cc = refBit cn (xn / 2 ^ k % 2) := by rw [hcn.out]; rfl
          have HS2 := Lib.hid hst
          clear hst
          obtain ⟨qn, hqn⟩ : ∃ qn, xn / 2 ^ k = qn := ⟨_, rfl⟩
          have hq8 : qn < 256 := by rw [← hqn]; exact Nat.lt_of_le_of_lt (Nat.div_le_self _ _) hx8
          have hq : (xn : Int) / 2 ^ k = (qn : Int) := by rw [← hqn, Int.natCast_ediv, Int.natCast_pow]; rfl
          obtain ⟨b, hbq⟩ : ∃ b, qn % 2 = b := ⟨_, rfl⟩
          obtain ⟨m, hm⟩ : ∃ m, cn % 2 = m := ⟨_, rfl⟩
          have ha8 : bits .and .u8 (qn : Int) 1 = (b : Int) := by
            have := u8_and_nat qn 1 hq8 (by decide)
            rw [and_one, hbq] at this
            exact this
          have ha : bits .and .u64 (cn : Int) 1 = (m : Int) := by
            have := u64_and_nat cn 1 (by omega) (by decide)
            rw [and_one, hm] at this
            exact this
          have hb2 : b < 2 := by omega
          have hm2 : m < 2 := by omega
          have hdv : (cn : Int).tdiv 2 = ((cn / 2 : Nat) : Int) := rfl
          rw [hqn, hbq] at HS2
          have HM := Lib.hid hm
          obtain ⟨t, ht⟩ : ∃ t, m ^^^ b = t := ⟨_, rfl⟩
          have hxx : bits .xor .u64 (m : Int) (b : Int) = (t : Int) := by rw [u64_xor_nat _ _ (by omega) (by omega), ht]
          have ht2 : t < 2 := by rw [← ht]; exact Nat.xor_lt_two_pow (n := 1) hm2 hb2
          have HT : Hid (m ^^^ b = t) := ht
          clear ht hm hbq hqn
          by_cases hb : t = 1
          · subst hb
            have hv : refBit cn b = (cn / 2) ^^^ 3988292384 := by unfold refBit; rw [HM.out, HT.out, if_pos rfl]
            have hx2 : bits .xor .u64 ((cn : Int) / 2) 3988292384 = (((cn / 2) ^^^ 3988292384 : Nat) : Int) := by
              have := u64_xor_nat (cn / 2) 3988292384 (by omega) (by decide)
              rw [← this]; rfl
            have HV := Lib.hid hv
            clear hv
            go_wp2
            go_roundw
            case rel => exact ⟨k + 1, _, by go_num, by omega, rfl, by rw [HS2.out, HV.out]; exact rfl, by first | rfl | trivial⟩
            case measure => simp [intOf]; omega
          · have hv : refBit cn b = cn / 2 := by unfold refBit; rw [HM.out, HT.out, if_neg hb]
            obtain rfl : t = 0 := by omega
            have HV := Lib.hid hv
            clear hv hb
            go_wp2
            go_roundw
            case rel => exact ⟨k + 1, cn / 2, by go_num, by omega, rfl, by rw [HS2.out, HV.out]; exact rfl, by first | rfl | trivial⟩
            case measure => simp [intOf]; omega
        · obtain rfl : k = 8 := by omega
          go_wp2
          go_roundw
          case rel => exact ⟨j + 1, cn, by go_num, by omega, rfl, by rw [HST.out, ← HC1.out]; exact hcn, by first | rfl | trivial⟩
          case measure => simp [intOf]; omega
    · obtain rfl : j = n := by omega
      have hx2 : bits .xor .u64 (cc : Int) 4294967295 = ((cc ^^^ 4294967295 : Nat) : Int) := by
        have := u64_xor_nat cc 4294967295 (by omega) (by decide)
        rw [← this]; rfl
      have hx3 : cc ^^^ 4294967295 < 4294967296 := Nat.xor_lt_two_pow (n := 32) hl (by decide)
      obtain ⟨r, hr⟩ : ∃ r, cc ^^^ 4294967295 = r := ⟨_, rfl⟩
      rw [hr] at hx2 hx3
      have hx4 : (r : Int) % 4294967296 = (r : Int) := by omega
      have HRR : Hid (crc l = r) := by
        unfold crc
        rw [← hr, hcc.out, List.take_of_length_le (by omega)]
        exact rfl
      clear hr
      go_wp2
      go_ret
      refine ⟨?_, rfl⟩
      rw [HRR.out]
      rfl
end Go.Proofs.YtljclehhicmkhaaDoor
