/-
  Numbers and texts that are read back: the program's codec.In.
-/
import Derived.Test.YtmjikfeaopmejaaDoorIn
namespace Go.Proofs.YtmjikfeaopmejaaDoor
open Go.RowKit
theorem wrap_i64_small (n : Int) (h0 : 0 ≤ n) (h1 : n < 9223372036854775808) : IntKind.i64.wrap n = n := by
  simp [IntKind.wrap, IntKind.bits, IntKind.signed]
  split <;> omega
theorem i64_or_nat (a b : Nat) (ha : a < 9223372036854775808) (hb : b < 9223372036854775808) : bits .or .i64 (a : Int) (b : Int) = ((a ||| b : Nat) : Int) := by
  show IntKind.i64.wrap ((BitVec.ofInt 64 (a : Int) ||| BitVec.ofInt 64 (b : Int)).toNat : Int) = _
  rw [BitVec.toNat_or, ofInt_u64 a (by omega), ofInt_u64 b (by omega)]
  have h : a ||| b < 2 ^ 63 := Nat.or_lt_two_pow (by omega) (by omega)
  exact wrap_i64_small _ (by omega) (by omega)
theorem i64_join (v c : Nat) (hv : v < 281474976710656) (hc : c < 256) : bits .or .i64 ((v : Int) * 256) (c : Int) = ((v * 256 + c : Nat) : Int) := by
  have h := i64_or_nat (v * 256) c (by omega) (by omega)
  rw [nat_join 8 (v * 256) c (by omega) (by omega)] at h
  rw [← h]; rfl
theorem beVal_step {l : List UInt8} {j : Nat} {x : UInt8} (hx : l[j]? = some x) : beVal (l.take (j + 1)) = beVal (l.take j) * 256 + x.toNat := by
  rw [List.take_add_one, hx, ← beVal_snoc]; rfl
theorem inTake_len (s : InM) (n : Nat) : (inTake s n).1.length ≤ n := by
  unfold inTake
  split
  · simp
  · split
    · simp
    · simp only [Int.toNat_natCast, List.length_take]; omega
theorem inTake_rest (s : InM) (n : Int) : (inTake s n).2.rest.length ≤ s.rest.length := by
  unfold inTake
  split
  · exact Nat.le_refl _
  · split
    · simp
    · simp
theorem inN_lt (s : InM) (n : Nat) : (inN s n).1 < 256 ^ n := Nat.lt_of_lt_of_le (beVal_lt _) (Nat.pow_le_pow_right (by omega) (inTake_len s n))
section
variable {w w' : World} {i : Nat} {s : InM} {v : Value}
set_option maxRecDepth 100000 in
theorem in_N (h : InAt w i s v) (hl : s.rest.length ≤ 1000000) (n : Nat) (hn : 1 ≤ n ∧ n ≤ 7) :
    Calls Tryd.prog 10 #[.pointer (some ⟨i, 0, none⟩), .int .i64 (n : Nat)] w fun e w' => e = .returned (.int .i64 ((inN s n).1 : Nat)) ∧ (∃ v', InAt w' i (inN s n).2 v') ∧ IBut i w w' := by
  have H := Lib.hid (in_take h hl n)
  have n1 : decide ((n : Int) < 1) = false := by simp; omega
  have n2 : decide (7 < (n : Int)) = false := by simp; omega
  unfold inN
  have hlen := inTake_len s n
  dsimp only
  generalize inTake s n = r at *
  obtain ⟨l, s2⟩ := r
  simp only at H hlen ⊢
  clear h
  go_enter Tryd.func10, Tryd.ntmps10
  go_wp2_with fail
  refine H.out.mono ?_
  rintro e w1 ⟨r, rfl, ⟨A, c, rfl, hr⟩, hi, hb⟩
  obtain ⟨m, hm⟩ : ∃ m, l.length = m := ⟨_, rfl⟩
  rw [hm] at hr hlen ⊢
  have HR := Lib.hid hr
  have HI : Hid (∃ v', InAt w1 i s2 v') := hi
  have HB := Lib.hid hb
  clear hr hi hb H
  go_wp2
  go_loopw [5, 18] (fun z k wr => ∃ (j cc : Nat), k = .int .i64 j ∧ j ≤ m ∧ z = .int .i64 cc ∧ Hid (cc = beVal (l.take j)) ∧ wr = w1) (fun _ k _ => m - (intOf k).toNat)
  case atStart => exact ⟨0, 0, rfl, by omega, rfl, rfl, rfl⟩
  case round =>
    obtain ⟨j, cc, rfl, hj, rfl, hcc, rfl⟩ := hrel
    by_cases hlt : j < m
    · obtain ⟨x, hx⟩ : ∃ x, l[j]? = some x := ⟨_, List.getElem?_eq_getElem (by omega)⟩
      obtain ⟨ad, rfl, _, hc⟩ := HR.out.2 (by omega)
      have hcx := hc j (.int .u8 (x.toNat : Int)) (by rw [u8s_get, hx]; rfl)
      have hst := beVal_step hx
      rw [← hcc.out] at hst
      obtain ⟨xn, hxn⟩ : ∃ xn, x.toNat = xn := ⟨_, rfl⟩
      have hx8 : xn < 256 := by rw [← hxn]; exact x.toNat_lt
      have hcl : cc < 281474976710656 := by
        rw [hcc.out]
        have h1 := beVal_lt (l.take j)
        refine Nat.lt_of_lt_of_le h1 (Nat.le_trans (Nat.pow_le_pow_right (by omega) (show _ ≤ 6 from ?_)) (by decide))
        rw [List.length_take]; omega
      rw [hxn] at hcx hst
      have HST := Lib.hid hst
      have hjn := i64_join cc xn hcl hx8
      clear hst hx hc hxn
      go_wp2
      go_roundw
      case rel => exact ⟨j + 1, cc * 256 + xn, by go_num, by omega, rfl, HST.out.symm, by first | rfl | trivial⟩
      case measure => simp [intOf]; omega
    · obtain rfl : j = m := by omega
      go_wp2
      go_ret
      refine ⟨?_, HI.out, HB.out⟩
      rw [hcc.out, List.take_of_length_le (by omega)]
      rfl
theorem inText_rest (s : InM) : (inText s).2.rest.length ≤ s.rest.length := Nat.le_trans (inTake_rest _ _) (inTake_rest _ _)
set_option maxRecDepth 100000 in
theorem in_Text (h : InAt w i s v) (hl : s.rest.length ≤ 1000000) :
    Calls Tryd.prog 11 #[.pointer (some ⟨i, 0, none⟩)] w fun e w' => e = .returned (.string (inText s).1) ∧ (∃ v', InAt w' i (inText s).2 v') ∧ IBut i w w' := by
  have R1 := Lib.hid (in_N h hl 2 (by omega))
  have hle : (inN s 2).2.rest.length ≤ 1000000 := Nat.le_trans (inTake_rest s _) hl
  unfold inText
  generalize inN s 2 = r at *
  obtain ⟨nn, s2⟩ := r
  simp only at R1 hle ⊢
  clear h
  go_enter Tryd.func11, Tryd.ntmps11
  go_wp2_with fail
  refine R1.out.mono ?_
  rintro e w1 ⟨rfl, ⟨v1, h1⟩, hb1⟩
  have R2 := Lib.hid (in_take h1 hle (nn : Int))
  have HB1 := Lib.hid hb1
  clear h1 hb1 R1
  go_wp2_with fail
  refine R2.out.mono ?_
  rintro e w2 ⟨r, rfl, ⟨A, c, rfl, hr⟩, hi, hb2⟩
  have hcv := conv_reads (c := c) rfl hr
  have HI : Hid (∃ v', InAt w2 i (inTake s2 nn).2 v') := hi
  have HB2 := Lib.hid (HB1.out.trans hb2)
  clear hr hi hb2
  go_wp2
  go_ret
  exact ⟨rfl, HI.out, HB2.out⟩
end
theorem own_or {w : World} {B n : Nat} {v : Value} {l : List UInt8} (h : w.ownsRow B 5 1 v n (u8s l)) (hn : l.length = n) : (v = .slice none 0 0 ∧ l = []) ∨ ∃ ad c, v = .slice (some ad) l.length c ∧ l.length ≤ c ∧ Reads w w.heap.size 1 (some ad) l.length (u8s l) ∧ U8Row w ad.block := by
  subst hn
  rcases h.2 with ⟨rfl, h0⟩ | ⟨g, c, cur, rfl, _, hgg, hc, _⟩
  · exact .inl ⟨rfl, List.length_eq_zero_iff.1 h0⟩
  · exact .inr ⟨_, c, rfl, hc, Reads.of_own h, ⟨cur, _, hgg⟩⟩
set_option maxRecDepth 100000 in
theorem in_new (A : Option Addr) (n c : Nat) (l : List UInt8) (hl : l.length = n) (hn : n ≤ 1000000) (w : World) (hr : Reads w w.heap.size 1 A n (u8s l)) :
    Calls Tryd.prog 9 #[.slice A n c] w fun e w' => ∃ i v, e = .returned (.pointer (some ⟨i, 0, none⟩)) ∧ InAt w' i ⟨l, false⟩ v ∧ w.heap.size ≤ i ∧ Below w.heap.size w w' := by
  have R1 := Lib.hid (clone_any A n c l w hl (by omega) hr)
  clear hr
  go_enter Tryd.func9, Tryd.ntmps9
  go_wp2_with fail
  refine R1.out.mono ?_
  rintro e w1 ⟨v, rfl, ho, hb⟩
  have hx := (Below.refl w1.heap.size w1).alloc (Nat.le_refl _) (.cells #[v, .bool false] 59)
  have HI : Hid (InAt (w1.alloc (.cells #[v, .bool false] 59)) w1.heap.size ⟨l, false⟩ v) := ⟨Blk.new w1 _ _, own_or (own_below ho hx) hl⟩
  have HB := Lib.hid (hb.trans (hx.mono hb.size))
  have HS : Hid (w.heap.size ≤ w1.heap.size) := hb.size
  have hv : ∃ A c, v = .slice A n c := by
    obtain ⟨A, c, e, _⟩ := own_reads ho
    exact ⟨A, c, e⟩
  obtain ⟨A', c', rfl⟩ := hv
  clear ho hb hx
  go_wp2
  go_ret
  exact ⟨_, _, rfl, HI.out, HS.out, HB.out⟩
end Go.Proofs.YtmjikfeaopmejaaDoor
