/-
  date.Print and cubbyref06.Print, walked.
-/
import Derived.Test.YtfnckkmnncdelaaDoorDateText
import Derived.Test.YtfnckkmnncdelaaDoorDateRef
import Derived.Test.YtfnckkmnncdelaaDoorCivil
namespace Go.Proofs.YtfnckkmnncdelaaDoor
open Go.RowKit
def dayB (d : Nat) : ByteArray := if d < 10 then (⟨#[32]⟩ : ByteArray) ++ digB d 1 else digB d 2
def textV (y m : Int) (d s : Nat) : ByteArray :=
  dayB d ++ (⟨#[45]⟩ : ByteArray) ++ monB m ++ (⟨#[45]⟩ : ByteArray) ++ digB y.toNat 4 ++ (⟨#[32]⟩ : ByteArray) ++ digB (s / 3600) 2 ++ (⟨#[58]⟩ : ByteArray) ++ digB (s / 60 % 60) 2 ++ (⟨#[58]⟩ : ByteArray) ++ digB (s % 60) 2 ++ (⟨#[32, 43, 48, 48, 48, 48]⟩ : ByteArray)
/-- a time's text -/
def printV (t : Int) : ByteArray :=
  if t < 0 ∨ 253402300799 < t then ⟨#[]⟩ else textV (civY (t / 86400)) (civM (t / 86400)) (civD (t / 86400)).toNat (t % 86400).toNat
theorem below_seq {a b c : World} (h1 : Below a.heap.size a b) (h2 : Below b.heap.size b c) : Below a.heap.size a c := h1.trans (h2.mono h1.size)
theorem digits_two (v : Int) (h0 : 0 ≤ v) (h1 : v ≤ 99999) (w : World) :
    Calls Tryd.prog 51 #[.int .i64 v, .int .i64 2] w fun e w' => e = .returned (.string (digB v.toNat 2)) ∧ Below w.heap.size w w' := by
  obtain ⟨n, rfl⟩ : ∃ n : Nat, v = n := ⟨v.toNat, by omega⟩
  exact digits_any n 2 (by omega) (by omega) w
theorem digits_four (v : Int) (h0 : 0 ≤ v) (h1 : v ≤ 99999) (w : World) :
    Calls Tryd.prog 51 #[.int .i64 v, .int .i64 4] w fun e w' => e = .returned (.string (digB v.toNat 4)) ∧ Below w.heap.size w w' := by
  obtain ⟨n, rfl⟩ : ∃ n : Nat, v = n := ⟨v.toNat, by omega⟩
  exact digits_any n 4 (by omega) (by omega) w
theorem two_int (v : Int) (h0 : 0 ≤ v) (h1 : v ≤ 99) (w : World) (htab : Lib.TabIs Tryd.prog w "internal/strconv.uint64pow10" .u64 Lib.pow10Tab) :
    Calls Tryd.prog 48 #[.int .i64 v] w fun e w' => e = .returned (.string (digB v.toNat 2)) ∧ Below w.heap.size w w' := by
  obtain ⟨n, rfl⟩ : ∃ n : Nat, v = n := ⟨v.toNat, by omega⟩
  exact two_any n (by omega) w htab
theorem digB_two (d : Nat) : digB d 2 = ⟨#[UInt8.ofNat (48 + d / 10 % 10), UInt8.ofNat (48 + d % 10)]⟩ := by simp [digB, digL]
theorem digB_one (d : Nat) : digB d 1 = ⟨#[UInt8.ofNat (48 + d % 10)]⟩ := by simp [digB, digL]
theorem tail_two (d : Nat) : (digB d 2).extract 1 2 = digB d 1 := by rw [digB_two, digB_one]; rfl
theorem head_two (d : Nat) (hd : d ≤ 99) (hp : 0 < (digB d 2).size) : (((digB d 2)[0]'hp).toNat : Int) = 48 + (d : Int) / 10 := by
  have e : (digB d 2)[0]'hp = UInt8.ofNat (48 + d / 10 % 10) := by
    simp only [digB_two]; rfl
  rw [e, u8_nat _ (by omega)]
  omega
theorem since_last (y : Int) : sinceN (y + 1) 1 1 = sinceN y 12 1 + 31 := by
  unfold sinceN; simp; omega
theorem since_hi (y : Int) (h : sinceN y 1 1 ≤ 2932896) : y ≤ 10000 := by
  unfold sinceN at h
  simp at h
  omega
theorem since_pos (y : Int) (h : 1970 ≤ y) : 0 ≤ sinceN y 1 1 := by
  unfold sinceN; simp; omega
theorem year_pos (y : Int) : 365 ≤ yearN y ∧ yearN y ≤ 366 := by unfold yearN; split <;> omega
/-- the day that the reference's loops come to -/
theorem civ_of (n y m d : Int) (h1 : 1 ≤ m) (h2 : m ≤ 12) (h0 : 0 ≤ d) (hd : d < dimN y m) (he : d + sinceN y m 1 = n) : civY n = y ∧ civM n = m ∧ civD n = d + 1 := by
  have := since_lin y m (d + 1)
  rw [← he, show d + sinceN y m 1 = sinceN y m (d + 1) from by omega]
  exact civ_since y m (d + 1) ⟨h1, h2, by omega, by omega⟩
set_option maxRecDepth 100000 in
set_option maxHeartbeats 4000000 in
theorem refPrint_any (t : Int) (w : World) (hl : -9223372036854775808 ≤ t) (hh : t ≤ 9223372036854775807) :
    Calls Tryd.prog 23 #[.int .i64 t] w fun e w' => e = .returned (.string (printV t)) ∧ Below w.heap.size w w' := by
  by_cases hr : t < 0 ∨ 253402300799 < t
  · have Hv : Hid (printV t = ⟨#[]⟩) := by show printV t = _; unfold printV; rw [if_pos hr]
    go_enter Tryd.func23, Tryd.ntmps23
    go_wp2
    all_goals
      go_ret
      exact ⟨ret_str Hv.out.symm, Below.refl _ _⟩
  · have Hv : Hid (printV t = textV (civY (t / 86400)) (civM (t / 86400)) (civD (t / 86400)).toNat (t % 86400).toNat) := by show printV t = _; unfold printV; rw [if_neg hr]
    obtain ⟨t0, t1⟩ : 0 ≤ t ∧ t ≤ 253402300799 := by omega
    clear hr
    go_enter Tryd.func23, Tryd.ntmps23
    go_wp2
    have hn0 : 0 ≤ t / 86400 := by omega
    have hn1 : t / 86400 ≤ 2932896 := by omega
    have hs0 : 0 ≤ t % 86400 := by omega
    have hs1 : t % 86400 ≤ 86399 := by omega
    generalize t / 86400 = n at *
    generalize t % 86400 = S at *
    go_loop [3, 5] (fun d y => ∃ (a b : Int), d = .int .i64 a ∧ y = .int .i64 b ∧ a + sinceN b 1 1 = n ∧ 0 ≤ a ∧ a ≤ 2932896 ∧ 1970 ≤ b) (fun d _ => (intOf d).toNat)
    case atStart => exact ⟨n, 1970, rfl, rfl, by rw [show sinceN 1970 1 1 = 0 from by decide]; omega, hn0, hn1, by omega⟩
    case round =>
      obtain ⟨a, b, rfl, rfl, hab, ha, ha1, hb⟩ := hrel
      have hb1 := since_hi b (by omega)
      have hyp := year_pos b
      have hsy := since_year b
      have Hy := Lib.hid (fun W : World => year_any b (by omega) (by omega) W)
      by_cases hlt : yearN b ≤ a
      · have Hsy := Lib.hid hsy; clear hsy
        have Hab := Lib.hid hab; clear hab
        generalize yearN b = Y at *
        go_wp2_with (go_at_call 47; refine (Hy.out _).mono ?_; rintro e w' ⟨rfl, rfl⟩)
        go_round
        case rel => exact ⟨a - Y, b + 1, rfl, by go_num, by have h1 := Hsy.out; have h2 := Hab.out; omega, by omega, by omega, by omega⟩
        case measure => simp [intOf] <;> omega
      · have h12 := since_last b
        have hend : a + sinceN b 1 1 < sinceN b 12 1 + 31 := by omega
        have hlt' : a < yearN b := by omega
        clear hsy h12 hlt
        have Hend := Lib.hid hend; clear hend
        have Hab := Lib.hid hab; clear hab
        generalize yearN b = Y at *
        go_wp2_with (go_at_call 47; refine (Hy.out _).mono ?_; rintro e w' ⟨rfl, rfl⟩)
        clear Hy
        go_loop [3, 6] (fun d m => ∃ (a q : Int), d = .int .i64 a ∧ m = .int .i64 q ∧ Hid (a + sinceN b q 1 = n) ∧ 0 ≤ a ∧ a ≤ 366 ∧ 1 ≤ q ∧ q ≤ 12) (fun d _ => (intOf d).toNat)
        case atStart => exact ⟨a, 1, rfl, rfl, Hab, ha, by omega, by omega, by omega⟩
        case round =>
          obtain ⟨r, q, rfl, rfl, hrq, hr0, hr1, hq0, hq1⟩ := hrel
          have hdq := dimN_bd b q
          have Hy := Lib.hid (fun W : World => days_any b q (by omega) (by omega) (by omega) (by omega) W)
          by_cases hlt2 : dimN b q ≤ r
          · have hq : q ≤ 11 := by
              by_cases e : q = 12
              · subst e
                have e1 : dimN b 12 = 31 := dim_long b 12 (by omega)
                have e2 := hrq.out
                have e3 := Hend.out
                have e4 := Hab.out
                omega
              · omega
            have Hsm := Lib.hid (since_month b q hq0 hq)
            generalize dimN b q = Y2 at *
            go_wp2_with (go_at_call 46; refine (Hy.out _).mono ?_; rintro e w' ⟨rfl, rfl⟩)
            go_round
            case rel => exact ⟨r - Y2, q + 1, rfl, by go_num, by have h1 := Hsm.out; have h2 := hrq.out; show _ = _; omega, by omega, by omega, by omega, by omega⟩
            case measure => simp [intOf] <;> omega
          · have hciv := civ_of n b q r hq0 hq1 hr0 (by omega) hrq.out
            obtain ⟨c1, c2, c3⟩ := hciv
            have hv := Hv.out
            rw [c1, c2, c3] at hv
            clear c1 c2 c3 Hend Hab hrq Hv
            have hd31 : r ≤ 30 := by omega
            generalize dimN b q = Y2 at *
            obtain ⟨D, hD⟩ : ∃ D : Nat, r + 1 = (D : Int) := ⟨(r + 1).toNat, by omega⟩
            rw [hD] at hv
            unfold textV at hv
            rw [Int.toNat_natCast] at hv
            have hsz := digB_size D 2
            have hp0 : 0 < (digB D 2).size := by omega
            have hhd := head_two D (by omega) hp0
            have Htl := Lib.hid (tail_two D)
            by_cases h10 : D < 10
            · have hv2 := hv
              unfold dayB at hv2
              rw [if_pos h10] at hv2
              have Hv := Lib.hid hv2; clear hv hv2
              have hz : ((((digB D 2)[0]'hp0).toNat : Int) == 48) = true := by simp only [beq_iff_eq]; omega
              clear hhd
              go_wp2_with (go_at_call 46; refine (Hy.out _).mono ?_; rintro e w' ⟨rfl, rfl⟩)
              refine (digits_two (D : Int) (by omega) (by omega) _).mono ?_
              rintro e w1 ⟨rfl, hb1⟩
              rw [Int.toNat_natCast]
              have hms := monB_size q
              have Hm := Lib.hid (fun W : World => refMonth_any q hq0 hq1 W)
              go_wp2_with (go_at_call 44; refine (Hm.out _).mono ?_; rintro e w' ⟨rfl, rfl⟩)
              refine (digits_four b (by omega) (by omega) _).mono ?_
              rintro e w2 ⟨rfl, hb2⟩
              have h4 := digB_size b.toNat 4
              generalize digB b.toNat 4 = B4 at *
              go_wp2_with fail
              refine (digits_two (S / 3600) (by omega) (by omega) _).mono ?_
              rintro e w3 ⟨rfl, hb3⟩
              rw [show (S / 3600).toNat = S.toNat / 3600 from by omega]
              have h5 := digB_size (S.toNat / 3600) 2
              generalize digB (S.toNat / 3600) 2 = B5 at *
              go_wp2_with fail
              refine (digits_two (S / 60 % 60) (by omega) (by omega) _).mono ?_
              rintro e w4 ⟨rfl, hb4⟩
              rw [show (S / 60 % 60).toNat = S.toNat / 60 % 60 from by omega]
              have h6 := digB_size (S.toNat / 60 % 60) 2
              generalize digB (S.toNat / 60 % 60) 2 = B6 at *
              go_wp2_with fail
              refine (digits_two (S % 60) (by omega) (by omega) _).mono ?_
              rintro e w5 ⟨rfl, hb5⟩
              rw [show (S % 60).toNat = S.toNat % 60 from by omega]
              have h7 := digB_size (S.toNat % 60) 2
              generalize digB (S.toNat % 60) 2 = B7 at *
              go_wp2
              go_ret
              exact ⟨ret_str (by rw [Hv.out]; rw [Htl.out]), below_seq (below_seq (below_seq (below_seq hb1 hb2) hb3) hb4) hb5⟩
            · have hv2 := hv
              unfold dayB at hv2
              rw [if_neg h10] at hv2
              have Hv := Lib.hid hv2; clear hv hv2
              have hz : ((((digB D 2)[0]'hp0).toNat : Int) == 48) = false := by simp only [beq_eq_false_iff_ne]; omega
              clear hhd
              go_wp2_with (go_at_call 46; refine (Hy.out _).mono ?_; rintro e w' ⟨rfl, rfl⟩)
              refine (digits_two (D : Int) (by omega) (by omega) _).mono ?_
              rintro e w1 ⟨rfl, hb1⟩
              rw [Int.toNat_natCast]
              have hms := monB_size q
              have Hm := Lib.hid (fun W : World => refMonth_any q hq0 hq1 W)
              go_wp2_with (go_at_call 44; refine (Hm.out _).mono ?_; rintro e w' ⟨rfl, rfl⟩)
              refine (digits_four b (by omega) (by omega) _).mono ?_
              rintro e w2 ⟨rfl, hb2⟩
              have h4 := digB_size b.toNat 4
              generalize digB b.toNat 4 = B4 at *
              go_wp2_with fail
              refine (digits_two (S / 3600) (by omega) (by omega) _).mono ?_
              rintro e w3 ⟨rfl, hb3⟩
              rw [show (S / 3600).toNat = S.toNat / 3600 from by omega]
              have h5 := digB_size (S.toNat / 3600) 2
              generalize digB (S.toNat / 3600) 2 = B5 at *
              go_wp2_with fail
              refine (digits_two (S / 60 % 60) (by omega) (by omega) _).mono ?_
              rintro e w4 ⟨rfl, hb4⟩
              rw [show (S / 60 % 60).toNat = S.toNat / 60 % 60 from by omega]
              have h6 := digB_size (S.toNat / 60 % 60) 2
              generalize digB (S.toNat / 60 % 60) 2 = B6 at *
              go_wp2_with fail
              refine (digits_two (S % 60) (by omega) (by omega) _).mono ?_
              rintro e w5 ⟨rfl, hb5⟩
              rw [show (S % 60).toNat = S.toNat % 60 from by omega]
              have h7 := digB_size (S.toNat % 60) 2
              generalize digB (S.toNat % 60) 2 = B7 at *
              go_wp2
              go_ret
              exact ⟨ret_str (by rw [Hv.out]), below_seq (below_seq (below_seq (below_seq hb1 hb2) hb3) hb4) hb5⟩
end Go.Proofs.YtfnckkmnncdelaaDoor
