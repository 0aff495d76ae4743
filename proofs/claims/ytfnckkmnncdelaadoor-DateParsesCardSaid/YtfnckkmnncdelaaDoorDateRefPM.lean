/-
  cubbyref06.Parse, walked: the good signs.
-/
import Derived.Test.YtfnckkmnncdelaaDoorDateRef2
namespace Go.Proofs.YtfnckkmnncdelaaDoor
open Go.RowKit
set_option maxRecDepth 100000 in
set_option maxHeartbeats 8000000 in
theorem refParse_PM (s : ByteArray) (hs : s.size ≤ 1000) (hsz : 26 ≤ s.size) (hne : ((s.size : Int) != 26) = false) (hg : signsV s = true) (hp0 : 0 < (s.extract 0 2).size) (hz : ((((s.extract 0 2)[0]'hp0).toNat : Int) == 32) = false)
    (hsign : ((s[21].toNat : Int) == 43) = false) (w : World) :
    Calls Tryd.prog 21 #[.string s] w fun e w' => e = .returned (.tuple #[.int .i64 (refParseV s).1, .bool (refParseV s).2]) ∧ Below w.heap.size w w' := by
  have hv : refParseV s = refCore (numV (firstL s)) (refMonV (s.extract 3 6).data.toList 12) (numV (s.extract 7 11).data.toList) (numV (s.extract 12 14).data.toList) (numV (s.extract 15 17).data.toList) (numV (s.extract 18 20).data.toList) (numV (s.extract 22 24).data.toList) (numV (s.extract 24 26).data.toList) ((s[21].toNat : Int) == 43) := by
    have h26 : s.size = 26 := by simp only [bne_eq_false_iff_eq] at hne; omega
    unfold refParseV sub
    rw [if_pos ⟨h26, hg⟩, bat_eq s 21 (by omega)]
  have Hv := Lib.hid hv; clear hv
  unfold signsV at hg
  rw [bat_eq s 2 (by omega), bat_eq s 6 (by omega), bat_eq s 11 (by omega), bat_eq s 14 (by omega), bat_eq s 17 (by omega), bat_eq s 20 (by omega), bat_eq s 21 (by omega)] at hg
  simp only [Bool.and_eq_true] at hg
  obtain ⟨⟨⟨⟨⟨⟨g1, g2⟩, g3⟩, g4⟩, g5⟩, g6⟩, g7⟩ := hg
  have n1 := ne_of_eq g1
  have n2 := ne_of_eq g2
  have n3 := ne_of_eq g3
  have n4 := ne_of_eq g4
  have n5 := ne_of_eq g5
  have n6 := ne_of_eq g6
  clear g1 g2 g3 g4 g5 g6
  have hsn : ((s[21].toNat : Int) != 43) = true ∧ ((s[21].toNat : Int) != 45) = false := sign_M _ g7 hsign
  clear g7
  have b1 : -1 ≤ numV (firstL s) ∧ numV (firstL s) ≤ 99 := by
    unfold firstL
    split
    · have := numV_one (sub s 1 2) (sub_length s 1 2 (by omega)); omega
    · exact numV_two (sub s 0 2) (sub_length s 0 2 (by omega))
  have B2 := Lib.hid (refMonV_bd (s.extract 3 6).data.toList)
  have b3 := numV_four (s.extract 7 11).data.toList (sub_length s 7 11 (by omega))
  have b4 := numV_two (s.extract 12 14).data.toList (sub_length s 12 14 (by omega))
  have b5 := numV_two (s.extract 15 17).data.toList (sub_length s 15 17 (by omega))
  have b6 := numV_two (s.extract 18 20).data.toList (sub_length s 18 20 (by omega))
  have b7 := numV_two (s.extract 22 24).data.toList (sub_length s 22 24 (by omega))
  have b8 := numV_two (s.extract 24 26).data.toList (sub_length s 24 26 (by omega))
  have hD : ((s.extract 0 2)).data.toList = firstL s ∧ ((s.extract 0 2)).size ≤ 2 := by
    have := first_plain s hsz hp0 hz
    exact ⟨this.1, by omega⟩
  have k1 := hsign
  clear hsign
  obtain ⟨k2, k3⟩ := hsn
  go_enter Tryd.func21, Tryd.ntmps21
  go_wp2
  generalize (((s.extract 0 2)[0]'hp0).toNat : Int) = z0 at *
  clear hz hp0
  generalize (s.extract 0 2) = D at *
  obtain ⟨hD1, hD2⟩ := hD
  rw [← hD1] at b1
  have hvv := Hv.out
  rw [← hD1] at hvv
  clear Hv hD1
  have Hv := Lib.hid hvv; clear hvv
  go_loopw [5, 6] (fun m i wr => ∃ (k : Nat), m = .int .i64 (refMonV (s.extract 3 6).data.toList k) ∧ i = .int .i64 ((k : Int) + 1) ∧ k ≤ 12 ∧ Below w.heap.size w wr) (fun _ i _ => (13 - intOf i).toNat)
  case atStart => exact ⟨0, rfl, rfl, by omega, Below.refl _ _⟩
  case round =>
    obtain ⟨k, rfl, rfl, hk, hb⟩ := hrel
    have hB := B2.out k
    by_cases hlt : k < 12
    · have hms := monB_size ((k : Int) + 1)
      rcases Bool.eq_false_or_eq_true (alikeL (s.extract 3 6).data.toList (monB ((k : Int) + 1)).data.toList) with he | he
      · have Hh := Lib.hid (refMonV_hit _ k he)
        go_wp2
        go_quiet (first | (go_at_call 44; exact Calls.quiet_of_same (refMonth_any ((k : Int) + 1) (by omega) (by omega) _)) | (go_at_call 36; exact Calls.quiet_of (alike_any _ _ (by simp; omega) (by omega) _)))
        have hb2 : Below w.heap.size w (wr.drewN nq) := below_drewN hb _
        generalize wr.drewN nq = w2 at *
        generalize alikeL (s.extract 3 6).data.toList (monB ((k : Int) + 1)).data.toList = A at *
        subst he
        go_wp2
        go_roundw
        case rel => exact ⟨k + 1, by rw [Hh.out], by go_num, by omega, hb2⟩
        case measure => simp [intOf] <;> omega
      · have Hh := Lib.hid (refMonV_miss _ k he)
        go_wp2
        go_quiet (first | (go_at_call 44; exact Calls.quiet_of_same (refMonth_any ((k : Int) + 1) (by omega) (by omega) _)) | (go_at_call 36; exact Calls.quiet_of (alike_any _ _ (by simp; omega) (by omega) _)))
        have hb2 : Below w.heap.size w (wr.drewN nq) := below_drewN hb _
        generalize wr.drewN nq = w2 at *
        generalize alikeL (s.extract 3 6).data.toList (monB ((k : Int) + 1)).data.toList = A at *
        subst he
        go_wp2
        go_roundw
        case rel => exact ⟨k + 1, by rw [Hh.out], by go_num, by omega, hb2⟩
        case measure => simp [intOf] <;> omega
    · obtain rfl : k = 12 := by omega
      clear B2 hlt
      go_wp2
      go_quiet ((go_at_call 45; exact Calls.quiet_of_same (refNumber_any _ (by first | omega | (simp; omega)) _)))
      have hb2 : Below w.heap.size w (wr.drewN nq) := below_drewN hb _
      generalize wr.drewN nq = w2 at *
      go_wp2
      go_quiet ((go_at_call 45; exact Calls.quiet_of_same (refNumber_any _ (by simp; omega) _)))
      have hb3 : Below w.heap.size w (w2.drewN nq) := below_drewN hb2 _
      generalize w2.drewN nq = w3 at *
      clear hb2 hb hk
      generalize numV D.data.toList = d at *
      generalize refMonV (s.extract 3 6).data.toList 12 = m at *
      generalize numV (s.extract 7 11).data.toList = y at *
      generalize numV (s.extract 12 14).data.toList = h at *
      generalize numV (s.extract 15 17).data.toList = mi at *
      generalize numV (s.extract 18 20).data.toList = se at *
      generalize numV (s.extract 22 24).data.toList = zh at *
      generalize numV (s.extract 24 26).data.toList = zm at *
      by_cases c1 : m = 0 ∨ d < 1 ∨ y < 1969 ∨ h < 0 ∨ 23 < h ∨ mi < 0 ∨ 59 < mi ∨ se < 0 ∨ 59 < se ∨ zh < 0 ∨ 14 < zh ∨ zm < 0 ∨ 59 < zm
      · have hp : refParseV s = (0, false) := by rw [Hv.out]; unfold refCore; rw [if_pos c1]
        have Hp := Lib.hid hp; clear hp Hv
        go_wp2
        all_goals
          go_ret2
          exact ⟨ret_ib Hp.out, hb3⟩
      · obtain ⟨m1, d1, y1, h1, h2, mi1, mi2, se1, se2, zh1, zh2, zm1, zm2⟩ : 1 ≤ m ∧ 1 ≤ d ∧ 1969 ≤ y ∧ 0 ≤ h ∧ h ≤ 23 ∧ 0 ≤ mi ∧ mi ≤ 59 ∧ 0 ≤ se ∧ se ≤ 59 ∧ 0 ≤ zh ∧ zh ≤ 14 ∧ 0 ≤ zm ∧ zm ≤ 59 := by omega
        have m0 : (m == 0) = false := by simp only [beq_eq_false_iff_ne]; omega
        have hdim := dimN_bd y m
        by_cases c2 : dimN y m < d
        · have hp : refParseV s = (0, false) := by rw [Hv.out]; unfold refCore; rw [if_neg c1, if_pos c2]
          have Hp := Lib.hid hp; clear hp c1 Hv
          have Hd := Lib.hid (fun W : World => days_any y m (by omega) (by omega) m1 (by omega) W)
          generalize dimN y m = dm at *
          go_wp2_with (go_at_call 46; refine (Hd.out _).mono ?_; rintro e w' ⟨rfl, rfl⟩)
          go_ret2
          exact ⟨ret_ib Hp.out, hb3⟩
        · have hc := Hv.out
          rw [k1, refCore_M _ _ _ _ _ _ _ _ c1 c2] at hc
          have Hc := Lib.hid hc; clear hc c1 Hv
          have Hd := Lib.hid (fun W : World => days_any y m (by omega) (by omega) m1 (by omega) W)
          have hdm : d ≤ dimN y m := by omega
          generalize dimN y m = dm at *
          go_wp2_with (go_at_call 46; refine (Hd.out _).mono ?_; rintro e w' ⟨rfl, rfl⟩)
          clear Hd
          go_loop [14, 15] (fun t i => ∃ (j : Int), t = .int .i64 (sinceN j 1 1) ∧ i = .int .i64 j ∧ 1969 ≤ j ∧ j ≤ y) (fun _ i => (y - intOf i).toNat)
          case atStart => exact ⟨1969, rfl, rfl, by omega, by omega⟩
          case round =>
            obtain ⟨j, rfl, rfl, j1, j2⟩ := hrel
            have hsb := since_bd j 1 j1 (by omega) (by omega) (by omega)
            by_cases hlt2 : j < y
            · have hsb2 := since_bd (j + 1) 1 (by omega) (by omega) (by omega) (by omega)
              have hsy := since_year j
              have Hy := Lib.hid (fun W : World => year_any j (by omega) (by omega) W)
              generalize sinceN j 1 1 = S at *
              generalize yearN j = Y at *
              have Hs := Lib.hid hsy
              rw [hsy] at hsb2
              clear hsy
              go_wp2_with (go_at_call 47; refine (Hy.out _).mono ?_; rintro e w' ⟨rfl, rfl⟩)
              go_round
              case rel => exact ⟨j + 1, by rw [Hs.out], by go_num, by omega, by omega⟩
              case measure => simp [intOf] <;> omega
            · obtain rfl : j = y := by omega
              clear hlt2
              go_wp2
              go_loop [14, 16] (fun t i => ∃ (q : Int), t = .int .i64 (sinceN j q 1) ∧ i = .int .i64 q ∧ 1 ≤ q ∧ q ≤ m) (fun _ i => (m - intOf i).toNat)
              case atStart => exact ⟨1, rfl, rfl, by omega, by omega⟩
              case round =>
                obtain ⟨q, rfl, rfl, q1, q2⟩ := hrel
                clear hsb
                have hsb := since_bd j q j1 (by omega) (by omega) (by omega)
                by_cases hlt3 : q < m
                · have hsb2 := since_bd j (q + 1) (by omega) (by omega) (by omega) (by omega)
                  have hsy := since_month j q (by omega) (by omega)
                  have Hy := Lib.hid (fun W : World => days_any j q (by omega) (by omega) (by omega) (by omega) W)
                  have hdq := dimN_bd j q
                  generalize sinceN j q 1 = S at *
                  generalize dimN j q = Y at *
                  have Hs := Lib.hid hsy
                  rw [hsy] at hsb2
                  clear hsy
                  go_wp2_with (go_at_call 46; refine (Hy.out _).mono ?_; rintro e w' ⟨rfl, rfl⟩)
                  go_round
                  case rel => exact ⟨q + 1, by rw [Hs.out], by go_num, by omega, by omega⟩
                  case measure => simp [intOf] <;> omega
                · obtain rfl : q = m := by omega
                  clear hlt3
                  generalize sinceN j q 1 = S at *
                  have hcc := Hc.out
                  split at hcc
                  · rename_i c3
                    have Hp := Lib.hid hcc; clear hcc Hc
                    go_wp2
                    all_goals
                      go_ret2
                      exact ⟨ret_ib Hp.out, hb3⟩
                  · rename_i c3
                    have Hp := Lib.hid hcc; clear hcc Hc
                    go_wp2
                    go_ret2
                    exact ⟨ret_ib Hp.out, hb3⟩
end Go.Proofs.YtfnckkmnncdelaaDoor
