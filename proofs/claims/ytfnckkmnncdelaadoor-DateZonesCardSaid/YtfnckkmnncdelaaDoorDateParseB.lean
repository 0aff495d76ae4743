/-
  date.Parse, walked: one of two branches.
-/
import Derived.Test.YtfnckkmnncdelaaDoorDateParse0
namespace Go.Proofs.YtfnckkmnncdelaaDoor
open Go.RowKit
set_option maxRecDepth 100000 in
set_option maxHeartbeats 20000000 in
theorem parse_B (s : ByteArray) (hs : s.size ≤ 1000) (h26 : s.size = 26) (ha : asciiV s = true) (hg : signsV s = true) (hp0 : 0 < (s.extract 0 2).size) (hz : ((((s.extract 0 2)[0]'hp0).toNat : Int) == 32) = true) (w : World) :
    Calls Tryd.prog 20 #[.string s] w fun e w' => e = .returned (.tuple #[.int .i64 (parseV s).1, .bool (parseV s).2]) ∧ Below w.heap.size w w' := by
  have hv : parseV s = core (numV (dayL s)) (namedV (sub s 3 6)) (numV (sub s 7 11)) (numV (sub s 12 14)) (numV (sub s 15 17)) (numV (sub s 18 20)) (numV (sub s 22 24)) (numV (sub s 24 26)) (((bat s 21).toNat : Int) == 45) := by
    unfold parseV; rw [if_pos ⟨h26, ha, hg⟩]
  have Hv := Lib.hid hv; clear hv
  have h27 : 26 ≤ s.size := by omega
  have hne : ((s.size : Int) != 26) = false := by simp [h26]
  have Hl : Hid (∀ c ∈ s.data.toList, c.toNat < 128) := fun c hc => by
    unfold asciiV at ha
    have := List.all_eq_true.1 ha c hc
    unfold lowB at this
    have := of_decide_eq_true this
    omega
  have H26 := Lib.hid h26; clear h26
  go_enter Tryd.func20, Tryd.ntmps20
  go_wp2_with (first | (go_at_call 38; refine (ascii_any s hs _).mono ?_; rintro e w' ⟨rfl, rfl⟩; rw [ha]) | (go_at_call 39; refine (signs_any s h27 _).mono ?_; rintro e w' ⟨rfl, rfl⟩; rw [hg]))
  have hD : ((⟨#[48]⟩ : ByteArray) ++ (s.extract 0 2).extract 1 (min 2 s.size)).data.toList = dayL s ∧ ((⟨#[48]⟩ : ByteArray) ++ (s.extract 0 2).extract 1 (min 2 s.size)).size ≤ 9 := day_blank s h27 hp0 hz
  clear hz
  generalize ((⟨#[48]⟩ : ByteArray) ++ (s.extract 0 2).extract 1 (min 2 s.size)) = D at *
  obtain ⟨hD1, hD2⟩ := hD
  have HD := Lib.hid hD1; clear hD1
  refine wp_region_quiet_below (by kernel_rfl) (by kernel_rfl) ?_
  repeat (go_big_quiet_step (first | (go_at_call 40; exact Calls.regrown_of (number_below _ (by first | assumption | (simp; omega)) _)) | (go_at_call 41; exact Calls.regrown_of (named_any _ (by simp; omega) (low_sub s 3 6 Hl.out) _))))
  refine wpQuiet_nil ?_
  intro w1 hw1
  have hb1 : Below w'.heap.size w' w1 := by
    obtain ⟨p, hw1⟩ := hw1
    rw [hw1]; exact below_regrown _ _ _
  clear hw1
  have b1 := numV_two (dayL s) (dayL_length s h27)
  rw [← HD.out] at b1
  have b2 := namedV_bd (s.extract 3 6).data.toList
  have b3 := numV_four (s.extract 7 11).data.toList (sub_length s 7 11 (by omega))
  have b4 := numV_two (s.extract 12 14).data.toList (sub_length s 12 14 (by omega))
  have b5 := numV_two (s.extract 15 17).data.toList (sub_length s 15 17 (by omega))
  have b6 := numV_two (s.extract 18 20).data.toList (sub_length s 18 20 (by omega))
  have b7 := numV_two (s.extract 22 24).data.toList (sub_length s 22 24 (by omega))
  have b8 := numV_two (s.extract 24 26).data.toList (sub_length s 24 26 (by omega))
  have hvv := Hv.out
  rw [← HD.out] at hvv
  unfold sub at hvv
  have hbat : bat s 21 = s[21] := bat_eq s 21 (by omega)
  rw [hbat] at hvv
  clear Hv HD hbat
  have Hv := Lib.hid hvv; clear hvv
  go_wp2
  go_quiet ((go_at_call 40; exact Calls.quiet_of_same (number_any _ (by simp; omega) _)))
  have hb2 : Below w'.heap.size w' (w1.drewN nq) := below_drewN hb1 _
  generalize w1.drewN nq = w2 at *
  clear hb1
  go_wp2
  go_quiet ((go_at_call 40; exact Calls.quiet_of_same (number_any _ (by simp; omega) _)))
  have hb3 : Below w'.heap.size w' (w2.drewN nq) := below_drewN hb2 _
  generalize w2.drewN nq = w3 at *
  clear hb2
  generalize numV D.data.toList = d at *
  generalize namedV (s.extract 3 6).data.toList = m at *
  generalize numV (s.extract 7 11).data.toList = y at *
  generalize numV (s.extract 12 14).data.toList = h at *
  generalize numV (s.extract 15 17).data.toList = mi at *
  generalize numV (s.extract 18 20).data.toList = se at *
  generalize numV (s.extract 22 24).data.toList = zh at *
  generalize numV (s.extract 24 26).data.toList = zm at *
  have hs1 : 1 ≤ d → 1 ≤ m → 0 ≤ y → sinceP y m d ≤ 4000000 := fun e1 e2 e3 => sinceP_hi y m d e3 b3.2 e2 b2.2 e1 b1.2
  by_cases c1 : d < 1 ∨ m < 1 ∨ y < 0 ∨ h < 0 ∨ 23 < h ∨ mi < 0 ∨ 59 < mi ∨ se < 0 ∨ 59 < se
  · have hp : parseV s = (0, false) := by rw [Hv.out]; unfold core; rw [if_pos c1]
    have Hp := Lib.hid hp; clear hp hs1 Hv
    go_wp2
    all_goals
      go_ret2
      exact ⟨ret_ib Hp.out, hb3⟩
  · obtain ⟨d1, m1, y1, h1, h2, mi1, mi2, se1, se2⟩ : 1 ≤ d ∧ 1 ≤ m ∧ 0 ≤ y ∧ 0 ≤ h ∧ h ≤ 23 ∧ 0 ≤ mi ∧ mi ≤ 59 ∧ 0 ≤ se ∧ se ≤ 59 := by omega
    have hs2 := hs1 d1 m1 y1
    clear hs1
    by_cases c2 : zh < 0 ∨ 14 < zh ∨ zm < 0 ∨ 59 < zm
    · have hp : parseV s = (0, false) := by rw [Hv.out]; unfold core; rw [if_neg c1, if_pos c2]
      have Hp := Lib.hid hp; clear hp c1 Hv
      go_wp2
      all_goals
        go_ret2
        exact ⟨ret_ib Hp.out, hb3⟩
    · obtain ⟨zh1, zh2, zm1, zm2⟩ : 0 ≤ zh ∧ zh ≤ 14 ∧ 0 ≤ zm ∧ zm ≤ 59 := by omega
      by_cases c3 : sinceP y m d < -1
      · have hp : parseV s = (0, false) := by rw [Hv.out]; unfold core; rw [if_neg c1, if_neg c2, if_pos c3]
        have Hp := Lib.hid hp; clear hp c1 c2 Hv
        have hc := since_all y m d y1 b3.2 m1 b2.2 d1 b1.2
        generalize sinceP y m d = S at *
        have Hc := Lib.hid hc; clear hc
        go_wp2_with (go_at_call 42; refine (Hc.out _).mono ?_; rintro e w' ⟨rfl, rfl⟩)
        go_ret2
        exact ⟨ret_ib Hp.out, hb3⟩
      · have c3' : -1 ≤ sinceP y m d := by omega
        have hc := since_all y m d y1 b3.2 m1 b2.2 d1 b1.2
        have hcc : core d m y h mi se zh zm ((s[21].toNat : Int) == 45) = if civY (sinceP y m d) ≠ y ∨ civM (sinceP y m d) ≠ m ∨ civD (sinceP y m d) ≠ d then (0, false)
            else if sinceP y m d * 86400 + h * 3600 + mi * 60 + se - (if ((s[21].toNat : Int) == 45) = true then -(zh * 3600 + zm * 60) else zh * 3600 + zm * 60) < 0 ∨ 253402300799 < sinceP y m d * 86400 + h * 3600 + mi * 60 + se - (if ((s[21].toNat : Int) == 45) = true then -(zh * 3600 + zm * 60) else zh * 3600 + zm * 60) then (0, false)
            else (sinceP y m d * 86400 + h * 3600 + mi * 60 + se - (if ((s[21].toNat : Int) == 45) = true then -(zh * 3600 + zm * 60) else zh * 3600 + zm * 60), true) := by
          unfold core; rw [if_neg c1, if_neg c2, if_neg c3]
        rw [← Hv.out] at hcc
        clear c1 c2 c3 Hv
        generalize sinceP y m d = S at *
        have Hc := Lib.hid hc; clear hc
        have hci := civil_any S (by omega) hs2
        generalize civY S = cy at *
        generalize civM S = cm at *
        generalize civD S = cd at *
        have Hci := Lib.hid hci; clear hci
        by_cases c4 : cy ≠ y ∨ cm ≠ m ∨ cd ≠ d
        · have Hp := Lib.hid (hcc.trans (if_pos c4)); clear hcc
          have c5 : (cy != y) = true ∨ ((cy != y) = false ∧ (cm != m) = true) ∨ ((cy != y) = false ∧ (cm != m) = false ∧ (cd != d) = true) := by
            simp only [bne_iff_ne, bne_eq_false_iff_eq]; omega
          clear c4
          rcases c5 with c5 | ⟨c5, c6⟩ | ⟨c5, c6, c7⟩
          all_goals
            go_wp2_with (first | (go_at_call 42; refine (Hc.out _).mono ?_; rintro e w' ⟨rfl, rfl⟩) | (go_at_call 43; refine (Hci.out _).mono ?_; rintro e w' ⟨rfl, rfl⟩))
            go_ret2
            exact ⟨ret_ib Hp.out, hb3⟩
        · rw [if_neg c4] at hcc
          obtain ⟨rfl, rfl, rfl⟩ : cy = y ∧ cm = m ∧ cd = d := by omega
          clear c4
          rcases Bool.eq_false_or_eq_true ((s[21].toNat : Int) == 45) with c6 | c6
          · rw [if_pos c6] at hcc
            rw [show S * 86400 + h * 3600 + mi * 60 + se - -(zh * 3600 + zm * 60) = S * 86400 + h * 3600 + mi * 60 + se + (zh * 3600 + zm * 60) from by omega] at hcc
            have c7 : (S * 86400 + h * 3600 + mi * 60 + se + (zh * 3600 + zm * 60) < 0) ∨ (0 ≤ S * 86400 + h * 3600 + mi * 60 + se + (zh * 3600 + zm * 60) ∧ 253402300799 < S * 86400 + h * 3600 + mi * 60 + se + (zh * 3600 + zm * 60)) ∨
              (0 ≤ S * 86400 + h * 3600 + mi * 60 + se + (zh * 3600 + zm * 60) ∧ S * 86400 + h * 3600 + mi * 60 + se + (zh * 3600 + zm * 60) ≤ 253402300799) := by omega
            rcases c7 with c7 | ⟨c7, c8⟩ | ⟨c7, c8⟩
            · have Hp := Lib.hid (hcc.trans (if_pos (Or.inl c7))); clear hcc
              go_wp2_with (first | (go_at_call 42; refine (Hc.out _).mono ?_; rintro e w' ⟨rfl, rfl⟩) | (go_at_call 43; refine (Hci.out _).mono ?_; rintro e w' ⟨rfl, rfl⟩))
              go_ret2
              exact ⟨ret_ib Hp.out, hb3⟩
            · have Hp := Lib.hid (hcc.trans (if_pos (Or.inr c8))); clear hcc
              go_wp2_with (first | (go_at_call 42; refine (Hc.out _).mono ?_; rintro e w' ⟨rfl, rfl⟩) | (go_at_call 43; refine (Hci.out _).mono ?_; rintro e w' ⟨rfl, rfl⟩))
              go_ret2
              exact ⟨ret_ib Hp.out, hb3⟩
            · have Hp := Lib.hid (hcc.trans (if_neg (by omega))); clear hcc
              go_wp2_with (first | (go_at_call 42; refine (Hc.out _).mono ?_; rintro e w' ⟨rfl, rfl⟩) | (go_at_call 43; refine (Hci.out _).mono ?_; rintro e w' ⟨rfl, rfl⟩))
              go_ret2
              exact ⟨ret_ib Hp.out, hb3⟩
          · simp only [c6, Bool.false_eq_true, if_false] at hcc
            have c7 : (S * 86400 + h * 3600 + mi * 60 + se - (zh * 3600 + zm * 60) < 0) ∨ (0 ≤ S * 86400 + h * 3600 + mi * 60 + se - (zh * 3600 + zm * 60) ∧ 253402300799 < S * 86400 + h * 3600 + mi * 60 + se - (zh * 3600 + zm * 60)) ∨
              (0 ≤ S * 86400 + h * 3600 + mi * 60 + se - (zh * 3600 + zm * 60) ∧ S * 86400 + h * 3600 + mi * 60 + se - (zh * 3600 + zm * 60) ≤ 253402300799) := by omega
            rcases c7 with c7 | ⟨c7, c8⟩ | ⟨c7, c8⟩
            · have Hp := Lib.hid (hcc.trans (if_pos (Or.inl c7))); clear hcc
              go_wp2_with (first | (go_at_call 42; refine (Hc.out _).mono ?_; rintro e w' ⟨rfl, rfl⟩) | (go_at_call 43; refine (Hci.out _).mono ?_; rintro e w' ⟨rfl, rfl⟩))
              go_ret2
              exact ⟨ret_ib Hp.out, hb3⟩
            · have Hp := Lib.hid (hcc.trans (if_pos (Or.inr c8))); clear hcc
              go_wp2_with (first | (go_at_call 42; refine (Hc.out _).mono ?_; rintro e w' ⟨rfl, rfl⟩) | (go_at_call 43; refine (Hci.out _).mono ?_; rintro e w' ⟨rfl, rfl⟩))
              go_ret2
              exact ⟨ret_ib Hp.out, hb3⟩
            · have Hp := Lib.hid (hcc.trans (if_neg (by omega))); clear hcc
              go_wp2_with (first | (go_at_call 42; refine (Hc.out _).mono ?_; rintro e w' ⟨rfl, rfl⟩) | (go_at_call 43; refine (Hci.out _).mono ?_; rintro e w' ⟨rfl, rfl⟩))
              go_ret2
              exact ⟨ret_ib Hp.out, hb3⟩
end Go.Proofs.YtfnckkmnncdelaaDoor
