/-
  date.Print, walked.
-/
import Derived.Test.YtfnckkmnncdelaaDoorDatePrint
import Derived.Lib.AppendIntMem
namespace Go.Proofs.YtfnckkmnncdelaaDoor
open Go.RowKit
def fiveB (v : Nat) : ByteArray := ⟨(49 :: digL v 4).toArray⟩
theorem fiveB_size (v : Nat) : (fiveB v).size = 5 := by
  show (49 :: digL v 4).toArray.size = 5
  simp [digL_length]
theorem fiveB_tail (v : Nat) : (fiveB v).extract 1 5 = digB v 4 := extract_tail 49 (digL v 4) 5 (by rw [digL_length])
theorem civ_bd (n : Int) (h0 : 0 ≤ n) (h1 : n ≤ 2932896) : 1970 ≤ civY n ∧ civY n ≤ 9999 ∧ 1 ≤ civM n ∧ civM n ≤ 12 ∧ 1 ≤ civD n ∧ civD n ≤ 31 := by
  have hs := since_civ n
  have hv := civ_valid n
  obtain ⟨v1, v2, v3, v4⟩ := hv
  have hd := (dimN_bd (civY n) (civM n)).2
  generalize civY n = y at *
  generalize civM n = m at *
  generalize civD n = d at *
  unfold sinceN at hs
  dsimp only at hs
  have a0 : 1969 ≤ y := by split at hs <;> omega
  have a1 : 1970 ≤ y := by
    by_cases e : y = 1969
    · subst e; split at hs <;> omega
    · omega
  have a2 : y ≤ 10000 := by split at hs <;> omega
  have a3 : y ≤ 9999 := by
    by_cases e : y = 10000
    · subst e; split at hs <;> omega
    · omega
  omega
theorem month_below (m : Int) (h1 : 1 ≤ m) (h2 : m ≤ 12) (w : World) :
    Calls Tryd.prog 49 #[.int .i64 m] w fun e w' => e = .returned (.string (monB m)) ∧ Below w.heap.size w w' :=
  (month_any m h1 h2 w).mono fun _ _ ⟨a, b⟩ => ⟨a, by rw [b]; exact Below.refl _ _⟩
theorem five_int (y : Int) (h0 : 0 ≤ y) (h1 : y ≤ 9999) (w : World) (htab : Lib.TabIs Tryd.prog w "internal/strconv.uint64pow10" .u64 Lib.pow10Tab) :
    Calls Tryd.prog 50 #[.int .i64 (10000 + y), .int .i64 10] w fun e w' => e = .returned (.string (fiveB y.toNat)) ∧ Below w.heap.size w w' := by
  obtain ⟨n, rfl⟩ : ∃ n : Nat, y = n := ⟨y.toNat, by omega⟩
  exact fmt_five n (by omega) w htab
set_option maxRecDepth 100000 in
set_option maxHeartbeats 4000000 in
theorem print_any (t : Int) (w : World) (hl : -9223372036854775808 ≤ t) (hh : t ≤ 9223372036854775807) (htab : Lib.TabIs Tryd.prog w "internal/strconv.uint64pow10" .u64 Lib.pow10Tab) :
    Calls Tryd.prog 22 #[.int .i64 t] w fun e w' => e = .returned (.string (printV t)) ∧ Below w.heap.size w w' := by
  by_cases hr : t < 0 ∨ 253402300799 < t
  · have Hv : Hid (printV t = ⟨#[]⟩) := by show printV t = _; unfold printV; rw [if_pos hr]
    clear htab
    go_enter Tryd.func22, Tryd.ntmps22
    go_wp2
    all_goals
      go_ret
      exact ⟨ret_str Hv.out.symm, Below.refl _ _⟩
  · have hv : printV t = textV (civY (t / 86400)) (civM (t / 86400)) (civD (t / 86400)).toNat (t % 86400).toNat := by show printV t = _; unfold printV; rw [if_neg hr]
    obtain ⟨t0, t1⟩ : 0 ≤ t ∧ t ≤ 253402300799 := by omega
    clear hr
    have Ht := Lib.hid (Lib.tabBelow_of_tabIs htab); clear htab
    have Hc := Lib.hid (fun W : World => civil_any (t / 86400) (by omega) (by omega) W)
    obtain ⟨y0, y1, m0, m1, d0, d1⟩ := civ_bd (t / 86400) (by omega) (by omega)
    have hS0 : 0 ≤ t % 86400 := by omega
    have hS1 : t % 86400 ≤ 86399 := by omega
    have hn0 : 0 ≤ t / 86400 := by omega
    generalize hY : civY (t / 86400) = Y at *
    generalize hM : civM (t / 86400) = M at *
    generalize hD : civD (t / 86400) = D at *
    clear hY hM hD
    unfold textV at hv
    have Htl := Lib.hid (tail_two D.toNat)
    have hsz := digB_size D.toNat 2
    have hms := monB_size M
    have hf := fiveB_size Y.toNat
    have Hft := Lib.hid (fiveB_tail Y.toNat)
    have h5 := digB_size ((t % 86400) / 3600).toNat 2
    have h6 := digB_size ((t % 86400) % 3600 / 60).toNat 2
    have h7 := digB_size ((t % 86400) % 60).toNat 2
    rw [← Hft.out, show (t % 86400).toNat / 3600 = ((t % 86400) / 3600).toNat from by omega, show (t % 86400).toNat / 60 % 60 = ((t % 86400) % 3600 / 60).toNat from by omega, show (t % 86400).toNat % 60 = ((t % 86400) % 60).toNat from by omega] at hv
    by_cases h10 : D < 10
    · unfold dayB at hv
      rw [if_pos (by omega), ← Htl.out] at hv
      have Hv := Lib.hid hv; clear hv
      go_enter Tryd.func22, Tryd.ntmps22
      go_wp2_with (go_at_call 43; refine (Hc.out _).mono ?_; rintro e w' ⟨rfl, rfl⟩)
      refine (two_int D (by omega) (by omega) _ (Ht.out _ (Below.refl _ _))).mono ?_
      rintro e w1 ⟨rfl, hb1⟩
      generalize t % 86400 = S at *
      go_wp2
      have Ht1 : Hid (Lib.TabBelow Tryd.prog w1.heap.size w1 "internal/strconv.uint64pow10" .u64 Lib.pow10Tab) := fun w2 h2 => Ht.out _ (below_seq hb1 h2)
      refine wp_region_quiet_below (by kernel_rfl) (by kernel_rfl) ?_
      repeat (go_big_quiet_step (first | (go_at_call 49; exact Calls.regrown_of (month_below M m0 m1 _)) | (go_at_call 50; exact Calls.regrown_of (five_int Y (by omega) y1 _ (Ht1.out _ (below_regrown _ _ _)))) | (go_at_call 48; exact Calls.regrown_of (two_int _ (by omega) (by omega) _ (Ht1.out _ (below_regrown _ _ _))))))
      refine wpQuiet_nil ?_
      intro w2 hw2
      have hb2 : Below w1.heap.size w1 w2 := by
        obtain ⟨p, hw2⟩ := hw2
        rw [hw2]; exact below_regrown _ _ _
      clear hw2
      go_wp2
      go_ret
      exact ⟨ret_str (by rw [Hv.out]), below_seq hb1 hb2⟩
    · unfold dayB at hv
      rw [if_neg (by omega)] at hv
      have Hv := Lib.hid hv; clear hv
      go_enter Tryd.func22, Tryd.ntmps22
      go_wp2_with (go_at_call 43; refine (Hc.out _).mono ?_; rintro e w' ⟨rfl, rfl⟩)
      refine (two_int D (by omega) (by omega) _ (Ht.out _ (Below.refl _ _))).mono ?_
      rintro e w1 ⟨rfl, hb1⟩
      generalize t % 86400 = S at *
      go_wp2
      have Ht1 : Hid (Lib.TabBelow Tryd.prog w1.heap.size w1 "internal/strconv.uint64pow10" .u64 Lib.pow10Tab) := fun w2 h2 => Ht.out _ (below_seq hb1 h2)
      refine wp_region_quiet_below (by kernel_rfl) (by kernel_rfl) ?_
      repeat (go_big_quiet_step (first | (go_at_call 49; exact Calls.regrown_of (month_below M m0 m1 _)) | (go_at_call 50; exact Calls.regrown_of (five_int Y (by omega) y1 _ (Ht1.out _ (below_regrown _ _ _)))) | (go_at_call 48; exact Calls.regrown_of (two_int _ (by omega) (by omega) _ (Ht1.out _ (below_regrown _ _ _))))))
      refine wpQuiet_nil ?_
      intro w2 hw2
      have hb2 : Below w1.heap.size w1 w2 := by
        obtain ⟨p, hw2⟩ := hw2
        rw [hw2]; exact below_regrown _ _ _
      clear hw2
      go_wp2
      go_ret
      exact ⟨ret_str (by rw [Hv.out]), below_seq hb1 hb2⟩
end Go.Proofs.YtfnckkmnncdelaaDoor
