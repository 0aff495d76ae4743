/-
  Walks of the document's answer for a number's text: number and one.
-/
import Derived.Test.YtfnckkmnncdelaaDoorSeqLaw2
import Derived.Test.YtfnckkmnncdelaaDoorChecked
namespace Go.Proofs.YtfnckkmnncdelaaDoor
open Go.RowKit
theorem decN_lt : ∀ (n : Nat) (l : List UInt8), l.length = n → l.all dgB = true → decN l < 10 ^ n := by
  intro n
  induction n with
  | zero => intro l hl _; have := List.eq_nil_of_length_eq_zero hl; subst this; decide
  | succ n ih =>
    intro l hl ha
    obtain ⟨l', c, rfl⟩ := last_split (l := l) (by intro e; subst e; simp at hl)
    simp only [List.all_append, List.all_cons, List.all_nil, Bool.and_true, Bool.and_eq_true] at ha
    have h1 := ih l' (by simpa using hl) ha.1
    have h2 := (dgB_iff c).1 ha.2
    rw [decN_snoc, Nat.pow_succ]
    omega
def numI (l : List UInt8) : Int := if l.all dgB = true then (decN l : Int) else -1
theorem numI_bad (s : ByteArray) (k : Nat) (h : k < s.size) (hd : dgB s[k] = false) : numI s.data.toList = -1 := by
  unfold numI
  rw [if_neg]
  intro ha
  have := List.all_eq_true.1 ha s[k] (by simp [ByteArray.getElem_eq_getElem_data])
  rw [hd] at this; cases this
theorem all_take1 (s : ByteArray) (k : Nat) (h : k < s.size) (ha : (s.data.toList.take k).all dgB = true) (hd : dgB s[k] = true) : (s.data.toList.take (k + 1)).all dgB = true := by
  rw [take_snoc s k h, List.all_append, ha]; simp [hd]
set_option maxHeartbeats 1600000 in
theorem refNum_any (s : ByteArray) (hs : s.size ≤ 10) (w : World) :
    Calls Tryd.prog 45 #[.string s] w fun e w' => e = .returned (.int .i64 (numI s.data.toList)) ∧ w' = w := by
  go_enter Tryd.func45, Tryd.ntmps45
  go_wp2
  go_loop [3, 7] (fun n i => ∃ (k v : Nat), n = .int .i64 v ∧ v ≤ 9999999999 ∧ i = .int .i64 k ∧ k ≤ s.size ∧ Hid (v = decN (s.data.toList.take k)) ∧ Hid ((s.data.toList.take k).all dgB = true)) (fun _ i => s.size - (intOf i).toNat)
  case atStart => exact ⟨0, 0, rfl, by omega, rfl, by omega, rfl, rfl⟩
  case round =>
    obtain ⟨k, v, rfl, hv1, rfl, hk, hv, ha⟩ := hrel
    by_cases hlt : k < s.size
    · have hb := s[k].toNat_lt
      have hse := take_snoc s k hlt
      have Hse := Lib.hid hse; clear hse
      rcases Bool.eq_false_or_eq_true (dgB s[k]) with hd | hd
      · have ha' := all_take1 s k hlt ha.out hd
        have Ha := Lib.hid ha'; clear ha'
        have hbd := decN_lt (k + 1) (s.data.toList.take (k + 1)) (by simp; have : s.data.size = s.size := rfl; omega) Ha.out
        have hp : 10 ^ (k + 1) ≤ 10000000000 := Nat.pow_le_pow_right (n := 10) (by omega) (show k + 1 ≤ 10 by omega)
        rw [Hse.out, decN_snoc, ← hv.out] at hbd
        have hv2 : v * 10 + (s[k].toNat - 48) ≤ 9999999999 := by omega
        clear hbd hp
        obtain ⟨d1, d2⟩ := (dgB_iff _).1 hd
        clear hd
        go_wp2
        go_round
        case rel => exact ⟨k + 1, v * 10 + (s[k].toNat - 48), by go_num, hv2, by go_num, by omega, by show _ = _; rw [Hse.out, decN_snoc, ← hv.out], Ha.out⟩
        case measure => simp [intOf] <;> omega
      · have Hn := Lib.hid (numI_bad s k hlt hd)
        have hd' : (s[k].toNat : Int) < 48 ∨ 57 < (s[k].toNat : Int) := by
          rcases Nat.lt_or_ge s[k].toNat 48 with h | h
          · exact .inl (by omega)
          · refine .inr ?_
            rcases Nat.lt_or_ge 57 s[k].toNat with h' | h'
            · omega
            · rw [(dgB_iff _).2 ⟨h, h'⟩] at hd; cases hd
        clear hd
        rcases hd' with hd | hd
        all_goals
          go_wp2
          go_ret
          exact ⟨ret_int Hn.out.symm, rfl⟩
    · obtain rfl : k = s.size := by omega
      have hf : numI s.data.toList = v := by
        have h1 := ha.out
        have h2 := hv.out
        rw [List.take_of_length_le (show s.data.toList.length ≤ s.size from Nat.le_refl _)] at h1 h2
        unfold numI; rw [if_pos h1, h2]
      have Hf := Lib.hid hf; clear hf
      clear hv ha
      go_wp2
      go_ret
      exact ⟨ret_int Hf.out.symm, rfl⟩
/-- what one answers -/
def oneV (l : List UInt8) : Nat := if oneOk l = true then numVal l else 0
set_option maxHeartbeats 1600000 in
theorem refOne_any (s : ByteArray) (hs : s.size ≤ 2000) (w : World) :
    Calls Tryd.prog 55 #[.string s] w fun e w' => e = .returned (.tuple #[.int .u32 (oneV s.data.toList : Nat), .bool (oneOk s.data.toList)]) ∧ w' = w := by
  by_cases hst : s = ⟨#[42]⟩
  · subst hst
    go_enter Tryd.func55, Tryd.ntmps55
    go_wp2
    go_ret2
    exact ⟨rfl, rfl⟩
  have hsl : (s.toList == [42]) = false := by
    rw [beq_eq_false_iff_ne]; intro e
    apply hst
    rw [Lib.toList_data] at e
    exact ByteArray.ext (Array.ext' e)
  have hdl : s.data.toList.length = s.size := rfl
  have h42 : (s.data.toList == [42]) = false := by rw [← Lib.toList_data]; exact hsl
  by_cases hlen : s.size < 1
  · have h1 : oneOk s.data.toList = false := by
      unfold oneOk; rw [h42, hdl]; simp; intro h; omega
    have H : Hid (oneV s.data.toList = 0 ∧ oneOk s.data.toList = false) := ⟨by unfold oneV; rw [h1]; rfl, h1⟩
    clear h1 h42 hdl hst
    go_enter Tryd.func55, Tryd.ntmps55
    go_wp2
    go_ret2
    rw [H.out.1, H.out.2]
    exact ⟨rfl, rfl⟩
  by_cases hlen2 : 10 < s.size
  · have h1 : oneOk s.data.toList = false := by
      unfold oneOk; rw [h42, hdl]; simp; intro h; omega
    have H : Hid (oneV s.data.toList = 0 ∧ oneOk s.data.toList = false) := ⟨by unfold oneV; rw [h1]; rfl, h1⟩
    clear h1 h42 hdl hst
    go_enter Tryd.func55, Tryd.ntmps55
    go_wp2
    go_ret2
    rw [H.out.1, H.out.2]
    exact ⟨rfl, rfl⟩
  have hp : 0 < s.size := by omega
  have hhd : s.data.toList.head? = some (s[0]'hp) := by
    cases hl : s.data.toList with
    | nil => rw [hl] at hdl; simp at hdl; omega
    | cons a l =>
      have e : s.data.toList[0]'(by rw [hl]; simp) = s[0]'hp := rfl
      rw [← e]; simp [hl]
  by_cases h0 : (s[0]'hp) = 48
  · have h1 : oneOk s.data.toList = false := by
      unfold oneOk; rw [h42, hhd, h0]; simp
    have H : Hid (oneV s.data.toList = 0 ∧ oneOk s.data.toList = false) := ⟨by unfold oneV; rw [h1]; rfl, h1⟩
    have h0' : (((s[0]'hp).toNat : Int) == 48) = true := by rw [h0]; rfl
    clear h1 h42 hdl hst hhd h0
    go_enter Tryd.func55, Tryd.ntmps55
    go_wp2
    go_ret2
    rw [H.out.1, H.out.2]
    exact ⟨rfl, rfl⟩
  have h0' : (((s[0]'hp).toNat : Int) == 48) = false := by
    rw [beq_eq_false_iff_ne]; intro e
    exact h0 (UInt8.toNat_inj.1 (by rw [show (48 : UInt8).toNat = 48 from rfl]; omega))
  have hn := refNum_any s (by omega)
  have hv : Hid (oneOk s.data.toList = (decide (1 ≤ numI s.data.toList) && decide (numI s.data.toList ≤ 4294967295)) ∧ oneV s.data.toList = if 1 ≤ numI s.data.toList ∧ numI s.data.toList ≤ 4294967295 then (numI s.data.toList).toNat else 0) := by
    have e1 : oneOk s.data.toList = (decide (1 ≤ numI s.data.toList) && decide (numI s.data.toList ≤ 4294967295)) := by
      unfold oneOk numI
      rw [h42, hdl, hhd]
      have : ¬ (s[0]'hp) = 48 := h0
      by_cases ha : s.data.toList.all dgB = true
      · rw [if_pos ha, ha]
        rw [Bool.eq_iff_iff]
        simp [this]
        omega
      · rw [if_neg ha]
        simp [ha]
    refine ⟨e1, ?_⟩
    unfold oneV
    rw [e1]
    by_cases ha : s.data.toList.all dgB = true
    · have e2 : numI s.data.toList = decN s.data.toList := by unfold numI; rw [if_pos ha]
      have e3 : numVal s.data.toList = decN s.data.toList := by
        unfold numVal; rw [if_neg]; intro e; rw [e] at h42; cases h42
      rw [e2, e3]
      by_cases h1 : 1 ≤ (decN s.data.toList : Int) ∧ (decN s.data.toList : Int) ≤ 4294967295
      · rw [if_pos h1, if_pos (by simp [h1])]; simp
      · rw [if_neg h1, if_neg (by simpa using h1)]
    · have e2 : numI s.data.toList = -1 := by unfold numI; rw [if_neg ha]
      rw [e2]; simp
  clear h42 hdl hst hhd h0
  generalize numI s.data.toList = v at hn hv
  by_cases h1 : v < 1
  · have H : Hid (oneV s.data.toList = 0 ∧ oneOk s.data.toList = false) := by
      obtain ⟨e1, e2⟩ := hv.out
      exact ⟨by rw [e2, if_neg (by omega)], by rw [e1]; simp; omega⟩
    clear hv
    go_enter Tryd.func55, Tryd.ntmps55
    go_wp2_with (go_at_call 45; refine (hn _).mono ?_; rintro e w1 ⟨rfl, rfl⟩)
    go_ret2
    rw [H.out.1, H.out.2]
    exact ⟨rfl, rfl⟩
  by_cases h2 : 4294967295 < v
  · have H : Hid (oneV s.data.toList = 0 ∧ oneOk s.data.toList = false) := by
      obtain ⟨e1, e2⟩ := hv.out
      exact ⟨by rw [e2, if_neg (by omega)], by rw [e1]; simp; omega⟩
    clear hv
    go_enter Tryd.func55, Tryd.ntmps55
    go_wp2_with (go_at_call 45; refine (hn _).mono ?_; rintro e w1 ⟨rfl, rfl⟩)
    go_ret2
    rw [H.out.1, H.out.2]
    exact ⟨rfl, rfl⟩
  · have H : Hid ((oneV s.data.toList : Int) = v ∧ oneOk s.data.toList = true) := by
      obtain ⟨e1, e2⟩ := hv.out
      exact ⟨by rw [e2, if_pos (by omega)]; omega, by rw [e1]; simp; omega⟩
    clear hv
    go_enter Tryd.func55, Tryd.ntmps55
    go_wp2_with (go_at_call 45; refine (hn _).mono ?_; rintro e w1 ⟨rfl, rfl⟩)
    go_ret2
    rw [H.out.1, H.out.2]
    exact ⟨rfl, rfl⟩
end Go.Proofs.YtfnckkmnncdelaaDoor
