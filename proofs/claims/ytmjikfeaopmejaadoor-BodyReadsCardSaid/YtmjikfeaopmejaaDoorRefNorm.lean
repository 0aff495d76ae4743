/-
  cubbyref06.small, Alike, Norm, walked.
-/
import Derived.Test.YtmjikfeaopmejaaDoorNorm
namespace Go.Proofs.YtmjikfeaopmejaaDoor
open Go.RowKit
def smallI (c : Int) : Int := if 65 ≤ c ∧ c ≤ 90 then c + 32 else c
theorem smallI_lo (c : Int) (h : 0 ≤ c) : 0 ≤ smallI c := by unfold smallI; split <;> omega
theorem smallI_hi (c : Int) (h : c ≤ 255) : smallI c ≤ 255 := by unfold smallI; split <;> omega
set_option maxHeartbeats 400000 in
theorem small_any (c : Int) (h0 : 0 ≤ c) (h1 : c ≤ 255) (w : World) :
    Calls Tryd.prog 34 #[.int .u8 c] w fun e w' => e = .returned (.int .u8 (smallI c)) ∧ w' = w := by
  go_enter Tryd.func34, Tryd.ntmps34
  go_wp2
  all_goals go_ret
  all_goals exact ⟨ret_int (by unfold smallI; split <;> omega), rfl⟩
def smallB (c : UInt8) : Int := smallI (c.toNat : Int)
def alikeL (a b : List UInt8) : Bool := a.map smallB == b.map smallB
theorem map_take_snoc (s : ByteArray) (k : Nat) (h : k < s.size) (f : UInt8 → Int) : (s.data.toList.take (k + 1)).map f = (s.data.toList.take k).map f ++ [f s[k]] := by
  rw [take_snoc s k h]; simp
theorem alike_diff (a b : ByteArray) (k : Nat) (h : k < a.size) (h' : k < b.size) (hne : smallB a[k] ≠ smallB b[k]) : alikeL a.data.toList b.data.toList = false := by
  unfold alikeL
  rw [beq_eq_false_iff_ne]
  intro e
  have := congrArg (fun l => l[k]?) e
  simp only [List.getElem?_map, List.getElem?_eq_getElem (l := a.data.toList) (i := k) (by simpa using h), List.getElem?_eq_getElem (l := b.data.toList) (i := k) (by simpa using h')] at this
  simp at this; exact hne this
set_option maxHeartbeats 400000 in
theorem alike_any (a b : ByteArray) (ha : a.size ≤ 9223372036854775807) (_hb : b.size ≤ 9223372036854775807) (w : World) :
    Calls Tryd.prog 35 #[.string a, .string b] w fun e w' => e = .returned (.bool (alikeL a.data.toList b.data.toList)) ∧ ∃ n, w' = w.drewN n := by
  by_cases hl : a.size = b.size
  · go_enter Tryd.func35, Tryd.ntmps35
    have hl' : ((a.size : Int) != (b.size : Int)) = false := by simp [hl]
    have HL := Lib.hid hl; clear hl
    go_wp2
    go_loopw [13] (fun i wr => ∃ (k n : Nat), i = .int .i64 k ∧ k ≤ a.size ∧ Hid ((a.data.toList.take k).map smallB = (b.data.toList.take k).map smallB) ∧ Hid (wr = w.drewN n)) (fun i _ => a.size - (intOf i).toNat)
    case atStart => exact ⟨0, 0, rfl, by omega, rfl, rfl⟩
    case round =>
      obtain ⟨k, n, rfl, hk, hm, hw⟩ := hrel
      by_cases hlt : k < a.size
      · have hlb : k < b.size := by have := HL.out; omega
        have a0 := smallI_lo (a[k].toNat : Int) (by omega)
        rcases Bool.eq_false_or_eq_true (smallI (a[k].toNat : Int) != smallI (b[k].toNat : Int)) with he | he
        · have Hf := Lib.hid (alike_diff a b k hlt hlb (by simpa [smallB] using he))
          go_wp2
          go_quiet ((go_at_call 34; exact Calls.quiet_of_same (small_any _ (by omega) (by first | (have := a[k].toNat_lt; omega) | (have := b[k].toNat_lt; omega)) _)))
          go_wp2
          go_ret
          exact ⟨ret_bool Hf.out.symm, _, by rw [hw.out, World.drewN_drewN]⟩
        · go_wp2
          go_quiet ((go_at_call 34; exact Calls.quiet_of_same (small_any _ (by omega) (by first | (have := a[k].toNat_lt; omega) | (have := b[k].toNat_lt; omega)) _)))
          go_wp2
          go_roundw
          case rel =>
            refine ⟨k + 1, _, by go_num, by omega, ?_, by show _ = _; rw [hw.out, World.drewN_drewN]⟩
            show List.map smallB _ = List.map smallB _
            rw [map_take_snoc a k hlt, map_take_snoc b k hlb, hm.out]
            congr 2
            simpa [smallB] using he
          case measure => simp [intOf] <;> omega
      · obtain rfl : k = a.size := by omega
        go_wp2
        go_ret
        refine ⟨ret_bool ?_, _, hw.out⟩
        have h1 := hm.out
        rw [toList_take a _ rfl, toList_take b _ HL.out] at h1
        unfold alikeL
        simp [h1]
  · have hl' : ((a.size : Int) != (b.size : Int)) = true := by simp; omega
    have Hf : Hid (alikeL a.data.toList b.data.toList = false) := by
      show alikeL _ _ = false
      unfold alikeL
      rw [beq_eq_false_iff_ne]
      intro e
      have := congrArg List.length e
      simp at this
      exact hl this
    clear hl
    go_enter Tryd.func35, Tryd.ntmps35
    go_wp2
    go_ret
    exact ⟨ret_bool Hf.out.symm, 0, rfl⟩
/-- the reference's scan: at a part's beginning, or inside one -/
def nameScan : Bool → List UInt8 → Bool
  | st, [] => !st
  | st, c :: l => if c = 47 then !st && nameScan true l else plainB c && nameScan false l
def refNormV (s : ByteArray) : ByteArray × Bool :=
  if nameScan true s.data.toList && decide (s.size ≤ 60) then (if alikeL s.data.toList [105, 110, 98, 111, 120] = true then (inboxS, true) else (s, true)) else (⟨#[]⟩, false)
theorem scan_slash (st : Bool) (c : UInt8) (l : List UInt8) (h : c = 47) : nameScan st (c :: l) = (!st && nameScan true l) := by rw [nameScan, if_pos h]
theorem scan_other (st : Bool) (c : UInt8) (l : List UInt8) (h : c ≠ 47) : nameScan st (c :: l) = (plainB c && nameScan false l) := by rw [nameScan, if_neg h]
theorem drop_cons (p : ByteArray) (i : Nat) (h : i < p.size) : p.data.toList.drop i = p[i] :: p.data.toList.drop (i + 1) := by
  rw [List.drop_eq_getElem_cons (by simpa using h)]; rfl
theorem u8_of_int (c : UInt8) (n : Nat) (hn : n < 256) (h : (c.toNat : Int) = n) : c = UInt8.ofNat n := by
  apply UInt8.toNat_inj.1; simp; omega
set_option maxHeartbeats 1000000 in
theorem refNorm_any (s : ByteArray) (hs : s.size ≤ 9223372036854775807) (w : World) :
    Calls Tryd.prog 30 #[.string s] w fun e w' => e = .returned (.tuple #[.string (refNormV s).1, .bool (refNormV s).2]) ∧ ∃ n, w' = w.drewN n := by
  go_enter Tryd.func30, Tryd.ntmps30
  go_wp2
  go_loop [4, 9] (fun last i => ∃ (k : Nat) (c : Int), last = .int .u8 c ∧ 0 ≤ c ∧ c ≤ 255 ∧ i = .int .i64 k ∧ k ≤ s.size ∧ Hid (nameScan true s.data.toList = nameScan (c == 47) (s.data.toList.drop k))) (fun _ i => s.size - (intOf i).toNat)
  case atStart => exact ⟨0, 47, rfl, by omega, by omega, rfl, by omega, rfl⟩
  case round =>
    obtain ⟨k, c, rfl, hc0, hc1, rfl, hk, hsc⟩ := hrel
    by_cases hlt : k < s.size
    · have hb := s[k].toNat_lt
      have hd := drop_cons s k hlt
      have Hd := Lib.hid hd; clear hd
      rcases Bool.eq_false_or_eq_true ((s[k].toNat : Int) == 47) with h47 | h47
      · rcases Bool.eq_false_or_eq_true (c == 47) with hl | hl
        · have hv : refNormV s = (⟨#[]⟩, false) := by
            unfold refNormV
            rw [hsc.out, Hd.out, scan_slash _ _ _ (u8_of_int _ 47 (by omega) (by simpa using h47)), hl]; rfl
          have Hv := Lib.hid hv; clear hv
          go_wp2
          go_ret2
          exact ⟨by rw [Hv.out]; rfl, 0, rfl⟩
        · have hv : nameScan true s.data.toList = nameScan true (s.data.toList.drop (k + 1)) := by
            rw [hsc.out, Hd.out, scan_slash _ _ _ (u8_of_int _ 47 (by omega) (by simpa using h47)), hl]; rfl
          have Hv := Lib.hid hv; clear hv
          have h47' : ((s[k].toNat : Int) != 47) = false := by rw [bne, h47]; rfl
          go_wp2
          go_round
          case rel => exact ⟨k + 1, _, rfl, by omega, by omega, by go_num, by omega, Hv.out.trans (by congr 1; first | rfl | (exact h47.symm))⟩
          case measure => simp [intOf] <;> omega
      · have hs47 : s[k] ≠ 47 := fun e => by rw [e] at h47; exact absurd h47 (by decide)
        have h47' : ((s[k].toNat : Int) != 47) = true := by rw [bne, h47]; rfl
        have Kg : Hid (plainB s[k] = true → nameScan true s.data.toList = nameScan false (s.data.toList.drop (k + 1))) := fun hp => by
          rw [hsc.out, Hd.out, scan_other _ _ _ hs47, hp]; rfl
        have Kb : Hid (plainB s[k] = false → refNormV s = (⟨#[]⟩, false)) := fun hp => by
          unfold refNormV
          rw [hsc.out, Hd.out, scan_other _ _ _ hs47, hp]; rfl
        unfold plainB at Kg Kb
        clear hs47 Hd
        have key : (plainI (s[k].toNat : Int) = true ∧ (
             (((s[k].toNat : Int) != 46) = false) ∨ (((s[k].toNat : Int) != 46) = true ∧ ((s[k].toNat : Int) != 95) = false) ∨ (((s[k].toNat : Int) != 46) = true ∧ ((s[k].toNat : Int) != 95) = true ∧ ((s[k].toNat : Int) != 45) = false) ∨
             (((s[k].toNat : Int) != 46) = true ∧ ((s[k].toNat : Int) != 95) = true ∧ ((s[k].toNat : Int) != 45) = true ∧ 48 ≤ (s[k].toNat : Int) ∧ (s[k].toNat : Int) ≤ 57) ∨
             (((s[k].toNat : Int) != 46) = true ∧ ((s[k].toNat : Int) != 95) = true ∧ ((s[k].toNat : Int) != 45) = true ∧ (s[k].toNat : Int) < 48 ∧ 97 ≤ smallI (s[k].toNat : Int) ∧ smallI (s[k].toNat : Int) ≤ 122) ∨
             (((s[k].toNat : Int) != 46) = true ∧ ((s[k].toNat : Int) != 95) = true ∧ ((s[k].toNat : Int) != 45) = true ∧ 57 < (s[k].toNat : Int) ∧ 97 ≤ smallI (s[k].toNat : Int) ∧ smallI (s[k].toNat : Int) ≤ 122))) ∨
            (plainI (s[k].toNat : Int) = false ∧ ((s[k].toNat : Int) != 46) = true ∧ ((s[k].toNat : Int) != 95) = true ∧ ((s[k].toNat : Int) != 45) = true ∧ ((s[k].toNat : Int) < 48 ∨ 57 < (s[k].toNat : Int)) ∧ (smallI (s[k].toNat : Int) < 97 ∨ 122 < smallI (s[k].toNat : Int))) := by
          unfold plainI smallI; simp only [bne_iff_ne, bne_eq_false_iff_eq, decide_eq_true_eq, decide_eq_false_iff_not]
          split <;> omega
        rcases key with ⟨hp, hk⟩ | ⟨hp, k1, k2, k3, hk, hk2⟩
        · have hv := Kg.out hp
          have Hv := Lib.hid hv; clear hv Kg Kb
          have Hp := Lib.hid hp; clear hp
          rcases hk with k1 | ⟨k1, k2⟩ | ⟨k1, k2, k3⟩ | ⟨k1, k2, k3, k4, k5⟩ | ⟨k1, k2, k3, k4, k5, k6⟩ | ⟨k1, k2, k3, k4, k5, k6⟩
          all_goals
            go_wp2_with (go_at_call 34; refine (small_any _ (by omega) (by omega) _).mono ?_; rintro e w' ⟨rfl, rfl⟩)
          all_goals
            go_round
            case rel => exact ⟨k + 1, _, rfl, by omega, by omega, by go_num, by omega, Hv.out.trans (by congr 1; first | rfl | (exact h47.symm))⟩
            case measure => simp [intOf] <;> omega
        · have hv := Kb.out hp
          have Hv := Lib.hid hv; clear hv Kg Kb
          have Hp := Lib.hid hp; clear hp
          have hk4 : ((s[k].toNat : Int) < 48 ∧ decide (48 ≤ (s[k].toNat : Int)) = false) ∨ (57 < (s[k].toNat : Int) ∧ decide ((s[k].toNat : Int) ≤ 57) = false) := by simp only [decide_eq_false_iff_not]; omega
          have hk5 : (smallI (s[k].toNat : Int) < 97 ∧ decide (97 ≤ smallI (s[k].toNat : Int)) = false) ∨ (122 < smallI (s[k].toNat : Int) ∧ decide (smallI (s[k].toNat : Int) ≤ 122) = false) := by simp only [decide_eq_false_iff_not]; omega
          clear hk hk2
          rcases hk4 with ⟨k4, k6⟩ | ⟨k4, k6⟩ <;> rcases hk5 with ⟨k5, k7⟩ | ⟨k5, k7⟩
          all_goals
            go_wp2_with (go_at_call 34; refine (small_any _ (by omega) (by omega) _).mono ?_; rintro e w' ⟨rfl, rfl⟩)
          all_goals
            go_ret2
            exact ⟨by rw [Hv.out]; rfl, 0, rfl⟩
    · obtain rfl : k = s.size := by omega
      have hnil : s.data.toList.drop s.size = [] := List.drop_eq_nil_of_le (by simp)
      have hsc' := hsc.out
      rw [hnil] at hsc'
      clear hsc hnil
      rcases Bool.eq_false_or_eq_true (c == 47) with hl | hl
      · have hv : refNormV s = (⟨#[]⟩, false) := by
          unfold refNormV
          rw [hsc', hl]; rfl
        have Hv := Lib.hid hv; clear hv hsc'
        go_wp2
        go_ret2
        exact ⟨by rw [Hv.out]; rfl, 0, rfl⟩
      · by_cases h60 : 60 < s.size
        · have hv : refNormV s = (⟨#[]⟩, false) := by
            unfold refNormV
            rw [hsc', hl, show decide (s.size ≤ 60) = false from by simp; omega]; rfl
          have Hv := Lib.hid hv; clear hv hsc'
          go_wp2
          go_ret2
          exact ⟨by rw [Hv.out]; rfl, 0, rfl⟩
        · have hok : (nameScan true s.data.toList && decide (s.size ≤ 60)) = true := by
            rw [hsc', hl, show decide (s.size ≤ 60) = true from by simp; omega]; rfl
          have Hok := Lib.hid hok; clear hok hsc'
          rcases Bool.eq_false_or_eq_true (alikeL s.data.toList [105, 110, 98, 111, 120]) with ha | ha
          · have Hv : Hid (refNormV s = (inboxS, true)) := by show refNormV s = _; unfold refNormV; rw [Hok.out, if_pos rfl, if_pos ha]
            go_wp2_with fail
            refine (alike_any s ⟨#[105, 110, 98, 111, 120]⟩ (by omega) (by decide) _).mono ?_
            rintro e w1 ⟨rfl, n, hw1⟩
            have Hw := Lib.hid hw1; clear hw1
            rw [ha]
            have Ha := Lib.hid ha; clear ha
            go_wp2
            go_ret2
            exact ⟨by rw [Hv.out]; rfl, n, Hw.out⟩
          · have Hv : Hid (refNormV s = (s, true)) := by show refNormV s = _; unfold refNormV; rw [Hok.out, if_pos rfl, if_neg (by rw [ha]; decide)]
            go_wp2_with fail
            refine (alike_any s ⟨#[105, 110, 98, 111, 120]⟩ (by omega) (by decide) _).mono ?_
            rintro e w1 ⟨rfl, n, hw1⟩
            have Hw := Lib.hid hw1; clear hw1
            rw [ha]
            have Ha := Lib.hid ha; clear ha
            go_wp2
            go_ret2
            exact ⟨by rw [Hv.out]; rfl, n, Hw.out⟩
end Go.Proofs.YtmjikfeaopmejaaDoor
