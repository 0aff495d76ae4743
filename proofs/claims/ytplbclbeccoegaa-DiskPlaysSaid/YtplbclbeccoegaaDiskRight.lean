/-
  Walks: names that files may have; a name in the reference.
-/
import Derived.Test.YtplbclbeccoegaaDiskMem
namespace Go.Proofs.Ytplbclbeccoegaa
open Go.RowKit Go.Maps
theorem rightC_cases (c : UInt8) : (rightC c = true ∧ ((97 ≤ (c.toNat : Int) ∧ (c.toNat : Int) ≤ 122) ∨ (48 ≤ (c.toNat : Int) ∧ (c.toNat : Int) ≤ 57) ∨ (c.toNat : Int) = 46)) ∨
    (rightC c = false ∧ ((c.toNat : Int) < 46 ∨ (c.toNat : Int) = 47 ∨ (58 ≤ (c.toNat : Int) ∧ (c.toNat : Int) < 97) ∨ 122 < (c.toNat : Int))) := by
  unfold rightC
  by_cases h1 : 97 ≤ c.toNat ∧ c.toNat ≤ 122
  · left; exact ⟨by simp [h1], .inl (by omega)⟩
  · by_cases h2 : 48 ≤ c.toNat ∧ c.toNat ≤ 57
    · left; exact ⟨by simp [h2], .inr (.inl (by omega))⟩
    · by_cases h3 : c.toNat = 46
      · left; exact ⟨by simp [h3], .inr (.inr (by omega))⟩
      · right
        refine ⟨?_, by omega⟩
        have e1 : (decide (97 ≤ c.toNat) && decide (c.toNat ≤ 122)) = false := by simp; omega
        have e2 : (decide (48 ≤ c.toNat) && decide (c.toNat ≤ 57)) = false := by simp; omega
        rw [e1, e2]; simp [h3]
theorem right_bad (s : ByteArray) (k : Nat) (h : k < s.size) (hc : rightC s[k] = false) : right s.data.toList = false := by
  unfold right
  have : s.data.toList.all rightC = false := by
    rw [List.all_eq_false]
    exact ⟨s[k], by rw [show s[k] = s.data.toList[k]'(by simpa using h) from rfl]; exact List.getElem_mem _, by simp [hc]⟩
  rw [this]; rfl
theorem right_good (s : ByteArray) (h : (s.data.toList.take s.size).all rightC = true) : right s.data.toList = (decide (1 ≤ s.size) && decide (s.size ≤ 40)) := by
  have e : s.data.toList.length = s.size := by simp
  rw [List.take_of_length_le (by omega)] at h
  unfold right
  rw [h, e]; rfl
theorem right_any (s : ByteArray) (hs : s.size ≤ 1000000000) (w : World) : Calls Try.prog 42 #[.string s] w fun e w' => e = .returned (.bool (right s.data.toList)) ∧ w' = w := by
  go_enter Try.func42, Try.ntmps42
  go_wp2
  go_loop [7] (fun i => ∃ k : Nat, i = .int .i64 k ∧ k ≤ s.size ∧ Hid ((s.data.toList.take k).all rightC = true)) (fun i => s.size - (intOf i).toNat)
  case atStart => exact ⟨0, rfl, by omega, rfl⟩
  case round =>
    obtain ⟨k, rfl, hk, hall⟩ := hrel
    by_cases hlt : k < s.size
    · rcases rightC_cases s[k] with ⟨hc, hn⟩ | ⟨hc, hn⟩
      · have Hc := Lib.hid hc
        clear hc
        rcases hn with ⟨hn, hn2⟩ | ⟨hn, hn2⟩ | hn
        all_goals
          go_wp2
          all_goals
            go_round
            case rel =>
              refine ⟨k + 1, by go_num, by omega, ?_⟩
              have h1 := hall.out
              show (s.data.toList.take (k + 1)).all rightC = true
              rw [take_snoc s k hlt]; simp only [List.all_append, h1, Bool.true_and, List.all_cons, List.all_nil, Bool.and_true]; exact Hc.out
            case measure => simp [intOf] <;> omega
      · have Hv := Lib.hid (right_bad s k hlt hc)
        clear hc
        have hm1 : ((s[k].toNat : Int) == 46) = false := by simp; omega
        have hm2 : ((s[k].toNat : Int) != 46) = true := by simp; omega
        rcases hn with hn | hn | ⟨hn, hn2⟩ | hn
        all_goals
          go_wp2
          all_goals
            go_ret
            exact ⟨by rw [Hv.out]; rfl, rfl⟩
    · obtain rfl : k = s.size := by omega
      have Hv := Lib.hid (right_good s hall.out)
      by_cases h1 : 1 ≤ s.size
      · by_cases h2 : s.size ≤ 40
        · go_wp2
          go_ret
          exact ⟨by rw [Hv.out]; simp [h1, h2] <;> omega, rfl⟩
        · go_wp2
          go_ret
          exact ⟨by rw [Hv.out]; simp [h1, h2] <;> omega, rfl⟩
      · go_wp2
        go_ret
        exact ⟨by rw [Hv.out]; simp [h1], rfl⟩
theorem refRight_any (s : ByteArray) (hs : s.size ≤ 1000000000) (w : World) : Calls Try.prog 29 #[.string s] w fun e w' => e = .returned (.bool (right s.data.toList)) ∧ w' = w := by
  go_enter Try.func29, Try.ntmps29
  go_wp2
  go_loop [7] (fun i => ∃ k : Nat, i = .int .i64 k ∧ k ≤ s.size ∧ Hid ((s.data.toList.take k).all rightC = true)) (fun i => s.size - (intOf i).toNat)
  case atStart => exact ⟨0, rfl, by omega, rfl⟩
  case round =>
    obtain ⟨k, rfl, hk, hall⟩ := hrel
    by_cases hlt : k < s.size
    · have he : ((s[k].toNat : Int) = 46 ∧ ((s[k].toNat : Int) == 46) = true) ∨ ((s[k].toNat : Int) ≠ 46 ∧ ((s[k].toNat : Int) == 46) = false) := by
        by_cases h : (s[k].toNat : Int) = 46
        · exact .inl ⟨h, by rw [h]; rfl⟩
        · exact .inr ⟨h, by simpa using h⟩
      rcases rightC_cases s[k] with ⟨hc, hn⟩ | ⟨hc, hn⟩
      · have Hc := Lib.hid hc
        clear hc
        rcases he with ⟨he, he'⟩ | ⟨he, he'⟩
        all_goals rcases hn with ⟨hn, hn2⟩ | ⟨hn, hn2⟩ | hn
        all_goals first | (exfalso; omega) | skip
        all_goals
          clear he
          go_wp2
          all_goals
            go_round
            case rel =>
              refine ⟨k + 1, by go_num, by omega, ?_⟩
              have h1 := hall.out
              show (s.data.toList.take (k + 1)).all rightC = true
              rw [take_snoc s k hlt]; simp only [List.all_append, h1, Bool.true_and, List.all_cons, List.all_nil, Bool.and_true]; exact Hc.out
            case measure => simp [intOf] <;> omega
      · have Hv := Lib.hid (right_bad s k hlt hc)
        clear hc
        rcases he with ⟨he, he'⟩ | ⟨he, he'⟩
        all_goals rcases hn with hn | hn | ⟨hn, hn2⟩ | hn
        all_goals first | (exfalso; omega) | skip
        all_goals
          clear he
          go_wp2
          all_goals first | (go_ret; exact ⟨by rw [Hv.out]; rfl, rfl⟩) | (exfalso; rename_i h; simp at h; omega)
    · obtain rfl : k = s.size := by omega
      have Hv := Lib.hid (right_good s hall.out)
      by_cases h1 : 1 ≤ s.size
      · by_cases h2 : s.size ≤ 40
        · go_wp2
          go_ret
          exact ⟨by rw [Hv.out]; simp [h1, h2] <;> omega, rfl⟩
        · go_wp2
          go_ret
          exact ⟨by rw [Hv.out]; simp [h1, h2] <;> omega, rfl⟩
      · go_wp2
        go_ret
        exact ⟨by rw [Hv.out]; simp [h1], rfl⟩
end Go.Proofs.Ytplbclbeccoegaa
