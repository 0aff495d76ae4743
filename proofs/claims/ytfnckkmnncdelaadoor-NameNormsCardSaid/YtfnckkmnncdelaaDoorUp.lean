/-
  name.Up and cubbyref06.Up, walked: what stands ahead of the last slash.
-/
import Derived.Test.YtfnckkmnncdelaaDoorText
import Derived.Test.YtfnckkmnncdelaaDoorShelf
namespace Go.Proofs.YtfnckkmnncdelaaDoor
open Go.RowKit
def lastSlash (s : ByteArray) : Int := Lib.lastIndexByte s 47
def upV (s : ByteArray) : ByteArray := if lastSlash s < 0 then ⟨#[]⟩ else s.extract 0 (lastSlash s).toNat
theorem lastSlash_hi (s : ByteArray) : lastSlash s < s.size ∧ -1 ≤ lastSlash s := by
  unfold lastSlash
  rcases Lib.lastIndexByte_spec s 47 with ⟨h, _⟩ | ⟨i, hi, h, _⟩ <;> rw [h] <;> omega
theorem get_bang (s : ByteArray) (j : Nat) (h : j < s.size) : s.data[j]! = s[j] := by
  rw [getElem!_pos s.data j (by simpa using h)]; rfl
theorem lastSlash_none (s : ByteArray) (h : ∀ j, j < s.size → ¬ ((bat s j).toNat : Int) = 47) : lastSlash s = -1 := by
  unfold lastSlash
  rcases Lib.lastIndexByte_spec s 47 with ⟨e, _⟩ | ⟨i, hi, e, h47, _⟩
  · exact e
  · rw [get_bang s i hi, ← bat_eq s i hi] at h47
    exact absurd h47 (h i hi)
theorem lastSlash_at (s : ByteArray) (k : Nat) (hk : k < s.size) (hk47 : ((bat s k).toNat : Int) = 47) (h : ∀ j, k < j → j < s.size → ¬ ((bat s j).toNat : Int) = 47) : lastSlash s = k := by
  unfold lastSlash
  rcases Lib.lastIndexByte_spec s 47 with ⟨e, hn⟩ | ⟨i, hi, e, h47, hn⟩
  · have := hn k hk
    rw [get_bang s k hk, ← bat_eq s k hk] at this
    exact absurd hk47 this
  · rw [get_bang s i hi, ← bat_eq s i hi] at h47
    rcases Nat.lt_trichotomy i k with hlt | heq | hgt
    · have := hn k hlt hk
      rw [get_bang s k hk, ← bat_eq s k hk] at this
      exact absurd hk47 this
    · rw [e, heq]
    · exact absurd h47 (h i hgt hi)
set_option maxHeartbeats 400000 in
theorem up_any (s : ByteArray) (hs : s.size ≤ 1000) (w : World) :
    Calls Tryd.prog 17 #[.string s] w fun e w' => e = .returned (.string (upV s)) ∧ w' = w := by
  have c := Tryd.strings_LastIndex_one s ⟨#[47]⟩ (by decide) (by omega) w
  have e1 : Lib.lastIndexByte s (((⟨#[47]⟩ : ByteArray)[0]'(by decide)).toNat : Int) = lastSlash s := rfl
  rw [e1] at c
  have h1 := lastSlash_hi s
  have hv : Hid (upV s = if lastSlash s < 0 then ⟨#[]⟩ else s.extract 0 (lastSlash s).toNat) := rfl
  generalize lastSlash s = L at *
  obtain ⟨h1, h2⟩ := h1
  have C := Lib.hid c; clear c e1
  by_cases hL : L < 0
  · go_enter Tryd.func17, Tryd.ntmps17
    go_wp2_with fail
    refine C.out.mono ?_
    rintro e w1 ⟨rfl, rfl⟩
    go_wp2
    go_ret
    exact ⟨by rw [hv.out, if_pos hL]; rfl, rfl⟩
  · go_enter Tryd.func17, Tryd.ntmps17
    go_wp2_with fail
    refine C.out.mono ?_
    rintro e w1 ⟨rfl, rfl⟩
    go_wp2
    go_ret
    exact ⟨by rw [hv.out, if_neg (by omega)]; rfl, rfl⟩
set_option maxHeartbeats 400000 in
theorem refUp_any (s : ByteArray) (hs : s.size ≤ 1000) (w : World) :
    Calls Tryd.prog 18 #[.string s] w fun e w' => e = .returned (.string (upV s)) ∧ w' = w := by
  go_enter Tryd.func18, Tryd.ntmps18
  go_wp2
  go_loop [3] (fun i => ∃ k : Nat, i = .int .i64 ((k : Int) - 1) ∧ k ≤ s.size ∧ Hid (∀ j, k ≤ j → j < s.size → ¬ ((bat s j).toNat : Int) = 47)) (fun i => (intOf i + 1).toNat)
  case atStart => exact ⟨s.size, rfl, by omega, fun j h1 h2 => by omega⟩
  case round =>
    obtain ⟨k, rfl, hk, hn⟩ := hrel
    by_cases h0 : k = 0
    · subst h0
      have hv : upV s = ⟨#[]⟩ := by unfold upV; rw [lastSlash_none s (fun j h => hn.out j (by omega) h)]; rfl
      have Hv := Lib.hid hv; clear hv
      go_wp2
      go_ret
      exact ⟨by rw [Hv.out]; rfl, rfl⟩
    · obtain ⟨q, rfl⟩ : ∃ q, k = q + 1 := ⟨k - 1, by omega⟩
      have e1 : (((q + 1 : Nat) : Int) - 1) = (q : Int) := by omega
      rw [e1]
      clear e1
      have hb := bat_eq s q (by omega)
      rcases Bool.eq_false_or_eq_true ((s[q].toNat : Int) == 47) with he | he
      · have hv : upV s = s.extract 0 q := by
          unfold upV
          rw [lastSlash_at s q (by omega) (by rw [hb]; simpa using he) (fun j h1 h2 => hn.out j (by omega) h2)]
          rw [if_neg (by omega)]; rfl
        have Hv := Lib.hid hv; clear hv hb
        go_wp2
        go_ret
        exact ⟨by rw [Hv.out]; simp, rfl⟩
      · have hn' : Hid (∀ j, q ≤ j → j < s.size → ¬ ((bat s j).toNat : Int) = 47) := fun j h1 h2 => by
          by_cases e : j = q
          · subst e; rw [hb]; simpa using he
          · exact hn.out j (by omega) h2
        clear hb
        go_wp2
        go_round
        case rel => exact ⟨q, by congr 1, by omega, hn'⟩
        case measure => simp [intOf] <;> omega
end Go.Proofs.YtfnckkmnncdelaaDoor
