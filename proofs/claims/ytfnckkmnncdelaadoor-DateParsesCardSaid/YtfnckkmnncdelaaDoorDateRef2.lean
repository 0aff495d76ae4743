/-
  cubbyref06.Parse: words on its last part.
-/
import Derived.Test.YtfnckkmnncdelaaDoorDateRef
namespace Go.Proofs.YtfnckkmnncdelaaDoor
theorem refCore_P (d m y h mi se zh zm : Int) (c1 : ¬ (m = 0 ∨ d < 1 ∨ y < 1969 ∨ h < 0 ∨ 23 < h ∨ mi < 0 ∨ 59 < mi ∨ se < 0 ∨ 59 < se ∨ zh < 0 ∨ 14 < zh ∨ zm < 0 ∨ 59 < zm)) (c2 : ¬ dimN y m < d) :
    refCore d m y h mi se zh zm true = if (sinceN y m 1 + d - 1) * 86400 + h * 3600 + mi * 60 + se - zh * 3600 - zm * 60 < 0 ∨ 253402300799 < (sinceN y m 1 + d - 1) * 86400 + h * 3600 + mi * 60 + se - zh * 3600 - zm * 60 then (0, false)
      else ((sinceN y m 1 + d - 1) * 86400 + h * 3600 + mi * 60 + se - zh * 3600 - zm * 60, true) := by
  unfold refCore; rw [if_neg c1, if_neg c2]; rfl
theorem refCore_M (d m y h mi se zh zm : Int) (c1 : ¬ (m = 0 ∨ d < 1 ∨ y < 1969 ∨ h < 0 ∨ 23 < h ∨ mi < 0 ∨ 59 < mi ∨ se < 0 ∨ 59 < se ∨ zh < 0 ∨ 14 < zh ∨ zm < 0 ∨ 59 < zm)) (c2 : ¬ dimN y m < d) :
    refCore d m y h mi se zh zm false = if (sinceN y m 1 + d - 1) * 86400 + h * 3600 + mi * 60 + se + zh * 3600 + zm * 60 < 0 ∨ 253402300799 < (sinceN y m 1 + d - 1) * 86400 + h * 3600 + mi * 60 + se + zh * 3600 + zm * 60 then (0, false)
      else ((sinceN y m 1 + d - 1) * 86400 + h * 3600 + mi * 60 + se + zh * 3600 + zm * 60, true) := by
  unfold refCore; rw [if_neg c1, if_neg c2]; rfl
theorem sign_P (x : Int) (_ : (x == 43 || x == 45) = true) (h : (x == 43) = true) : (x != 43) = false := by
  rw [beq_iff_eq] at h; subst h; rfl
theorem sign_M (x : Int) (g : (x == 43 || x == 45) = true) (h : (x == 43) = false) : (x != 43) = true ∧ (x != 45) = false := by
  rw [h, Bool.false_or, beq_iff_eq] at g; subst g; exact ⟨rfl, rfl⟩
end Go.Proofs.YtfnckkmnncdelaaDoor
