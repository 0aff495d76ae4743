/-
  A time's text is read as it.
-/
import Derived.Test.YtfnckkmnncdelaaDoorDateBack
namespace Go.Proofs.YtfnckkmnncdelaaDoor
theorem print_in (t : Int) (t0 : 0 ≤ t) (t1 : t ≤ 253402300799) : (printV t).size = 26 ∧ printV t = (printV t).extract 0 21 ++ (⟨#[43]⟩ : ByteArray) ++ (⟨#[dg 0, dg 0, dg 0, dg 0]⟩ : ByteArray) := by
  have hp : printV t = textV (civY (t / 86400)) (civM (t / 86400)) (civD (t / 86400)).toNat (t % 86400).toNat := by unfold printV; rw [if_neg (by omega)]
  obtain ⟨y0, y1, m0, m1, d0, d1⟩ := civ_bd (t / 86400) (by omega) (by omega)
  obtain ⟨e0, e1, c0, c1, c2, ht, k0, k1, k2, k3, k4, hmon, hday⟩ := text_txt (civY (t / 86400)) (civM (t / 86400)) (civD (t / 86400)).toNat (t % 86400).toNat m0 m1 (by omega)
  rw [hp, ht, cat_txt]
  exact ⟨rfl, rfl⟩
theorem print_back (t : Int) (t0 : 0 ≤ t) (t1 : t ≤ 253402300799) : parseV (printV t) = (t, true) := by
  have h := zone_back t t0 t1 43 (.inl rfl) 0 0 0 0 (by omega) (by omega) (by omega) (by omega) (by omega) (by omega)
  rw [← (print_in t t0 t1).2] at h
  rw [h]
  have e : (((43 : UInt8).toNat : Int) == 45) = false := by decide
  rw [e]
  simp only [Bool.false_eq_true, if_false]
  rw [if_neg (by omega)]
  congr 1
  omega
theorem parse_empty : parseV ⟨#[]⟩ = (0, false) := by decide +kernel
end Go.Proofs.YtfnckkmnncdelaaDoor
