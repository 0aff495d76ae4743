/-
  date.Parse: what it computes.
-/
import Derived.Test.YtfnckkmnncdelaaDoorDateRef
import Derived.Test.YtfnckkmnncdelaaDoorCivil
namespace Go.Proofs.YtfnckkmnncdelaaDoor
open Go.RowKit
def dayL (s : ByteArray) : List UInt8 := if ((bat s 0).toNat : Int) = 32 then 48 :: sub s 1 2 else sub s 0 2
/-- of the numbers that stand in a text: the time, or none -/
def core (d m y h mi se zh zm : Int) (neg : Bool) : Int × Bool :=
  if d < 1 ∨ m < 1 ∨ y < 0 ∨ h < 0 ∨ 23 < h ∨ mi < 0 ∨ 59 < mi ∨ se < 0 ∨ 59 < se then (0, false)
  else if zh < 0 ∨ 14 < zh ∨ zm < 0 ∨ 59 < zm then (0, false)
  else if sinceP y m d < -1 then (0, false)
  else if civY (sinceP y m d) ≠ y ∨ civM (sinceP y m d) ≠ m ∨ civD (sinceP y m d) ≠ d then (0, false)
  else
    let t := sinceP y m d * 86400 + h * 3600 + mi * 60 + se - (if neg = true then -(zh * 3600 + zm * 60) else zh * 3600 + zm * 60)
    if t < 0 ∨ 253402300799 < t then (0, false) else (t, true)
def parseV (s : ByteArray) : Int × Bool :=
  if s.size = 26 ∧ asciiV s = true ∧ signsV s = true then
    core (numV (dayL s)) (namedV (sub s 3 6)) (numV (sub s 7 11)) (numV (sub s 12 14)) (numV (sub s 15 17)) (numV (sub s 18 20)) (numV (sub s 22 24)) (numV (sub s 24 26)) (((bat s 21).toNat : Int) == 45)
  else (0, false)
theorem number_below (s : ByteArray) (hs : s.size ≤ 9) (w : World) :
    Calls Tryd.prog 40 #[.string s] w fun e w' => e = .returned (.int .i64 (numV s.data.toList)) ∧ Below w.heap.size w w' :=
  (number_any s hs w).mono fun _ _ ⟨h1, h2⟩ => ⟨h1, by rw [h2]; exact Below.refl _ _⟩
theorem low_sub (s : ByteArray) (a b : Nat) (h : ∀ c ∈ s.data.toList, c.toNat < 128) : ∀ (j : Nat) (c : UInt8), (s.extract a b).data.toList[j]? = some c → c.toNat < 128 := by
  intro j c hc
  exact h c (mem_extract (List.mem_of_getElem? hc))
theorem dayL_length (s : ByteArray) (h : 26 ≤ s.size) : (dayL s).length = 2 := by
  unfold dayL sub; split <;> simp <;> omega
theorem namedV_bd (l : List UInt8) : 0 ≤ namedV l ∧ namedV l ≤ 12 := by
  unfold namedV
  cases hf : (List.range 12).find? (fun (j : Nat) => lowerL l == lowerL (monB ((j : Int) + 1)).data.toList) with
  | none => simp
  | some k =>
    have := List.mem_of_find?_eq_some hf
    simp at this
    simp; omega
theorem sinceP_hi (y m d : Int) (h0 : 0 ≤ y) (h1 : y ≤ 9999) (m0 : 1 ≤ m) (m1 : m ≤ 12) (d0 : 1 ≤ d) (d1 : d ≤ 99) : sinceP y m d ≤ 4000000 := by
  unfold sinceP
  split
  · omega
  · unfold sinceN
    dsimp only
    split <;> omega
theorem ext_zero (s : ByteArray) (h : 26 ≤ s.size) (hp0 : 0 < (s.extract 0 2).size) : (s.extract 0 2)[0]'hp0 = bat s 0 := by
  rw [bat_eq s 0 (by omega), ByteArray.getElem_extract]
theorem day_blank (s : ByteArray) (h : 26 ≤ s.size) (hp0 : 0 < (s.extract 0 2).size) (hz : ((((s.extract 0 2)[0]'hp0).toNat : Int) == 32) = true) :
    ((⟨#[48]⟩ : ByteArray) ++ (s.extract 0 2).extract 1 (min 2 s.size)).data.toList = dayL s ∧ ((⟨#[48]⟩ : ByteArray) ++ (s.extract 0 2).extract 1 (min 2 s.size)).size ≤ 9 := by
  have e0 : (s.extract 0 2)[0]'hp0 = bat s 0 := ext_zero s h hp0
  rw [e0] at hz
  have hm : min 2 s.size = 2 := by omega
  rw [hm]
  constructor
  · unfold dayL sub
    rw [if_pos (by simpa using hz)]
    simp [ByteArray.extract_extract]
  · have : (⟨#[48]⟩ : ByteArray).size = 1 := rfl
    simp; omega
theorem day_plain (s : ByteArray) (h : 26 ≤ s.size) (hp0 : 0 < (s.extract 0 2).size) (hz : ((((s.extract 0 2)[0]'hp0).toNat : Int) == 32) = false) :
    (s.extract 0 2).data.toList = dayL s ∧ (s.extract 0 2).size ≤ 9 := by
  have e0 : (s.extract 0 2)[0]'hp0 = bat s 0 := ext_zero s h hp0
  rw [e0] at hz
  refine ⟨?_, by simp; omega⟩
  unfold dayL sub
  rw [if_neg (by simpa using hz)]
end Go.Proofs.YtfnckkmnncdelaaDoor
