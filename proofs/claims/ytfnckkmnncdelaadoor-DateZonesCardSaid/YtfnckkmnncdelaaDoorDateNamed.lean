/-
  date.named, walked.
-/
import Derived.Test.YtfnckkmnncdelaaDoorDateText
namespace Go.Proofs.YtfnckkmnncdelaaDoor
open Go.RowKit
def lowerL (l : List UInt8) : List UInt8 := Lib.toLowerA l
/-- the month of a name; 0: none -/
def namedV (l : List UInt8) : Int := (((List.range 12).find? fun (j : Nat) => lowerL l == lowerL (monB ((j : Int) + 1)).data.toList).map fun (j : Nat) => (j : Int) + 1).getD 0
theorem namedV_at (l : List UInt8) (k : Nat) (hk : k < 12) (h : (lowerL l == lowerL (monB ((k : Int) + 1)).data.toList) = true) (hn : ∀ (j : Nat), j < k → (lowerL l == lowerL (monB ((j : Int) + 1)).data.toList) = false) : namedV l = k + 1 := by
  unfold namedV
  have : (List.range 12).find? (fun (j : Nat) => lowerL l == lowerL (monB ((j : Int) + 1)).data.toList) = some k := by
    rw [List.find?_range_eq_some]
    exact ⟨h, by simpa using hk, fun j hj => by rw [hn j hj]; rfl⟩
  rw [this]; rfl
theorem namedV_none (l : List UInt8) (hn : ∀ (j : Nat), j < 12 → (lowerL l == lowerL (monB ((j : Int) + 1)).data.toList) = false) : namedV l = 0 := by
  unfold namedV
  have : (List.range 12).find? (fun (j : Nat) => lowerL l == lowerL (monB ((j : Int) + 1)).data.toList) = none := by
    rw [List.find?_eq_none]
    intro j hj
    rw [hn j (by simpa using hj)]; simp
  rw [this]; rfl
theorem monB_low (k : Nat) (hk : k < 12) : (monB ((k : Int) + 1)).data.toList.length = 3 ∧ ∀ (j : Nat) (b : UInt8), (monB ((k : Int) + 1)).data.toList[j]? = some b → b.toNat < 128 := by
  have h : ((List.range 12).all fun k => (monB ((k : Int) + 1)).data.toList.length == 3 && (monB ((k : Int) + 1)).data.toList.all fun b => decide (b.toNat < 128)) = true := by decide +kernel
  have := List.all_eq_true.1 h k (by simpa using hk)
  simp only [Bool.and_eq_true, beq_iff_eq, List.all_eq_true, decide_eq_true_eq] at this
  exact ⟨this.1, fun j b hb => this.2 b (List.mem_of_getElem? hb)⟩
set_option maxHeartbeats 1000000 in
theorem named_any (s : ByteArray) (hs : s.size ≤ 1000) (hl : ∀ (j : Nat) (b : UInt8), s.data.toList[j]? = some b → b.toNat < 128) (w : World) :
    Calls Tryd.prog 41 #[.string s] w fun e w' => e = .returned (.int .i64 (namedV s.data.toList)) ∧ Below w.heap.size w w' := by
  have Hl := Lib.hid hl; clear hl
  go_enter Tryd.func41, Tryd.ntmps41
  go_wp2
  go_loopw [3] (fun m wr => ∃ k : Nat, m = .int .i64 ((k : Int) + 1) ∧ k ≤ 12 ∧ Hid (∀ (j : Nat), j < k → (lowerL s.data.toList == lowerL (monB ((j : Int) + 1)).data.toList) = false) ∧ Below w.heap.size w wr) (fun m _ => (13 - intOf m).toNat)
  case atStart => exact ⟨0, rfl, by omega, fun j hj => by omega, Below.refl _ _⟩
  case round =>
    obtain ⟨k, rfl, hk, hn, hb⟩ := hrel
    by_cases hlt : k < 12
    · have hm := monB_low k hlt
      have Hm := Lib.hid hm; clear hm
      rcases Bool.eq_false_or_eq_true (lowerL s.data.toList == lowerL (monB ((k : Int) + 1)).data.toList) with he | he
      · have Hv := Lib.hid (namedV_at _ k hlt he hn.out)
        have HE := Lib.hid he; clear he
        go_wp2_with fail
        refine (Tryd.strings_ToLower_ascii s wr (by omega) Hl.out).mono ?_
        rintro e w1 ⟨rfl, hb1⟩
        go_wp2_with fail
        refine (month_any ((k : Int) + 1) (by omega) (by omega) _).mono ?_
        rintro e w2 ⟨rfl, rfl⟩
        go_wp2_with fail
        refine (Tryd.strings_ToLower_ascii (monB ((k : Int) + 1)) w2 (by have := Hm.out.1; simp at this; omega) Hm.out.2).mono ?_
        rintro e w3 ⟨rfl, hb3⟩
        have heq : (Lib.toLowerA s.data.toList == Lib.toLowerA (monB ((k : Int) + 1)).data.toList) = true := HE.out
        generalize Lib.toLowerA s.data.toList = A at *
        generalize Lib.toLowerA (monB ((k : Int) + 1)).data.toList = B at *
        go_wp2
        go_ret
        exact ⟨ret_int Hv.out.symm, (hb.trans (hb1.mono hb.size)).trans (hb3.mono (Nat.le_trans hb.size hb1.size))⟩
      · have hn' : Hid (∀ (j : Nat), j < k + 1 → (lowerL s.data.toList == lowerL (monB ((j : Int) + 1)).data.toList) = false) := fun j hj => by
          by_cases e : j = k
          · subst e; exact he
          · exact hn.out j (by omega)
        have HE := Lib.hid he; clear he
        go_wp2_with fail
        refine (Tryd.strings_ToLower_ascii s wr (by omega) Hl.out).mono ?_
        rintro e w1 ⟨rfl, hb1⟩
        go_wp2_with fail
        refine (month_any ((k : Int) + 1) (by omega) (by omega) _).mono ?_
        rintro e w2 ⟨rfl, rfl⟩
        go_wp2_with fail
        refine (Tryd.strings_ToLower_ascii (monB ((k : Int) + 1)) w2 (by have := Hm.out.1; simp at this; omega) Hm.out.2).mono ?_
        rintro e w3 ⟨rfl, hb3⟩
        have heq : (Lib.toLowerA s.data.toList == Lib.toLowerA (monB ((k : Int) + 1)).data.toList) = false := HE.out
        generalize Lib.toLowerA s.data.toList = A at *
        generalize Lib.toLowerA (monB ((k : Int) + 1)).data.toList = B at *
        go_wp2
        go_roundw
        case rel => exact ⟨k + 1, by go_num, by omega, hn', (hb.trans (hb1.mono hb.size)).trans (hb3.mono (Nat.le_trans hb.size hb1.size))⟩
        case measure => simp [intOf] <;> omega
    · obtain rfl : k = 12 := by omega
      have Hv := Lib.hid (namedV_none _ hn.out)
      go_wp2
      go_ret
      exact ⟨ret_int Hv.out.symm, hb⟩
end Go.Proofs.YtfnckkmnncdelaaDoor
