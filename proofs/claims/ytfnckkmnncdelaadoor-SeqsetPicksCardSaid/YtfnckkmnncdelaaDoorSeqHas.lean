/-
  Walks of seqset's has and Has, and of the document's answer.
-/
import Derived.Test.YtfnckkmnncdelaaDoorSeqLaw2
import Derived.Test.YtfnckkmnncdelaaDoorReads
import Derived.Test.YtfnckkmnncdelaaDoorChecked
import Derived.OwnWalk
namespace Go.Proofs.YtfnckkmnncdelaaDoor
open Go.RowKit
theorem add_succ (ad : Addr) (j : Nat) : ad.add (j + 1) = ⟨(ad.add j).block, (ad.add j).off + 1, none⟩ := by
  unfold Addr.add
  by_cases h : j = 0
  · subst h; simp
  · simp [h]; omega
set_option maxHeartbeats 1600000 in
theorem has1_any (x y n g : Nat) (hx : x ≤ 4294967295) (hy : y ≤ 4294967295) (w : World) :
    Calls Tryd.prog 56 #[.agg #[.int .u32 (x : Nat), .int .u32 (y : Nat)], .int .u32 (n : Nat), .int .u32 (g : Nat)] w fun e w' => e = .returned (.bool (inSpan (x, y) n g)) ∧ Below w.heap.size w w' := by
  have hb : Below w.heap.size w w := Below.refl _ _
  by_cases h1 : x = 0 <;> by_cases h2 : y = 0
  all_goals
    try subst h1
    try subst h2
    go_enter Tryd.func56, Tryd.ntmps56
    go_wp2
    all_goals
      go_ret
      refine ⟨ret_bool ?_, ?_⟩
  all_goals first
    | exact hb.alloc (Nat.le_refl _) _
    | (rw [Bool.eq_iff_iff]; simp [inSpan, *] <;> omega)

theorem inSet_take (l : List (Nat × Nat)) (m n g : Nat) (h : inSet (l.take m) n g = true) : inSet l n g = true := by
  unfold inSet at h ⊢
  rw [Bool.and_eq_true] at h ⊢
  refine ⟨h.1, ?_⟩
  rw [List.any_eq_true] at h ⊢
  obtain ⟨x, hx, h2⟩ := h.2
  exact ⟨x, List.mem_of_mem_take hx, h2⟩
set_option maxHeartbeats 1600000 in
theorem has_any (A : Option Addr) (c : Nat) (l : List (Nat × Nat)) (n g : Nat) (hl : ∀ x ∈ l, x.1 ≤ 4294967295 ∧ x.2 ≤ 4294967295) (hlen : l.length ≤ 65536) (w : World)
    (hr : Reads w w.heap.size 2 A l.length (spanCells l)) :
    Calls Tryd.prog 28 #[.slice A l.length c, .int .u32 (n : Nat), .int .u32 (g : Nat)] w fun e w' => e = .returned (.bool (inSet l n g)) ∧ Below w.heap.size w w' := by
  have HR := Lib.hid hr
  have HL := Lib.hid hl
  clear hr hl
  go_enter Tryd.func28, Tryd.ntmps28
  go_wp2
  go_loopw [11] (fun i wr => ∃ k : Nat, i = .int .i64 k ∧ k ≤ l.length ∧ Hid (inSet (l.take k) n g = false) ∧ Hid (Below w.heap.size w wr)) (fun i _ => l.length - (intOf i).toNat)
  case atStart => exact ⟨0, rfl, by omega, by simp [inSet, Hid], Below.refl _ _⟩
  case round =>
    obtain ⟨k, rfl, hk, hall, hbr⟩ := hrel
    by_cases hlt : k < l.length
    · obtain ⟨x, hx⟩ : ∃ x, l[k]? = some x := ⟨_, List.getElem?_eq_getElem hlt⟩
      obtain ⟨hx1, hx2⟩ := HL.out x (List.mem_of_getElem? hx)
      obtain ⟨a, b⟩ := x
      obtain ⟨ad, rfl, hab, hcs⟩ := (HR.out.below hbr.out).2 (by omega)
      obtain ⟨e1, e2⟩ := spanCells_at l k _ hx
      have hc1 := hcs _ _ e1
      have hc2 := hcs _ _ e2
      rw [add_succ] at hc2
      have htk : l.take (k + 1) = l.take k ++ [(a, b)] := by rw [List.take_add_one, hx]; rfl
      have Htk := Lib.hid htk
      have Hx := Lib.hid hx
      clear hx htk hcs e1 e2
      have H1 := Lib.hid (has1_any a b n g hx1 hx2)
      have hin : inSet (l.take (k + 1)) n g = (decide (1 ≤ n) && inSpan (a, b) n g) := by
        have := hall.out
        rw [Htk.out]
        unfold inSet at this ⊢
        rw [List.any_append]
        rcases Nat.lt_or_ge n 1 with h | h
        · have : decide (1 ≤ n) = false := by simp; omega
          rw [this]; simp
        · have h' : decide (1 ≤ n) = true := by simp; omega
          rw [h'] at this ⊢
          rw [Bool.true_and] at this
          rw [this]; simp
      have Hin := Lib.hid hin
      clear hin
      generalize inSpan (a, b) n g = bb at *
      have hsz := hbr.out.size
      by_cases hn1 : n < 1
      · have HF : Hid (inSet (l.take (k + 1)) n g = false) := by
          show _ = _
          rw [Hin.out]; simp; intro h; omega
        have hb2 := hbr.out.alloc hsz (.cells #[.int .u32 (a : Nat), .int .u32 (b : Nat)] 44)
        have HB2 := Lib.hid hb2
        clear hb2
        go_wp2
        go_roundw
        case rel => exact ⟨k + 1, by go_num, by omega, HF, HB2⟩
        case measure => simp [intOf]; omega
      · cases bb
        · have HF : Hid (inSet (l.take (k + 1)) n g = false) := by
            show _ = _
            rw [Hin.out]; simp
          have hb2 := hbr.out.alloc hsz (.cells #[.int .u32 (a : Nat), .int .u32 (b : Nat)] 44)
          have HB2 := Lib.hid hb2
          clear hb2
          go_wp2_with fail
          refine (H1.out _).mono ?_
          rintro e w2 ⟨rfl, hb2⟩
          have HB3 := Lib.hid (HB2.out.trans (hb2.mono HB2.out.size))
          clear hb2
          go_wp2
          go_roundw
          case rel => exact ⟨k + 1, by go_num, by omega, HF, HB3⟩
          case measure => simp [intOf]; omega
        · have HF : Hid (inSet l n g = true) := by
            refine inSet_take l (k + 1) n g ?_
            rw [Hin.out]; simp; omega
          have hb2 := hbr.out.alloc hsz (.cells #[.int .u32 (a : Nat), .int .u32 (b : Nat)] 44)
          have HB2 := Lib.hid hb2
          clear hb2
          go_wp2_with fail
          refine (H1.out _).mono ?_
          rintro e w2 ⟨rfl, hb2⟩
          have HB3 := Lib.hid (HB2.out.trans (hb2.mono HB2.out.size))
          clear hb2
          go_wp2
          go_ret
          exact ⟨ret_bool HF.out.symm, HB3.out⟩
    · obtain rfl : k = l.length := by omega
      have hf := hall.out
      rw [List.take_of_length_le (Nat.le_refl _)] at hf
      have HF := Lib.hid hf
      clear hf hall
      go_wp2
      go_ret
      exact ⟨ret_bool HF.out.symm, hbr.out⟩
theorem inSet_step (l : List (Nat × Nat)) (k n g : Nat) (x : Nat × Nat) (hx : l[k]? = some x) (hall : inSet (l.take k) n g = false) : inSet (l.take (k + 1)) n g = (decide (1 ≤ n) && inSpan x n g) := by
  rw [List.take_add_one, hx]
  unfold inSet at hall ⊢
  rw [List.any_append]
  rcases Nat.lt_or_ge n 1 with h | h
  · have : decide (1 ≤ n) = false := by simp; omega
    rw [this]; simp
  · have h' : decide (1 ≤ n) = true := by simp; omega
    rw [h'] at hall ⊢
    rw [Bool.true_and] at hall
    rw [hall]; simp
set_option maxHeartbeats 3200000 in
theorem refHas_any (A : Option Addr) (c : Nat) (l : List (Nat × Nat)) (n g : Nat) (hl : ∀ x ∈ l, x.1 ≤ 4294967295 ∧ x.2 ≤ 4294967295) (hn : n ≤ 4294967295) (hg : g ≤ 4294967295) (hlen : l.length ≤ 65536) (w : World)
    (hr : Reads w w.heap.size 2 A l.length (spanCells l)) :
    Calls Tryd.prog 29 #[.slice A l.length c, .int .u32 (n : Nat), .int .u32 (g : Nat)] w fun e w' => e = .returned (.bool (inSet l n g)) ∧ Below w.heap.size w w' := by
  have HR := Lib.hid hr
  have HL := Lib.hid hl
  clear hr hl
  go_enter Tryd.func29, Tryd.ntmps29
  go_wp2
  go_loopw [12] (fun i wr => ∃ k : Nat, i = .int .i64 k ∧ k ≤ l.length ∧ Hid (inSet (l.take k) n g = false) ∧ Hid (Below w.heap.size w wr)) (fun i _ => l.length - (intOf i).toNat)
  case atStart => exact ⟨0, rfl, by omega, by simp [inSet, Hid], Below.refl _ _⟩
  case round =>
    obtain ⟨k, rfl, hk, hall, hbr⟩ := hrel
    by_cases hlt : k < l.length
    · obtain ⟨x, hx⟩ : ∃ x, l[k]? = some x := ⟨_, List.getElem?_eq_getElem hlt⟩
      obtain ⟨hx1, hx2⟩ := HL.out x (List.mem_of_getElem? hx)
      have hin := inSet_step l k n g x hx hall.out
      obtain ⟨a, b⟩ := x
      obtain ⟨ad, rfl, hab, hcs⟩ := (HR.out.below hbr.out).2 (by omega)
      obtain ⟨e1, e2⟩ := spanCells_at l k _ hx
      have hc1 := hcs _ _ e1
      have hc2 := hcs _ _ e2
      rw [add_succ] at hc2
      clear hx hcs e1 e2
      have hbd : Below w.heap.size w wr.drew := hbr.out.drew
      have HBD := Lib.hid hbd
      clear hbd
      have hspan : inSpan (a, b) n g = ((decide ((if a = 0 then g else a) ≤ n) && decide (n ≤ (if b = 0 then g else b))) || (decide ((if b = 0 then g else b) ≤ n) && decide (n ≤ (if a = 0 then g else a)))) := inSpan_ref (a, b) n g _ _ rfl rfl
      rw [hspan] at hin
      clear hspan
      obtain ⟨a', ha'⟩ : ∃ a', a' = if a = 0 then g else a := ⟨_, rfl⟩
      obtain ⟨b', hb'⟩ : ∃ b', b' = if b = 0 then g else b := ⟨_, rfl⟩
      rw [← ha', ← hb'] at hin
      have hx1 : a ≤ 4294967295 := hx1
      have hx2 : b ≤ 4294967295 := hx2
      have Hin := Lib.hid hin
      clear hin
      have hend : ∀ (wr' : World), (decide (1 ≤ n) && (decide (a' ≤ n) && decide (n ≤ b') || decide (b' ≤ n) && decide (n ≤ a'))) = true → inSet l n g = true := fun _ h => inSet_take l (k + 1) n g (by rw [Hin.out]; exact h)
      have Hend := Lib.hid hend
      clear hend
      by_cases ha : a = 0 <;> by_cases hb : b = 0
      all_goals
        simp only [ha, hb, if_true, if_false] at ha' hb'
        subst ha' hb'
        go_wp2
        go_region
        all_goals (try go_wp2)
      all_goals first
        | (go_roundw
           case rel =>
             refine ⟨k + 1, by go_num, by omega, ?_, HBD⟩
             show _ = _
             rw [Hin.out, Bool.eq_false_iff]; intro h; simp only [Bool.and_eq_true, Bool.or_eq_true, decide_eq_true_eq] at h; omega
           case measure => simp [intOf]; omega)
        | (go_ret
           refine ⟨ret_bool (Hend.out wr ?_).symm, HBD.out⟩
           simp only [Bool.and_eq_true, Bool.or_eq_true, decide_eq_true_eq]; omega)
    · obtain rfl : k = l.length := by omega
      have hf := hall.out
      rw [List.take_of_length_le (Nat.le_refl _)] at hf
      have HF := Lib.hid hf
      clear hf hall
      go_wp2
      go_ret
      exact ⟨ret_bool HF.out.symm, hbr.out⟩
end Go.Proofs.YtfnckkmnncdelaaDoor
