/-
  Walks: the rest of what is read back; what stays as it is beside it.
-/
import Derived.Test.YtmjikfeaopmejaaDoorIn2
import Derived.Test.YtmjikfeaopmejaaDoorBytes
import Derived.Test.YtmjikfeaopmejaaDoorHoare2
namespace Go.Proofs.YtmjikfeaopmejaaDoor
open Go.RowKit
set_option linter.unusedSimpArgs false
set_option linter.unusedVariables false
theorem Blk.ibut {w w' : World} {g i : Nat} {t : TypeId} {cs : Array Value} (h : Blk w g t cs) (hb : IBut i w w') (hne : g ≠ i) : Blk w' g t cs := (hb.block g h.lt hne).trans h
theorem InAt.only {w w' : World} {g i : Nat} {s : InM} {v : Value} {t : TypeId} {cs : Array Value} (h : InAt w i s v) (hs : Only g w w') (hne : i ≠ g) (K : Blk w g t cs) (ht : t ≠ 5) : InAt w' i s v := by
  refine ⟨(hs.block i hne).trans h.cells, ?_⟩
  rcases h.row with h | ⟨ad, c, e, hc, hr, hu⟩
  · exact .inl h
  · have ha : ad.block ≠ g := by
      rintro rfl
      obtain ⟨cs', p, hg⟩ := hu
      unfold Blk at K
      rw [K] at hg
      injection hg with hg
      injection hg with _ h2
      exact ht h2
    refine .inr ⟨ad, c, e, hc, ⟨hr.1, fun hn => ?_⟩, hu.same (hs.block _ ha)⟩
    obtain ⟨ad', e', hlt, hcc⟩ := hr.2 hn
    have ea : ad = ad' := Option.some.inj e'
    subst ea
    exact ⟨ad, rfl, by rw [hs.size]; exact hlt, fun j u hu => (World.cell?_of_block (by rw [block_of_add]; exact hs.block _ ha)).trans (hcc j u hu)⟩
theorem inTake_le (s : InM) (n : Int) : (inTake s n).1.length ≤ s.rest.length := by
  unfold inTake
  split
  · exact Nat.zero_le _
  · split
    · exact Nat.zero_le _
    · show (List.take _ _).length ≤ _
      rw [List.length_take]
      exact Nat.min_le_right _ _
theorem in_Raw {w : World} {i : Nat} {s : InM} {v : Value} (h : InAt w i s v) (hl : s.rest.length ≤ 1000000) (n : Int) :
    Calls Tryd.prog 12 #[.pointer (some ⟨i, 0, none⟩), .int .i64 n] w fun e w' => ∃ r, e = .returned r ∧ Own8 w.heap.size w' r (inTake s n).1 ∧ (∃ v', InAt w' i (inTake s n).2 v') ∧ IBut i w w' := by
  have hn := inTake_le s n
  refine calls_at 9 Tryd.func12 rfl rfl (Nat.le_of_ble_eq_true rfl) ?_
  intro a hA
  simp only [argsE, keepE, lookS, Nat.reduceBEq, cond_true, cond_false, Nat.reduceAdd, gv_tt, gv_ff, Bool.true_and, Bool.false_and, Bool.true_or, Bool.false_or] at hA
  refine wp_seq ?_
  refine wp_region_lit ?_
  refine wl_op hA rfl rfl (by decide) (fun ev h => by simp [go_sem, h.c]; try first | exact ⟨rfl, rfl⟩ | rfl) fun a1 hA1 => ?_
  refine wl_nil ?_
  refine n_then ?_
  have hA2 := hA1.keep [0, 1]
  simp only [argsE, keepE, lookS, Nat.reduceBEq, cond_true, cond_false, Nat.reduceAdd, gv_tt, gv_ff, Bool.true_and, Bool.false_and, Bool.true_or, Bool.false_or] at hA2
  clear hA hA1
  refine wp_seq ?_
  refine wp_region_lit ?_
  refine wl_op hA2 rfl rfl (by decide) (fun ev h => by simp [go_sem, h.get 0 rfl]; try first | exact ⟨rfl, rfl⟩ | rfl) fun a3 hA3 => ?_
  refine wl_op hA3 rfl rfl (by decide) (fun ev h => by simp [go_sem, h.get 1 rfl]; try first | exact ⟨rfl, rfl⟩ | rfl) fun a4 hA4 => ?_
  -- stop call slot 7
  refine wl_call hA4 rfl rfl (by decide) (fun ev h => by simp [go_sem, h.get 5 rfl, h.get 6 rfl, h.f]; try first | exact ⟨rfl, rfl⟩ | rfl) (in_take h hl n) ?_
  rintro e w1 ⟨r, rfl, ⟨A, c, rfl, hr⟩, ⟨v1, h1⟩, hib⟩
  refine ⟨_, rfl, fun a5 hA5 => ?_⟩
  -- stop call slot 8
  refine wl_call hA5 rfl rfl (by decide) (fun ev h => by simp [go_sem, h.get 7 rfl, h.f]; try first | exact ⟨rfl, rfl⟩ | rfl) (clone_any A _ c _ _ rfl (by omega) hr) ?_
  rintro e w2 ⟨v2, rfl, ho, hb⟩
  refine ⟨_, rfl, fun a6 hA6 => ?_⟩
  refine wl_op hA6 rfl rfl (by decide) (fun ev h => by simp [go_sem, h.get 8 rfl]; try first | exact ⟨rfl, rfl⟩ | rfl) fun a7 hA7 => ?_
  refine wl_nil ?_
  refine n_then ?_
  have hA8 := hA7.keep [4]
  simp only [argsE, keepE, lookS, Nat.reduceBEq, cond_true, cond_false, Nat.reduceAdd, gv_tt, gv_ff, Bool.true_and, Bool.false_and, Bool.true_or, Bool.false_or] at hA8
  clear hA2 hA3 hA4 hA5 hA6 hA7 a1 a3 a4 a5 a6
  refine wp_ret ?_
  -- ret
  refine ret_1 hA8 4 rfl rfl ?_
  exact ⟨_, rfl, (Own8.of ho).mono hib.size, ⟨v1, h1.below hb⟩, hib.below hb⟩
theorem in_Left {w : World} {i : Nat} {s : InM} {v : Value} (h : InAt w i s v) :
    Calls Tryd.prog 13 #[.pointer (some ⟨i, 0, none⟩)] w fun e w' => e = .returned (.int .i64 (s.rest.length : Nat)) ∧ Below w.heap.size w w' := by
  obtain ⟨A, c, hv⟩ : ∃ A c, v = .slice A s.rest.length c := by
    rcases h.row with ⟨rfl, e⟩ | ⟨ad, c, e, _⟩
    · exact ⟨none, 0, by rw [e]; rfl⟩
    · exact ⟨_, _, e⟩
  subst hv
  have K := h.cells
  have HB := Below.refl w.heap.size w
  refine calls_at 10 Tryd.func13 rfl rfl (Nat.le_of_ble_eq_true rfl) ?_
  intro a hA
  simp only [argsE, keepE, lookS, Nat.reduceBEq, cond_true, cond_false, Nat.reduceAdd, gv_tt, gv_ff, Bool.true_and, Bool.false_and, Bool.true_or, Bool.false_or] at hA
  refine wp_seq ?_
  refine wp_region_lit ?_
  refine wl_op hA rfl rfl (by decide) (fun ev h => by simp [go_sem, h.c]; try first | exact ⟨rfl, rfl⟩ | rfl) fun a9 hA9 => ?_
  refine wl_nil ?_
  refine n_then ?_
  have hA10 := hA9.keep [0]
  simp only [argsE, keepE, lookS, Nat.reduceBEq, cond_true, cond_false, Nat.reduceAdd, gv_tt, gv_ff, Bool.true_and, Bool.false_and, Bool.true_or, Bool.false_or] at hA10
  clear hA hA9
  refine wp_seq ?_
  refine wp_seq ?_
  refine wp_region_lit ?_
  refine wl_op hA10 rfl rfl (by decide) (fun ev h => by simp [go_sem, h.get 0 rfl]; try first | exact ⟨rfl, rfl⟩ | rfl) fun a11 hA11 => ?_
  refine wl_op hA11 rfl rfl (by decide) (fun ev h => by simp [go_sem, h.c, h.get 3 rfl]; try first | exact ⟨rfl, rfl⟩ | rfl) fun a12 hA12 => ?_
  refine wl_nil ?_
  refine n_then ?_
  have hA13 := hA12.keep [0, 4]
  simp only [argsE, keepE, lookS, Nat.reduceBEq, cond_true, cond_false, Nat.reduceAdd, gv_tt, gv_ff, Bool.true_and, Bool.false_and, Bool.true_or, Bool.false_or] at hA13
  clear hA10 hA11 hA12 a9 a11
  -- cond
  refine wp_if hA13 4 _ rfl (fun hq => ?yA) (fun hq => ?nA)
  case yA => cases hq
  case nA =>
    refine wp_skip ?_
    refine n_then ?_
    refine wp_seq ?_
    refine wp_region_lit ?_
    refine wl_op hA13 rfl rfl (by decide) (fun ev h => by simp [go_sem, h.get 0 rfl, K.cell]; try first | exact ⟨rfl, rfl⟩ | rfl) fun a14 hA14 => ?_
    refine wl_op hA14 rfl rfl (by decide) (fun ev h => by simp [go_sem, h.get 5 rfl, K.cell]; try first | exact ⟨rfl, rfl⟩ | rfl) fun a15 hA15 => ?_
    refine wl_op hA15 rfl rfl (by decide) (fun ev h => by simp [go_sem, h.get 6 rfl, K.cell]; try first | exact ⟨rfl, rfl⟩ | rfl) fun a16 hA16 => ?_
    refine wl_op hA16 rfl rfl (by decide) (fun ev h => by simp [go_sem, h.get 7 rfl, K.cell]; try first | exact ⟨rfl, rfl⟩ | rfl) fun a17 hA17 => ?_
    refine wl_op hA17 rfl rfl (by decide) (fun ev h => by simp [go_sem, h.get 8 rfl, K.cell]; try first | exact ⟨rfl, rfl⟩ | rfl) fun a18 hA18 => ?_
    refine wl_op hA18 rfl rfl (by decide) (fun ev h => by simp [go_sem, h.get 9 rfl, K.cell]; try first | exact ⟨rfl, rfl⟩ | rfl) fun a19 hA19 => ?_
    refine wl_nil ?_
    refine n_then ?_
    have hA20 := hA19.keep [2]
    simp only [argsE, keepE, lookS, Nat.reduceBEq, cond_true, cond_false, Nat.reduceAdd, gv_tt, gv_ff, Bool.true_and, Bool.false_and, Bool.true_or, Bool.false_or] at hA20
    clear hA13 hA14 hA15 hA16 hA17 hA18 hA19 a14 a15 a16 a17 a18
    refine wp_ret ?_
    -- ret
    refine ret_1 hA20 2 rfl rfl ?_
    exact ⟨rfl, HB⟩
theorem in_Bad {w : World} {i : Nat} {s : InM} {v : Value} (h : InAt w i s v) :
    Calls Tryd.prog 14 #[.pointer (some ⟨i, 0, none⟩)] w fun e w' => e = .returned (.bool s.bad) ∧ Below w.heap.size w w' := by
  have K := h.cells
  have HB := Below.refl w.heap.size w
  refine calls_at 11 Tryd.func14 rfl rfl (Nat.le_of_ble_eq_true rfl) ?_
  intro a hA
  simp only [argsE, keepE, lookS, Nat.reduceBEq, cond_true, cond_false, Nat.reduceAdd, gv_tt, gv_ff, Bool.true_and, Bool.false_and, Bool.true_or, Bool.false_or] at hA
  refine wp_seq ?_
  refine wp_region_lit ?_
  refine wl_op hA rfl rfl (by decide) (fun ev h => by simp [go_sem, h.c, K.cell]; try first | exact ⟨rfl, rfl⟩ | rfl) fun a21 hA21 => ?_
  refine wl_nil ?_
  refine n_then ?_
  have hA22 := hA21.keep [0]
  simp only [argsE, keepE, lookS, Nat.reduceBEq, cond_true, cond_false, Nat.reduceAdd, gv_tt, gv_ff, Bool.true_and, Bool.false_and, Bool.true_or, Bool.false_or] at hA22
  clear hA hA21
  refine wp_seq ?_
  refine wp_region_lit ?_
  refine wl_op hA22 rfl rfl (by decide) (fun ev h => by simp [go_sem, h.get 0 rfl, K.cell]; try first | exact ⟨rfl, rfl⟩ | rfl) fun a23 hA23 => ?_
  refine wl_op hA23 rfl rfl (by decide) (fun ev h => by simp [go_sem, h.c, h.get 3 rfl, K.cell]; try first | exact ⟨rfl, rfl⟩ | rfl) fun a24 hA24 => ?_
  refine wl_op hA24 rfl rfl (by decide) (fun ev h => by simp [go_sem, h.get 4 rfl, K.cell]; try first | exact ⟨rfl, rfl⟩ | rfl) fun a25 hA25 => ?_
  refine wl_guard _ hA25 rfl rfl rfl rfl (by decide) (fun hq ev h => by simp [go_sem, (h.get 0 rfl), K.cell]; try first | exact ⟨rfl, rfl⟩ | rfl) fun a26 hA26 => ?_
  refine wl_guard _ hA26 rfl rfl rfl rfl (by decide) (fun hq ev h => by simp [go_sem, ((h.get 6 rfl).trans (gw_t (beq_t hq))), K.cell]; try first | exact ⟨rfl, rfl⟩ | rfl) fun a27 hA27 => ?_
  refine wl_guard _ hA27 rfl rfl rfl rfl (by decide) (fun hq ev h => by simp [go_sem, ((h.get 7 rfl).trans (gw_t (beq_t hq))), K.cell]; try first | exact ⟨rfl, rfl⟩ | rfl) fun a28 hA28 => ?_
  refine wl_guard _ hA28 rfl rfl rfl rfl (by decide) (fun hq ev h => by simp [go_sem, ((h.get 8 rfl).trans (gw_t (beq_t hq))), K.cell]; try first | exact ⟨rfl, rfl⟩ | rfl) fun a29 hA29 => ?_
  refine wl_op hA29 rfl rfl (by decide) (fun ev h => by first | exact pick_and rfl (h.get 5 rfl) (h.get 9 rfl) (h.c _) | exact pick_or rfl (h.get 5 rfl) (h.get 9 rfl) (h.c _) | (simp [go_sem, h.c, h.get 5 rfl, h.get 9 rfl, K.cell, gv_or, gv_and]; try first | exact ⟨rfl, rfl⟩ | rfl)) fun a30 hA30 => ?_
  refine wl_op hA30 rfl rfl (by decide) (fun ev h => by simp [go_sem, h.get 10 rfl, K.cell]; try first | exact ⟨rfl, rfl⟩ | rfl) fun a31 hA31 => ?_
  refine wl_nil ?_
  refine n_then ?_
  have hA32 := hA31.keep [2]
  simp only [argsE, keepE, lookS, Nat.reduceBEq, cond_true, cond_false, Nat.reduceAdd, gv_tt, gv_ff, Bool.true_and, Bool.false_and, Bool.true_or, Bool.false_or] at hA32
  clear hA22 hA23 hA24 hA25 hA26 hA27 hA28 hA29 hA30 hA31 a21 a23 a24 a25 a26 a27 a28 a29 a30
  refine wp_ret ?_
  -- ret
  refine ret_1 hA32 2 rfl rfl ?_
  exact ⟨rfl, HB⟩
end Go.Proofs.YtmjikfeaopmejaaDoor
