/-
  Walks: messages that may be; mailboxes that are right.
-/
import Derived.Test.YtbbhblnhbgkcaaaDoorMsg
namespace Go.Proofs.YtbbhblnhbgkcaaaDoor
open Go.RowKit
set_option linter.unusedSimpArgs false
set_option linter.unusedVariables false
theorem fits_any (u d f : Int) (A : Option Addr) (n c : Nat) (w : World) (htab : Lib.TabIs Tryd.prog w "internal/strconv.uint64pow10" .u64 Lib.pow10Tab) :
    Calls Tryd.prog 28 #[.agg #[.int .u32 u, .int .i64 d, .int .i64 f, .slice A n c]] w fun e w' => e = .returned (.bool (fitsDF d f)) ∧ Below w.heap.size w w' := by
  have Ht := Lib.tabBelow_of_tabIs htab
  refine calls_at 17 Tryd.func28 rfl rfl (Nat.le_of_ble_eq_true rfl) ?_
  intro a hA
  simp only [argsE, keepE, lookS, Nat.reduceBEq, cond_true, cond_false, Nat.reduceAdd, gv_tt, gv_ff, Bool.true_and, Bool.false_and, Bool.true_or, Bool.false_or] at hA
  refine wp_seq ?_
  refine wp_region_lit ?_
  -- stop box slot 1
  refine wl_new hA rfl rfl (by decide) (fun ev h => by simp [go_sem, h.get 0 rfl]; try first | exact ⟨rfl, rfl⟩ | rfl) fun w1 a1 (K : Blk _ _ _ _) hz hb hA1 => ?_
  refine wl_op hA1 rfl rfl (by decide) (fun ev h => by simp [go_sem, h.c, K.cell]; try first | exact ⟨rfl, rfl⟩ | rfl) fun a2 hA2 => ?_
  refine wl_nil ?_
  refine n_then ?_
  have hA3 := hA2.keep [1]
  simp only [argsE, keepE, lookS, Nat.reduceBEq, cond_true, cond_false, Nat.reduceAdd, gv_tt, gv_ff, Bool.true_and, Bool.false_and, Bool.true_or, Bool.false_or] at hA3
  clear hA hA1 hA2 a1
  refine wp_seq ?_
  refine wp_region_lit ?_
  refine wl_op hA3 rfl rfl (by decide) (fun ev h => by simp [go_sem, h.get 1 rfl, K.cell]; try first | exact ⟨rfl, rfl⟩ | rfl) fun a4 hA4 => ?_
  refine wl_op hA4 rfl rfl (by decide) (fun ev h => by simp [go_sem, h.get 3 rfl, K.cell]; try first | exact ⟨rfl, rfl⟩ | rfl) fun a5 hA5 => ?_
  -- stop call slot 5
  refine wl_call hA5 rfl rfl (by decide) (fun ev h => by simp [go_sem, h.get 4 rfl, K.cell, h.f]; try first | exact ⟨rfl, rfl⟩ | rfl) (print_some d _ (Ht _ hb)) ?_
  rintro e w2 ⟨s, rfl, hs, hb1⟩
  refine ⟨_, rfl, fun a6 hA6 => ?_⟩
  have K2 := K.below hb1 K.lt
  have HB := hb.trans (hb1.mono hb.size)
  refine wl_op hA6 rfl rfl (by decide) (fun ev h => by simp [go_sem, h.c, h.get 5 rfl, K2.cell]; try first | exact ⟨rfl, rfl⟩ | rfl) fun a7 hA7 => ?_
  refine wl_op hA7 rfl rfl (by decide) (fun ev h => by simp [go_sem, h.get 6 rfl, K2.cell]; try first | exact ⟨rfl, rfl⟩ | rfl) fun a8 hA8 => ?_
  refine wl_guard _ hA8 rfl rfl rfl rfl (by decide) (fun hq ev h => by simp [go_sem, (h.get 1 rfl), K2.cell]; try first | exact ⟨rfl, rfl⟩ | rfl) fun a9 hA9 => ?_
  refine wl_guard _ hA9 rfl rfl rfl rfl (by decide) (fun hq ev h => by simp [go_sem, ((h.get 8 rfl).trans (gw_t (beq_t hq))), K2.cell]; try first | exact ⟨rfl, rfl⟩ | rfl) fun a10 hA10 => ?_
  refine wl_guard _ hA10 rfl rfl rfl rfl (by decide) (fun hq ev h => by simp [go_sem, h.c, ((h.get 9 rfl).trans (gw_t (beq_t hq))), K2.cell]; try first | exact ⟨rfl, rfl⟩ | rfl) fun a11 hA11 => ?_
  refine wl_op hA11 rfl rfl (by decide) (fun ev h => by first | exact pick_and rfl (h.get 7 rfl) (h.get 10 rfl) (h.c _) | exact pick_or rfl (h.get 7 rfl) (h.get 10 rfl) (h.c _) | (simp [go_sem, h.c, h.get 7 rfl, h.get 10 rfl, K2.cell, gv_or, gv_and]; try first | exact ⟨rfl, rfl⟩ | rfl)) fun a12 hA12 => ?_
  refine wl_op hA12 rfl rfl (by decide) (fun ev h => by simp [go_sem, h.get 11 rfl, K2.cell]; try first | exact ⟨rfl, rfl⟩ | rfl) fun a13 hA13 => ?_
  refine wl_guard _ hA13 rfl rfl rfl rfl (by decide) (fun hq ev h => by simp [go_sem, (h.get 1 rfl), K2.cell]; try first | exact ⟨rfl, rfl⟩ | rfl) fun a14 hA14 => ?_
  refine wl_guard _ hA14 rfl rfl rfl rfl (by decide) (fun hq ev h => by simp [go_sem, ((h.get 13 rfl).trans (gw_t (beq_t hq))), K2.cell]; try first | exact ⟨rfl, rfl⟩ | rfl) fun a15 hA15 => ?_
  refine wl_guard _ hA15 rfl rfl rfl rfl (by decide) (fun hq ev h => by simp [go_sem, h.c, ((h.get 14 rfl).trans (gw_t (beq_t hq))), K2.cell]; try first | exact ⟨rfl, rfl⟩ | rfl) fun a16 hA16 => ?_
  refine wl_op hA16 rfl rfl (by decide) (fun ev h => by first | exact pick_and rfl (h.get 12 rfl) (h.get 15 rfl) (h.c _) | exact pick_or rfl (h.get 12 rfl) (h.get 15 rfl) (h.c _) | (simp [go_sem, h.c, h.get 12 rfl, h.get 15 rfl, K2.cell, gv_or, gv_and]; try first | exact ⟨rfl, rfl⟩ | rfl)) fun a17 hA17 => ?_
  refine wl_op hA17 rfl rfl (by decide) (fun ev h => by simp [go_sem, h.get 16 rfl, K2.cell]; try first | exact ⟨rfl, rfl⟩ | rfl) fun a18 hA18 => ?_
  refine wl_nil ?_
  refine n_then ?_
  have hA19 := hA18.keep [2]
  simp only [argsE, keepE, lookS, Nat.reduceBEq, cond_true, cond_false, Nat.reduceAdd, gv_tt, gv_ff, Bool.true_and, Bool.false_and, Bool.true_or, Bool.false_or] at hA19
  clear hA3 hA4 hA5 hA6 hA7 hA8 hA9 hA10 hA11 hA12 hA13 hA14 hA15 hA16 hA17 hA18 a2 a4 a5 a6 a7 a8 a9 a10 a11 a12 a13 a14 a15 a16 a17
  refine wp_ret ?_
  -- ret
  refine ret_1 hA19 2 rfl rfl ?_
  exact ⟨ret_bool (by rw [hs]; unfold fitsDF; simp), HB⟩
theorem refFits_any (u d f : Int) (A : Option Addr) (n c : Nat) (w : World) :
    Calls Tryd.prog 29 #[.agg #[.int .u32 u, .int .i64 d, .int .i64 f, .slice A n c]] w fun e w' => e = .returned (.bool (fitsDF d f && decide (n ≤ 20000))) ∧ Below w.heap.size w w' := by
  refine calls_at 27 Tryd.func29 rfl rfl (Nat.le_of_ble_eq_true rfl) ?_
  intro a hA
  simp only [argsE, keepE, lookS, Nat.reduceBEq, cond_true, cond_false, Nat.reduceAdd, gv_tt, gv_ff, Bool.true_and, Bool.false_and, Bool.true_or, Bool.false_or] at hA
  refine wp_seq ?_
  refine wp_region_lit ?_
  -- stop box slot 1
  refine wl_new hA rfl rfl (by decide) (fun ev h => by simp [go_sem, h.get 0 rfl]; try first | exact ⟨rfl, rfl⟩ | rfl) fun w1 a20 (K : Blk _ _ _ _) hz hb hA20 => ?_
  refine wl_op hA20 rfl rfl (by decide) (fun ev h => by simp [go_sem, h.c, K.cell]; try first | exact ⟨rfl, rfl⟩ | rfl) fun a21 hA21 => ?_
  refine wl_nil ?_
  refine n_then ?_
  have hA22 := hA21.keep [1]
  simp only [argsE, keepE, lookS, Nat.reduceBEq, cond_true, cond_false, Nat.reduceAdd, gv_tt, gv_ff, Bool.true_and, Bool.false_and, Bool.true_or, Bool.false_or] at hA22
  clear hA hA20 hA21 a20
  refine wp_seq ?_
  refine wp_region_lit ?_
  refine wl_op hA22 rfl rfl (by decide) (fun ev h => by simp [go_sem, h.get 1 rfl, K.cell]; try first | exact ⟨rfl, rfl⟩ | rfl) fun a23 hA23 => ?_
  refine wl_op hA23 rfl rfl (by decide) (fun ev h => by simp [go_sem, h.get 3 rfl, K.cell]; try first | exact ⟨rfl, rfl⟩ | rfl) fun a24 hA24 => ?_
  refine wl_op hA24 rfl rfl (by decide) (fun ev h => by simp [go_sem, h.c, h.get 4 rfl, K.cell]; try first | exact ⟨rfl, rfl⟩ | rfl) fun a25 hA25 => ?_
  refine wl_op hA25 rfl rfl (by decide) (fun ev h => by simp [go_sem, h.get 5 rfl, K.cell]; try first | exact ⟨rfl, rfl⟩ | rfl) fun a26 hA26 => ?_
  refine wl_guard _ hA26 rfl rfl rfl rfl (by decide) (fun hq ev h => by simp [go_sem, (h.get 1 rfl), K.cell]; try first | exact ⟨rfl, rfl⟩ | rfl) fun a27 hA27 => ?_
  refine wl_guard _ hA27 rfl rfl rfl rfl (by decide) (fun hq ev h => by simp [go_sem, ((h.get 7 rfl).trans (gw_t (beq_t hq))), K.cell]; try first | exact ⟨rfl, rfl⟩ | rfl) fun a28 hA28 => ?_
  refine wl_guard _ hA28 rfl rfl rfl rfl (by decide) (fun hq ev h => by simp [go_sem, h.c, ((h.get 8 rfl).trans (gw_t (beq_t hq))), K.cell]; try first | exact ⟨rfl, rfl⟩ | rfl) fun a29 hA29 => ?_
  refine wl_op hA29 rfl rfl (by decide) (fun ev h => by first | exact pick_and rfl (h.get 6 rfl) (h.get 9 rfl) (h.c _) | exact pick_or rfl (h.get 6 rfl) (h.get 9 rfl) (h.c _) | (simp [go_sem, h.c, h.get 6 rfl, h.get 9 rfl, K.cell, gv_or, gv_and]; try first | exact ⟨rfl, rfl⟩ | rfl)) fun a30 hA30 => ?_
  refine wl_op hA30 rfl rfl (by decide) (fun ev h => by simp [go_sem, h.get 10 rfl, K.cell]; try first | exact ⟨rfl, rfl⟩ | rfl) fun a31 hA31 => ?_
  refine wl_guard _ hA31 rfl rfl rfl rfl (by decide) (fun hq ev h => by simp [go_sem, (h.get 1 rfl), K.cell]; try first | exact ⟨rfl, rfl⟩ | rfl) fun a32 hA32 => ?_
  refine wl_guard _ hA32 rfl rfl rfl rfl (by decide) (fun hq ev h => by simp [go_sem, ((h.get 12 rfl).trans (gw_t (beq_t hq))), K.cell]; try first | exact ⟨rfl, rfl⟩ | rfl) fun a33 hA33 => ?_
  refine wl_guard _ hA33 rfl rfl rfl rfl (by decide) (fun hq ev h => by simp [go_sem, h.c, ((h.get 13 rfl).trans (gw_t (beq_t hq))), K.cell]; try first | exact ⟨rfl, rfl⟩ | rfl) fun a34 hA34 => ?_
  refine wl_op hA34 rfl rfl (by decide) (fun ev h => by first | exact pick_and rfl (h.get 11 rfl) (h.get 14 rfl) (h.c _) | exact pick_or rfl (h.get 11 rfl) (h.get 14 rfl) (h.c _) | (simp [go_sem, h.c, h.get 11 rfl, h.get 14 rfl, K.cell, gv_or, gv_and]; try first | exact ⟨rfl, rfl⟩ | rfl)) fun a35 hA35 => ?_
  refine wl_op hA35 rfl rfl (by decide) (fun ev h => by simp [go_sem, h.get 15 rfl, K.cell]; try first | exact ⟨rfl, rfl⟩ | rfl) fun a36 hA36 => ?_
  refine wl_guard _ hA36 rfl rfl rfl rfl (by decide) (fun hq ev h => by simp [go_sem, (h.get 1 rfl), K.cell]; try first | exact ⟨rfl, rfl⟩ | rfl) fun a37 hA37 => ?_
  refine wl_guard _ hA37 rfl rfl rfl rfl (by decide) (fun hq ev h => by simp [go_sem, ((h.get 17 rfl).trans (gw_t (beq_t hq))), K.cell]; try first | exact ⟨rfl, rfl⟩ | rfl) fun a38 hA38 => ?_
  refine wl_guard _ hA38 rfl rfl rfl rfl (by decide) (fun hq ev h => by simp [go_sem, h.c, ((h.get 18 rfl).trans (gw_t (beq_t hq))), K.cell]; try first | exact ⟨rfl, rfl⟩ | rfl) fun a39 hA39 => ?_
  refine wl_op hA39 rfl rfl (by decide) (fun ev h => by first | exact pick_and rfl (h.get 16 rfl) (h.get 19 rfl) (h.c _) | exact pick_or rfl (h.get 16 rfl) (h.get 19 rfl) (h.c _) | (simp [go_sem, h.c, h.get 16 rfl, h.get 19 rfl, K.cell, gv_or, gv_and]; try first | exact ⟨rfl, rfl⟩ | rfl)) fun a40 hA40 => ?_
  refine wl_op hA40 rfl rfl (by decide) (fun ev h => by simp [go_sem, h.get 20 rfl, K.cell]; try first | exact ⟨rfl, rfl⟩ | rfl) fun a41 hA41 => ?_
  refine wl_guard _ hA41 rfl rfl rfl rfl (by decide) (fun hq ev h => by simp [go_sem, (h.get 1 rfl), K.cell]; try first | exact ⟨rfl, rfl⟩ | rfl) fun a42 hA42 => ?_
  refine wl_guard _ hA42 rfl rfl rfl rfl (by decide) (fun hq ev h => by simp [go_sem, ((h.get 22 rfl).trans (gw_t (beq_t hq))), K.cell]; try first | exact ⟨rfl, rfl⟩ | rfl) fun a43 hA43 => ?_
  refine wl_guard _ hA43 rfl rfl rfl rfl (by decide) (fun hq ev h => by simp [go_sem, ((h.get 23 rfl).trans (gw_t (beq_t hq))), K.cell]; try first | exact ⟨rfl, rfl⟩ | rfl) fun a44 hA44 => ?_
  refine wl_guard _ hA44 rfl rfl rfl rfl (by decide) (fun hq ev h => by simp [go_sem, h.c, ((h.get 24 rfl).trans (gw_t (beq_t hq))), K.cell]; try first | exact ⟨rfl, rfl⟩ | rfl) fun a45 hA45 => ?_
  refine wl_op hA45 rfl rfl (by decide) (fun ev h => by first | exact pick_and rfl (h.get 21 rfl) (h.get 25 rfl) (h.c _) | exact pick_or rfl (h.get 21 rfl) (h.get 25 rfl) (h.c _) | (simp [go_sem, h.c, h.get 21 rfl, h.get 25 rfl, K.cell, gv_or, gv_and]; try first | exact ⟨rfl, rfl⟩ | rfl)) fun a46 hA46 => ?_
  refine wl_op hA46 rfl rfl (by decide) (fun ev h => by simp [go_sem, h.get 26 rfl, K.cell]; try first | exact ⟨rfl, rfl⟩ | rfl) fun a47 hA47 => ?_
  refine wl_nil ?_
  refine n_then ?_
  have hA48 := hA47.keep [2]
  simp only [argsE, keepE, lookS, Nat.reduceBEq, cond_true, cond_false, Nat.reduceAdd, gv_tt, gv_ff, Bool.true_and, Bool.false_and, Bool.true_or, Bool.false_or] at hA48
  clear hA22 hA23 hA24 hA25 hA26 hA27 hA28 hA29 hA30 hA31 hA32 hA33 hA34 hA35 hA36 hA37 hA38 hA39 hA40 hA41 hA42 hA43 hA44 hA45 hA46 hA47 a21 a23 a24 a25 a26 a27 a28 a29 a30 a31 a32 a33 a34 a35 a36 a37 a38 a39 a40 a41 a42 a43 a44 a45 a46
  refine wp_ret ?_
  -- ret
  refine ret_1 hA48 2 rfl rfl ?_
  refine ⟨ret_bool ?_, hb⟩
  unfold fitsDF dateOk
  rw [show decide (f ≤ 31) = decide (f < 32) by rw [Bool.eq_iff_iff]; simp; omega, show decide (n ≤ 20000) = decide ((n : Int) ≤ 20000) by rw [Bool.eq_iff_iff]; simp; omega]
end Go.Proofs.YtbbhblnhbgkcaaaDoor
