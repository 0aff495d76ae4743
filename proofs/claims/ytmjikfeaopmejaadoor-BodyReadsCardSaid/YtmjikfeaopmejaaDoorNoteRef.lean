/-
  Walk: which notes are formed, as the document says.
-/
import Derived.Test.YtmjikfeaopmejaaDoorNote
namespace Go.Proofs.YtmjikfeaopmejaaDoor
open Go.RowKit
set_option linter.unusedSimpArgs false
set_option linter.unusedVariables false
theorem gt0 (u : Nat) : decide ((0 : Int) < (u : Int)) = decide (1 ≤ u) := by rw [Bool.eq_iff_iff]; simp; omega
set_option maxRecDepth 100000 in
set_option maxHeartbeats 1000000 in
theorem refFormed_any (k : Int) (e : Nat) (nm : ByteArray) (m : MsgV) (w : World) (hs : nm.size ≤ 9223372036854775807) :
    Calls Tryd.prog 6 #[.agg (noteC k e nm m)] w fun ev w' => ev = .returned (.bool (formedV k e nm m)) ∧ Below w.heap.size w w' := by
  refine calls_at 82 Tryd.func6 rfl rfl (Nat.le_of_ble_eq_true rfl) ?_
  intro a hA
  simp only [argsE, keepE, lookS, Nat.reduceBEq, cond_true, cond_false, Nat.reduceAdd, gv_tt, gv_ff, Bool.true_and, Bool.false_and, Bool.true_or, Bool.false_or] at hA
  refine wp_seq ?_
  refine wp_region_lit ?_
  -- stop box slot 1
  refine wl_new hA rfl rfl (by decide) (fun ev h => by simp [go_sem, h.get 0 rfl]; try first | exact ⟨rfl, rfl⟩ | rfl) fun w1 a1 (K : Blk _ _ _ _) hz hb0 hA1 => ?_
  unfold noteC at K
  refine wl_op hA1 rfl rfl (by decide) (fun ev h => by simp [go_sem, h.c, K.cell]; try first | exact ⟨rfl, rfl⟩ | rfl) fun a2 hA2 => ?_
  refine wl_nil ?_
  refine n_then ?_
  have hA3 := hA2.keep [1]
  simp only [argsE, keepE, lookS, Nat.reduceBEq, cond_true, cond_false, Nat.reduceAdd, gv_tt, gv_ff, Bool.true_and, Bool.false_and, Bool.true_or, Bool.false_or] at hA3
  clear hA hA1 hA2 a1
  refine wp_seq ?_
  refine wp_region_lit ?_
  refine wl_op hA3 rfl rfl (by decide) (fun ev h => by simp [go_sem, h.get 1 rfl, K.cell]; try first | exact ⟨rfl, rfl⟩ | rfl) fun a4 hA4 => ?_
  refine wl_op hA4 rfl rfl (by decide) (fun ev h => by simp [go_sem, h.get 4 rfl, K.cell]; try first | exact ⟨rfl, rfl⟩ | rfl) fun a5 hA5 => ?_
  refine wl_op hA5 rfl rfl (by decide) (fun ev h => by simp [go_sem, h.get 5 rfl, K.cell]; try first | exact ⟨rfl, rfl⟩ | rfl) fun a6 hA6 => ?_
  refine wl_op hA6 rfl rfl (by decide) (fun ev h => by simp [go_sem, h.c, h.get 6 rfl, K.cell]; try first | exact ⟨rfl, rfl⟩ | rfl) fun a7 hA7 => ?_
  refine wl_op hA7 rfl rfl (by decide) (fun ev h => by simp [go_sem, h.get 7 rfl, K.cell]; try first | exact ⟨rfl, rfl⟩ | rfl) fun a8 hA8 => ?_
  refine wl_guard _ hA8 rfl rfl rfl rfl (by decide) (fun hq ev h => by simp [go_sem, (h.get 1 rfl), K.cell]; try first | exact ⟨rfl, rfl⟩ | rfl) fun a9 hA9 => ?_
  refine wl_guard _ hA9 rfl rfl rfl rfl (by decide) (fun hq ev h => by simp [go_sem, ((h.get 9 rfl).trans (gw_t (beq_t hq))), K.cell]; try first | exact ⟨rfl, rfl⟩ | rfl) fun a10 hA10 => ?_
  refine wl_guard _ hA10 rfl rfl rfl rfl (by decide) (fun hq ev h => by simp [go_sem, ((h.get 10 rfl).trans (gw_t (beq_t hq))), K.cell]; try first | exact ⟨rfl, rfl⟩ | rfl) fun a11 hA11 => ?_
  refine wl_guard _ hA11 rfl rfl rfl rfl (by decide) (fun hq ev h => by simp [go_sem, h.c, ((h.get 11 rfl).trans (gw_t (beq_t hq))), K.cell]; try first | exact ⟨rfl, rfl⟩ | rfl) fun a12 hA12 => ?_
  refine wl_op hA12 rfl rfl (by decide) (fun ev h => by first | exact pick_and rfl (h.get 8 rfl) (h.get 12 rfl) (h.c _) | exact pick_or rfl (h.get 8 rfl) (h.get 12 rfl) (h.c _) | (simp [go_sem, h.c, h.get 8 rfl, h.get 12 rfl, K.cell, gv_or, gv_and]; try first | exact ⟨rfl, rfl⟩ | rfl)) fun a13 hA13 => ?_
  refine wl_op hA13 rfl rfl (by decide) (fun ev h => by simp [go_sem, h.get 13 rfl, K.cell]; try first | exact ⟨rfl, rfl⟩ | rfl) fun a14 hA14 => ?_
  refine wl_guard _ hA14 rfl rfl rfl rfl (by decide) (fun hq ev h => by simp [go_sem, (h.get 1 rfl), K.cell]; try first | exact ⟨rfl, rfl⟩ | rfl) fun a15 hA15 => ?_
  refine wl_guard _ hA15 rfl rfl rfl rfl (by decide) (fun hq ev h => by simp [go_sem, ((h.get 15 rfl).trans (gw_t (beq_t hq))), K.cell]; try first | exact ⟨rfl, rfl⟩ | rfl) fun a16 hA16 => ?_
  refine wl_guard _ hA16 rfl rfl rfl rfl (by decide) (fun hq ev h => by simp [go_sem, ((h.get 16 rfl).trans (gw_t (beq_t hq))), K.cell]; try first | exact ⟨rfl, rfl⟩ | rfl) fun a17 hA17 => ?_
  refine wl_guard _ hA17 rfl rfl rfl rfl (by decide) (fun hq ev h => by simp [go_sem, ((h.get 17 rfl).trans (gw_t (beq_t hq))), K.cell]; try first | exact ⟨rfl, rfl⟩ | rfl) fun a18 hA18 => ?_
  refine wl_guard _ hA18 rfl rfl rfl rfl (by decide) (fun hq ev h => by simp [go_sem, h.c, ((h.get 18 rfl).trans (gw_t (beq_t hq))), K.cell]; try first | exact ⟨rfl, rfl⟩ | rfl) fun a19 hA19 => ?_
  refine wl_op hA19 rfl rfl (by decide) (fun ev h => by first | exact pick_and rfl (h.get 14 rfl) (h.get 19 rfl) (h.c _) | exact pick_or rfl (h.get 14 rfl) (h.get 19 rfl) (h.c _) | (simp [go_sem, h.c, h.get 14 rfl, h.get 19 rfl, K.cell, gv_or, gv_and]; try first | exact ⟨rfl, rfl⟩ | rfl)) fun a20 hA20 => ?_
  refine wl_op hA20 rfl rfl (by decide) (fun ev h => by simp [go_sem, h.get 20 rfl, K.cell]; try first | exact ⟨rfl, rfl⟩ | rfl) fun a21 hA21 => ?_
  refine wl_nil ?_
  refine n_then ?_
  have hA22 := hA21.keep [1, 3]
  simp only [argsE, keepE, lookS, Nat.reduceBEq, cond_true, cond_false, Nat.reduceAdd, gv_tt, gv_ff, Bool.true_and, Bool.false_and, Bool.true_or, Bool.false_or] at hA22
  clear hA3 hA4 hA5 hA6 hA7 hA8 hA9 hA10 hA11 hA12 hA13 hA14 hA15 hA16 hA17 hA18 hA19 hA20 hA21 a2 a4 a5 a6 a7 a8 a9 a10 a11 a12 a13 a14 a15 a16 a17 a18 a19 a20
  refine wp_seq ?_
  refine wp_seq ?_
  refine wp_region_lit ?_
  refine wl_op hA22 rfl rfl (by decide) (fun ev h => by simp [go_sem, h.get 1 rfl, K.cell]; try first | exact ⟨rfl, rfl⟩ | rfl) fun a23 hA23 => ?_
  refine wl_op hA23 rfl rfl (by decide) (fun ev h => by simp [go_sem, h.get 21 rfl, K.cell]; try first | exact ⟨rfl, rfl⟩ | rfl) fun a24 hA24 => ?_
  refine wl_nil ?_
  refine n_then ?_
  have hA25 := hA24.keep [1, 3, 22]
  simp only [argsE, keepE, lookS, Nat.reduceBEq, cond_true, cond_false, Nat.reduceAdd, gv_tt, gv_ff, Bool.true_and, Bool.false_and, Bool.true_or, Bool.false_or] at hA25
  clear hA22 hA23 hA24 a21 a23
  refine wp_block ?_
  refine wp_seq ?_
  refine wp_region_lit ?_
  refine wl_op hA25 rfl rfl (by decide) (fun ev h => by simp [go_sem, h.c, h.get 22 rfl, K.cell]; try first | exact ⟨rfl, rfl⟩ | rfl) fun a26 hA26 => ?_
  refine wl_op hA26 rfl rfl (by decide) (fun ev h => by simp [go_sem, h.get 24 rfl, K.cell]; try first | exact ⟨rfl, rfl⟩ | rfl) fun a27 hA27 => ?_
  refine wl_nil ?_
  refine n_then ?_
  have hA28 := hA27.keep [1, 3, 22, 23]
  simp only [argsE, keepE, lookS, Nat.reduceBEq, cond_true, cond_false, Nat.reduceAdd, gv_tt, gv_ff, Bool.true_and, Bool.false_and, Bool.true_or, Bool.false_or] at hA28
  clear hA25 hA26 hA27 a24 a26
  -- cond
  refine wp_if hA28 23 _ rfl (fun hq1 => ?yA) (fun hq1 => ?nA)
  case yA =>
    refine wp_seq ?_
    refine wp_region_lit ?_
    refine wl_op hA28 rfl rfl (by decide) (fun ev h => by simp [go_sem, h.get 1 rfl, K.cell]; try first | exact ⟨rfl, rfl⟩ | rfl) fun a29 hA29 => ?_
    refine wl_op hA29 rfl rfl (by decide) (fun ev h => by simp [go_sem, h.get 25 rfl, K.cell]; try first | exact ⟨rfl, rfl⟩ | rfl) fun a30 hA30 => ?_
    refine wl_op hA30 rfl rfl (by decide) (fun ev h => by simp [go_sem, h.c, h.get 26 rfl, K.cell]; try first | exact ⟨rfl, rfl⟩ | rfl) fun a31 hA31 => ?_
    refine wl_op hA31 rfl rfl (by decide) (fun ev h => by simp [go_sem, h.get 27 rfl, K.cell]; try first | exact ⟨rfl, rfl⟩ | rfl) fun a32 hA32 => ?_
    refine wl_guard _ hA32 rfl rfl rfl rfl (by decide) (fun hq ev h => by simp [go_sem, (h.get 1 rfl), K.cell]; try first | exact ⟨rfl, rfl⟩ | rfl) fun a33 hA33 => ?_
    refine wl_guard _ hA33 rfl rfl rfl rfl (by decide) (fun hq ev h => by simp [go_sem, ((h.get 29 rfl).trans (gw_t (beq_t hq))), K.cell]; try first | exact ⟨rfl, rfl⟩ | rfl) fun a34 hA34 => ?_
    -- stop call slot 31
    refine wl_gcallv _ hA34 rfl rfl rfl rfl (by decide) (fun hq ev h => by simp [go_sem, ((h.get 30 rfl).trans (gw_t (beq_t hq))), K.cell, h.f]; try first | exact ⟨rfl, rfl⟩ | rfl) (fun hq => refNamed_any nm hs _) fun a35 w2 hb hA35 => ?_
    replace K := K.below hb K.lt
    refine wl_op hA35 rfl rfl (by decide) (fun ev h => by first | exact pick_and rfl (h.get 28 rfl) (h.get 31 rfl) (h.c _) | exact pick_or rfl (h.get 28 rfl) (h.get 31 rfl) (h.c _) | (simp [go_sem, h.c, h.get 28 rfl, h.get 31 rfl, K.cell, gv_or, gv_and]; try first | exact ⟨rfl, rfl⟩ | rfl)) fun a36 hA36 => ?_
    refine wl_op hA36 rfl rfl (by decide) (fun ev h => by simp [go_sem, h.get 32 rfl, K.cell]; try first | exact ⟨rfl, rfl⟩ | rfl) fun a37 hA37 => ?_
    refine wl_guard _ hA37 rfl rfl rfl rfl (by decide) (fun hq ev h => by simp [go_sem, (h.get 3 rfl), K.cell]; try first | exact ⟨rfl, rfl⟩ | rfl) fun a38 hA38 => ?_
    refine wl_op hA38 rfl rfl (by decide) (fun ev h => by first | exact pick_and rfl (h.get 33 rfl) (h.get 34 rfl) (h.c _) | exact pick_or rfl (h.get 33 rfl) (h.get 34 rfl) (h.c _) | (simp [go_sem, h.c, h.get 33 rfl, h.get 34 rfl, K.cell, gv_or, gv_and]; try first | exact ⟨rfl, rfl⟩ | rfl)) fun a39 hA39 => ?_
    refine wl_op hA39 rfl rfl (by decide) (fun ev h => by simp [go_sem, h.get 35 rfl, K.cell]; try first | exact ⟨rfl, rfl⟩ | rfl) fun a40 hA40 => ?_
    refine wl_guard _ hA40 rfl rfl rfl rfl (by decide) (fun hq ev h => by simp [go_sem, (h.get 1 rfl), K.cell]; try first | exact ⟨rfl, rfl⟩ | rfl) fun a41 hA41 => ?_
    refine wl_guard _ hA41 rfl rfl rfl rfl (by decide) (fun hq ev h => by simp [go_sem, ((h.get 37 rfl).trans (gw_t (beq_t hq))), K.cell]; try first | exact ⟨rfl, rfl⟩ | rfl) fun a42 hA42 => ?_
    refine wl_guard _ hA42 rfl rfl rfl rfl (by decide) (fun hq ev h => by simp [go_sem, ((h.get 38 rfl).trans (gw_t (beq_t hq))), K.cell]; try first | exact ⟨rfl, rfl⟩ | rfl) fun a43 hA43 => ?_
    refine wl_guard _ hA43 rfl rfl rfl rfl (by decide) (fun hq ev h => by simp [go_sem, h.c, ((h.get 39 rfl).trans (gw_t (beq_t hq))), K.cell]; try first | exact ⟨rfl, rfl⟩ | rfl) fun a44 hA44 => ?_
    refine wl_op hA44 rfl rfl (by decide) (fun ev h => by first | exact pick_and rfl (h.get 36 rfl) (h.get 40 rfl) (h.c _) | exact pick_or rfl (h.get 36 rfl) (h.get 40 rfl) (h.c _) | (simp [go_sem, h.c, h.get 36 rfl, h.get 40 rfl, K.cell, gv_or, gv_and]; try first | exact ⟨rfl, rfl⟩ | rfl)) fun a45 hA45 => ?_
    refine wl_op hA45 rfl rfl (by decide) (fun ev h => by simp [go_sem, h.get 41 rfl, K.cell]; try first | exact ⟨rfl, rfl⟩ | rfl) fun a46 hA46 => ?_
    refine wl_nil ?_
    refine n_then ?_
    have hA47 := hA46.keep [2]
    simp only [argsE, keepE, lookS, Nat.reduceBEq, cond_true, cond_false, Nat.reduceAdd, gv_tt, gv_ff, Bool.true_and, Bool.false_and, Bool.true_or, Bool.false_or] at hA47
    clear hA28 hA29 hA30 hA31 hA32 hA33 hA34 hA35 hA36 hA37 hA38 hA39 hA40 hA41 hA42 hA43 hA44 hA45 hA46 a29 a30 a31 a32 a33 a34 a35 a36 a37 a38 a39 a40 a41 a42 a43 a44 a45
    refine wp_ret ?_
    refine r_block ?_
    refine r_then ?_
    -- ret
    refine ret_1 hA47 2 rfl rfl ?_
    exact ⟨ret_bool (by unfold formedV bareV; rw [hq1, eq0 m.uid, cond_true]; simp only [Bool.and_assoc]; rfl), hb0.trans (hb.mono hb0.size)⟩
  case nA =>
    refine wp_seq ?_
    refine wp_region_lit ?_
    refine wl_op hA28 rfl rfl (by decide) (fun ev h => by simp [go_sem, h.c, h.get 22 rfl, K.cell]; try first | exact ⟨rfl, rfl⟩ | rfl) fun a48 hA48 => ?_
    refine wl_op hA48 rfl rfl (by decide) (fun ev h => by simp [go_sem, h.get 43 rfl, K.cell]; try first | exact ⟨rfl, rfl⟩ | rfl) fun a49 hA49 => ?_
    refine wl_nil ?_
    refine n_then ?_
    have hA50 := hA49.keep [1, 3, 22, 42]
    simp only [argsE, keepE, lookS, Nat.reduceBEq, cond_true, cond_false, Nat.reduceAdd, gv_tt, gv_ff, Bool.true_and, Bool.false_and, Bool.true_or, Bool.false_or] at hA50
    clear hA28 hA48 hA49 a48
    -- cond
    refine wp_if hA50 42 _ rfl (fun hq2 => ?yB) (fun hq2 => ?nB)
    case yB =>
      refine wp_seq ?_
      refine wp_region_lit ?_
      refine wl_op hA50 rfl rfl (by decide) (fun ev h => by simp [go_sem, h.get 1 rfl, K.cell]; try first | exact ⟨rfl, rfl⟩ | rfl) fun a51 hA51 => ?_
      refine wl_op hA51 rfl rfl (by decide) (fun ev h => by simp [go_sem, h.get 44 rfl, K.cell]; try first | exact ⟨rfl, rfl⟩ | rfl) fun a52 hA52 => ?_
      refine wl_op hA52 rfl rfl (by decide) (fun ev h => by simp [go_sem, h.c, h.get 45 rfl, K.cell]; try first | exact ⟨rfl, rfl⟩ | rfl) fun a53 hA53 => ?_
      refine wl_op hA53 rfl rfl (by decide) (fun ev h => by simp [go_sem, h.get 46 rfl, K.cell]; try first | exact ⟨rfl, rfl⟩ | rfl) fun a54 hA54 => ?_
      refine wl_guard _ hA54 rfl rfl rfl rfl (by decide) (fun hq ev h => by simp [go_sem, (h.get 1 rfl), K.cell]; try first | exact ⟨rfl, rfl⟩ | rfl) fun a55 hA55 => ?_
      refine wl_guard _ hA55 rfl rfl rfl rfl (by decide) (fun hq ev h => by simp [go_sem, ((h.get 48 rfl).trans (gw_t (beq_t hq))), K.cell]; try first | exact ⟨rfl, rfl⟩ | rfl) fun a56 hA56 => ?_
      -- stop call slot 50
      refine wl_gcallv _ hA56 rfl rfl rfl rfl (by decide) (fun hq ev h => by simp [go_sem, ((h.get 49 rfl).trans (gw_t (beq_t hq))), K.cell, h.f]; try first | exact ⟨rfl, rfl⟩ | rfl) (fun hq => refNamed_any nm hs _) fun a57 w2 hb hA57 => ?_
      replace K := K.below hb K.lt
      refine wl_op hA57 rfl rfl (by decide) (fun ev h => by first | exact pick_and rfl (h.get 47 rfl) (h.get 50 rfl) (h.c _) | exact pick_or rfl (h.get 47 rfl) (h.get 50 rfl) (h.c _) | (simp [go_sem, h.c, h.get 47 rfl, h.get 50 rfl, K.cell, gv_or, gv_and]; try first | exact ⟨rfl, rfl⟩ | rfl)) fun a58 hA58 => ?_
      refine wl_op hA58 rfl rfl (by decide) (fun ev h => by simp [go_sem, h.get 51 rfl, K.cell]; try first | exact ⟨rfl, rfl⟩ | rfl) fun a59 hA59 => ?_
      refine wl_guard _ hA59 rfl rfl rfl rfl (by decide) (fun hq ev h => by simp [go_sem, (h.get 1 rfl), K.cell]; try first | exact ⟨rfl, rfl⟩ | rfl) fun a60 hA60 => ?_
      refine wl_guard _ hA60 rfl rfl rfl rfl (by decide) (fun hq ev h => by simp [go_sem, ((h.get 53 rfl).trans (gw_t (beq_t hq))), K.cell]; try first | exact ⟨rfl, rfl⟩ | rfl) fun a61 hA61 => ?_
      refine wl_guard _ hA61 rfl rfl rfl rfl (by decide) (fun hq ev h => by simp [go_sem, ((h.get 54 rfl).trans (gw_t (beq_t hq))), K.cell]; try first | exact ⟨rfl, rfl⟩ | rfl) fun a62 hA62 => ?_
      refine wl_guard _ hA62 rfl rfl rfl rfl (by decide) (fun hq ev h => by simp [go_sem, h.c, ((h.get 55 rfl).trans (gw_t (beq_t hq))), K.cell]; try first | exact ⟨rfl, rfl⟩ | rfl) fun a63 hA63 => ?_
      refine wl_op hA63 rfl rfl (by decide) (fun ev h => by first | exact pick_and rfl (h.get 52 rfl) (h.get 56 rfl) (h.c _) | exact pick_or rfl (h.get 52 rfl) (h.get 56 rfl) (h.c _) | (simp [go_sem, h.c, h.get 52 rfl, h.get 56 rfl, K.cell, gv_or, gv_and]; try first | exact ⟨rfl, rfl⟩ | rfl)) fun a64 hA64 => ?_
      refine wl_op hA64 rfl rfl (by decide) (fun ev h => by simp [go_sem, h.get 57 rfl, K.cell]; try first | exact ⟨rfl, rfl⟩ | rfl) fun a65 hA65 => ?_
      refine wl_guard _ hA65 rfl rfl rfl rfl (by decide) (fun hq ev h => by simp [go_sem, (h.get 1 rfl), K.cell]; try first | exact ⟨rfl, rfl⟩ | rfl) fun a66 hA66 => ?_
      refine wl_guard _ hA66 rfl rfl rfl rfl (by decide) (fun hq ev h => by simp [go_sem, ((h.get 59 rfl).trans (gw_t (beq_t hq))), K.cell]; try first | exact ⟨rfl, rfl⟩ | rfl) fun a67 hA67 => ?_
      -- stop call slot 61
      refine wl_gcallv _ hA67 rfl rfl rfl rfl (by decide) (fun hq ev h => by simp [go_sem, ((h.get 60 rfl).trans (gw_t (beq_t hq))), K.cell, h.f]; try first | exact ⟨rfl, rfl⟩ | rfl) (fun hq => refFits_any (m.uid : Nat) m.date m.flags m.a m.b.length m.c _) fun a68 w3 hb3 hA68 => ?_
      replace K := K.below hb3 K.lt
      refine wl_op hA68 rfl rfl (by decide) (fun ev h => by first | exact pick_and rfl (h.get 58 rfl) (h.get 61 rfl) (h.c _) | exact pick_or rfl (h.get 58 rfl) (h.get 61 rfl) (h.c _) | (simp [go_sem, h.c, h.get 58 rfl, h.get 61 rfl, K.cell, gv_or, gv_and]; try first | exact ⟨rfl, rfl⟩ | rfl)) fun a69 hA69 => ?_
      refine wl_op hA69 rfl rfl (by decide) (fun ev h => by simp [go_sem, h.get 62 rfl, K.cell]; try first | exact ⟨rfl, rfl⟩ | rfl) fun a70 hA70 => ?_
      refine wl_nil ?_
      refine n_then ?_
      have hA71 := hA70.keep [2]
      simp only [argsE, keepE, lookS, Nat.reduceBEq, cond_true, cond_false, Nat.reduceAdd, gv_tt, gv_ff, Bool.true_and, Bool.false_and, Bool.true_or, Bool.false_or] at hA71
      clear hA50 hA51 hA52 hA53 hA54 hA55 hA56 hA57 hA58 hA59 hA60 hA61 hA62 hA63 hA64 hA65 hA66 hA67 hA68 hA69 hA70 a51 a52 a53 a54 a55 a56 a57 a58 a59 a60 a61 a62 a63 a64 a65 a66 a67 a68 a69
      refine wp_ret ?_
      refine r_block ?_
      refine r_then ?_
      -- ret
      refine ret_1 hA71 2 rfl rfl ?_
      exact ⟨ret_bool (by unfold formedV fullV; rw [hq1, hq2, cond_false, cond_true]; simp only [Bool.and_assoc]; rfl), (hb0.trans (hb.mono hb0.size)).trans (hb3.mono (Nat.le_trans hb0.size hb.size))⟩
    case nB =>
      refine wp_seq ?_
      refine wp_region_lit ?_
      refine wl_op hA50 rfl rfl (by decide) (fun ev h => by simp [go_sem, h.c, h.get 22 rfl, K.cell]; try first | exact ⟨rfl, rfl⟩ | rfl) fun a72 hA72 => ?_
      refine wl_op hA72 rfl rfl (by decide) (fun ev h => by simp [go_sem, h.get 64 rfl, K.cell]; try first | exact ⟨rfl, rfl⟩ | rfl) fun a73 hA73 => ?_
      refine wl_nil ?_
      refine n_then ?_
      have hA74 := hA73.keep [1, 3, 63]
      simp only [argsE, keepE, lookS, Nat.reduceBEq, cond_true, cond_false, Nat.reduceAdd, gv_tt, gv_ff, Bool.true_and, Bool.false_and, Bool.true_or, Bool.false_or] at hA74
      clear hA50 hA72 hA73 a72
      -- cond
      refine wp_if hA74 63 _ rfl (fun hq3 => ?yC) (fun hq3 => ?nC)
      case yC =>
        refine wp_seq ?_
        refine wp_region_lit ?_
        refine wl_op hA74 rfl rfl (by decide) (fun ev h => by simp [go_sem, h.get 1 rfl, K.cell]; try first | exact ⟨rfl, rfl⟩ | rfl) fun a75 hA75 => ?_
        refine wl_op hA75 rfl rfl (by decide) (fun ev h => by simp [go_sem, h.get 65 rfl, K.cell]; try first | exact ⟨rfl, rfl⟩ | rfl) fun a76 hA76 => ?_
        refine wl_op hA76 rfl rfl (by decide) (fun ev h => by simp [go_sem, h.c, h.get 66 rfl, K.cell]; try first | exact ⟨rfl, rfl⟩ | rfl) fun a77 hA77 => ?_
        refine wl_op hA77 rfl rfl (by decide) (fun ev h => by simp [go_sem, h.get 67 rfl, K.cell]; try first | exact ⟨rfl, rfl⟩ | rfl) fun a78 hA78 => ?_
        refine wl_guard _ hA78 rfl rfl rfl rfl (by decide) (fun hq ev h => by simp [go_sem, (h.get 1 rfl), K.cell]; try first | exact ⟨rfl, rfl⟩ | rfl) fun a79 hA79 => ?_
        refine wl_guard _ hA79 rfl rfl rfl rfl (by decide) (fun hq ev h => by simp [go_sem, ((h.get 69 rfl).trans (gw_t (beq_t hq))), K.cell]; try first | exact ⟨rfl, rfl⟩ | rfl) fun a80 hA80 => ?_
        refine wl_guard _ hA80 rfl rfl rfl rfl (by decide) (fun hq ev h => by simp [go_sem, h.c, ((h.get 70 rfl).trans (gw_t (beq_t hq))), K.cell]; try first | exact ⟨rfl, rfl⟩ | rfl) fun a81 hA81 => ?_
        refine wl_op hA81 rfl rfl (by decide) (fun ev h => by first | exact pick_and rfl (h.get 68 rfl) (h.get 71 rfl) (h.c _) | exact pick_or rfl (h.get 68 rfl) (h.get 71 rfl) (h.c _) | (simp [go_sem, h.c, h.get 68 rfl, h.get 71 rfl, K.cell, gv_or, gv_and]; try first | exact ⟨rfl, rfl⟩ | rfl)) fun a82 hA82 => ?_
        refine wl_op hA82 rfl rfl (by decide) (fun ev h => by simp [go_sem, h.get 72 rfl, K.cell]; try first | exact ⟨rfl, rfl⟩ | rfl) fun a83 hA83 => ?_
        refine wl_guard _ hA83 rfl rfl rfl rfl (by decide) (fun hq ev h => by simp [go_sem, (h.get 3 rfl), K.cell]; try first | exact ⟨rfl, rfl⟩ | rfl) fun a84 hA84 => ?_
        refine wl_op hA84 rfl rfl (by decide) (fun ev h => by first | exact pick_and rfl (h.get 73 rfl) (h.get 74 rfl) (h.c _) | exact pick_or rfl (h.get 73 rfl) (h.get 74 rfl) (h.c _) | (simp [go_sem, h.c, h.get 73 rfl, h.get 74 rfl, K.cell, gv_or, gv_and]; try first | exact ⟨rfl, rfl⟩ | rfl)) fun a85 hA85 => ?_
        refine wl_op hA85 rfl rfl (by decide) (fun ev h => by simp [go_sem, h.get 75 rfl, K.cell]; try first | exact ⟨rfl, rfl⟩ | rfl) fun a86 hA86 => ?_
        refine wl_guard _ hA86 rfl rfl rfl rfl (by decide) (fun hq ev h => by simp [go_sem, (h.get 1 rfl), K.cell]; try first | exact ⟨rfl, rfl⟩ | rfl) fun a87 hA87 => ?_
        refine wl_guard _ hA87 rfl rfl rfl rfl (by decide) (fun hq ev h => by simp [go_sem, ((h.get 77 rfl).trans (gw_t (beq_t hq))), K.cell]; try first | exact ⟨rfl, rfl⟩ | rfl) fun a88 hA88 => ?_
        refine wl_guard _ hA88 rfl rfl rfl rfl (by decide) (fun hq ev h => by simp [go_sem, ((h.get 78 rfl).trans (gw_t (beq_t hq))), K.cell]; try first | exact ⟨rfl, rfl⟩ | rfl) fun a89 hA89 => ?_
        refine wl_guard _ hA89 rfl rfl rfl rfl (by decide) (fun hq ev h => by simp [go_sem, h.c, ((h.get 79 rfl).trans (gw_t (beq_t hq))), K.cell]; try first | exact ⟨rfl, rfl⟩ | rfl) fun a90 hA90 => ?_
        refine wl_op hA90 rfl rfl (by decide) (fun ev h => by first | exact pick_and rfl (h.get 76 rfl) (h.get 80 rfl) (h.c _) | exact pick_or rfl (h.get 76 rfl) (h.get 80 rfl) (h.c _) | (simp [go_sem, h.c, h.get 76 rfl, h.get 80 rfl, K.cell, gv_or, gv_and]; try first | exact ⟨rfl, rfl⟩ | rfl)) fun a91 hA91 => ?_
        refine wl_op hA91 rfl rfl (by decide) (fun ev h => by simp [go_sem, h.get 81 rfl, K.cell]; try first | exact ⟨rfl, rfl⟩ | rfl) fun a92 hA92 => ?_
        refine wl_nil ?_
        refine n_then ?_
        have hA93 := hA92.keep [2]
        simp only [argsE, keepE, lookS, Nat.reduceBEq, cond_true, cond_false, Nat.reduceAdd, gv_tt, gv_ff, Bool.true_and, Bool.false_and, Bool.true_or, Bool.false_or] at hA93
        clear hA74 hA75 hA76 hA77 hA78 hA79 hA80 hA81 hA82 hA83 hA84 hA85 hA86 hA87 hA88 hA89 hA90 hA91 hA92 a75 a76 a77 a78 a79 a80 a81 a82 a83 a84 a85 a86 a87 a88 a89 a90 a91
        refine wp_ret ?_
        refine r_block ?_
        refine r_then ?_
        -- ret
        refine ret_1 hA93 2 rfl rfl ?_
        exact ⟨ret_bool (by unfold formedV bareV; rw [hq1, hq2, hq3, cond_false, cond_false, Bool.true_and]; simp only [Bool.and_assoc]; rfl), hb0⟩
      case nC =>
        refine wp_skip ?_
        refine n_block ?_
        refine n_then ?_
        refine wp_seq ?_
        refine wp_region_lit ?_
        refine wl_op hA74 rfl rfl (by decide) (fun ev h => by simp [go_sem, h.c, K.cell]; try first | exact ⟨rfl, rfl⟩ | rfl) fun a94 hA94 => ?_
        refine wl_nil ?_
        refine n_then ?_
        have hA95 := hA94.keep [2]
        simp only [argsE, keepE, lookS, Nat.reduceBEq, cond_true, cond_false, Nat.reduceAdd, gv_tt, gv_ff, Bool.true_and, Bool.false_and, Bool.true_or, Bool.false_or] at hA95
        clear hA74 hA94
        refine wp_ret ?_
        -- ret
        refine ret_1 hA95 2 rfl rfl ?_
        exact ⟨ret_bool (by unfold formedV; rw [hq1, hq2, hq3]; simp), hb0⟩
end Go.Proofs.YtmjikfeaopmejaaDoor
