/-
  Walk of the statement on flags.
-/
import Derived.Test.YtljclehhicmkhaaDoorN4
import Derived.Test.YtljclehhicmkhaaDoorBytes
import Derived.IntWalk
namespace Go.Proofs.YtljclehhicmkhaaDoor
open Go.RowKit
set_option linter.unusedSimpArgs false
set_option linter.unusedVariables false
theorem flagsR_zero {e n : Nat} {l : List MarkM} (hl : l.length = n) : (decide (0 < e) && decide ((n : Int) ≤ 500)) = flagsR e l 0 := by
  unfold flagsR
  rw [hl, show decide ((n : Int) ≤ 500) = decide (n ≤ 500) by rw [Bool.eq_iff_iff]; simp; omega]
  simp [marksN]
theorem flagsP_zero {e n : Nat} {l : List MarkM} (hl : l.length = n) : be 4 e ++ be 2 n = flagsP e l 0 := by
  unfold flagsP
  simp [hl]
theorem flagsR_all' (e : Nat) {j : Nat} {l : List MarkM} (hl : l.length = j) : flagsR e l j = rightFlagsV e l := by rw [← hl, flagsR_all]
theorem flagsP_all' {e j : Nat} {l : List MarkM} (hl : l.length = j) (h : rightFlagsV e l = true) : flagsP e l j = flagsB e l := by rw [← hl, flagsP_all h]
set_option maxRecDepth 100000 in
set_option maxHeartbeats 2000000 in
theorem flags_main (A : Option Addr) (c n e : Nat) (l : List MarkM) (w : World) (hm : MaxCell w) (hg : 1 < w.heap.size) (hu : ∀ q ∈ l, q.1 < 4294967296) (he : e < 4294967296) (hl : l.length = n) (hn : n ≤ 9223372036854775807) (hcn : n ≤ c) (hr : Reads w w.heap.size 2 A n (mcells l)) :
    Calls Tryd.prog 4 #[.agg #[.int .u32 (e : Nat), .slice A n c]] w fun ev w' => ev = .returned (.bool true) ∧ Below w.heap.size w w' := by
  refine calls_at 169 Tryd.func4 rfl rfl (Nat.le_of_ble_eq_true rfl) ?_
  intro a hA
  simp only [argsE, keepE, lookS, Nat.reduceBEq, cond_true, cond_false, Nat.reduceAdd, gv_tt, gv_ff, Bool.true_and, Bool.false_and, Bool.true_or, Bool.false_or] at hA
  refine wp_seq ?_
  refine wp_region_lit ?_
  -- stop box slot 1
  refine wl_new hA rfl rfl (by decide) (fun ev h => by simp [go_sem, h.get 0 rfl]; try first | exact ⟨rfl, rfl⟩ | rfl) fun w1 a1 (K : Blk _ _ _ _) hz hb0 hA1 => ?_
  replace hr := (hr.below hb0).more hb0.size
  replace hm := hm.below hg hb0; replace hg := Nat.lt_of_lt_of_le hg hb0.size
  have HB := Below.refl w1.heap.size w1
  refine wl_op hA1 rfl rfl (by decide) (fun ev h => by simp [go_sem, h.c, (K.below HB K.lt).cell]; try first | exact ⟨rfl, rfl⟩ | rfl) fun a2 hA2 => ?_
  refine wl_nil ?_
  refine n_then ?_
  have hA3 := hA2.keep [1]
  simp only [argsE, keepE, lookS, Nat.reduceBEq, cond_true, cond_false, Nat.reduceAdd, gv_tt, gv_ff, Bool.true_and, Bool.false_and, Bool.true_or, Bool.false_or] at hA3
  clear hA hA1 hA2 a1
  refine wp_seq ?_
  refine wp_seq ?_
  refine wp_region_lit ?_
  -- stop call slot 12
  refine wl_call hA3 rfl rfl (by decide) (fun ev h => by simp [go_sem, (K.below HB K.lt).cell, h.f]; try first | exact ⟨rfl, rfl⟩ | rfl) (awake11 _ (hm.below hg HB) (Nat.lt_of_lt_of_le hg HB.size)) ?_
  rintro e w2 ⟨rfl, hb⟩
  refine ⟨_, rfl, fun a4 hA4 => ?_⟩
  replace HB := HB.trans (hb.mono HB.size)
  refine wl_op hA4 rfl rfl (by decide) (fun ev h => by simp [go_sem, h.get 12 rfl, (K.below HB K.lt).cell]; try first | exact ⟨rfl, rfl⟩ | rfl) fun a5 hA5 => ?_
  refine wl_op hA5 rfl rfl (by decide) (fun ev h => by simp [go_sem, h.get 13 rfl, (K.below HB K.lt).cell]; try first | exact ⟨rfl, rfl⟩ | rfl) fun a6 hA6 => ?_
  refine wl_guard _ hA6 rfl rfl rfl rfl (by decide) (fun hq ev h => by simp [go_sem, (h.get 1 rfl), (K.below HB K.lt).cell]; try first | exact ⟨rfl, rfl⟩ | rfl) fun a7 hA7 => ?_
  refine wl_guard _ hA7 rfl rfl rfl rfl (by decide) (fun hq ev h => by simp [go_sem, ((h.get 15 rfl).trans (gw_t (beq_t hq))), (K.below HB K.lt).cell]; try first | exact ⟨rfl, rfl⟩ | rfl) fun a8 hA8 => ?_
  refine wl_guard _ hA8 rfl rfl rfl rfl (by decide) (fun hq ev h => by simp [go_sem, ((h.get 16 rfl).trans (gw_t (beq_t hq))), (K.below HB K.lt).cell]; try first | exact ⟨rfl, rfl⟩ | rfl) fun a9 hA9 => ?_
  refine wl_guard _ hA9 rfl rfl rfl rfl (by decide) (fun hq ev h => by simp [go_sem, h.c, ((h.get 17 rfl).trans (gw_t (beq_t hq))), (K.below HB K.lt).cell]; try first | exact ⟨rfl, rfl⟩ | rfl) fun a10 hA10 => ?_
  refine wl_op hA10 rfl rfl (by decide) (fun ev h => by first | exact pick_and rfl (h.get 14 rfl) (h.c _) (h.get 18 rfl) | exact pick_or rfl (h.get 14 rfl) (h.c _) (h.get 18 rfl) | (simp [go_sem, h.c, h.get 14 rfl, h.get 18 rfl, (K.below HB K.lt).cell, gv_or, gv_and]; try first | exact ⟨rfl, rfl⟩ | rfl)) fun a11 hA11 => ?_
  refine wl_nil ?_
  refine n_then ?_
  have hA12 := hA11.keep [1, 19]
  simp only [argsE, keepE, lookS, Nat.reduceBEq, cond_true, cond_false, Nat.reduceAdd, gv_tt, gv_ff, Bool.true_and, Bool.false_and, Bool.true_or, Bool.false_or] at hA12
  clear hA3 hA4 hA5 hA6 hA7 hA8 hA9 hA10 hA11 a2 a4 a5 a6 a7 a8 a9 a10
  -- cond
  refine wp_if hA12 19 _ rfl (fun hq => ?yA) (fun hq => ?nA)
  case yA =>
    refine wp_seq ?_
    refine wp_region_lit ?_
    -- stop call slot 20
    refine wl_call hA12 rfl rfl (by decide) (fun ev h => by simp [go_sem, (K.below HB K.lt).cell, h.f]; try first | exact ⟨rfl, rfl⟩ | rfl) (awake11 _ (hm.below hg HB) (Nat.lt_of_lt_of_le hg HB.size)) ?_
    rintro e w3 ⟨rfl, hb⟩
    refine ⟨_, rfl, fun a13 hA13 => ?_⟩
    replace HB := HB.trans (hb.mono HB.size)
    refine wl_op hA13 rfl rfl (by decide) (fun ev h => by simp [go_sem, h.get 20 rfl, (K.below HB K.lt).cell]; try first | exact ⟨rfl, rfl⟩ | rfl) fun a14 hA14 => ?_
    refine wl_nil ?_
    refine n_then ?_
    have hA15 := hA14.keep [2]
    simp only [argsE, keepE, lookS, Nat.reduceBEq, cond_true, cond_false, Nat.reduceAdd, gv_tt, gv_ff, Bool.true_and, Bool.false_and, Bool.true_or, Bool.false_or] at hA15
    clear hA12 hA13 hA14 a13
    refine wp_ret ?_
    refine r_then ?_
    refine ret_1 hA15 2 rfl rfl ?_
    exact ⟨rfl, hb0.trans (HB.mono hb0.size)⟩
  case nA =>
    have hn7 : n ≤ 700 := by simp at hq; omega
    have hwe : IntKind.i64.wrap (e : Int) = (e : Int) := IntWalk.i64_in _ (by omega)
    have hwe2 : IntKind.u64.wrap (e : Int) = (e : Int) := IntWalk.u64_in _ (by omega)
    have hwn : IntKind.u64.wrap (n : Int) = (n : Int) := IntWalk.u64_in _ (by omega)
    refine wp_skip ?_
    refine n_then ?_
    refine wp_seq ?_
    refine wp_region_lit ?_
    refine wl_op hA12 rfl rfl (by decide) (fun ev h => by simp [go_sem, h.get 1 rfl, (K.below HB K.lt).cell]; try first | exact ⟨rfl, rfl⟩ | rfl) fun a16 hA16 => ?_
    refine wl_op hA16 rfl rfl (by decide) (fun ev h => by simp [go_sem, h.get 21 rfl, (K.below HB K.lt).cell]; try first | exact ⟨rfl, rfl⟩ | rfl) fun a17 hA17 => ?_
    refine wl_op hA17 rfl rfl (by decide) (fun ev h => by simp [go_sem, h.c, h.get 22 rfl, (K.below HB K.lt).cell]; try first | exact ⟨rfl, rfl⟩ | rfl) fun a18 hA18 => ?_
    refine wl_op hA18 rfl rfl (by decide) (fun ev h => by simp [go_sem, h.get 23 rfl, (K.below HB K.lt).cell]; try first | exact ⟨rfl, rfl⟩ | rfl) fun a19 hA19 => ?_
    refine wl_guard _ hA19 rfl rfl rfl rfl (by decide) (fun hq ev h => by simp [go_sem, (h.get 1 rfl), (K.below HB K.lt).cell]; try first | exact ⟨rfl, rfl⟩ | rfl) fun a20 hA20 => ?_
    refine wl_guard _ hA20 rfl rfl rfl rfl (by decide) (fun hq ev h => by simp [go_sem, ((h.get 25 rfl).trans (gw_t (beq_t hq))), (K.below HB K.lt).cell]; try first | exact ⟨rfl, rfl⟩ | rfl) fun a21 hA21 => ?_
    refine wl_guard _ hA21 rfl rfl rfl rfl (by decide) (fun hq ev h => by simp [go_sem, ((h.get 26 rfl).trans (gw_t (beq_t hq))), (K.below HB K.lt).cell]; try first | exact ⟨rfl, rfl⟩ | rfl) fun a22 hA22 => ?_
    refine wl_guard _ hA22 rfl rfl rfl rfl (by decide) (fun hq ev h => by simp [go_sem, h.c, ((h.get 27 rfl).trans (gw_t (beq_t hq))), (K.below HB K.lt).cell]; try first | exact ⟨rfl, rfl⟩ | rfl) fun a23 hA23 => ?_
    refine wl_op hA23 rfl rfl (by decide) (fun ev h => by first | exact pick_and rfl (h.get 24 rfl) (h.get 28 rfl) (h.c _) | exact pick_or rfl (h.get 24 rfl) (h.get 28 rfl) (h.c _) | (simp [go_sem, h.c, h.get 24 rfl, h.get 28 rfl, (K.below HB K.lt).cell, gv_or, gv_and]; try first | exact ⟨rfl, rfl⟩ | rfl)) fun a24 hA24 => ?_
    refine wl_op hA24 rfl rfl (by decide) (fun ev h => by simp [go_sem, h.get 29 rfl, (K.below HB K.lt).cell]; try first | exact ⟨rfl, rfl⟩ | rfl) fun a25 hA25 => ?_
    refine wl_nil ?_
    refine n_then ?_
    have hA26 := hA25.keep [1, 3]
    simp only [argsE, keepE, lookS, Nat.reduceBEq, cond_true, cond_false, Nat.reduceAdd, gv_tt, gv_ff, Bool.true_and, Bool.false_and, Bool.true_or, Bool.false_or] at hA26
    clear hA12 hA16 hA17 hA18 hA19 hA20 hA21 hA22 hA23 hA24 hA25 a16 a17 a18 a19 a20 a21 a22 a23 a24
    refine wp_seq ?_
    -- any
    refine wp_any_at hA26 [(.det ?dA0), (.det ?dA1), (.det ?dA2), (.used (fun v wx => Own8 w1.heap.size wx v (be 4 e))), (.det ?dA4), (.det ?dA5), (.det ?dA6), (.det ?dA7), (.used (fun v wx => Own8 w1.heap.size wx v (be 2 n))), (.held (fun v wx => Own8 w1.heap.size wx v (be 4 e ++ be 2 n))), (.held (fun v wx => Own8 w1.heap.size wx v (be 4 e ++ be 2 n)))] [] (fun wx => Below w1.heap.size w1 wx) (TSp [(9, fun _ _ => True)] Grows) (by kernel_rfl) rfl (by kernel_rfl) (by kernel_rfl) rfl (HB.drew) (stab_sp [(9, fun _ _ => True)] [true, true, true, false, true, true, true, true, false, false, false] [true, true, true, false, true, true, true, true, false, true, true] [] rfl rfl rfl (by kernel_rfl) ⟨trivial, trivial, trivial, (fun _ _ _ _ hp hb => hp.below hb), trivial, trivial, trivial, trivial, (fun _ _ _ _ hp hb => hp.below hb), (fun _ _ _ _ hp hb => hp.below hb), (fun _ _ _ _ hp hb => hp.below hb), trivial⟩ trivial) (fun _ h => by cases h) (fun _ _ _ _ h => by cases h) (fun _ h => by cases h) ⟨?oA0, ?oA1, ?oA2, ?oA3, ?oA4, ?oA5, ?oA6, ?oA7, ?oA8, ?oA9, ?oA10, trivial⟩ ?fA
    case oA0 =>
      intro ev wo hev hC hs hph
      have e1 := see_env hA26 hs 1 (by kernel_rfl) (by kernel_rfl) rfl
      exact ob_det (wanted_none rfl) rfl (by kernel_rfl) hC (TSp.of rfl (Grows.refl _)) (by simp [go_sem, e1]; try first | exact ⟨rfl, rfl⟩ | rfl)
    case oA1 =>
      intro ev wo hev hC hs hph
      have e30 := see_det hs 30 0 (by kernel_rfl) (by kernel_rfl) rfl
      have Kx := K.below hC K.lt
      exact ob_det (wanted_none rfl) rfl (by kernel_rfl) hC (TSp.of rfl (Grows.refl _)) (by simp [go_sem, e30, Kx.cell, (K.below HB K.lt).cell]; try first | exact ⟨rfl, rfl⟩ | rfl)
    case oA2 =>
      intro ev wo hev hC hs hph
      have e31 := see_det hs 31 1 (by kernel_rfl) (by kernel_rfl) rfl
      have Kx := K.below hC K.lt
      exact ob_det (wanted_none rfl) rfl (by kernel_rfl) hC (TSp.of rfl (Grows.refl _)) (by simp [go_sem, e31, hwe]; try first | exact ⟨rfl, rfl⟩ | rfl)
    case oA3 =>
      intro ev wo hev hC hs hph
      have e32 := see_det hs 32 2 (by kernel_rfl) (by kernel_rfl) rfl
      have Kx := K.below hC K.lt
      exact ob_yes (wanted_none rfl) (does_enter (by simp [go_sem, e32, hev.func]; try first | exact ⟨rfl, rfl⟩ | rfl) (Calls.mono (n4_any (e : Int) e hwe2 (by omega) wo) (by
        rintro ev' w3 ⟨r, rfl, ho, hb3⟩
        exact ⟨r, rfl, hC.trans (hb3.mono hC.size), TSp.of rfl hb3, (Own8.of ho).mono hC.size, no_start (by kernel_rfl)⟩)))
    case oA4 =>
      intro ev wo hev hC hs hph
      have e1 := see_env hA26 hs 1 (by kernel_rfl) (by kernel_rfl) rfl
      exact ob_det (wanted_none rfl) rfl (by kernel_rfl) hC (TSp.of rfl (Grows.refl _)) (by simp [go_sem, e1]; try first | exact ⟨rfl, rfl⟩ | rfl)
    case oA5 =>
      intro ev wo hev hC hs hph
      have e34 := see_det hs 34 4 (by kernel_rfl) (by kernel_rfl) rfl
      have Kx := K.below hC K.lt
      exact ob_det (wanted_none rfl) rfl (by kernel_rfl) hC (TSp.of rfl (Grows.refl _)) (by simp [go_sem, e34, Kx.cell, (K.below HB K.lt).cell]; try first | exact ⟨rfl, rfl⟩ | rfl)
    case oA6 =>
      intro ev wo hev hC hs hph
      have e35 := see_det hs 35 5 (by kernel_rfl) (by kernel_rfl) rfl
      exact ob_det (wanted_none rfl) rfl (by kernel_rfl) hC (TSp.of rfl (Grows.refl _)) (by simp [go_sem, e35]; try first | exact ⟨rfl, rfl⟩ | rfl)
    case oA7 =>
      intro ev wo hev hC hs hph
      have e36 := see_det hs 36 6 (by kernel_rfl) (by kernel_rfl) rfl
      have Kx := K.below hC K.lt
      exact ob_det (wanted_none rfl) rfl (by kernel_rfl) hC (TSp.of rfl (Grows.refl _)) (by simp [go_sem, e36, hwn]; try first | exact ⟨rfl, rfl⟩ | rfl)
    case oA8 =>
      intro ev wo hev hC hs hph
      have e37 := see_det hs 37 7 (by kernel_rfl) (by kernel_rfl) rfl
      have Kx := K.below hC K.lt
      exact ob_yes (wanted_none rfl) (does_enter (by simp [go_sem, e37, hev.func, hev.const]; try first | exact ⟨rfl, rfl⟩ | rfl) (Calls.mono (refBytes_any n 2 (by omega) (by omega) wo) (by
        rintro ev' w3 ⟨r, rfl, ho, hb3⟩
        exact ⟨r, rfl, hC.trans (hb3.mono hC.size), TSp.of rfl hb3, (Own8.of ho).mono hC.size, no_start (by kernel_rfl)⟩)))
    case oA9 =>
      intro ev wo hev hC hs hph
      have u33 := see_used hs 33 3 (by kernel_rfl) (by kernel_rfl) rfl
      have u38 := see_used hs 38 8 (by kernel_rfl) (by kernel_rfl) rfl
      have Kx := K.below hC K.lt
      obtain ⟨r, w3, hr, ho, hgr⟩ := run_app8 u33 u38.took (by simp [be_length]) hC.size
      exact ob_yes (wanted_none rfl) (does_value (exec_append rfl rfl rfl hr) ⟨below_app8 hC u33 hgr (Nat.le_refl _) hC.size, TSp.sp rfl trivial, ho, no_start (by kernel_rfl)⟩)
    case oA10 =>
      intro ev wo hev hC hs hph
      have u39 := see_held hs 39 9 (by kernel_rfl) (by kernel_rfl) rfl
      have Kx := K.below hC K.lt
      exact ob_yes (wanted_none rfl) (does_value (v := ev (.tmp 39)) (by simp [go_sem]) ⟨hC, TSp.of rfl (Grows.refl _), u39, no_start (by kernel_rfl)⟩)
    intro wf hC hph
    intro x33
    intro x38
    intro x39 h39
    intro x4 h4
    intro a27 hA27
    refine n_then ?_
    have hA28 := hA27.keep [1, 3, 4]
    simp only [argsE, keepE, lookS, Nat.reduceBEq, cond_true, cond_false, Nat.reduceAdd, gv_tt, gv_ff, Bool.true_and, Bool.false_and, Bool.true_or, Bool.false_or] at hA28
    clear hA26 hA27 a25
    replace HB := hC
    refine wp_seq ?_
    refine wp_region_lit ?_
    refine wl_op hA28 rfl rfl (by decide) (fun ev h => by simp [go_sem, h.c, (K.below HB K.lt).cell]; try first | exact ⟨rfl, rfl⟩ | rfl) fun a29 hA29 => ?_
    refine wl_nil ?_
    refine n_then ?_
    have hA30 := hA29.keep [1, 3, 4, 5]
    simp only [argsE, keepE, lookS, Nat.reduceBEq, cond_true, cond_false, Nat.reduceAdd, gv_tt, gv_ff, Bool.true_and, Bool.false_and, Bool.true_or, Bool.false_or] at hA30
    clear hA28 hA29 a27
    refine wp_seq ?_
    refine wp_seq ?_
    refine wp_region_lit ?_
    refine wl_op hA30 rfl rfl (by decide) (fun ev h => by simp [go_sem, h.get 1 rfl, (K.below HB K.lt).cell]; try first | exact ⟨rfl, rfl⟩ | rfl) fun a31 hA31 => ?_
    refine wl_op hA31 rfl rfl (by decide) (fun ev h => by simp [go_sem, h.get 40 rfl, (K.below HB K.lt).cell]; try first | exact ⟨rfl, rfl⟩ | rfl) fun a32 hA32 => ?_
    refine wl_op hA32 rfl rfl (by decide) (fun ev h => by simp [go_sem, h.get 41 rfl, (K.below HB K.lt).cell]; try first | exact ⟨rfl, rfl⟩ | rfl) fun a33 hA33 => ?_
    refine wl_op hA33 rfl rfl (by decide) (fun ev h => by simp [go_sem, h.c, (K.below HB K.lt).cell]; try first | exact ⟨rfl, rfl⟩ | rfl) fun a34 hA34 => ?_
    refine wl_nil ?_
    refine n_then ?_
    have hA35 := hA34.keep [1, 3, 4, 5, 42, 43]
    simp only [argsE, keepE, lookS, Nat.reduceBEq, cond_true, cond_false, Nat.reduceAdd, gv_tt, gv_ff, Bool.true_and, Bool.false_and, Bool.true_or, Bool.false_or] at hA35
    clear hA30 hA31 hA32 hA33 hA34 a29 a31 a32 a33
    refine wp_block ?_
    -- loop
    rw [flagsP_zero hl] at h4
    refine wp_loop_at (fun k a wx => ∃ (j : Nat) (vP : Value), j + k = n ∧ At 169 [(1, .pointer (some ⟨w.heap.size, 0, none⟩)), (3, .bool (flagsR e l j)), (4, vP), (5, .int .u32 (lastN l j : Nat)), (42, .int .i64 (n : Nat)), (43, .int .i64 (j : Nat))] a ∧ Own8 w1.heap.size wx vP (flagsP e l j) ∧ Below w1.heap.size w1 wx) (n) ?_ ?_
    · rw [flagsR_zero hl] at hA35
      exact ⟨0, x4, by omega, hA35, h4, HB⟩
    rintro k a wx ⟨j, vP, hjk, hA, hoP, HB⟩
    refine wp_seq ?_
    refine wp_region_lit ?_
    refine wl_op hA rfl rfl (by decide) (fun ev h => by simp [go_sem, h.get 43 rfl, h.get 42 rfl, (K.below HB K.lt).cell]; try first | exact ⟨rfl, rfl⟩ | rfl) fun a36 hA36 => ?_
    refine wl_nil ?_
    refine n_then ?_
    have hA37 := hA36.keep [1, 3, 4, 5, 42, 43, 44]
    simp only [argsE, keepE, lookS, Nat.reduceBEq, cond_true, cond_false, Nat.reduceAdd, gv_tt, gv_ff, Bool.true_and, Bool.false_and, Bool.true_or, Bool.false_or] at hA37
    clear hA hA36
    refine wp_seq ?_
    -- cond
    refine wp_if hA37 44 _ rfl (fun hq => ?yL) (fun hq => ?nL)
    case yL =>
      have hlt : j < n := by simp at hq; omega
      obtain ⟨x, hx⟩ : ∃ x, l[j]? = some x := ⟨_, List.getElem?_eq_getElem (by omega)⟩
      obtain ⟨ad, rfl, hadl, hc⟩ := hr.2 (by omega)
      obtain ⟨k0, k1⟩ := mark_at hc hx
      have hadl' : (ad.add (j * 2)).block < w1.heap.size := by rw [block_of_add]; exact hadl
      obtain ⟨xu, xf⟩ := x
      have hxu := hu _ (List.mem_of_getElem? hx)
      simp only at k0 k1 hxu
      have z0 := (HB.cell hadl').trans k0
      have z1 := (HB.cell (p := ⟨(ad.add (j * 2)).block, (ad.add (j * 2)).off + 1, none⟩) hadl').trans k1
      have jj0 : (0 : Int) ≤ (j : Int) := by omega
      have jj1 : (j : Int) < (n : Int) := by omega
      refine wp_skip ?_
      refine n_then ?_
      refine wp_seq ?_
      refine wp_block ?_
      refine wp_seq ?_
      refine wp_region_lit ?_
      refine wl_op hA37 rfl rfl (by decide) (fun ev h => by simp [go_sem, h.get 43 rfl, (K.below HB K.lt).cell, z0, z1, jj0, jj1]; try first | exact ⟨rfl, rfl⟩ | rfl) fun a38 hA38 => ?_
      refine wl_op hA38 rfl rfl (by decide) (fun ev h => by simp [go_sem, h.get 45 rfl, (K.below HB K.lt).cell, z0, z1, jj0, jj1]; try first | exact ⟨rfl, rfl⟩ | rfl) fun a39 hA39 => ?_
      refine wl_nil ?_
      refine n_then ?_
      have hA40 := hA39.keep [1, 3, 4, 5, 6, 42, 43]
      simp only [argsE, keepE, lookS, Nat.reduceBEq, cond_true, cond_false, Nat.reduceAdd, gv_tt, gv_ff, Bool.true_and, Bool.false_and, Bool.true_or, Bool.false_or] at hA40
      clear hA37 hA38 hA39 a38
      refine wp_seq ?_
      refine wp_region_lit ?_
      refine wl_op hA40 rfl rfl (by decide) (fun ev h => by simp [go_sem, h.get 3 rfl, (K.below HB K.lt).cell, z0, z1, jj0, jj1]; try first | exact ⟨rfl, rfl⟩ | rfl) fun a41 hA41 => ?_
      refine wl_op hA41 rfl rfl (by decide) (fun ev h => by simp [go_sem, h.get 46 rfl, (K.below HB K.lt).cell, z0, z1, jj0, jj1]; try first | exact ⟨rfl, rfl⟩ | rfl) fun a42 hA42 => ?_
      refine wl_guard _ hA42 rfl rfl rfl rfl (by decide) (fun hq ev h => by simp [go_sem, (h.get 1 rfl), (K.below HB K.lt).cell, z0, z1, jj0, jj1]; try first | exact ⟨rfl, rfl⟩ | rfl) fun a43 hA43 => ?_
      refine wl_guard _ hA43 rfl rfl rfl rfl (by decide) (fun hq ev h => by simp [go_sem, ((h.get 48 rfl).trans (gw_t (beq_t hq))), (K.below HB K.lt).cell, z0, z1, jj0, jj1]; try first | exact ⟨rfl, rfl⟩ | rfl) fun a44 hA44 => ?_
      refine wl_guard _ hA44 rfl rfl rfl rfl (by decide) (fun hq ev h => by simp [go_sem, (h.get 6 rfl), (K.below HB K.lt).cell, z0, z1, jj0, jj1]; try first | exact ⟨rfl, rfl⟩ | rfl) fun a45 hA45 => ?_
      refine wl_guard _ hA45 rfl rfl rfl rfl (by decide) (fun hq ev h => by simp [go_sem, ((h.get 49 rfl).trans (gw_t (beq_t hq))), ((h.get 50 rfl).trans (gw_t (beq_t hq))), (K.below HB K.lt).cell, z0, z1, jj0, jj1]; try first | exact ⟨rfl, rfl⟩ | rfl) fun a46 hA46 => ?_
      refine wl_guard _ hA46 rfl rfl rfl rfl (by decide) (fun hq ev h => by simp [go_sem, ((h.get 51 rfl).trans (gw_t (beq_t hq))), (K.below HB K.lt).cell, z0, z1, jj0, jj1]; try first | exact ⟨rfl, rfl⟩ | rfl) fun a47 hA47 => ?_
      refine wl_guard _ hA47 rfl rfl rfl rfl (by decide) (fun hq ev h => by simp [go_sem, ((h.get 52 rfl).trans (gw_t (beq_t hq))), (K.below HB K.lt).cell, z0, z1, jj0, jj1]; try first | exact ⟨rfl, rfl⟩ | rfl) fun a48 hA48 => ?_
      refine wl_guard _ hA48 rfl rfl rfl rfl (by decide) (fun hq ev h => by simp [go_sem, (h.get 5 rfl), (K.below HB K.lt).cell, z0, z1, jj0, jj1]; try first | exact ⟨rfl, rfl⟩ | rfl) fun a49 hA49 => ?_
      refine wl_guard _ hA49 rfl rfl rfl rfl (by decide) (fun hq ev h => by simp [go_sem, ((h.get 53 rfl).trans (gw_t (beq_t hq))), ((h.get 54 rfl).trans (gw_t (beq_t hq))), (K.below HB K.lt).cell, z0, z1, jj0, jj1]; try first | exact ⟨rfl, rfl⟩ | rfl) fun a50 hA50 => ?_
      refine wl_op hA50 rfl rfl (by decide) (fun ev h => by first | exact pick_and rfl (h.get 47 rfl) (h.get 55 rfl) (h.c _) | exact pick_or rfl (h.get 47 rfl) (h.get 55 rfl) (h.c _) | (simp [go_sem, h.c, h.get 47 rfl, h.get 55 rfl, (K.below HB K.lt).cell, z0, z1, jj0, jj1, gv_or, gv_and]; try first | exact ⟨rfl, rfl⟩ | rfl)) fun a51 hA51 => ?_
      refine wl_op hA51 rfl rfl (by decide) (fun ev h => by simp [go_sem, h.get 56 rfl, (K.below HB K.lt).cell, z0, z1, jj0, jj1]; try first | exact ⟨rfl, rfl⟩ | rfl) fun a52 hA52 => ?_
      refine wl_guard _ hA52 rfl rfl rfl rfl (by decide) (fun hq ev h => by simp [go_sem, (h.get 1 rfl), (K.below HB K.lt).cell, z0, z1, jj0, jj1]; try first | exact ⟨rfl, rfl⟩ | rfl) fun a53 hA53 => ?_
      refine wl_guard _ hA53 rfl rfl rfl rfl (by decide) (fun hq ev h => by simp [go_sem, ((h.get 58 rfl).trans (gw_t (beq_t hq))), (K.below HB K.lt).cell, z0, z1, jj0, jj1]; try first | exact ⟨rfl, rfl⟩ | rfl) fun a54 hA54 => ?_
      refine wl_guard _ hA54 rfl rfl rfl rfl (by decide) (fun hq ev h => by simp [go_sem, (h.get 6 rfl), (K.below HB K.lt).cell, z0, z1, jj0, jj1]; try first | exact ⟨rfl, rfl⟩ | rfl) fun a55 hA55 => ?_
      refine wl_guard _ hA55 rfl rfl rfl rfl (by decide) (fun hq ev h => by simp [go_sem, ((h.get 59 rfl).trans (gw_t (beq_t hq))), ((h.get 60 rfl).trans (gw_t (beq_t hq))), (K.below HB K.lt).cell, z0, z1, jj0, jj1]; try first | exact ⟨rfl, rfl⟩ | rfl) fun a56 hA56 => ?_
      refine wl_guard _ hA56 rfl rfl rfl rfl (by decide) (fun hq ev h => by simp [go_sem, ((h.get 61 rfl).trans (gw_t (beq_t hq))), (K.below HB K.lt).cell, z0, z1, jj0, jj1]; try first | exact ⟨rfl, rfl⟩ | rfl) fun a57 hA57 => ?_
      refine wl_guard _ hA57 rfl rfl rfl rfl (by decide) (fun hq ev h => by simp [go_sem, ((h.get 62 rfl).trans (gw_t (beq_t hq))), (K.below HB K.lt).cell, z0, z1, jj0, jj1]; try first | exact ⟨rfl, rfl⟩ | rfl) fun a58 hA58 => ?_
      refine wl_guard _ hA58 rfl rfl rfl rfl (by decide) (fun hq ev h => by simp [go_sem, h.c, ((h.get 63 rfl).trans (gw_t (beq_t hq))), (K.below HB K.lt).cell, z0, z1, jj0, jj1]; try first | exact ⟨rfl, rfl⟩ | rfl) fun a59 hA59 => ?_
      refine wl_op hA59 rfl rfl (by decide) (fun ev h => by first | exact pick_and rfl (h.get 57 rfl) (h.get 64 rfl) (h.c _) | exact pick_or rfl (h.get 57 rfl) (h.get 64 rfl) (h.c _) | (simp [go_sem, h.c, h.get 57 rfl, h.get 64 rfl, (K.below HB K.lt).cell, z0, z1, jj0, jj1, gv_or, gv_and]; try first | exact ⟨rfl, rfl⟩ | rfl)) fun a60 hA60 => ?_
      refine wl_op hA60 rfl rfl (by decide) (fun ev h => by simp [go_sem, h.get 65 rfl, (K.below HB K.lt).cell, z0, z1, jj0, jj1]; try first | exact ⟨rfl, rfl⟩ | rfl) fun a61 hA61 => ?_
      refine wl_guard _ hA61 rfl rfl rfl rfl (by decide) (fun hq ev h => by simp [go_sem, (h.get 1 rfl), (K.below HB K.lt).cell, z0, z1, jj0, jj1]; try first | exact ⟨rfl, rfl⟩ | rfl) fun a62 hA62 => ?_
      refine wl_guard _ hA62 rfl rfl rfl rfl (by decide) (fun hq ev h => by simp [go_sem, ((h.get 67 rfl).trans (gw_t (beq_t hq))), (K.below HB K.lt).cell, z0, z1, jj0, jj1]; try first | exact ⟨rfl, rfl⟩ | rfl) fun a63 hA63 => ?_
      refine wl_guard _ hA63 rfl rfl rfl rfl (by decide) (fun hq ev h => by simp [go_sem, (h.get 6 rfl), (K.below HB K.lt).cell, z0, z1, jj0, jj1]; try first | exact ⟨rfl, rfl⟩ | rfl) fun a64 hA64 => ?_
      refine wl_guard _ hA64 rfl rfl rfl rfl (by decide) (fun hq ev h => by simp [go_sem, ((h.get 68 rfl).trans (gw_t (beq_t hq))), ((h.get 69 rfl).trans (gw_t (beq_t hq))), (K.below HB K.lt).cell, z0, z1, jj0, jj1]; try first | exact ⟨rfl, rfl⟩ | rfl) fun a65 hA65 => ?_
      refine wl_guard _ hA65 rfl rfl rfl rfl (by decide) (fun hq ev h => by simp [go_sem, ((h.get 70 rfl).trans (gw_t (beq_t hq))), (K.below HB K.lt).cell, z0, z1, jj0, jj1]; try first | exact ⟨rfl, rfl⟩ | rfl) fun a66 hA66 => ?_
      refine wl_guard _ hA66 rfl rfl rfl rfl (by decide) (fun hq ev h => by simp [go_sem, ((h.get 71 rfl).trans (gw_t (beq_t hq))), (K.below HB K.lt).cell, z0, z1, jj0, jj1]; try first | exact ⟨rfl, rfl⟩ | rfl) fun a67 hA67 => ?_
      refine wl_guard _ hA67 rfl rfl rfl rfl (by decide) (fun hq ev h => by simp [go_sem, h.c, ((h.get 72 rfl).trans (gw_t (beq_t hq))), (K.below HB K.lt).cell, z0, z1, jj0, jj1]; try first | exact ⟨rfl, rfl⟩ | rfl) fun a68 hA68 => ?_
      refine wl_op hA68 rfl rfl (by decide) (fun ev h => by first | exact pick_and rfl (h.get 66 rfl) (h.get 73 rfl) (h.c _) | exact pick_or rfl (h.get 66 rfl) (h.get 73 rfl) (h.c _) | (simp [go_sem, h.c, h.get 66 rfl, h.get 73 rfl, (K.below HB K.lt).cell, z0, z1, jj0, jj1, gv_or, gv_and]; try first | exact ⟨rfl, rfl⟩ | rfl)) fun a69 hA69 => ?_
      refine wl_op hA69 rfl rfl (by decide) (fun ev h => by simp [go_sem, h.get 74 rfl, (K.below HB K.lt).cell, z0, z1, jj0, jj1]; try first | exact ⟨rfl, rfl⟩ | rfl) fun a70 hA70 => ?_
      refine wl_nil ?_
      refine n_then ?_
      have hA71 := hA70.keep [1, 3, 4, 6, 42, 43]
      simp only [argsE, keepE, lookS, Nat.reduceBEq, cond_true, cond_false, Nat.reduceAdd, gv_tt, gv_ff, Bool.true_and, Bool.false_and, Bool.true_or, Bool.false_or] at hA71
      clear hA40 hA41 hA42 hA43 hA44 hA45 hA46 hA47 hA48 hA49 hA50 hA51 hA52 hA53 hA54 hA55 hA56 hA57 hA58 hA59 hA60 hA61 hA62 hA63 hA64 hA65 hA66 hA67 hA68 hA69 hA70 a39 a41 a42 a43 a44 a45 a46 a47 a48 a49 a50 a51 a52 a53 a54 a55 a56 a57 a58 a59 a60 a61 a62 a63 a64 a65 a66 a67 a68 a69
      refine wp_seq ?_
      refine wp_region_lit ?_
      refine wl_op hA71 rfl rfl (by decide) (fun ev h => by simp [go_sem, h.get 1 rfl, (K.below HB K.lt).cell, z0, z1, jj0, jj1]; try first | exact ⟨rfl, rfl⟩ | rfl) fun a72 hA72 => ?_
      refine wl_op hA72 rfl rfl (by decide) (fun ev h => by simp [go_sem, h.get 75 rfl, (K.below HB K.lt).cell, z0, z1, jj0, jj1]; try first | exact ⟨rfl, rfl⟩ | rfl) fun a73 hA73 => ?_
      refine wl_op hA73 rfl rfl (by decide) (fun ev h => by simp [go_sem, h.get 6 rfl, (K.below HB K.lt).cell, z0, z1, jj0, jj1]; try first | exact ⟨rfl, rfl⟩ | rfl) fun a74 hA74 => ?_
      refine wl_op hA74 rfl rfl (by decide) (fun ev h => by simp [go_sem, h.get 76 rfl, h.get 77 rfl, (K.below HB K.lt).cell, z0, z1, jj0, jj1]; try first | exact ⟨rfl, rfl⟩ | rfl) fun a75 hA75 => ?_
      refine wl_op hA75 rfl rfl (by decide) (fun ev h => by simp [go_sem, h.get 78 rfl, (K.below HB K.lt).cell, z0, z1, jj0, jj1]; try first | exact ⟨rfl, rfl⟩ | rfl) fun a76 hA76 => ?_
      refine wl_op hA76 rfl rfl (by decide) (fun ev h => by simp [go_sem, h.get 79 rfl, (K.below HB K.lt).cell, z0, z1, jj0, jj1]; try first | exact ⟨rfl, rfl⟩ | rfl) fun a77 hA77 => ?_
      refine wl_op hA77 rfl rfl (by decide) (fun ev h => by simp [go_sem, h.get 80 rfl, (K.below HB K.lt).cell, z0, z1, jj0, jj1]; try first | exact ⟨rfl, rfl⟩ | rfl) fun a78 hA78 => ?_
      refine wl_nil ?_
      refine n_then ?_
      have hA79 := hA78.keep [1, 3, 4, 5, 6, 42, 43]
      simp only [argsE, keepE, lookS, Nat.reduceBEq, cond_true, cond_false, Nat.reduceAdd, gv_tt, gv_ff, Bool.true_and, Bool.false_and, Bool.true_or, Bool.false_or] at hA79
      clear hA71 hA72 hA73 hA74 hA75 hA76 hA77 hA78 a70 a72 a73 a74 a75 a76 a77
      -- any
      have hlow : IntKind.u8.wrap (bits .and .i64 xf 255) = (((lowB xf).toNat : Nat) : Int) := by rw [lowB_int, IntKind.wrap_u8']
      have hwx : IntKind.i64.wrap (xu : Int) = (xu : Int) := IntWalk.i64_in _ (by omega)
      have hwx2 : IntKind.u64.wrap (xu : Int) = (xu : Int) := IntWalk.u64_in _ (by omega)
      have hwj : IntKind.i64.wrap ((j : Int) + 1) = ((j + 1 : Nat) : Int) := by rw [IntWalk.i64_in _ (by omega)]; omega
      have hpl := flagsP_len e l (show j ≤ l.length by omega)
      have hvo : ∀ g, vP.ownBlock = some g → g < wx.heap.size := fun g hg => (World.ownsRow.lt hoP g hg).2
      have hs := HB.size
      refine wp_any_at hA79 [(.det ?dB0), (.det ?dB1), (.det ?dB2), (.det ?dB3), (.det ?dB4), (.det ?dB5), (.det ?dB6), (.det ?dB7), (.used (fun v wy => Own8 w1.heap.size wy v (be 4 xu))), (.used (fun v wy => Own8 w1.heap.size wy v (flagsP e l j ++ be 4 xu))), (.det ?dB10), (.det ?dB11), (.det ?dB12), (.det ?dB13), (.det ?dB14), (.det ?dB15), (.det ?dB16), (.det ?dB17), (.used (fun v wy => ∃ g, v = .slice (some ⟨g, 0, none⟩) 1 1 ∧ some g ≠ vP.ownBlock ∧ Blk wy g 5 #[.int .u8 (((lowB xf).toNat : Nat) : Int)])), (.held (fun v wy => Own8 w1.heap.size wy v (flagsP e l (j + 1)))), (.held (fun v wy => Own8 w1.heap.size wy v (flagsP e l (j + 1))))] [⟨none, (some 9), fun wy => Own8 w1.heap.size wy vP (flagsP e l j)⟩] (fun wy => Below w1.heap.size w1 wy ∧ wx.heap.size ≤ wy.heap.size) (TSp [(19, fun _ _ => True), (9, (fun w w' => w.grownBy w' vP.ownBlock))] Grows) (by kernel_rfl) rfl (by kernel_rfl) (by kernel_rfl) rfl (⟨HB.drew, Nat.le_refl _⟩) (stab_sp [(19, fun _ _ => True), (9, (fun w w' => w.grownBy w' vP.ownBlock))] [true, true, true, true, true, true, true, true, false, false, true, true, true, true, true, true, true, true, false, false, false] [true, true, true, true, true, true, true, true, false, false, true, true, true, true, true, true, true, true, false, true, true] [(9, 18)] rfl rfl rfl (by kernel_rfl) ⟨trivial, trivial, trivial, trivial, trivial, trivial, trivial, trivial, (fun _ _ _ _ hp hb => hp.below hb), (fun _ _ _ _ hp hb => hp.below hb), trivial, trivial, trivial, trivial, trivial, trivial, trivial, trivial, (fun _ _ _ _ ⟨g, e, hne, h⟩ hb => ⟨g, e, hne, h.below hb h.lt⟩), (fun _ _ _ _ hp hb => hp.below hb), (fun _ _ _ _ hp hb => hp.below hb), trivial⟩ ⟨(fun _ _ _ _ ⟨g, e, hne, h⟩ hg => ⟨g, e, hne, h.grown hg hne⟩), trivial⟩) (List.forall_mem_cons.2 ⟨(fun hn => hoP), (fun _ h => by cases h)⟩) (phase_sp [(19, fun _ _ => True), (9, (fun w w' => w.grownBy w' vP.ownBlock))] [(none, (some 9))] [] rfl (by kernel_rfl) (List.forall_mem_cons.2 ⟨fun _ _ _ hp hR => hp.below hR, (fun _ h => by cases h)⟩) trivial) (List.forall_mem_cons.2 ⟨(fun a h => by first | (exact (no_1 h).elim) | (injection h with h; subst h; exact Nat.le_of_ble_eq_true rfl)), (fun _ h => by cases h)⟩) ⟨?oB0, ?oB1, ?oB2, ?oB3, ?oB4, ?oB5, ?oB6, ?oB7, ?oB8, ?oB9, ?oB10, ?oB11, ?oB12, ?oB13, ?oB14, ?oB15, ?oB16, ?oB17, ?oB18, ?oB19, ?oB20, trivial⟩ ?fB
      case oB0 =>
        intro ev wo hev hC hs hph
        have e4 := see_env hA79 hs 4 (by kernel_rfl) (by kernel_rfl) rfl
        exact ob_det (wanted_none rfl) rfl (by kernel_rfl) hC (TSp.of rfl (Grows.refl _)) (by simp [go_sem, e4]; try first | exact ⟨rfl, rfl⟩ | rfl)
      case oB1 =>
        intro ev wo hev hC hs hph
        have e1 := see_env hA79 hs 1 (by kernel_rfl) (by kernel_rfl) rfl
        exact ob_det (wanted_none rfl) rfl (by kernel_rfl) hC (TSp.of rfl (Grows.refl _)) (by simp [go_sem, e1]; try first | exact ⟨rfl, rfl⟩ | rfl)
      case oB2 =>
        intro ev wo hev hC hs hph
        have e82 := see_det hs 82 1 (by kernel_rfl) (by kernel_rfl) rfl
        have Kx := K.below hC.1 K.lt
        have z0x := (hC.1.cell hadl').trans k0
        have z1x := (hC.1.cell (p := ⟨(ad.add (j * 2)).block, (ad.add (j * 2)).off + 1, none⟩) hadl').trans k1
        exact ob_det (wanted_none rfl) rfl (by kernel_rfl) hC (TSp.of rfl (Grows.refl _)) (by simp [go_sem, e82, Kx.cell, z0x, z1x, (K.below HB K.lt).cell, z0, z1, jj0, jj1]; try first | exact ⟨rfl, rfl⟩ | rfl)
      case oB3 =>
        intro ev wo hev hC hs hph
        have e6 := see_env hA79 hs 6 (by kernel_rfl) (by kernel_rfl) rfl
        exact ob_det (wanted_none rfl) rfl (by kernel_rfl) hC (TSp.of rfl (Grows.refl _)) (by simp [go_sem, e6]; try first | exact ⟨rfl, rfl⟩ | rfl)
      case oB4 =>
        intro ev wo hev hC hs hph
        have e83 := see_det hs 83 2 (by kernel_rfl) (by kernel_rfl) rfl
        have e84 := see_det hs 84 3 (by kernel_rfl) (by kernel_rfl) rfl
        have Kx := K.below hC.1 K.lt
        have z0x := (hC.1.cell hadl').trans k0
        have z1x := (hC.1.cell (p := ⟨(ad.add (j * 2)).block, (ad.add (j * 2)).off + 1, none⟩) hadl').trans k1
        exact ob_det (wanted_none rfl) rfl (by kernel_rfl) hC (TSp.of rfl (Grows.refl _)) (by simp [go_sem, e83, e84, jj0, jj1]; try first | exact ⟨rfl, rfl⟩ | rfl)
      case oB5 =>
        intro ev wo hev hC hs hph
        have e85 := see_det hs 85 4 (by kernel_rfl) (by kernel_rfl) rfl
        exact ob_det (wanted_none rfl) rfl (by kernel_rfl) hC (TSp.of rfl (Grows.refl _)) (by simp [go_sem, e85]; try first | exact ⟨rfl, rfl⟩ | rfl)
      case oB6 =>
        intro ev wo hev hC hs hph
        have e86 := see_det hs 86 5 (by kernel_rfl) (by kernel_rfl) rfl
        have Kx := K.below hC.1 K.lt
        have z0x := (hC.1.cell hadl').trans k0
        have z1x := (hC.1.cell (p := ⟨(ad.add (j * 2)).block, (ad.add (j * 2)).off + 1, none⟩) hadl').trans k1
        exact ob_det (wanted_none rfl) rfl (by kernel_rfl) hC (TSp.of rfl (Grows.refl _)) (by simp [go_sem, e86, Kx.cell, z0x, z1x, (K.below HB K.lt).cell, z0, z1, jj0, jj1]; try first | exact ⟨rfl, rfl⟩ | rfl)
      case oB7 =>
        intro ev wo hev hC hs hph
        have e87 := see_det hs 87 6 (by kernel_rfl) (by kernel_rfl) rfl
        have Kx := K.below hC.1 K.lt
        have z0x := (hC.1.cell hadl').trans k0
        have z1x := (hC.1.cell (p := ⟨(ad.add (j * 2)).block, (ad.add (j * 2)).off + 1, none⟩) hadl').trans k1
        exact ob_det (wanted_none rfl) rfl (by kernel_rfl) hC (TSp.of rfl (Grows.refl _)) (by simp [go_sem, e87, hwx]; try first | exact ⟨rfl, rfl⟩ | rfl)
      case oB8 =>
        intro ev wo hev hC hs hph
        have e88 := see_det hs 88 7 (by kernel_rfl) (by kernel_rfl) rfl
        have Kx := K.below hC.1 K.lt
        have z0x := (hC.1.cell hadl').trans k0
        have z1x := (hC.1.cell (p := ⟨(ad.add (j * 2)).block, (ad.add (j * 2)).off + 1, none⟩) hadl').trans k1
        exact ob_yes (wanted_none rfl) (does_enter (by simp [go_sem, e88, hev.func]; try first | exact ⟨rfl, rfl⟩ | rfl) (Calls.mono (n4_any (xu : Int) xu hwx2 (by omega) wo) (by
          rintro ev' w3 ⟨r, rfl, ho, hb3⟩
          exact ⟨r, rfl, ⟨hC.1.trans (hb3.mono hC.1.size), Nat.le_trans hC.2 hb3.size⟩, TSp.of rfl hb3, (Own8.of ho).mono hC.1.size, no_start (by kernel_rfl)⟩)))
      case oB9 =>
        intro ev wo hev hC hs hph
        have e81 := see_det hs 81 0 (by kernel_rfl) (by kernel_rfl) rfl
        have u89 := see_used hs 89 8 (by kernel_rfl) (by kernel_rfl) rfl
        have Kx := K.below hC.1 K.lt
        have z0x := (hC.1.cell hadl').trans k0
        have z1x := (hC.1.cell (p := ⟨(ad.add (j * 2)).block, (ad.add (j * 2)).off + 1, none⟩) hadl').trans k1
        have hP := hph _ List.mem_cons_self (by kernel_rfl)
        obtain ⟨r, w3, hr, ho, hgr⟩ := run_app8 hP u89.took (by simp [be_length]; omega) hC.1.size
        exact ob_yes (wanted_none rfl) (does_value (exec_append rfl e81 rfl hr) ⟨⟨below_app8 hC.1 hP hgr (Nat.le_refl _) hC.1.size, Nat.le_trans hC.2 hgr.size⟩, TSp.sp rfl hgr, ho, no_start (by kernel_rfl)⟩)
      case oB10 =>
        intro ev wo hev hC hs hph
        have e1 := see_env hA79 hs 1 (by kernel_rfl) (by kernel_rfl) rfl
        exact ob_det (wanted_none rfl) rfl (by kernel_rfl) hC (TSp.of rfl (Grows.refl _)) (by simp [go_sem, e1]; try first | exact ⟨rfl, rfl⟩ | rfl)
      case oB11 =>
        intro ev wo hev hC hs hph
        have e91 := see_det hs 91 10 (by kernel_rfl) (by kernel_rfl) rfl
        have Kx := K.below hC.1 K.lt
        have z0x := (hC.1.cell hadl').trans k0
        have z1x := (hC.1.cell (p := ⟨(ad.add (j * 2)).block, (ad.add (j * 2)).off + 1, none⟩) hadl').trans k1
        exact ob_det (wanted_none rfl) rfl (by kernel_rfl) hC (TSp.of rfl (Grows.refl _)) (by simp [go_sem, e91, Kx.cell, z0x, z1x, (K.below HB K.lt).cell, z0, z1, jj0, jj1]; try first | exact ⟨rfl, rfl⟩ | rfl)
      case oB12 =>
        intro ev wo hev hC hs hph
        have e6 := see_env hA79 hs 6 (by kernel_rfl) (by kernel_rfl) rfl
        exact ob_det (wanted_none rfl) rfl (by kernel_rfl) hC (TSp.of rfl (Grows.refl _)) (by simp [go_sem, e6]; try first | exact ⟨rfl, rfl⟩ | rfl)
      case oB13 =>
        intro ev wo hev hC hs hph
        have e92 := see_det hs 92 11 (by kernel_rfl) (by kernel_rfl) rfl
        have e93 := see_det hs 93 12 (by kernel_rfl) (by kernel_rfl) rfl
        have Kx := K.below hC.1 K.lt
        have z0x := (hC.1.cell hadl').trans k0
        have z1x := (hC.1.cell (p := ⟨(ad.add (j * 2)).block, (ad.add (j * 2)).off + 1, none⟩) hadl').trans k1
        exact ob_det (wanted_none rfl) rfl (by kernel_rfl) hC (TSp.of rfl (Grows.refl _)) (by simp [go_sem, e92, e93, jj0, jj1]; try first | exact ⟨rfl, rfl⟩ | rfl)
      case oB14 =>
        intro ev wo hev hC hs hph
        have e94 := see_det hs 94 13 (by kernel_rfl) (by kernel_rfl) rfl
        exact ob_det (wanted_none rfl) rfl (by kernel_rfl) hC (TSp.of rfl (Grows.refl _)) (by simp [go_sem, e94]; try first | exact ⟨rfl, rfl⟩ | rfl)
      case oB15 =>
        intro ev wo hev hC hs hph
        have e95 := see_det hs 95 14 (by kernel_rfl) (by kernel_rfl) rfl
        have Kx := K.below hC.1 K.lt
        have z0x := (hC.1.cell hadl').trans k0
        have z1x := (hC.1.cell (p := ⟨(ad.add (j * 2)).block, (ad.add (j * 2)).off + 1, none⟩) hadl').trans k1
        exact ob_det (wanted_none rfl) rfl (by kernel_rfl) hC (TSp.of rfl (Grows.refl _)) (by simp [go_sem, e95, Kx.cell, z0x, z1x, (K.below HB K.lt).cell, z0, z1, jj0, jj1]; try first | exact ⟨rfl, rfl⟩ | rfl)
      case oB16 =>
        intro ev wo hev hC hs hph
        have e96 := see_det hs 96 15 (by kernel_rfl) (by kernel_rfl) rfl
        exact ob_det (wanted_none rfl) rfl (by kernel_rfl) hC (TSp.of rfl (Grows.refl _)) (by simp [go_sem, e96, hev.const]; try first | exact ⟨rfl, rfl⟩ | rfl)
      case oB17 =>
        intro ev wo hev hC hs hph
        have e97 := see_det hs 97 16 (by kernel_rfl) (by kernel_rfl) rfl
        have Kx := K.below hC.1 K.lt
        have z0x := (hC.1.cell hadl').trans k0
        have z1x := (hC.1.cell (p := ⟨(ad.add (j * 2)).block, (ad.add (j * 2)).off + 1, none⟩) hadl').trans k1
        exact ob_det (wanted_none rfl) rfl (by kernel_rfl) hC (TSp.of rfl (Grows.refl _)) (by simp [go_sem, e97, hlow]; try first | exact ⟨rfl, rfl⟩ | rfl)
      case oB18 =>
        intro ev wo hev hC hs hph
        have e98 := see_det hs 98 17 (by kernel_rfl) (by kernel_rfl) rfl
        have Kx := K.below hC.1 K.lt
        have z0x := (hC.1.cell hadl').trans k0
        have z1x := (hC.1.cell (p := ⟨(ad.add (j * 2)).block, (ad.add (j * 2)).off + 1, none⟩) hadl').trans k1
        have hbn := (Below.refl wo.heap.size wo).alloc (Nat.le_refl _) (.cells #[.int .u8 (((lowB xf).toNat : Nat) : Int)] 5)
        exact ob_yes (wanted_none rfl) (does_value (v := .slice (some ⟨wo.heap.size, 0, none⟩) 1 1) (w' := wo.alloc (.cells #[.int .u8 (((lowB xf).toNat : Nat) : Int)] 5)) (by simp [go_sem, e98]) ⟨⟨hC.1.trans (hbn.mono hC.1.size), Nat.le_trans hC.2 hbn.size⟩, TSp.of rfl hbn, ⟨_, rfl, fun he => by
          have := hvo _ he.symm
          have := hC.2
          omega, Blk.new wo _ _⟩, no_start (by kernel_rfl)⟩)
      case oB19 =>
        intro ev wo hev hC hs hph
        have u90 := see_used hs 90 9 (by kernel_rfl) (by kernel_rfl) rfl
        have u99 := see_used hs 99 18 (by kernel_rfl) (by kernel_rfl) rfl
        have Kx := K.below hC.1 K.lt
        have z0x := (hC.1.cell hadl').trans k0
        have z1x := (hC.1.cell (p := ⟨(ad.add (j * 2)).block, (ad.add (j * 2)).off + 1, none⟩) hadl').trans k1
        obtain ⟨g, e99, hne, hbk⟩ := u99
        have htk : Took wo (ev (.tmp 99)) [lowB xf] := by rw [e99]; exact took_blk hbk
        obtain ⟨r, w3, hr, ho, hgr⟩ := run_app8 u90 htk (by simp [be_length]; omega) hC.1.size
        rw [← flagsP_succ e hx] at ho
        exact ob_yes (wanted_none rfl) (does_value (exec_append rfl rfl rfl hr) ⟨⟨below_app8 hC.1 u90 hgr (Nat.le_refl _) hC.1.size, Nat.le_trans hC.2 hgr.size⟩, TSp.sp rfl trivial, ho, no_start (by kernel_rfl)⟩)
      case oB20 =>
        intro ev wo hev hC hs hph
        have u100 := see_held hs 100 19 (by kernel_rfl) (by kernel_rfl) rfl
        have Kx := K.below hC.1 K.lt
        have z0x := (hC.1.cell hadl').trans k0
        have z1x := (hC.1.cell (p := ⟨(ad.add (j * 2)).block, (ad.add (j * 2)).off + 1, none⟩) hadl').trans k1
        exact ob_yes (wanted_none rfl) (does_value (v := ev (.tmp 100)) (by simp [go_sem]) ⟨hC, TSp.of rfl (Grows.refl _), u100, no_start (by kernel_rfl)⟩)
      intro wf hC hph
      intro x89
      intro x90
      intro x99
      intro x100 h100
      intro x4 h4
      intro a80 hA80
      refine n_block ?_
      refine n_then ?_
      have hA81 := hA80.keep [1, 3, 4, 5, 42, 43]
      simp only [argsE, keepE, lookS, Nat.reduceBEq, cond_true, cond_false, Nat.reduceAdd, gv_tt, gv_ff, Bool.true_and, Bool.false_and, Bool.true_or, Bool.false_or] at hA81
      clear hA79 hA80 a78
      refine wp_region_lit ?_
      refine wl_op hA81 rfl rfl (by decide) (fun ev h => by simp [go_sem, h.c, h.get 43 rfl, hwj]; try first | exact ⟨rfl, rfl⟩ | rfl) fun a82 hA82 => ?_
      refine wl_op hA82 rfl rfl (by decide) (fun ev h => by simp [go_sem, h.get 101 rfl, hwj]; try first | exact ⟨rfl, rfl⟩ | rfl) fun a83 hA83 => ?_
      refine wl_nil ?_
      refine n_then ?_
      have hA84 := hA83.keep [1, 3, 4, 5, 42, 43]
      simp only [argsE, keepE, lookS, Nat.reduceBEq, cond_true, cond_false, Nat.reduceAdd, gv_tt, gv_ff, Bool.true_and, Bool.false_and, Bool.true_or, Bool.false_or] at hA84
      clear hA81 hA82 hA83 a80 a82
      -- round
      have hxl := lastN_succ hx
      simp only at hxl
      have hj1 : ((j : Int) + 1) = ((j + 1 : Nat) : Int) := by omega
      rw [← flagsR_succ e hx, ← hxl, hj1] at hA84
      exact ⟨k - 1, by omega, j + 1, x4, by omega, hA84, h4, hC.1⟩
    case nL =>
      have hjn : j = n := by simp at hq; omega
      subst hjn
      refine wp_exit ?_
      refine x_then ?_
      refine x_then ?_
      refine x_block ?_
      refine n_then ?_
      have hA85 := hA37.keep [1, 3, 4]
      simp only [argsE, keepE, lookS, Nat.reduceBEq, cond_true, cond_false, Nat.reduceAdd, gv_tt, gv_ff, Bool.true_and, Bool.false_and, Bool.true_or, Bool.false_or] at hA85
      clear hA37
      refine wp_seq ?_
      refine wp_region_lit ?_
      refine wl_op hA85 rfl rfl (by decide) (fun ev h => by simp [go_sem, h.get 1 rfl, (K.below HB K.lt).cell]; try first | exact ⟨rfl, rfl⟩ | rfl) fun a86 hA86 => ?_
      -- stop call slot 104
      refine wl_call hA86 rfl rfl (by decide) (fun ev h => by simp [go_sem, h.get 103 rfl, (K.below HB K.lt).cell, h.f]; try first | exact ⟨rfl, rfl⟩ | rfl) (putFlags_any A c j e l wx hu he hl (by omega) ((hr.below HB).more HB.size)) ?_
      rintro e w3 ⟨r8, rfl, ho8, hb⟩
      refine ⟨_, rfl, fun a87 hA87 => ?_⟩
      replace HB := HB.trans (hb.mono HB.size)
      have ho8 := Own8.of ho8
      replace hoP := hoP.below hb
      rw [flagsR_all' e hl] at hA87
      refine wl_op hA87 rfl rfl (by decide) (fun ev h => by simp [go_sem, h.get 104 rfl, (K.below HB K.lt).cell]; try first | exact ⟨rfl, rfl⟩ | rfl) fun a88 hA88 => ?_
      refine wl_op hA88 rfl rfl (by decide) (fun ev h => by simp [go_sem, h.get 102 rfl, (K.below HB K.lt).cell]; try first | exact ⟨rfl, rfl⟩ | rfl) fun a89 hA89 => ?_
      refine wl_op hA89 rfl rfl (by decide) (fun ev h => by simp [go_sem, h.get 102 rfl, (K.below HB K.lt).cell]; try first | exact ⟨rfl, rfl⟩ | rfl) fun a90 hA90 => ?_
      refine wl_op hA90 rfl rfl (by decide) (fun ev h => by simp [go_sem, h.get 105 rfl, (K.below HB K.lt).cell]; try first | exact ⟨rfl, rfl⟩ | rfl) fun a91 hA91 => ?_
      refine wl_op hA91 rfl rfl (by decide) (fun ev h => by simp [go_sem, h.get 106 rfl, (K.below HB K.lt).cell]; try first | exact ⟨rfl, rfl⟩ | rfl) fun a92 hA92 => ?_
      refine wl_nil ?_
      refine n_then ?_
      have hA93 := hA92.keep [1, 3, 4, 7, 8]
      simp only [argsE, keepE, lookS, Nat.reduceBEq, cond_true, cond_false, Nat.reduceAdd, gv_tt, gv_ff, Bool.true_and, Bool.false_and, Bool.true_or, Bool.false_or] at hA93
      clear hA85 hA86 hA87 hA88 hA89 hA90 hA91 hA92 a86 a87 a88 a89 a90 a91
      refine wp_seq ?_
      refine wp_seq ?_
      refine wp_region_lit ?_
      refine wl_op hA93 rfl rfl (by decide) (fun ev h => by simp [go_sem, h.get 3 rfl, (K.below HB K.lt).cell]; try first | exact ⟨rfl, rfl⟩ | rfl) fun a94 hA94 => ?_
      refine wl_op hA94 rfl rfl (by decide) (fun ev h => by simp [go_sem, h.get 107 rfl, (K.below HB K.lt).cell]; try first | exact ⟨rfl, rfl⟩ | rfl) fun a95 hA95 => ?_
      refine wl_nil ?_
      refine n_then ?_
      have hA96 := hA95.keep [1, 4, 7, 8, 108]
      simp only [argsE, keepE, lookS, Nat.reduceBEq, cond_true, cond_false, Nat.reduceAdd, gv_tt, gv_ff, Bool.true_and, Bool.false_and, Bool.true_or, Bool.false_or] at hA96
      clear hA93 hA94 hA95 a92 a94
      -- cond
      refine wp_if hA96 108 _ rfl (fun hv => ?yN) (fun hv => ?nN)
      case yN =>
        have hv : rightFlagsV e l = false := by simpa using hv
        have e1 : flagsErr e l = 1 := by unfold flagsErr; rw [hv]; rfl
        have e2 : flagsPage e l = [] := by unfold flagsPage; rw [hv]; rfl
        rw [e1] at hA96
        rw [e2] at ho8
        obtain ⟨A8, c8, rfl, _⟩ := ho8.took
        refine wp_seq ?_
        refine wp_region_lit ?_
        refine wl_op hA96 rfl rfl (by decide) (fun ev h => by simp [go_sem, h.get 8 rfl, (K.below HB K.lt).cell]; try first | exact ⟨rfl, rfl⟩ | rfl) fun a97 hA97 => ?_
        refine wl_op hA97 rfl rfl (by decide) (fun ev h => by simp [go_sem, h.c, h.get 109 rfl, (K.below HB K.lt).cell]; try first | exact ⟨rfl, rfl⟩ | rfl) fun a98 hA98 => ?_
        refine wl_op hA98 rfl rfl (by decide) (fun ev h => by simp [go_sem, h.get 110 rfl, (K.below HB K.lt).cell]; try first | exact ⟨rfl, rfl⟩ | rfl) fun a99 hA99 => ?_
        refine wl_guard _ hA99 rfl rfl rfl rfl (by decide) (fun hq ev h => by simp [go_sem, (h.get 7 rfl), (K.below HB K.lt).cell]; try first | exact ⟨rfl, rfl⟩ | rfl) fun a100 hA100 => ?_
        refine wl_guard _ hA100 rfl rfl rfl rfl (by decide) (fun hq ev h => by simp [go_sem, ((h.get 112 rfl).trans (gw_t (beq_t hq))), (K.below HB K.lt).cell]; try first | exact ⟨rfl, rfl⟩ | rfl) fun a101 hA101 => ?_
        refine wl_guard _ hA101 rfl rfl rfl rfl (by decide) (fun hq ev h => by simp [go_sem, h.c, ((h.get 113 rfl).trans (gw_t (beq_t hq))), (K.below HB K.lt).cell]; try first | exact ⟨rfl, rfl⟩ | rfl) fun a102 hA102 => ?_
        refine wl_op hA102 rfl rfl (by decide) (fun ev h => by first | exact pick_and rfl (h.get 111 rfl) (h.get 114 rfl) (h.c _) | exact pick_or rfl (h.get 111 rfl) (h.get 114 rfl) (h.c _) | (simp [go_sem, h.c, h.get 111 rfl, h.get 114 rfl, (K.below HB K.lt).cell, gv_or, gv_and]; try first | exact ⟨rfl, rfl⟩ | rfl)) fun a103 hA103 => ?_
        refine wl_op hA103 rfl rfl (by decide) (fun ev h => by simp [go_sem, h.get 115 rfl, (K.below HB K.lt).cell]; try first | exact ⟨rfl, rfl⟩ | rfl) fun a104 hA104 => ?_
        refine wl_nil ?_
        refine n_then ?_
        have hA105 := hA104.keep [2]
        simp only [argsE, keepE, lookS, Nat.reduceBEq, cond_true, cond_false, Nat.reduceAdd, gv_tt, gv_ff, Bool.true_and, Bool.false_and, Bool.true_or, Bool.false_or] at hA105
        clear hA96 hA97 hA98 hA99 hA100 hA101 hA102 hA103 hA104 a97 a98 a99 a100 a101 a102 a103
        refine wp_ret ?_
        refine r_then ?_
        refine ret_1 hA105 2 rfl rfl ?_
        exact ⟨by simp, hb0.trans (HB.mono hb0.size)⟩
      case nN =>
        have hv : rightFlagsV e l = true := by simpa using hv
        have e1 : flagsErr e l = 0 := by unfold flagsErr; rw [hv]; rfl
        have e2 : flagsPage e l = pageB 2 (flagsB e l) := by unfold flagsPage; rw [hv]; rfl
        have hget := getFlags_put he hu hv
        have hfl := flagsB_len hv
        rw [e1] at hA96
        rw [e2] at ho8
        rw [flagsP_all' hl hv] at hoP
        obtain ⟨pg, hpg⟩ : ∃ pg, pageB 2 (flagsB e l) = pg := ⟨_, rfl⟩
        have hpl : pg.length ≤ 4000 := by rw [← hpg, pageB_length]; omega
        rw [hpg] at ho8 hget
        obtain ⟨A8, c8, rfl, hr8, hc8⟩ := own_reads ho8
        refine wp_skip ?_
        refine n_then ?_
        refine wp_seq ?_
        refine wp_region_lit ?_
        refine wl_op hA96 rfl rfl (by decide) (fun ev h => by simp [go_sem, h.get 7 rfl, (K.below HB K.lt).cell]; try first | exact ⟨rfl, rfl⟩ | rfl) fun a106 hA106 => ?_
        -- stop call slot 118
        refine wl_call hA106 rfl rfl (by decide) (fun ev h => by simp [go_sem, h.get 117 rfl, (K.below HB K.lt).cell, h.f]; try first | exact ⟨rfl, rfl⟩ | rfl) (getFlags_any A8 c8 pg.length pg w3 rfl (by omega) hc8 hr8) ?_
        rintro e w4 ⟨r9, rfl, ho9, hb⟩
        refine ⟨_, rfl, fun a107 hA107 => ?_⟩
        replace HB := HB.trans (hb.mono HB.size)
        rw [hget] at ho9 hA107
        simp only [flagsOr, getErr, Option.getD_some, Option.isSome_some, if_pos] at ho9 hA107
        replace hoP := hoP.below hb
        replace hr8 := (hr8.below hb).more hb.size
        refine wl_op hA107 rfl rfl (by decide) (fun ev h => by simp [go_sem, h.get 118 rfl, (K.below HB K.lt).cell]; try first | exact ⟨rfl, rfl⟩ | rfl) fun a108 hA108 => ?_
        refine wl_op hA108 rfl rfl (by decide) (fun ev h => by simp [go_sem, h.get 116 rfl, (K.below HB K.lt).cell]; try first | exact ⟨rfl, rfl⟩ | rfl) fun a109 hA109 => ?_
        refine wl_op hA109 rfl rfl (by decide) (fun ev h => by simp [go_sem, h.get 116 rfl, (K.below HB K.lt).cell]; try first | exact ⟨rfl, rfl⟩ | rfl) fun a110 hA110 => ?_
        -- stop alloc slot 9
        obtain ⟨A9, c9, rfl, hr9, _⟩ := own_reads ho9
        refine wl_new hA110 rfl rfl (by decide) (fun ev h => by simp [go_sem, (K.below HB K.lt).cell]; try first | exact ⟨rfl, rfl⟩ | rfl) fun w5 a111 (K9 : Blk _ _ _ _) hz9 hb hA111 => ?_
        -- stop store slot None
        refine wl_skip hA111 rfl rfl (fun ev h => by simp [go_sem, h.get 9 rfl, h.get 119 rfl, (K.below HB K.lt).cell, K9.cell, K9.frozen]; try first | exact ⟨rfl, rfl⟩ | rfl) ?_
        have K6 := K9.set2 (a := .int .u32 (e : Nat)) (b := .slice A9 l.length c9)
        have hb6 := Below.setCell (Below.setCell hb (show w4.heap.size ≤ (⟨w4.heap.size, 0, none⟩ : Addr).block from Nat.le_refl _) (.int .u32 (e : Nat))) (show w4.heap.size ≤ (⟨w4.heap.size, 1, none⟩ : Addr).block from Nat.le_refl _) (.slice A9 l.length c9)
        obtain ⟨w6, hw6⟩ : ∃ w6, (w5.setCell ⟨w4.heap.size, 0, none⟩ (.int .u32 (e : Nat))).setCell ⟨w4.heap.size, 1, none⟩ (.slice A9 l.length c9) = w6 := ⟨_, rfl⟩
        rw [hw6] at K6 hb6 ⊢
        replace HB := HB.trans (hb6.mono HB.size)
        replace hoP := hoP.below hb6
        replace hr8 := (hr8.below hb6).more hb6.size
        replace hr9 := (hr9.below hb6).more hb6.size
        have K0 := K.below HB K.lt
        obtain ⟨AP, cP, rfl, hrP, _⟩ := own_reads hoP
        obtain ⟨S, hS⟩ : ∃ S : ByteArray, (⟨pg.toArray⟩ : ByteArray) = S := ⟨_, rfl⟩
        clear hw6
        refine wl_op hA111 rfl rfl (by decide) (fun ev h => by simp [go_sem, h.get 120 rfl, (K.below HB K.lt).cell]; try first | exact ⟨rfl, rfl⟩ | rfl) fun a112 hA112 => ?_
        refine wl_nil ?_
        refine n_then ?_
        have hA113 := hA112.keep [1, 4, 7, 8, 9, 10]
        simp only [argsE, keepE, lookS, Nat.reduceBEq, cond_true, cond_false, Nat.reduceAdd, gv_tt, gv_ff, Bool.true_and, Bool.false_and, Bool.true_or, Bool.false_or] at hA113
        clear hA96 hA106 hA107 hA108 hA109 hA110 hA111 hA112 a106 a107 a108 a109 a110 a111
        refine wp_seq ?_
        refine wp_seq ?_
        -- any
        refine wp_any_at hA113 [(.det ?dD0), (.det ?dD1), (.det ?dD2), (.det ?dD3), (.det ?dD4), (.det ?dD5), (.used (fun v wy => Took wy v pg)), (.det ?dD7), (.det ?dD8), (.det ?dD9), (.det ?dD10), (.det ?dD11), (.det ?dD12), (.det ?dD13), (.det ?dD14), (.det ?dD15), (.det ?dD16), (.det ?dD17), (.det ?dD18), (.det ?dD19), (.det ?dD20), (.det ?dD21), (.det ?dD22), (.det ?dD23), (.det ?dD24), (.det ?dD25), (.det ?dD26), (.det ?dD27), (.det ?dD28), (.det ?dD29)] [] (fun wy => Below w6.heap.size w6 wy) (TSp [] Grows) (by kernel_rfl) rfl (by kernel_rfl) (by kernel_rfl) rfl ((Below.refl _ _).drew) (stab_sp [] [true, true, true, true, true, true, false, true, true, true, true, true, true, true, true, true, true, true, true, true, true, true, true, true, true, true, true, true, true, true] [true, true, true, true, true, true, false, true, true, true, true, true, true, true, true, true, true, true, true, true, true, true, true, true, true, true, true, true, true, true] [] rfl rfl rfl (by kernel_rfl) ⟨trivial, trivial, trivial, trivial, trivial, trivial, (fun _ _ _ _ hp hb => hp.below hb), trivial, trivial, trivial, trivial, trivial, trivial, trivial, trivial, trivial, trivial, trivial, trivial, trivial, trivial, trivial, trivial, trivial, trivial, trivial, trivial, trivial, trivial, trivial, trivial⟩ trivial) (fun _ h => by cases h) (fun _ _ _ _ h => by cases h) (fun _ h => by cases h) ⟨?oD0, ?oD1, ?oD2, ?oD3, ?oD4, ?oD5, ?oD6, ?oD7, ?oD8, ?oD9, ?oD10, ?oD11, ?oD12, ?oD13, ?oD14, ?oD15, ?oD16, ?oD17, ?oD18, ?oD19, ?oD20, ?oD21, ?oD22, ?oD23, ?oD24, ?oD25, ?oD26, ?oD27, ?oD28, ?oD29, trivial⟩ ?fD
        case oD0 =>
          intro ev wo hev hC hs hph
          have e8 := see_env hA113 hs 8 (by kernel_rfl) (by kernel_rfl) rfl
          exact ob_det (wanted_none rfl) rfl (by kernel_rfl) hC (TSp.of rfl (Grows.refl _)) (by simp [go_sem, e8]; try first | exact ⟨rfl, rfl⟩ | rfl)
        case oD1 =>
          intro ev wo hev hC hs hph
          have e121 := see_det hs 121 0 (by kernel_rfl) (by kernel_rfl) rfl
          exact ob_det (wanted_none rfl) rfl (by kernel_rfl) hC (TSp.of rfl (Grows.refl _)) (by simp [go_sem, e121, hev.const]; try first | exact ⟨rfl, rfl⟩ | rfl)
        case oD2 =>
          intro ev wo hev hC hs hph
          have e122 := see_det hs 122 1 (by kernel_rfl) (by kernel_rfl) rfl
          exact ob_det (wanted_none rfl) rfl (by kernel_rfl) hC (TSp.of rfl (Grows.refl _)) (by simp [go_sem, e122]; try first | exact ⟨rfl, rfl⟩ | rfl)
        case oD3 =>
          intro ev wo hev hC hs hph
          have e7 := see_env hA113 hs 7 (by kernel_rfl) (by kernel_rfl) rfl
          have e123 := see_det hs 123 2 (by kernel_rfl) (by kernel_rfl) rfl
          exact ob_gv _ rfl rfl e123 rfl (by kernel_rfl) hC (TSp.of rfl (Grows.refl _)) (fun hq => by simp [go_sem, e7, e123]; try first | exact ⟨rfl, rfl⟩ | rfl) (by rfl)
        case oD4 =>
          intro ev wo hev hC hs hph
          have e124 := see_det hs 124 3 (by kernel_rfl) (by kernel_rfl) rfl
          have e123 := see_det hs 123 2 (by kernel_rfl) (by kernel_rfl) rfl
          have Kx := K0.below hC K0.lt
          have Ky := K6.below hC K6.lt
          have v0 := conv_reads (c := c8) rfl (hr8.below hC)
          rw [hS] at v0
          exact ob_gv _ rfl rfl e123 rfl (by kernel_rfl) hC (TSp.of rfl (Grows.refl _)) (fun hq => by simp [go_sem, (e124.trans (gw_t (beq_t hq))), e123, v0]; try first | exact ⟨rfl, rfl⟩ | rfl) (by rfl)
        case oD5 =>
          intro ev wo hev hC hs hph
          have e4 := see_env hA113 hs 4 (by kernel_rfl) (by kernel_rfl) rfl
          have e123 := see_det hs 123 2 (by kernel_rfl) (by kernel_rfl) rfl
          exact ob_gv _ rfl rfl e123 rfl (by kernel_rfl) hC (TSp.of rfl (Grows.refl _)) (fun hq => by simp [go_sem, e4, e123]; try first | exact ⟨rfl, rfl⟩ | rfl) (by rfl)
        case oD6 =>
          intro ev wo hev hC hs hph
          have e126 := see_det hs 126 5 (by kernel_rfl) (by kernel_rfl) rfl
          have e123 := see_det hs 123 2 (by kernel_rfl) (by kernel_rfl) rfl
          have Kx := K0.below hC K0.lt
          have Ky := K6.below hC K6.lt
          have v0 := conv_reads (c := c8) rfl (hr8.below hC)
          rw [hS] at v0
          exact ob_yes (wanted_bool rfl rfl e123 rfl) (does_enter (by simp [go_sem, e126, hev.func, hev.const, gw]; try first | exact ⟨rfl, rfl⟩ | rfl) (Calls.mono (refPage_any 2 (by omega) AP _ cP (flagsB e l) rfl (by omega) wo ((hrP.below hC).more hC.size)) (by
            rintro ev' w7 ⟨r, rfl, ho, hb7⟩
            exact ⟨r, rfl, hC.trans (hb7.mono hC.size), TSp.of rfl hb7, by rw [← hpg]; exact (Own8.of ho).took, no_start (by kernel_rfl)⟩)))
        case oD7 =>
          intro ev wo hev hC hs hph
          have u127 := see_used hs 127 6 (by kernel_rfl) (by kernel_rfl) rfl
          have e123 := see_det hs 123 2 (by kernel_rfl) (by kernel_rfl) rfl
          have Kx := K0.below hC K0.lt
          have Ky := K6.below hC K6.lt
          have v0 := conv_reads (c := c8) rfl (hr8.below hC)
          rw [hS] at v0
          obtain ⟨A1, c1, e1, hr1⟩ := u127
          have v1 := conv_reads (c := c1) rfl hr1
          rw [hS] at v1
          exact ob_gv _ rfl rfl e123 rfl (by kernel_rfl) hC (TSp.of rfl (Grows.refl _)) (fun hq => by simp [go_sem, e1, v1]; try first | exact ⟨rfl, rfl⟩ | rfl) (by rfl)
        case oD8 =>
          intro ev wo hev hC hs hph
          have e125 := see_det hs 125 4 (by kernel_rfl) (by kernel_rfl) rfl
          have e128 := see_det hs 128 7 (by kernel_rfl) (by kernel_rfl) rfl
          have e123 := see_det hs 123 2 (by kernel_rfl) (by kernel_rfl) rfl
          exact ob_gv _ rfl rfl e123 rfl (by kernel_rfl) hC (TSp.of rfl (Grows.refl _)) (fun hq => by simp [go_sem, (e125.trans (gw_t (beq_t hq))), (e128.trans (gw_t (beq_t hq))), e123]; try first | exact ⟨rfl, rfl⟩ | rfl) (by rfl)
        case oD9 =>
          intro ev wo hev hC hs hph
          have e123 := see_det hs 123 2 (by kernel_rfl) (by kernel_rfl) rfl
          have e129 := see_det hs 129 8 (by kernel_rfl) (by kernel_rfl) rfl
          exact ob_det (wanted_none rfl) rfl (by kernel_rfl) hC (TSp.of rfl (Grows.refl _)) (by first | exact pick_and rfl (e123) (hev.const _) (e129) | exact pick_or rfl (e123) (hev.const _) (e129) | (simp [go_sem, e123, e129, hev.const]; try first | exact ⟨rfl, rfl⟩ | rfl))
        case oD10 =>
          intro ev wo hev hC hs hph
          have e130 := see_det hs 130 9 (by kernel_rfl) (by kernel_rfl) rfl
          exact ob_det (wanted_none rfl) rfl (by kernel_rfl) hC (TSp.of rfl (Grows.refl _)) (by simp [go_sem, e130]; try first | exact ⟨rfl, rfl⟩ | rfl)
        case oD11 =>
          intro ev wo hev hC hs hph
          have e10 := see_env hA113 hs 10 (by kernel_rfl) (by kernel_rfl) rfl
          have e131 := see_det hs 131 10 (by kernel_rfl) (by kernel_rfl) rfl
          exact ob_gv _ rfl rfl e131 rfl (by kernel_rfl) hC (TSp.of rfl (Grows.refl _)) (fun hq => by simp [go_sem, e10, e131]; try first | exact ⟨rfl, rfl⟩ | rfl) (by rfl)
        case oD12 =>
          intro ev wo hev hC hs hph
          have e132 := see_det hs 132 11 (by kernel_rfl) (by kernel_rfl) rfl
          have e131 := see_det hs 131 10 (by kernel_rfl) (by kernel_rfl) rfl
          exact ob_gv _ rfl rfl e131 rfl (by kernel_rfl) hC (TSp.of rfl (Grows.refl _)) (fun hq => by simp [go_sem, (e132.trans (gw_t (beq_t hq))), e131, hev.const]; try first | exact ⟨rfl, rfl⟩ | rfl) (by rfl)
        case oD13 =>
          intro ev wo hev hC hs hph
          have e131 := see_det hs 131 10 (by kernel_rfl) (by kernel_rfl) rfl
          have e133 := see_det hs 133 12 (by kernel_rfl) (by kernel_rfl) rfl
          exact ob_det (wanted_none rfl) rfl (by kernel_rfl) hC (TSp.of rfl (Grows.refl _)) (by first | exact pick_and rfl (e131) (hev.const _) (e133) | exact pick_or rfl (e131) (hev.const _) (e133) | (simp [go_sem, e131, e133, hev.const]; try first | exact ⟨rfl, rfl⟩ | rfl))
        case oD14 =>
          intro ev wo hev hC hs hph
          have e134 := see_det hs 134 13 (by kernel_rfl) (by kernel_rfl) rfl
          exact ob_det (wanted_none rfl) rfl (by kernel_rfl) hC (TSp.of rfl (Grows.refl _)) (by simp [go_sem, e134]; try first | exact ⟨rfl, rfl⟩ | rfl)
        case oD15 =>
          intro ev wo hev hC hs hph
          have e9 := see_env hA113 hs 9 (by kernel_rfl) (by kernel_rfl) rfl
          have e135 := see_det hs 135 14 (by kernel_rfl) (by kernel_rfl) rfl
          exact ob_gv _ rfl rfl e135 rfl (by kernel_rfl) hC (TSp.of rfl (Grows.refl _)) (fun hq => by simp [go_sem, e9, e135]; try first | exact ⟨rfl, rfl⟩ | rfl) (by rfl)
        case oD16 =>
          intro ev wo hev hC hs hph
          have e136 := see_det hs 136 15 (by kernel_rfl) (by kernel_rfl) rfl
          have e135 := see_det hs 135 14 (by kernel_rfl) (by kernel_rfl) rfl
          have Kx := K0.below hC K0.lt
          have Ky := K6.below hC K6.lt
          have v0 := conv_reads (c := c8) rfl (hr8.below hC)
          rw [hS] at v0
          exact ob_gv _ rfl rfl e135 rfl (by kernel_rfl) hC (TSp.of rfl (Grows.refl _)) (fun hq => by simp [go_sem, (e136.trans (gw_t (beq_t hq))), e135, Kx.cell, Ky.cell, (K.below HB K.lt).cell]; try first | exact ⟨rfl, rfl⟩ | rfl) (by rfl)
        case oD17 =>
          intro ev wo hev hC hs hph
          have e1 := see_env hA113 hs 1 (by kernel_rfl) (by kernel_rfl) rfl
          have e135 := see_det hs 135 14 (by kernel_rfl) (by kernel_rfl) rfl
          exact ob_gv _ rfl rfl e135 rfl (by kernel_rfl) hC (TSp.of rfl (Grows.refl _)) (fun hq => by simp [go_sem, e1, e135]; try first | exact ⟨rfl, rfl⟩ | rfl) (by rfl)
        case oD18 =>
          intro ev wo hev hC hs hph
          have e138 := see_det hs 138 17 (by kernel_rfl) (by kernel_rfl) rfl
          have e135 := see_det hs 135 14 (by kernel_rfl) (by kernel_rfl) rfl
          have Kx := K0.below hC K0.lt
          have Ky := K6.below hC K6.lt
          have v0 := conv_reads (c := c8) rfl (hr8.below hC)
          rw [hS] at v0
          exact ob_gv _ rfl rfl e135 rfl (by kernel_rfl) hC (TSp.of rfl (Grows.refl _)) (fun hq => by simp [go_sem, (e138.trans (gw_t (beq_t hq))), e135, Kx.cell, Ky.cell, (K.below HB K.lt).cell]; try first | exact ⟨rfl, rfl⟩ | rfl) (by rfl)
        case oD19 =>
          intro ev wo hev hC hs hph
          have e137 := see_det hs 137 16 (by kernel_rfl) (by kernel_rfl) rfl
          have e139 := see_det hs 139 18 (by kernel_rfl) (by kernel_rfl) rfl
          have e135 := see_det hs 135 14 (by kernel_rfl) (by kernel_rfl) rfl
          exact ob_gv _ rfl rfl e135 rfl (by kernel_rfl) hC (TSp.of rfl (Grows.refl _)) (fun hq => by simp [go_sem, (e137.trans (gw_t (beq_t hq))), (e139.trans (gw_t (beq_t hq))), e135]; try first | exact ⟨rfl, rfl⟩ | rfl) (by rfl)
        case oD20 =>
          intro ev wo hev hC hs hph
          have e135 := see_det hs 135 14 (by kernel_rfl) (by kernel_rfl) rfl
          have e140 := see_det hs 140 19 (by kernel_rfl) (by kernel_rfl) rfl
          exact ob_det (wanted_none rfl) rfl (by kernel_rfl) hC (TSp.of rfl (Grows.refl _)) (by first | exact pick_and rfl (e135) (hev.const _) (e140) | exact pick_or rfl (e135) (hev.const _) (e140) | (simp [go_sem, e135, e140, hev.const]; try first | exact ⟨rfl, rfl⟩ | rfl))
        case oD21 =>
          intro ev wo hev hC hs hph
          have e141 := see_det hs 141 20 (by kernel_rfl) (by kernel_rfl) rfl
          exact ob_det (wanted_none rfl) rfl (by kernel_rfl) hC (TSp.of rfl (Grows.refl _)) (by simp [go_sem, e141]; try first | exact ⟨rfl, rfl⟩ | rfl)
        case oD22 =>
          intro ev wo hev hC hs hph
          have e9 := see_env hA113 hs 9 (by kernel_rfl) (by kernel_rfl) rfl
          have e142 := see_det hs 142 21 (by kernel_rfl) (by kernel_rfl) rfl
          exact ob_gv _ rfl rfl e142 rfl (by kernel_rfl) hC (TSp.of rfl (Grows.refl _)) (fun hq => by simp [go_sem, e9, e142]; try first | exact ⟨rfl, rfl⟩ | rfl) (by rfl)
        case oD23 =>
          intro ev wo hev hC hs hph
          have e143 := see_det hs 143 22 (by kernel_rfl) (by kernel_rfl) rfl
          have e142 := see_det hs 142 21 (by kernel_rfl) (by kernel_rfl) rfl
          have Kx := K0.below hC K0.lt
          have Ky := K6.below hC K6.lt
          have v0 := conv_reads (c := c8) rfl (hr8.below hC)
          rw [hS] at v0
          exact ob_gv _ rfl rfl e142 rfl (by kernel_rfl) hC (TSp.of rfl (Grows.refl _)) (fun hq => by simp [go_sem, (e143.trans (gw_t (beq_t hq))), e142, Kx.cell, Ky.cell, (K.below HB K.lt).cell]; try first | exact ⟨rfl, rfl⟩ | rfl) (by rfl)
        case oD24 =>
          intro ev wo hev hC hs hph
          have e144 := see_det hs 144 23 (by kernel_rfl) (by kernel_rfl) rfl
          have e142 := see_det hs 142 21 (by kernel_rfl) (by kernel_rfl) rfl
          exact ob_gv _ rfl rfl e142 rfl (by kernel_rfl) hC (TSp.of rfl (Grows.refl _)) (fun hq => by simp [go_sem, (e144.trans (gw_t (beq_t hq))), e142]; try first | exact ⟨rfl, rfl⟩ | rfl) (by rfl)
        case oD25 =>
          intro ev wo hev hC hs hph
          have e1 := see_env hA113 hs 1 (by kernel_rfl) (by kernel_rfl) rfl
          have e142 := see_det hs 142 21 (by kernel_rfl) (by kernel_rfl) rfl
          exact ob_gv _ rfl rfl e142 rfl (by kernel_rfl) hC (TSp.of rfl (Grows.refl _)) (fun hq => by simp [go_sem, e1, e142]; try first | exact ⟨rfl, rfl⟩ | rfl) (by rfl)
        case oD26 =>
          intro ev wo hev hC hs hph
          have e146 := see_det hs 146 25 (by kernel_rfl) (by kernel_rfl) rfl
          have e142 := see_det hs 142 21 (by kernel_rfl) (by kernel_rfl) rfl
          have Kx := K0.below hC K0.lt
          have Ky := K6.below hC K6.lt
          have v0 := conv_reads (c := c8) rfl (hr8.below hC)
          rw [hS] at v0
          exact ob_gv _ rfl rfl e142 rfl (by kernel_rfl) hC (TSp.of rfl (Grows.refl _)) (fun hq => by simp [go_sem, (e146.trans (gw_t (beq_t hq))), e142, Kx.cell, Ky.cell, (K.below HB K.lt).cell]; try first | exact ⟨rfl, rfl⟩ | rfl) (by rfl)
        case oD27 =>
          intro ev wo hev hC hs hph
          have e147 := see_det hs 147 26 (by kernel_rfl) (by kernel_rfl) rfl
          have e142 := see_det hs 142 21 (by kernel_rfl) (by kernel_rfl) rfl
          exact ob_gv _ rfl rfl e142 rfl (by kernel_rfl) hC (TSp.of rfl (Grows.refl _)) (fun hq => by simp [go_sem, (e147.trans (gw_t (beq_t hq))), e142]; try first | exact ⟨rfl, rfl⟩ | rfl) (by rfl)
        case oD28 =>
          intro ev wo hev hC hs hph
          have e145 := see_det hs 145 24 (by kernel_rfl) (by kernel_rfl) rfl
          have e148 := see_det hs 148 27 (by kernel_rfl) (by kernel_rfl) rfl
          have e142 := see_det hs 142 21 (by kernel_rfl) (by kernel_rfl) rfl
          exact ob_gv _ rfl rfl e142 rfl (by kernel_rfl) hC (TSp.of rfl (Grows.refl _)) (fun hq => by simp [go_sem, (e145.trans (gw_t (beq_t hq))), (e148.trans (gw_t (beq_t hq))), e142]; try first | exact ⟨rfl, rfl⟩ | rfl) (by rfl)
        case oD29 =>
          intro ev wo hev hC hs hph
          have e142 := see_det hs 142 21 (by kernel_rfl) (by kernel_rfl) rfl
          have e149 := see_det hs 149 28 (by kernel_rfl) (by kernel_rfl) rfl
          exact ob_det (wanted_none rfl) rfl (by kernel_rfl) hC (TSp.of rfl (Grows.refl _)) (by first | exact pick_and rfl (e142) (hev.const _) (e149) | exact pick_or rfl (e142) (hev.const _) (e149) | (simp [go_sem, e142, e149, hev.const]; try first | exact ⟨rfl, rfl⟩ | rfl))
        intro wf hC hph
        intro x127
        intro a114 hA114
        refine n_then ?_
        have hA115 := hA114.keep [1, 9, 150]
        simp only [argsE, keepE, lookS, Nat.reduceBEq, cond_true, cond_false, Nat.reduceAdd, gv_tt, gv_ff, Bool.true_and, Bool.false_and, Bool.true_or, Bool.false_or] at hA115
        clear hA113 hA114 a112
        replace HB := HB.trans (hC.mono HB.size)
        -- cond
        replace K6 := K6.below hC K6.lt
        replace hr9 := (hr9.below hC).more hC.size
        have K0 := K.below HB K.lt
        refine wp_if hA115 150 _ rfl (fun hq2 => ?yM) (fun hq2 => ?nM)
        case yM => simp [hl] at hq2
        case nM =>
          refine wp_skip ?_
          refine n_then ?_
          refine wp_seq ?_
          refine wp_seq ?_
          refine wp_region_lit ?_
          refine wl_op hA115 rfl rfl (by decide) (fun ev h => by simp [go_sem, h.get 9 rfl, K6.cell, K0.cell]; try first | exact ⟨rfl, rfl⟩ | rfl) fun a116 hA116 => ?_
          refine wl_op hA116 rfl rfl (by decide) (fun ev h => by simp [go_sem, h.get 151 rfl, K6.cell, K0.cell]; try first | exact ⟨rfl, rfl⟩ | rfl) fun a117 hA117 => ?_
          refine wl_op hA117 rfl rfl (by decide) (fun ev h => by simp [go_sem, h.get 152 rfl, K6.cell, K0.cell]; try first | exact ⟨rfl, rfl⟩ | rfl) fun a118 hA118 => ?_
          refine wl_op hA118 rfl rfl (by decide) (fun ev h => by simp [go_sem, h.c, K6.cell, K0.cell]; try first | exact ⟨rfl, rfl⟩ | rfl) fun a119 hA119 => ?_
          refine wl_nil ?_
          refine n_then ?_
          have hA120 := hA119.keep [1, 9, 153, 154]
          simp only [argsE, keepE, lookS, Nat.reduceBEq, cond_true, cond_false, Nat.reduceAdd, gv_tt, gv_ff, Bool.true_and, Bool.false_and, Bool.true_or, Bool.false_or] at hA120
          clear hA115 hA116 hA117 hA118 hA119 a116 a117 a118
          refine wp_block ?_
          -- loop
          refine wp_loop_at (fun k a wz => ∃ (i : Nat), i + k = l.length ∧ At 169 [(1, .pointer (some ⟨w.heap.size, 0, none⟩)), (9, .pointer (some ⟨w4.heap.size, 0, none⟩)), (153, .int .i64 (l.length : Nat)), (154, .int .i64 (i : Nat))] a ∧ Below wf.heap.size wf wz) (l.length) ?_ ?_
          · exact ⟨0, by omega, hA120, Below.refl _ _⟩
          rintro k a wz ⟨i, hik, hA, hB2⟩
          refine wp_seq ?_
          refine wp_region_lit ?_
          refine wl_op hA rfl rfl (by decide) (fun ev h => by simp [go_sem, h.get 154 rfl, h.get 153 rfl, K6.cell, K0.cell]; try first | exact ⟨rfl, rfl⟩ | rfl) fun a121 hA121 => ?_
          refine wl_nil ?_
          refine n_then ?_
          have hA122 := hA121.keep [1, 9, 153, 154, 155]
          simp only [argsE, keepE, lookS, Nat.reduceBEq, cond_true, cond_false, Nat.reduceAdd, gv_tt, gv_ff, Bool.true_and, Bool.false_and, Bool.true_or, Bool.false_or] at hA122
          clear hA hA121
          refine wp_seq ?_
          -- cond
          refine wp_if hA122 155 _ rfl (fun hq3 => ?yR) (fun hq3 => ?nR)
          case yR =>
            have hlt : i < l.length := by simp at hq3; omega
            obtain ⟨x, hx⟩ : ∃ x, l[i]? = some x := ⟨_, List.getElem?_eq_getElem hlt⟩
            obtain ⟨ad, rfl, hadl, hc⟩ := ((hr.below (HB.trans (hB2.mono HB.size))).more (Nat.le_trans HB.size hB2.size)).2 (by omega)
            obtain ⟨k0, k1⟩ := mark_at hc hx
            obtain ⟨ad9, rfl, hadl9, hc9⟩ := ((hr9.below hB2).more hB2.size).2 (by omega)
            obtain ⟨y0, y1⟩ := mark_at hc9 hx
            have ii0 : (0 : Int) ≤ (i : Int) := by omega
            have ii1 : (i : Int) < (l.length : Int) := by omega
            have hlj : (i : Int) < (j : Int) := by omega
            have K6z := K6.below hB2 K6.lt
            have K0z := K0.below hB2 K0.lt
            refine wp_skip ?_
            refine n_then ?_
            refine wp_seq ?_
            refine wp_block ?_
            refine wp_seq ?_
            refine wp_region_lit ?_
            refine wl_op hA122 rfl rfl (by decide) (fun ev h => by simp [go_sem, h.get 154 rfl, K6.cell, K0.cell]; try first | exact ⟨rfl, rfl⟩ | rfl) fun a123 hA123 => ?_
            refine wl_op hA123 rfl rfl (by decide) (fun ev h => by simp [go_sem, h.get 156 rfl, K6.cell, K0.cell]; try first | exact ⟨rfl, rfl⟩ | rfl) fun a124 hA124 => ?_
            refine wl_nil ?_
            refine n_then ?_
            have hA125 := hA124.keep [1, 9, 11, 153, 154]
            simp only [argsE, keepE, lookS, Nat.reduceBEq, cond_true, cond_false, Nat.reduceAdd, gv_tt, gv_ff, Bool.true_and, Bool.false_and, Bool.true_or, Bool.false_or] at hA125
            clear hA122 hA123 hA124 a123
            refine wp_seq ?_
            -- any
            refine wp_any_at hA125 [(.det ?dE0), (.det ?dE1), (.det ?dE2), (.det ?dE3), (.det ?dE4), (.det ?dE5), (.det ?dE6), (.det ?dE7), (.det ?dE8), (.det ?dE9), (.det ?dE10)] [] (fun wy => Below wz.heap.size wz wy) (TSp [] Grows) (by kernel_rfl) rfl (by kernel_rfl) (by kernel_rfl) rfl ((Below.refl _ _).drew) (stab_sp [] [true, true, true, true, true, true, true, true, true, true, true] [true, true, true, true, true, true, true, true, true, true, true] [] rfl rfl rfl (by kernel_rfl) ⟨trivial, trivial, trivial, trivial, trivial, trivial, trivial, trivial, trivial, trivial, trivial, trivial⟩ trivial) (fun _ h => by cases h) (fun _ _ _ _ h => by cases h) (fun _ h => by cases h) ⟨?oE0, ?oE1, ?oE2, ?oE3, ?oE4, ?oE5, ?oE6, ?oE7, ?oE8, ?oE9, ?oE10, trivial⟩ ?fE
            case oE0 =>
              intro ev wo hev hC hs hph
              have e9 := see_env hA125 hs 9 (by kernel_rfl) (by kernel_rfl) rfl
              exact ob_det (wanted_none rfl) rfl (by kernel_rfl) hC (TSp.of rfl (Grows.refl _)) (by simp [go_sem, e9]; try first | exact ⟨rfl, rfl⟩ | rfl)
            case oE1 =>
              intro ev wo hev hC hs hph
              have e157 := see_det hs 157 0 (by kernel_rfl) (by kernel_rfl) rfl
              have Kx := K0z.below hC K0z.lt
              have Ky := K6z.below hC K6z.lt
              have k0x := (hC.cell (by rw [block_of_add]; exact hadl)).trans k0
              have k1x := (hC.cell (p := ⟨(ad.add (i * 2)).block, (ad.add (i * 2)).off + 1, none⟩) (by show (ad.add (i * 2)).block < _; rw [block_of_add]; exact hadl)).trans k1
              have y0x := (hC.cell (by rw [block_of_add]; exact hadl9)).trans y0
              have y1x := (hC.cell (p := ⟨(ad9.add (i * 2)).block, (ad9.add (i * 2)).off + 1, none⟩) (by show (ad9.add (i * 2)).block < _; rw [block_of_add]; exact hadl9)).trans y1
              exact ob_det (wanted_none rfl) rfl (by kernel_rfl) hC (TSp.of rfl (Grows.refl _)) (by simp [go_sem, e157, Kx.cell, Ky.cell, k0x, k1x, y0x, y1x, K6.cell, K0.cell]; try first | exact ⟨rfl, rfl⟩ | rfl)
            case oE2 =>
              intro ev wo hev hC hs hph
              have e11 := see_env hA125 hs 11 (by kernel_rfl) (by kernel_rfl) rfl
              exact ob_det (wanted_none rfl) rfl (by kernel_rfl) hC (TSp.of rfl (Grows.refl _)) (by simp [go_sem, e11]; try first | exact ⟨rfl, rfl⟩ | rfl)
            case oE3 =>
              intro ev wo hev hC hs hph
              have e158 := see_det hs 158 1 (by kernel_rfl) (by kernel_rfl) rfl
              have e159 := see_det hs 159 2 (by kernel_rfl) (by kernel_rfl) rfl
              have Kx := K0z.below hC K0z.lt
              have Ky := K6z.below hC K6z.lt
              have k0x := (hC.cell (by rw [block_of_add]; exact hadl)).trans k0
              have k1x := (hC.cell (p := ⟨(ad.add (i * 2)).block, (ad.add (i * 2)).off + 1, none⟩) (by show (ad.add (i * 2)).block < _; rw [block_of_add]; exact hadl)).trans k1
              have y0x := (hC.cell (by rw [block_of_add]; exact hadl9)).trans y0
              have y1x := (hC.cell (p := ⟨(ad9.add (i * 2)).block, (ad9.add (i * 2)).off + 1, none⟩) (by show (ad9.add (i * 2)).block < _; rw [block_of_add]; exact hadl9)).trans y1
              exact ob_det (wanted_none rfl) rfl (by kernel_rfl) hC (TSp.of rfl (Grows.refl _)) (by simp [go_sem, e158, e159, ii0, ii1, hlj]; try first | exact ⟨rfl, rfl⟩ | rfl)
            case oE4 =>
              intro ev wo hev hC hs hph
              have e160 := see_det hs 160 3 (by kernel_rfl) (by kernel_rfl) rfl
              have Kx := K0z.below hC K0z.lt
              have Ky := K6z.below hC K6z.lt
              have k0x := (hC.cell (by rw [block_of_add]; exact hadl)).trans k0
              have k1x := (hC.cell (p := ⟨(ad.add (i * 2)).block, (ad.add (i * 2)).off + 1, none⟩) (by show (ad.add (i * 2)).block < _; rw [block_of_add]; exact hadl)).trans k1
              have y0x := (hC.cell (by rw [block_of_add]; exact hadl9)).trans y0
              have y1x := (hC.cell (p := ⟨(ad9.add (i * 2)).block, (ad9.add (i * 2)).off + 1, none⟩) (by show (ad9.add (i * 2)).block < _; rw [block_of_add]; exact hadl9)).trans y1
              exact ob_det (wanted_none rfl) rfl (by kernel_rfl) hC (TSp.of rfl (Grows.refl _)) (by simp [go_sem, e160, Kx.cell, Ky.cell, k0x, k1x, y0x, y1x, K6.cell, K0.cell]; try first | exact ⟨rfl, rfl⟩ | rfl)
            case oE5 =>
              intro ev wo hev hC hs hph
              have e1 := see_env hA125 hs 1 (by kernel_rfl) (by kernel_rfl) rfl
              exact ob_det (wanted_none rfl) rfl (by kernel_rfl) hC (TSp.of rfl (Grows.refl _)) (by simp [go_sem, e1]; try first | exact ⟨rfl, rfl⟩ | rfl)
            case oE6 =>
              intro ev wo hev hC hs hph
              have e162 := see_det hs 162 5 (by kernel_rfl) (by kernel_rfl) rfl
              have Kx := K0z.below hC K0z.lt
              have Ky := K6z.below hC K6z.lt
              have k0x := (hC.cell (by rw [block_of_add]; exact hadl)).trans k0
              have k1x := (hC.cell (p := ⟨(ad.add (i * 2)).block, (ad.add (i * 2)).off + 1, none⟩) (by show (ad.add (i * 2)).block < _; rw [block_of_add]; exact hadl)).trans k1
              have y0x := (hC.cell (by rw [block_of_add]; exact hadl9)).trans y0
              have y1x := (hC.cell (p := ⟨(ad9.add (i * 2)).block, (ad9.add (i * 2)).off + 1, none⟩) (by show (ad9.add (i * 2)).block < _; rw [block_of_add]; exact hadl9)).trans y1
              exact ob_det (wanted_none rfl) rfl (by kernel_rfl) hC (TSp.of rfl (Grows.refl _)) (by simp [go_sem, e162, Kx.cell, Ky.cell, k0x, k1x, y0x, y1x, K6.cell, K0.cell]; try first | exact ⟨rfl, rfl⟩ | rfl)
            case oE7 =>
              intro ev wo hev hC hs hph
              have e11 := see_env hA125 hs 11 (by kernel_rfl) (by kernel_rfl) rfl
              exact ob_det (wanted_none rfl) rfl (by kernel_rfl) hC (TSp.of rfl (Grows.refl _)) (by simp [go_sem, e11]; try first | exact ⟨rfl, rfl⟩ | rfl)
            case oE8 =>
              intro ev wo hev hC hs hph
              have e163 := see_det hs 163 6 (by kernel_rfl) (by kernel_rfl) rfl
              have e164 := see_det hs 164 7 (by kernel_rfl) (by kernel_rfl) rfl
              have Kx := K0z.below hC K0z.lt
              have Ky := K6z.below hC K6z.lt
              have k0x := (hC.cell (by rw [block_of_add]; exact hadl)).trans k0
              have k1x := (hC.cell (p := ⟨(ad.add (i * 2)).block, (ad.add (i * 2)).off + 1, none⟩) (by show (ad.add (i * 2)).block < _; rw [block_of_add]; exact hadl)).trans k1
              have y0x := (hC.cell (by rw [block_of_add]; exact hadl9)).trans y0
              have y1x := (hC.cell (p := ⟨(ad9.add (i * 2)).block, (ad9.add (i * 2)).off + 1, none⟩) (by show (ad9.add (i * 2)).block < _; rw [block_of_add]; exact hadl9)).trans y1
              exact ob_det (wanted_none rfl) rfl (by kernel_rfl) hC (TSp.of rfl (Grows.refl _)) (by simp [go_sem, e163, e164, ii0, ii1, hlj]; try first | exact ⟨rfl, rfl⟩ | rfl)
            case oE9 =>
              intro ev wo hev hC hs hph
              have e165 := see_det hs 165 8 (by kernel_rfl) (by kernel_rfl) rfl
              have Kx := K0z.below hC K0z.lt
              have Ky := K6z.below hC K6z.lt
              have k0x := (hC.cell (by rw [block_of_add]; exact hadl)).trans k0
              have k1x := (hC.cell (p := ⟨(ad.add (i * 2)).block, (ad.add (i * 2)).off + 1, none⟩) (by show (ad.add (i * 2)).block < _; rw [block_of_add]; exact hadl)).trans k1
              have y0x := (hC.cell (by rw [block_of_add]; exact hadl9)).trans y0
              have y1x := (hC.cell (p := ⟨(ad9.add (i * 2)).block, (ad9.add (i * 2)).off + 1, none⟩) (by show (ad9.add (i * 2)).block < _; rw [block_of_add]; exact hadl9)).trans y1
              exact ob_det (wanted_none rfl) rfl (by kernel_rfl) hC (TSp.of rfl (Grows.refl _)) (by simp [go_sem, e165, Kx.cell, Ky.cell, k0x, k1x, y0x, y1x, K6.cell, K0.cell]; try first | exact ⟨rfl, rfl⟩ | rfl)
            case oE10 =>
              intro ev wo hev hC hs hph
              have e161 := see_det hs 161 4 (by kernel_rfl) (by kernel_rfl) rfl
              have e166 := see_det hs 166 9 (by kernel_rfl) (by kernel_rfl) rfl
              exact ob_det (wanted_none rfl) rfl (by kernel_rfl) hC (TSp.of rfl (Grows.refl _)) (by simp [go_sem, e161, e166]; try first | exact ⟨rfl, rfl⟩ | rfl)
            intro wf hC hph
            intro a126 hA126
            refine n_then ?_
            have hA127 := hA126.keep [1, 9, 153, 154, 167]
            simp only [argsE, keepE, lookS, Nat.reduceBEq, cond_true, cond_false, Nat.reduceAdd, gv_tt, gv_ff, Bool.true_and, Bool.false_and, Bool.true_or, Bool.false_or] at hA127
            clear hA125 hA126 a124
            -- cond
            refine wp_if hA127 167 _ rfl (fun hq4 => ?yS) (fun hq4 => ?nS)
            case yS => simp at hq4
            case nS =>
              have hwi : IntKind.i64.wrap ((i : Int) + 1) = ((i + 1 : Nat) : Int) := by rw [IntWalk.i64_in _ (by omega)]; omega
              refine wp_skip ?_
              refine n_block ?_
              refine n_then ?_
              refine wp_region_lit ?_
              refine wl_op hA127 rfl rfl (by decide) (fun ev h => by simp [go_sem, h.c, h.get 154 rfl, hwi]; try first | exact ⟨rfl, rfl⟩ | rfl) fun a128 hA128 => ?_
              refine wl_op hA128 rfl rfl (by decide) (fun ev h => by simp [go_sem, h.get 168 rfl, hwi]; try first | exact ⟨rfl, rfl⟩ | rfl) fun a129 hA129 => ?_
              refine wl_nil ?_
              refine n_then ?_
              have hA130 := hA129.keep [1, 9, 153, 154]
              simp only [argsE, keepE, lookS, Nat.reduceBEq, cond_true, cond_false, Nat.reduceAdd, gv_tt, gv_ff, Bool.true_and, Bool.false_and, Bool.true_or, Bool.false_or] at hA130
              clear hA127 hA128 hA129 a128
              -- round
              have hi1 : ((i : Int) + 1) = ((i + 1 : Nat) : Int) := by omega
              rw [hi1] at hA130
              exact ⟨k - 1, by omega, i + 1, by omega, hA130, hB2.trans (hC.mono hB2.size)⟩
          case nR =>
            refine wp_exit ?_
            refine x_then ?_
            refine x_then ?_
            refine x_block ?_
            refine n_then ?_
            have hA131 := hA122.keep []
            simp only [argsE, keepE, lookS, Nat.reduceBEq, cond_true, cond_false, Nat.reduceAdd, gv_tt, gv_ff, Bool.true_and, Bool.false_and, Bool.true_or, Bool.false_or] at hA131
            clear hA122
            refine wp_seq ?_
            refine wp_region_lit ?_
            refine wl_op hA131 rfl rfl (by decide) (fun ev h => by simp [go_sem, h.c, K6.cell, K0.cell]; try first | exact ⟨rfl, rfl⟩ | rfl) fun a132 hA132 => ?_
            refine wl_nil ?_
            refine n_then ?_
            have hA133 := hA132.keep [2]
            simp only [argsE, keepE, lookS, Nat.reduceBEq, cond_true, cond_false, Nat.reduceAdd, gv_tt, gv_ff, Bool.true_and, Bool.false_and, Bool.true_or, Bool.false_or] at hA133
            clear hA131 hA132
            refine wp_ret ?_
            refine ret_1 hA133 2 rfl rfl ?_
            exact ⟨rfl, hb0.trans ((HB.trans (hB2.mono HB.size)).mono hb0.size)⟩
end Go.Proofs.YtljclehhicmkhaaDoor
