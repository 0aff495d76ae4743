/-
  Walk of the statement on what is written of an index.
-/
import Derived.Test.YtljclehhicmkhaaDoorWritesLaw
namespace Go.Proofs.YtljclehhicmkhaaDoor
open Go.RowKit
set_option linter.unusedSimpArgs false
set_option linter.unusedVariables false
theorem idxR_zero {nm : ByteArray} {e nx n : Nat} {u : Int} {l : List MarkM} (hl : l.length = n) : (nameIs nm && decide (0 < e) && decide (0 < nx) && decide (0 ≤ u) && decide (u ≤ 4294967295) && decide ((n : Int) ≤ 500)) = idxR nm e nx u l 0 := by
  unfold idxR
  rw [hl, nat_le500]
  simp [marksN]
theorem idxP_zero {nm : ByteArray} {e nx n : Nat} {u : Int} {l : List MarkM} (hl : l.length = n) : textB nm ++ be 4 e ++ be 4 nx ++ low4 u ++ be 2 n = idxP nm e nx u l 0 := by
  unfold idxP
  simp [hl]
theorem idxR_all' (nm : ByteArray) (e nx : Nat) (u : Int) {j : Nat} {l : List MarkM} (hl : l.length = j) : idxR nm e nx u l j = rightIndexV nm e nx u l := by rw [← hl, idxR_all]
theorem idxP_all' {nm : ByteArray} {e nx j : Nat} {u : Int} {l : List MarkM} (hl : l.length = j) (h : rightIndexV nm e nx u l = true) : idxP nm e nx u l j = indexB nm e nx u l := by rw [← hl, idxP_all h]
set_option maxRecDepth 100000 in
set_option maxHeartbeats 4000000 in
theorem writes_main (nm : ByteArray) (A : Option Addr) (c n e nx : Nat) (u : Int) (l : List MarkM) (w : World) (hm : MaxCell w) (hg : 1 < w.heap.size) (hs : nm.size ≤ 9223372036854775807) (hu : ∀ q ∈ l, q.1 < 4294967296) (he : e < 4294967296) (hnx : nx < 4294967296) (hl : l.length = n) (hn : n ≤ 9223372036854775807) (hcn : n ≤ c) (hr : Reads w w.heap.size 2 A n (mcells l)) :
    Calls Tryd.prog 5 #[.agg #[.string nm, .int .u32 (e : Nat), .int .u32 (nx : Nat), .int .i64 u, .slice A n c]] w fun ev w' => ev = .returned (.bool true) ∧ Below w.heap.size w w' := by
  refine calls_at 222 Tryd.func5 rfl rfl (Nat.le_of_ble_eq_true rfl) ?_
  intro a hA
  simp only [argsE, keepE, lookS, Nat.reduceBEq, cond_true, cond_false, Nat.reduceAdd, gv_tt, gv_ff, Bool.true_and, Bool.false_and, Bool.true_or, Bool.false_or] at hA
  refine wp_seq ?_
  refine wp_region_lit ?_
  -- stop box slot 1
  refine wl_new hA rfl rfl (by decide) (fun ev h => by simp [go_sem, h.get 0 rfl]; try first | exact ⟨rfl, rfl⟩ | rfl) fun w1 a1 (K : Blk _ _ _ _) hz hb0 hA1 => ?_
  replace hr := (hr.below hb0).more hb0.size
  replace hm := hm.below hg hb0; replace hg := Nat.lt_of_lt_of_le hg hb0.size
  have HB := Below.refl w1.heap.size w1
  refine wl_op hA1 rfl rfl (by decide) (fun ev h => by simp [go_sem, h.c, (K.below HB K.lt).cell]; try first | exact ⟨rfl, rfl⟩ | rfl) fun a2 hA2 => ?_
  refine wl_nil ?_
  refine n_then ?_
  have hA3 := hA2.keep [1]
  simp only [argsE, keepE, lookS, Nat.reduceBEq, cond_true, cond_false, Nat.reduceAdd, gv_tt, gv_ff, Bool.true_and, Bool.false_and, Bool.true_or, Bool.false_or] at hA3
  clear hA hA1 hA2 a1
  refine wp_seq ?_
  refine wp_seq ?_
  refine wp_region_lit ?_
  -- stop call slot 13
  refine wl_call hA3 rfl rfl (by decide) (fun ev h => by simp [go_sem, (K.below HB K.lt).cell, h.f]; try first | exact ⟨rfl, rfl⟩ | rfl) (awake11 _ (hm.below hg HB) (Nat.lt_of_lt_of_le hg HB.size)) ?_
  rintro e w2 ⟨rfl, hb⟩
  refine ⟨_, rfl, fun a4 hA4 => ?_⟩
  replace HB := HB.trans (hb.mono HB.size)
  refine wl_op hA4 rfl rfl (by decide) (fun ev h => by simp [go_sem, h.get 13 rfl, (K.below HB K.lt).cell]; try first | exact ⟨rfl, rfl⟩ | rfl) fun a5 hA5 => ?_
  refine wl_op hA5 rfl rfl (by decide) (fun ev h => by simp [go_sem, h.get 14 rfl, (K.below HB K.lt).cell]; try first | exact ⟨rfl, rfl⟩ | rfl) fun a6 hA6 => ?_
  refine wl_guard _ hA6 rfl rfl rfl rfl (by decide) (fun hq ev h => by simp [go_sem, (h.get 1 rfl), (K.below HB K.lt).cell]; try first | exact ⟨rfl, rfl⟩ | rfl) fun a7 hA7 => ?_
  refine wl_guard _ hA7 rfl rfl rfl rfl (by decide) (fun hq ev h => by simp [go_sem, ((h.get 16 rfl).trans (gw_t (beq_t hq))), (K.below HB K.lt).cell]; try first | exact ⟨rfl, rfl⟩ | rfl) fun a8 hA8 => ?_
  refine wl_guard _ hA8 rfl rfl rfl rfl (by decide) (fun hq ev h => by simp [go_sem, ((h.get 17 rfl).trans (gw_t (beq_t hq))), (K.below HB K.lt).cell]; try first | exact ⟨rfl, rfl⟩ | rfl) fun a9 hA9 => ?_
  refine wl_guard _ hA9 rfl rfl rfl rfl (by decide) (fun hq ev h => by simp [go_sem, h.c, ((h.get 18 rfl).trans (gw_t (beq_t hq))), (K.below HB K.lt).cell]; try first | exact ⟨rfl, rfl⟩ | rfl) fun a10 hA10 => ?_
  refine wl_op hA10 rfl rfl (by decide) (fun ev h => by first | exact pick_and rfl (h.get 15 rfl) (h.c _) (h.get 19 rfl) | exact pick_or rfl (h.get 15 rfl) (h.c _) (h.get 19 rfl) | (simp [go_sem, h.c, h.get 15 rfl, h.get 19 rfl, (K.below HB K.lt).cell, gv_or, gv_and]; try first | exact ⟨rfl, rfl⟩ | rfl)) fun a11 hA11 => ?_
  refine wl_op hA11 rfl rfl (by decide) (fun ev h => by simp [go_sem, h.get 20 rfl, (K.below HB K.lt).cell]; try first | exact ⟨rfl, rfl⟩ | rfl) fun a12 hA12 => ?_
  refine wl_guard _ hA12 rfl rfl rfl rfl (by decide) (fun hq ev h => by simp [go_sem, (h.get 1 rfl), (K.below HB K.lt).cell]; try first | exact ⟨rfl, rfl⟩ | rfl) fun a13 hA13 => ?_
  refine wl_guard _ hA13 rfl rfl rfl rfl (by decide) (fun hq ev h => by simp [go_sem, ((h.get 22 rfl).trans (gw_t (beq_t hq))), (K.below HB K.lt).cell]; try first | exact ⟨rfl, rfl⟩ | rfl) fun a14 hA14 => ?_
  refine wl_guard _ hA14 rfl rfl rfl rfl (by decide) (fun hq ev h => by simp [go_sem, ((h.get 23 rfl).trans (gw_t (beq_t hq))), (K.below HB K.lt).cell]; try first | exact ⟨rfl, rfl⟩ | rfl) fun a15 hA15 => ?_
  refine wl_guard _ hA15 rfl rfl rfl rfl (by decide) (fun hq ev h => by simp [go_sem, h.c, ((h.get 24 rfl).trans (gw_t (beq_t hq))), (K.below HB K.lt).cell]; try first | exact ⟨rfl, rfl⟩ | rfl) fun a16 hA16 => ?_
  refine wl_op hA16 rfl rfl (by decide) (fun ev h => by first | exact pick_and rfl (h.get 21 rfl) (h.c _) (h.get 25 rfl) | exact pick_or rfl (h.get 21 rfl) (h.c _) (h.get 25 rfl) | (simp [go_sem, h.c, h.get 21 rfl, h.get 25 rfl, (K.below HB K.lt).cell, gv_or, gv_and]; try first | exact ⟨rfl, rfl⟩ | rfl)) fun a17 hA17 => ?_
  refine wl_nil ?_
  refine n_then ?_
  have hA18 := hA17.keep [1, 26]
  simp only [argsE, keepE, lookS, Nat.reduceBEq, cond_true, cond_false, Nat.reduceAdd, gv_tt, gv_ff, Bool.true_and, Bool.false_and, Bool.true_or, Bool.false_or] at hA18
  clear hA3 hA4 hA5 hA6 hA7 hA8 hA9 hA10 hA11 hA12 hA13 hA14 hA15 hA16 hA17 a2 a4 a5 a6 a7 a8 a9 a10 a11 a12 a13 a14 a15 a16
  -- cond
  refine wp_if hA18 26 _ rfl (fun hq => ?yA) (fun hq => ?nA)
  case yA =>
    refine wp_seq ?_
    refine wp_region_lit ?_
    -- stop call slot 27
    refine wl_call hA18 rfl rfl (by decide) (fun ev h => by simp [go_sem, (K.below HB K.lt).cell, h.f]; try first | exact ⟨rfl, rfl⟩ | rfl) (awake11 _ (hm.below hg HB) (Nat.lt_of_lt_of_le hg HB.size)) ?_
    rintro e w3 ⟨rfl, hb⟩
    refine ⟨_, rfl, fun a19 hA19 => ?_⟩
    replace HB := HB.trans (hb.mono HB.size)
    refine wl_op hA19 rfl rfl (by decide) (fun ev h => by simp [go_sem, h.get 27 rfl, (K.below HB K.lt).cell]; try first | exact ⟨rfl, rfl⟩ | rfl) fun a20 hA20 => ?_
    refine wl_nil ?_
    refine n_then ?_
    have hA21 := hA20.keep [2]
    simp only [argsE, keepE, lookS, Nat.reduceBEq, cond_true, cond_false, Nat.reduceAdd, gv_tt, gv_ff, Bool.true_and, Bool.false_and, Bool.true_or, Bool.false_or] at hA21
    clear hA18 hA19 hA20 a19
    refine wp_ret ?_
    refine r_then ?_
    refine ret_1 hA21 2 rfl rfl ?_
    exact ⟨rfl, hb0.trans (HB.mono hb0.size)⟩
  case nA =>
    have hn7 : n ≤ 700 ∧ nm.size ≤ 1000 := by simp at hq; omega
    obtain ⟨hn7, hs7⟩ := hn7
    have hwe : IntKind.i64.wrap (e : Int) = (e : Int) := IntWalk.i64_in _ (by omega)
    have hwe2 : IntKind.u64.wrap (e : Int) = (e : Int) := IntWalk.u64_in _ (by omega)
    have hwx : IntKind.i64.wrap (nx : Int) = (nx : Int) := IntWalk.i64_in _ (by omega)
    have hwx2 : IntKind.u64.wrap (nx : Int) = (nx : Int) := IntWalk.u64_in _ (by omega)
    have hwn : IntKind.u64.wrap (n : Int) = (n : Int) := IntWalk.u64_in _ (by omega)
    have hwu : IntKind.u64.wrap u = (((u % 18446744073709551616).toNat : Nat) : Int) := by rw [IntKind.wrap_u64]; omega
    refine wp_skip ?_
    refine n_then ?_
    refine wp_seq ?_
    refine wp_region_lit ?_
    refine wl_op hA18 rfl rfl (by decide) (fun ev h => by simp [go_sem, h.get 1 rfl, (K.below HB K.lt).cell]; try first | exact ⟨rfl, rfl⟩ | rfl) fun a22 hA22 => ?_
    refine wl_op hA22 rfl rfl (by decide) (fun ev h => by simp [go_sem, h.get 28 rfl, (K.below HB K.lt).cell]; try first | exact ⟨rfl, rfl⟩ | rfl) fun a23 hA23 => ?_
    -- stop call slot 30
    refine wl_call hA23 rfl rfl (by decide) (fun ev h => by simp [go_sem, h.get 29 rfl, (K.below HB K.lt).cell, h.f]; try first | exact ⟨rfl, rfl⟩ | rfl) (refNamed_any nm hs _) ?_
    rintro e w3 ⟨rfl, hb⟩
    refine ⟨_, rfl, fun a24 hA24 => ?_⟩
    replace HB := HB.trans (hb.mono HB.size)
    refine wl_op hA24 rfl rfl (by decide) (fun ev h => by simp [go_sem, h.get 30 rfl, (K.below HB K.lt).cell]; try first | exact ⟨rfl, rfl⟩ | rfl) fun a25 hA25 => ?_
    refine wl_guard _ hA25 rfl rfl rfl rfl (by decide) (fun hq ev h => by simp [go_sem, (h.get 1 rfl), (K.below HB K.lt).cell]; try first | exact ⟨rfl, rfl⟩ | rfl) fun a26 hA26 => ?_
    refine wl_guard _ hA26 rfl rfl rfl rfl (by decide) (fun hq ev h => by simp [go_sem, ((h.get 32 rfl).trans (gw_t (beq_t hq))), (K.below HB K.lt).cell]; try first | exact ⟨rfl, rfl⟩ | rfl) fun a27 hA27 => ?_
    refine wl_guard _ hA27 rfl rfl rfl rfl (by decide) (fun hq ev h => by simp [go_sem, h.c, ((h.get 33 rfl).trans (gw_t (beq_t hq))), (K.below HB K.lt).cell]; try first | exact ⟨rfl, rfl⟩ | rfl) fun a28 hA28 => ?_
    refine wl_op hA28 rfl rfl (by decide) (fun ev h => by first | exact pick_and rfl (h.get 31 rfl) (h.get 34 rfl) (h.c _) | exact pick_or rfl (h.get 31 rfl) (h.get 34 rfl) (h.c _) | (simp [go_sem, h.c, h.get 31 rfl, h.get 34 rfl, (K.below HB K.lt).cell, gv_or, gv_and]; try first | exact ⟨rfl, rfl⟩ | rfl)) fun a29 hA29 => ?_
    refine wl_op hA29 rfl rfl (by decide) (fun ev h => by simp [go_sem, h.get 35 rfl, (K.below HB K.lt).cell]; try first | exact ⟨rfl, rfl⟩ | rfl) fun a30 hA30 => ?_
    refine wl_guard _ hA30 rfl rfl rfl rfl (by decide) (fun hq ev h => by simp [go_sem, (h.get 1 rfl), (K.below HB K.lt).cell]; try first | exact ⟨rfl, rfl⟩ | rfl) fun a31 hA31 => ?_
    refine wl_guard _ hA31 rfl rfl rfl rfl (by decide) (fun hq ev h => by simp [go_sem, ((h.get 37 rfl).trans (gw_t (beq_t hq))), (K.below HB K.lt).cell]; try first | exact ⟨rfl, rfl⟩ | rfl) fun a32 hA32 => ?_
    refine wl_guard _ hA32 rfl rfl rfl rfl (by decide) (fun hq ev h => by simp [go_sem, h.c, ((h.get 38 rfl).trans (gw_t (beq_t hq))), (K.below HB K.lt).cell]; try first | exact ⟨rfl, rfl⟩ | rfl) fun a33 hA33 => ?_
    refine wl_op hA33 rfl rfl (by decide) (fun ev h => by first | exact pick_and rfl (h.get 36 rfl) (h.get 39 rfl) (h.c _) | exact pick_or rfl (h.get 36 rfl) (h.get 39 rfl) (h.c _) | (simp [go_sem, h.c, h.get 36 rfl, h.get 39 rfl, (K.below HB K.lt).cell, gv_or, gv_and]; try first | exact ⟨rfl, rfl⟩ | rfl)) fun a34 hA34 => ?_
    refine wl_op hA34 rfl rfl (by decide) (fun ev h => by simp [go_sem, h.get 40 rfl, (K.below HB K.lt).cell]; try first | exact ⟨rfl, rfl⟩ | rfl) fun a35 hA35 => ?_
    refine wl_guard _ hA35 rfl rfl rfl rfl (by decide) (fun hq ev h => by simp [go_sem, (h.get 1 rfl), (K.below HB K.lt).cell]; try first | exact ⟨rfl, rfl⟩ | rfl) fun a36 hA36 => ?_
    refine wl_guard _ hA36 rfl rfl rfl rfl (by decide) (fun hq ev h => by simp [go_sem, ((h.get 42 rfl).trans (gw_t (beq_t hq))), (K.below HB K.lt).cell]; try first | exact ⟨rfl, rfl⟩ | rfl) fun a37 hA37 => ?_
    refine wl_guard _ hA37 rfl rfl rfl rfl (by decide) (fun hq ev h => by simp [go_sem, h.c, ((h.get 43 rfl).trans (gw_t (beq_t hq))), (K.below HB K.lt).cell]; try first | exact ⟨rfl, rfl⟩ | rfl) fun a38 hA38 => ?_
    refine wl_op hA38 rfl rfl (by decide) (fun ev h => by first | exact pick_and rfl (h.get 41 rfl) (h.get 44 rfl) (h.c _) | exact pick_or rfl (h.get 41 rfl) (h.get 44 rfl) (h.c _) | (simp [go_sem, h.c, h.get 41 rfl, h.get 44 rfl, (K.below HB K.lt).cell, gv_or, gv_and]; try first | exact ⟨rfl, rfl⟩ | rfl)) fun a39 hA39 => ?_
    refine wl_op hA39 rfl rfl (by decide) (fun ev h => by simp [go_sem, h.get 45 rfl, (K.below HB K.lt).cell]; try first | exact ⟨rfl, rfl⟩ | rfl) fun a40 hA40 => ?_
    refine wl_guard _ hA40 rfl rfl rfl rfl (by decide) (fun hq ev h => by simp [go_sem, (h.get 1 rfl), (K.below HB K.lt).cell]; try first | exact ⟨rfl, rfl⟩ | rfl) fun a41 hA41 => ?_
    refine wl_guard _ hA41 rfl rfl rfl rfl (by decide) (fun hq ev h => by simp [go_sem, ((h.get 47 rfl).trans (gw_t (beq_t hq))), (K.below HB K.lt).cell]; try first | exact ⟨rfl, rfl⟩ | rfl) fun a42 hA42 => ?_
    refine wl_guard _ hA42 rfl rfl rfl rfl (by decide) (fun hq ev h => by simp [go_sem, h.c, ((h.get 48 rfl).trans (gw_t (beq_t hq))), (K.below HB K.lt).cell]; try first | exact ⟨rfl, rfl⟩ | rfl) fun a43 hA43 => ?_
    refine wl_op hA43 rfl rfl (by decide) (fun ev h => by first | exact pick_and rfl (h.get 46 rfl) (h.get 49 rfl) (h.c _) | exact pick_or rfl (h.get 46 rfl) (h.get 49 rfl) (h.c _) | (simp [go_sem, h.c, h.get 46 rfl, h.get 49 rfl, (K.below HB K.lt).cell, gv_or, gv_and]; try first | exact ⟨rfl, rfl⟩ | rfl)) fun a44 hA44 => ?_
    refine wl_op hA44 rfl rfl (by decide) (fun ev h => by simp [go_sem, h.get 50 rfl, (K.below HB K.lt).cell]; try first | exact ⟨rfl, rfl⟩ | rfl) fun a45 hA45 => ?_
    refine wl_guard _ hA45 rfl rfl rfl rfl (by decide) (fun hq ev h => by simp [go_sem, (h.get 1 rfl), (K.below HB K.lt).cell]; try first | exact ⟨rfl, rfl⟩ | rfl) fun a46 hA46 => ?_
    refine wl_guard _ hA46 rfl rfl rfl rfl (by decide) (fun hq ev h => by simp [go_sem, ((h.get 52 rfl).trans (gw_t (beq_t hq))), (K.below HB K.lt).cell]; try first | exact ⟨rfl, rfl⟩ | rfl) fun a47 hA47 => ?_
    refine wl_guard _ hA47 rfl rfl rfl rfl (by decide) (fun hq ev h => by simp [go_sem, ((h.get 53 rfl).trans (gw_t (beq_t hq))), (K.below HB K.lt).cell]; try first | exact ⟨rfl, rfl⟩ | rfl) fun a48 hA48 => ?_
    refine wl_guard _ hA48 rfl rfl rfl rfl (by decide) (fun hq ev h => by simp [go_sem, h.c, ((h.get 54 rfl).trans (gw_t (beq_t hq))), (K.below HB K.lt).cell]; try first | exact ⟨rfl, rfl⟩ | rfl) fun a49 hA49 => ?_
    refine wl_op hA49 rfl rfl (by decide) (fun ev h => by first | exact pick_and rfl (h.get 51 rfl) (h.get 55 rfl) (h.c _) | exact pick_or rfl (h.get 51 rfl) (h.get 55 rfl) (h.c _) | (simp [go_sem, h.c, h.get 51 rfl, h.get 55 rfl, (K.below HB K.lt).cell, gv_or, gv_and]; try first | exact ⟨rfl, rfl⟩ | rfl)) fun a50 hA50 => ?_
    refine wl_op hA50 rfl rfl (by decide) (fun ev h => by simp [go_sem, h.get 56 rfl, (K.below HB K.lt).cell]; try first | exact ⟨rfl, rfl⟩ | rfl) fun a51 hA51 => ?_
    refine wl_nil ?_
    refine n_then ?_
    have hA52 := hA51.keep [1, 3]
    simp only [argsE, keepE, lookS, Nat.reduceBEq, cond_true, cond_false, Nat.reduceAdd, gv_tt, gv_ff, Bool.true_and, Bool.false_and, Bool.true_or, Bool.false_or] at hA52
    clear hA18 hA22 hA23 hA24 hA25 hA26 hA27 hA28 hA29 hA30 hA31 hA32 hA33 hA34 hA35 hA36 hA37 hA38 hA39 hA40 hA41 hA42 hA43 hA44 hA45 hA46 hA47 hA48 hA49 hA50 hA51 a22 a23 a24 a25 a26 a27 a28 a29 a30 a31 a32 a33 a34 a35 a36 a37 a38 a39 a40 a41 a42 a43 a44 a45 a46 a47 a48 a49 a50
    refine wp_seq ?_
    -- any
    refine wp_any_at hA52 [(.det ?dA0), (.det ?dA1), (.used (fun v wy => Own8 w1.heap.size wy v (textB nm))), (.det ?dA3), (.det ?dA4), (.det ?dA5), (.used (fun v wy => Own8 w1.heap.size wy v (be 4 e))), (.held (fun v wy => Own8 w1.heap.size wy v (textB nm ++ be 4 e))), (.held (fun v wy => Own8 w1.heap.size wy v (textB nm ++ be 4 e)))] [] (fun wx => Below w1.heap.size w1 wx) (TSp [(7, fun _ _ => True)] Grows) (by kernel_rfl) rfl (by kernel_rfl) (by kernel_rfl) rfl (HB.drew) (stab_sp [(7, fun _ _ => True)] [true, true, false, true, true, true, false, false, false] [true, true, false, true, true, true, false, true, true] [] rfl rfl rfl (by kernel_rfl) ⟨trivial, trivial, (fun _ _ _ _ hp hb => hp.below hb), trivial, trivial, trivial, (fun _ _ _ _ hp hb => hp.below hb), (fun _ _ _ _ hp hb => hp.below hb), (fun _ _ _ _ hp hb => hp.below hb), trivial⟩ trivial) (fun _ h => by cases h) (fun _ _ _ _ h => by cases h) (fun _ h => by cases h) ⟨?oA0, ?oA1, ?oA2, ?oA3, ?oA4, ?oA5, ?oA6, ?oA7, ?oA8, trivial⟩ ?fA
    case oA0 =>
      intro ev wo hev hC hs hph
      have e1 := see_env hA52 hs 1 (by kernel_rfl) (by kernel_rfl) rfl
      exact ob_det (wanted_none rfl) rfl (by kernel_rfl) hC (TSp.of rfl (Grows.refl _)) (by simp [go_sem, e1]; try first | exact ⟨rfl, rfl⟩ | rfl)
    case oA1 =>
      intro ev wo hev hC hs hph
      have e57 := see_det hs 57 0 (by kernel_rfl) (by kernel_rfl) rfl
      have Kx := K.below hC K.lt
      exact ob_det (wanted_none rfl) rfl (by kernel_rfl) hC (TSp.of rfl (Grows.refl _)) (by simp [go_sem, e57, Kx.cell, (K.below HB K.lt).cell]; try first | exact ⟨rfl, rfl⟩ | rfl)
    case oA2 =>
      intro ev wo hev hC hs hph
      have e58 := see_det hs 58 1 (by kernel_rfl) (by kernel_rfl) rfl
      have Kx := K.below hC K.lt
      exact ob_yes (wanted_none rfl) (does_enter (by simp [go_sem, e58, hev.func, hev.const]; try first | exact ⟨rfl, rfl⟩ | rfl) (Calls.mono (refText_any nm (by omega) wo) (by
        rintro ev2 w3 ⟨r, rfl, ho, hb3⟩
        exact ⟨r, rfl, hC.trans (hb3.mono hC.size), TSp.of rfl hb3, (Own8.of ho).mono hC.size, no_start (by kernel_rfl)⟩)))
    case oA3 =>
      intro ev wo hev hC hs hph
      have e1 := see_env hA52 hs 1 (by kernel_rfl) (by kernel_rfl) rfl
      exact ob_det (wanted_none rfl) rfl (by kernel_rfl) hC (TSp.of rfl (Grows.refl _)) (by simp [go_sem, e1]; try first | exact ⟨rfl, rfl⟩ | rfl)
    case oA4 =>
      intro ev wo hev hC hs hph
      have e60 := see_det hs 60 3 (by kernel_rfl) (by kernel_rfl) rfl
      have Kx := K.below hC K.lt
      exact ob_det (wanted_none rfl) rfl (by kernel_rfl) hC (TSp.of rfl (Grows.refl _)) (by simp [go_sem, e60, Kx.cell, (K.below HB K.lt).cell]; try first | exact ⟨rfl, rfl⟩ | rfl)
    case oA5 =>
      intro ev wo hev hC hs hph
      have e61 := see_det hs 61 4 (by kernel_rfl) (by kernel_rfl) rfl
      have Kx := K.below hC K.lt
      exact ob_det (wanted_none rfl) rfl (by kernel_rfl) hC (TSp.of rfl (Grows.refl _)) (by simp [go_sem, e61, hwe]; try first | exact ⟨rfl, rfl⟩ | rfl)
    case oA6 =>
      intro ev wo hev hC hs hph
      have e62 := see_det hs 62 5 (by kernel_rfl) (by kernel_rfl) rfl
      have Kx := K.below hC K.lt
      exact ob_yes (wanted_none rfl) (does_enter (by simp [go_sem, e62, hev.func, hev.const]; try first | exact ⟨rfl, rfl⟩ | rfl) (Calls.mono (n4_any (e : Int) e hwe2 (by omega) wo) (by
        rintro ev2 w3 ⟨r, rfl, ho, hb3⟩
        exact ⟨r, rfl, hC.trans (hb3.mono hC.size), TSp.of rfl hb3, (Own8.of ho).mono hC.size, no_start (by kernel_rfl)⟩)))
    case oA7 =>
      intro ev wo hev hC hs hph
      have u59 := see_used hs 59 2 (by kernel_rfl) (by kernel_rfl) rfl
      have u63 := see_used hs 63 6 (by kernel_rfl) (by kernel_rfl) rfl
      have Kx := K.below hC K.lt
      have h1 := u59
      obtain ⟨r, w3, hr, ho, hgr⟩ := run_app8 h1 u63.took (by rw [textB_len, be_length]; omega) hC.size
      exact ob_yes (wanted_none rfl) (does_value (exec_append rfl rfl rfl hr) ⟨below_app8 hC h1 hgr (Nat.le_refl _) hC.size, TSp.sp rfl trivial, ho, no_start (by kernel_rfl)⟩)
    case oA8 =>
      intro ev wo hev hC hs hph
      have u64 := see_held hs 64 7 (by kernel_rfl) (by kernel_rfl) rfl
      have Kx := K.below hC K.lt
      exact ob_yes (wanted_none rfl) (does_value (v := ev (.tmp 64)) (by simp [go_sem]) ⟨hC, TSp.of rfl (Grows.refl _), u64, no_start (by kernel_rfl)⟩)
    intro wf hC hph
    intro x59
    intro x63
    intro x64 h64
    intro x4 h4
    intro a53 hA53
    refine n_then ?_
    have hA54 := hA53.keep [1, 3, 4]
    simp only [argsE, keepE, lookS, Nat.reduceBEq, cond_true, cond_false, Nat.reduceAdd, gv_tt, gv_ff, Bool.true_and, Bool.false_and, Bool.true_or, Bool.false_or] at hA54
    clear hA52 hA53 a51
    replace HB := hC
    refine wp_seq ?_
    -- any
    refine wp_any_at hA54 [(.det ?dB0), (.det ?dB1), (.det ?dB2), (.det ?dB3), (.used (fun v wy => Own8 w1.heap.size wy v (be 4 nx))), (.used (fun v wy => Own8 w1.heap.size wy v (textB nm ++ be 4 e ++ be 4 nx))), (.det ?dB6), (.det ?dB7), (.used (fun v wy => Own8 w1.heap.size wy v (low4 u))), (.used (fun v wy => Own8 w1.heap.size wy v (textB nm ++ be 4 e ++ be 4 nx ++ low4 u))), (.det ?dB10), (.det ?dB11), (.det ?dB12), (.det ?dB13), (.used (fun v wy => Own8 w1.heap.size wy v (be 2 n))), (.held (fun v wy => Own8 w1.heap.size wy v (textB nm ++ be 4 e ++ be 4 nx ++ low4 u ++ be 2 n))), (.held (fun v wy => Own8 w1.heap.size wy v (textB nm ++ be 4 e ++ be 4 nx ++ low4 u ++ be 2 n)))] [⟨none, (some 5), fun wy => Own8 w1.heap.size wy x4 (textB nm ++ be 4 e)⟩] (fun wx => Below w1.heap.size w1 wx) (TSp [(5, fun _ _ => True), (9, fun _ _ => True), (15, fun _ _ => True)] Grows) (by kernel_rfl) rfl (by kernel_rfl) (by kernel_rfl) rfl (HB.drew) (stab_sp [(5, fun _ _ => True), (9, fun _ _ => True), (15, fun _ _ => True)] [true, true, true, true, false, false, true, true, false, false, true, true, true, true, false, false, false] [true, true, true, true, false, false, true, true, false, false, true, true, true, true, false, true, true] [] rfl rfl rfl (by kernel_rfl) ⟨trivial, trivial, trivial, trivial, (fun _ _ _ _ hp hb => hp.below hb), (fun _ _ _ _ hp hb => hp.below hb), trivial, trivial, (fun _ _ _ _ hp hb => hp.below hb), (fun _ _ _ _ hp hb => hp.below hb), trivial, trivial, trivial, trivial, (fun _ _ _ _ hp hb => hp.below hb), (fun _ _ _ _ hp hb => hp.below hb), (fun _ _ _ _ hp hb => hp.below hb), trivial⟩ trivial) (List.forall_mem_cons.2 ⟨(fun hn => h4), (fun _ h => by cases h)⟩) (phase_sp [(5, fun _ _ => True), (9, fun _ _ => True), (15, fun _ _ => True)] [(none, (some 5))] [] rfl (by kernel_rfl) (List.forall_mem_cons.2 ⟨fun _ _ _ hp hR => hp.below hR, (fun _ h => by cases h)⟩) trivial) (List.forall_mem_cons.2 ⟨(fun a h => by first | (exact (no_1 h).elim) | (injection h with h; subst h; exact Nat.le_of_ble_eq_true rfl)), (fun _ h => by cases h)⟩) ⟨?oB0, ?oB1, ?oB2, ?oB3, ?oB4, ?oB5, ?oB6, ?oB7, ?oB8, ?oB9, ?oB10, ?oB11, ?oB12, ?oB13, ?oB14, ?oB15, ?oB16, trivial⟩ ?fB
    case oB0 =>
      intro ev wo hev hC hs hph
      have e4 := see_env hA54 hs 4 (by kernel_rfl) (by kernel_rfl) rfl
      exact ob_det (wanted_none rfl) rfl (by kernel_rfl) hC (TSp.of rfl (Grows.refl _)) (by simp [go_sem, e4]; try first | exact ⟨rfl, rfl⟩ | rfl)
    case oB1 =>
      intro ev wo hev hC hs hph
      have e1 := see_env hA54 hs 1 (by kernel_rfl) (by kernel_rfl) rfl
      exact ob_det (wanted_none rfl) rfl (by kernel_rfl) hC (TSp.of rfl (Grows.refl _)) (by simp [go_sem, e1]; try first | exact ⟨rfl, rfl⟩ | rfl)
    case oB2 =>
      intro ev wo hev hC hs hph
      have e66 := see_det hs 66 1 (by kernel_rfl) (by kernel_rfl) rfl
      have Kx := K.below hC K.lt
      exact ob_det (wanted_none rfl) rfl (by kernel_rfl) hC (TSp.of rfl (Grows.refl _)) (by simp [go_sem, e66, Kx.cell, (K.below HB K.lt).cell]; try first | exact ⟨rfl, rfl⟩ | rfl)
    case oB3 =>
      intro ev wo hev hC hs hph
      have e67 := see_det hs 67 2 (by kernel_rfl) (by kernel_rfl) rfl
      have Kx := K.below hC K.lt
      exact ob_det (wanted_none rfl) rfl (by kernel_rfl) hC (TSp.of rfl (Grows.refl _)) (by simp [go_sem, e67, hwx]; try first | exact ⟨rfl, rfl⟩ | rfl)
    case oB4 =>
      intro ev wo hev hC hs hph
      have e68 := see_det hs 68 3 (by kernel_rfl) (by kernel_rfl) rfl
      have Kx := K.below hC K.lt
      exact ob_yes (wanted_none rfl) (does_enter (by simp [go_sem, e68, hev.func, hev.const]; try first | exact ⟨rfl, rfl⟩ | rfl) (Calls.mono (n4_any (nx : Int) nx hwx2 (by omega) wo) (by
        rintro ev2 w3 ⟨r, rfl, ho, hb3⟩
        exact ⟨r, rfl, hC.trans (hb3.mono hC.size), TSp.of rfl hb3, (Own8.of ho).mono hC.size, no_start (by kernel_rfl)⟩)))
    case oB5 =>
      intro ev wo hev hC hs hph
      have e65 := see_det hs 65 0 (by kernel_rfl) (by kernel_rfl) rfl
      have u69 := see_used hs 69 4 (by kernel_rfl) (by kernel_rfl) rfl
      have Kx := K.below hC K.lt
      have h1 := (hph _ List.mem_cons_self (by kernel_rfl))
      obtain ⟨r, w3, hr, ho, hgr⟩ := run_app8 h1 u69.took (by simp only [List.length_append, textB_len, be_length]; omega) hC.size
      exact ob_yes (wanted_none rfl) (does_value (exec_append rfl e65 rfl hr) ⟨below_app8 hC h1 hgr (Nat.le_refl _) hC.size, TSp.sp rfl trivial, ho, no_start (by kernel_rfl)⟩)
    case oB6 =>
      intro ev wo hev hC hs hph
      have e1 := see_env hA54 hs 1 (by kernel_rfl) (by kernel_rfl) rfl
      exact ob_det (wanted_none rfl) rfl (by kernel_rfl) hC (TSp.of rfl (Grows.refl _)) (by simp [go_sem, e1]; try first | exact ⟨rfl, rfl⟩ | rfl)
    case oB7 =>
      intro ev wo hev hC hs hph
      have e71 := see_det hs 71 6 (by kernel_rfl) (by kernel_rfl) rfl
      have Kx := K.below hC K.lt
      exact ob_det (wanted_none rfl) rfl (by kernel_rfl) hC (TSp.of rfl (Grows.refl _)) (by simp [go_sem, e71, Kx.cell, (K.below HB K.lt).cell]; try first | exact ⟨rfl, rfl⟩ | rfl)
    case oB8 =>
      intro ev wo hev hC hs hph
      have e72 := see_det hs 72 7 (by kernel_rfl) (by kernel_rfl) rfl
      have Kx := K.below hC K.lt
      exact ob_yes (wanted_none rfl) (does_enter (by simp [go_sem, e72, hev.func, hev.const]; try first | exact ⟨rfl, rfl⟩ | rfl) (Calls.mono (n4_any u _ hwu (by omega) wo) (by
        rintro ev2 w3 ⟨r, rfl, ho, hb3⟩
        exact ⟨r, rfl, hC.trans (hb3.mono hC.size), TSp.of rfl hb3, (Own8.of ho).mono hC.size, no_start (by kernel_rfl)⟩)))
    case oB9 =>
      intro ev wo hev hC hs hph
      have u70 := see_used hs 70 5 (by kernel_rfl) (by kernel_rfl) rfl
      have u73 := see_used hs 73 8 (by kernel_rfl) (by kernel_rfl) rfl
      have Kx := K.below hC K.lt
      have h1 := u70
      obtain ⟨r, w3, hr, ho, hgr⟩ := run_app8 h1 u73.took (by simp only [List.length_append, textB_len, be_length, low4_len]; omega) hC.size
      exact ob_yes (wanted_none rfl) (does_value (exec_append rfl rfl rfl hr) ⟨below_app8 hC h1 hgr (Nat.le_refl _) hC.size, TSp.sp rfl trivial, ho, no_start (by kernel_rfl)⟩)
    case oB10 =>
      intro ev wo hev hC hs hph
      have e1 := see_env hA54 hs 1 (by kernel_rfl) (by kernel_rfl) rfl
      exact ob_det (wanted_none rfl) rfl (by kernel_rfl) hC (TSp.of rfl (Grows.refl _)) (by simp [go_sem, e1]; try first | exact ⟨rfl, rfl⟩ | rfl)
    case oB11 =>
      intro ev wo hev hC hs hph
      have e75 := see_det hs 75 10 (by kernel_rfl) (by kernel_rfl) rfl
      have Kx := K.below hC K.lt
      exact ob_det (wanted_none rfl) rfl (by kernel_rfl) hC (TSp.of rfl (Grows.refl _)) (by simp [go_sem, e75, Kx.cell, (K.below HB K.lt).cell]; try first | exact ⟨rfl, rfl⟩ | rfl)
    case oB12 =>
      intro ev wo hev hC hs hph
      have e76 := see_det hs 76 11 (by kernel_rfl) (by kernel_rfl) rfl
      exact ob_det (wanted_none rfl) rfl (by kernel_rfl) hC (TSp.of rfl (Grows.refl _)) (by simp [go_sem, e76]; try first | exact ⟨rfl, rfl⟩ | rfl)
    case oB13 =>
      intro ev wo hev hC hs hph
      have e77 := see_det hs 77 12 (by kernel_rfl) (by kernel_rfl) rfl
      have Kx := K.below hC K.lt
      exact ob_det (wanted_none rfl) rfl (by kernel_rfl) hC (TSp.of rfl (Grows.refl _)) (by simp [go_sem, e77, hwn]; try first | exact ⟨rfl, rfl⟩ | rfl)
    case oB14 =>
      intro ev wo hev hC hs hph
      have e78 := see_det hs 78 13 (by kernel_rfl) (by kernel_rfl) rfl
      have Kx := K.below hC K.lt
      exact ob_yes (wanted_none rfl) (does_enter (by simp [go_sem, e78, hev.func, hev.const]; try first | exact ⟨rfl, rfl⟩ | rfl) (Calls.mono (refBytes_any n 2 (by omega) (by omega) wo) (by
        rintro ev2 w3 ⟨r, rfl, ho, hb3⟩
        exact ⟨r, rfl, hC.trans (hb3.mono hC.size), TSp.of rfl hb3, (Own8.of ho).mono hC.size, no_start (by kernel_rfl)⟩)))
    case oB15 =>
      intro ev wo hev hC hs hph
      have u74 := see_used hs 74 9 (by kernel_rfl) (by kernel_rfl) rfl
      have u79 := see_used hs 79 14 (by kernel_rfl) (by kernel_rfl) rfl
      have Kx := K.below hC K.lt
      have h1 := u74
      obtain ⟨r, w3, hr, ho, hgr⟩ := run_app8 h1 u79.took (by simp only [List.length_append, textB_len, be_length, low4_len]; omega) hC.size
      exact ob_yes (wanted_none rfl) (does_value (exec_append rfl rfl rfl hr) ⟨below_app8 hC h1 hgr (Nat.le_refl _) hC.size, TSp.sp rfl trivial, ho, no_start (by kernel_rfl)⟩)
    case oB16 =>
      intro ev wo hev hC hs hph
      have u80 := see_held hs 80 15 (by kernel_rfl) (by kernel_rfl) rfl
      have Kx := K.below hC K.lt
      exact ob_yes (wanted_none rfl) (does_value (v := ev (.tmp 80)) (by simp [go_sem]) ⟨hC, TSp.of rfl (Grows.refl _), u80, no_start (by kernel_rfl)⟩)
    intro wf hC hph
    intro x69
    intro x70
    intro x73
    intro x74
    intro x79
    intro x80 h80
    intro x4 h4
    intro a55 hA55
    refine n_then ?_
    have hA56 := hA55.keep [1, 3, 4]
    simp only [argsE, keepE, lookS, Nat.reduceBEq, cond_true, cond_false, Nat.reduceAdd, gv_tt, gv_ff, Bool.true_and, Bool.false_and, Bool.true_or, Bool.false_or] at hA56
    clear hA54 hA55 a53
    replace HB := hC
    refine wp_seq ?_
    refine wp_region_lit ?_
    refine wl_op hA56 rfl rfl (by decide) (fun ev h => by simp [go_sem, h.c, (K.below HB K.lt).cell]; try first | exact ⟨rfl, rfl⟩ | rfl) fun a57 hA57 => ?_
    refine wl_nil ?_
    refine n_then ?_
    have hA58 := hA57.keep [1, 3, 4, 5]
    simp only [argsE, keepE, lookS, Nat.reduceBEq, cond_true, cond_false, Nat.reduceAdd, gv_tt, gv_ff, Bool.true_and, Bool.false_and, Bool.true_or, Bool.false_or] at hA58
    clear hA56 hA57 a55
    refine wp_seq ?_
    refine wp_seq ?_
    refine wp_region_lit ?_
    refine wl_op hA58 rfl rfl (by decide) (fun ev h => by simp [go_sem, h.get 1 rfl, (K.below HB K.lt).cell]; try first | exact ⟨rfl, rfl⟩ | rfl) fun a59 hA59 => ?_
    refine wl_op hA59 rfl rfl (by decide) (fun ev h => by simp [go_sem, h.get 81 rfl, (K.below HB K.lt).cell]; try first | exact ⟨rfl, rfl⟩ | rfl) fun a60 hA60 => ?_
    refine wl_op hA60 rfl rfl (by decide) (fun ev h => by simp [go_sem, h.get 82 rfl, (K.below HB K.lt).cell]; try first | exact ⟨rfl, rfl⟩ | rfl) fun a61 hA61 => ?_
    refine wl_op hA61 rfl rfl (by decide) (fun ev h => by simp [go_sem, h.c, (K.below HB K.lt).cell]; try first | exact ⟨rfl, rfl⟩ | rfl) fun a62 hA62 => ?_
    refine wl_nil ?_
    refine n_then ?_
    have hA63 := hA62.keep [1, 3, 4, 5, 83, 84]
    simp only [argsE, keepE, lookS, Nat.reduceBEq, cond_true, cond_false, Nat.reduceAdd, gv_tt, gv_ff, Bool.true_and, Bool.false_and, Bool.true_or, Bool.false_or] at hA63
    clear hA58 hA59 hA60 hA61 hA62 a57 a59 a60 a61
    refine wp_block ?_
    -- loop
    rw [idxP_zero hl] at h4
    refine wp_loop_at (fun k a wx => ∃ (j : Nat) (vP : Value), j + k = n ∧ At 222 [(1, .pointer (some ⟨w.heap.size, 0, none⟩)), (3, .bool (idxR nm e nx u l j)), (4, vP), (5, .int .u32 (lastN l j : Nat)), (83, .int .i64 (n : Nat)), (84, .int .i64 (j : Nat))] a ∧ Own8 w1.heap.size wx vP (idxP nm e nx u l j) ∧ Below w1.heap.size w1 wx) (n) ?_ ?_
    · rw [idxR_zero hl] at hA63
      exact ⟨0, x4, by omega, hA63, h4, HB⟩
    clear HB hC h4
    rintro k a wx ⟨j, vP, hjk, hA, hoP, HB⟩
    refine wp_seq ?_
    refine wp_region_lit ?_
    refine wl_op hA rfl rfl (by decide) (fun ev h => by simp [go_sem, h.get 84 rfl, h.get 83 rfl, (K.below HB K.lt).cell]; try first | exact ⟨rfl, rfl⟩ | rfl) fun a64 hA64 => ?_
    refine wl_nil ?_
    refine n_then ?_
    have hA65 := hA64.keep [1, 3, 4, 5, 83, 84, 85]
    simp only [argsE, keepE, lookS, Nat.reduceBEq, cond_true, cond_false, Nat.reduceAdd, gv_tt, gv_ff, Bool.true_and, Bool.false_and, Bool.true_or, Bool.false_or] at hA65
    clear hA hA64
    refine wp_seq ?_
    -- cond
    refine wp_if hA65 85 _ rfl (fun hq => ?yL) (fun hq => ?nL)
    case yL =>
      have hlt : j < n := by simp at hq; omega
      obtain ⟨x, hx⟩ : ∃ x, l[j]? = some x := ⟨_, List.getElem?_eq_getElem (by omega)⟩
      obtain ⟨ad, rfl, hadl, hc⟩ := hr.2 (by omega)
      obtain ⟨k0, k1⟩ := mark_at hc hx
      have hadl' : (ad.add (j * 2)).block < w1.heap.size := by rw [block_of_add]; exact hadl
      obtain ⟨xu, xf⟩ := x
      have hxu := hu _ (List.mem_of_getElem? hx)
      simp only at k0 k1 hxu
      have z0 := (HB.cell hadl').trans k0
      have z1 := (HB.cell (p := ⟨(ad.add (j * 2)).block, (ad.add (j * 2)).off + 1, none⟩) hadl').trans k1
      have jj0 : (0 : Int) ≤ (j : Int) := by omega
      have jj1 : (j : Int) < (n : Int) := by omega
      have K0 := K.below HB K.lt
      refine wp_skip ?_
      refine n_then ?_
      refine wp_seq ?_
      refine wp_block ?_
      refine wp_seq ?_
      refine wp_region_lit ?_
      refine wl_op hA65 rfl rfl (by decide) (fun ev h => by simp [go_sem, h.get 84 rfl, K0.cell, z0, z1, jj0, jj1]; try first | exact ⟨rfl, rfl⟩ | rfl) fun a66 hA66 => ?_
      refine wl_op hA66 rfl rfl (by decide) (fun ev h => by simp [go_sem, h.get 86 rfl, K0.cell, z0, z1, jj0, jj1]; try first | exact ⟨rfl, rfl⟩ | rfl) fun a67 hA67 => ?_
      refine wl_nil ?_
      refine n_then ?_
      have hA68 := hA67.keep [1, 3, 4, 5, 6, 83, 84]
      simp only [argsE, keepE, lookS, Nat.reduceBEq, cond_true, cond_false, Nat.reduceAdd, gv_tt, gv_ff, Bool.true_and, Bool.false_and, Bool.true_or, Bool.false_or] at hA68
      clear hA65 hA66 hA67 a66
      refine wp_seq ?_
      refine wp_region_lit ?_
      refine wl_op hA68 rfl rfl (by decide) (fun ev h => by simp [go_sem, h.get 1 rfl, K0.cell, z0, z1, jj0, jj1]; try first | exact ⟨rfl, rfl⟩ | rfl) fun a69 hA69 => ?_
      refine wl_op hA69 rfl rfl (by decide) (fun ev h => by simp [go_sem, h.get 87 rfl, K0.cell, z0, z1, jj0, jj1]; try first | exact ⟨rfl, rfl⟩ | rfl) fun a70 hA70 => ?_
      refine wl_op hA70 rfl rfl (by decide) (fun ev h => by simp [go_sem, h.get 6 rfl, K0.cell, z0, z1, jj0, jj1]; try first | exact ⟨rfl, rfl⟩ | rfl) fun a71 hA71 => ?_
      refine wl_op hA71 rfl rfl (by decide) (fun ev h => by simp [go_sem, h.get 88 rfl, h.get 89 rfl, K0.cell, z0, z1, jj0, jj1]; try first | exact ⟨rfl, rfl⟩ | rfl) fun a72 hA72 => ?_
      refine wl_op hA72 rfl rfl (by decide) (fun ev h => by simp [go_sem, h.get 90 rfl, K0.cell, z0, z1, jj0, jj1]; try first | exact ⟨rfl, rfl⟩ | rfl) fun a73 hA73 => ?_
      -- stop alloc slot 7
      refine wl_local [.int .u32 (xu : Nat), .int .i64 xf] hA73 rfl rfl (by decide) (fun ev h => by simp [go_sem, K0.cell, z0, z1, jj0, jj1]; try first | exact ⟨rfl, rfl⟩ | rfl) rfl rfl (by rfl) (fun w1 g ev hb h => by simp [go_sem, h.get 7 rfl, h.get 91 rfl, K0.cell, z0, z1, jj0, jj1, setAll, hb.cell, hb.frozen]) fun w5 a74 (Ke : Blk _ _ _ _) hz5 hb hA74 => ?_
      replace K0 := K0.below hb K0.lt
      replace HB := HB.trans (hb.mono HB.size)
      replace hoP := hoP.below hb
      refine wl_nil ?_
      refine n_then ?_
      have hA75 := hA74.keep [1, 3, 4, 5, 7, 83, 84]
      simp only [argsE, keepE, lookS, Nat.reduceBEq, cond_true, cond_false, Nat.reduceAdd, gv_tt, gv_ff, Bool.true_and, Bool.false_and, Bool.true_or, Bool.false_or] at hA75
      clear hA68 hA69 hA70 hA71 hA72 hA73 hA74 a67 a69 a70 a71 a72 a73
      refine wp_seq ?_
      refine wp_region_lit ?_
      refine wl_op hA75 rfl rfl (by decide) (fun ev h => by simp [go_sem, h.get 3 rfl, K0.cell, Ke.cell]; try first | exact ⟨rfl, rfl⟩ | rfl) fun a76 hA76 => ?_
      refine wl_op hA76 rfl rfl (by decide) (fun ev h => by simp [go_sem, h.get 92 rfl, K0.cell, Ke.cell]; try first | exact ⟨rfl, rfl⟩ | rfl) fun a77 hA77 => ?_
      refine wl_guard _ hA77 rfl rfl rfl rfl (by decide) (fun hq ev h => by simp [go_sem, (h.get 7 rfl), K0.cell, Ke.cell]; try first | exact ⟨rfl, rfl⟩ | rfl) fun a78 hA78 => ?_
      refine wl_guard _ hA78 rfl rfl rfl rfl (by decide) (fun hq ev h => by simp [go_sem, ((h.get 94 rfl).trans (gw_t (beq_t hq))), K0.cell, Ke.cell]; try first | exact ⟨rfl, rfl⟩ | rfl) fun a79 hA79 => ?_
      refine wl_guard _ hA79 rfl rfl rfl rfl (by decide) (fun hq ev h => by simp [go_sem, (h.get 5 rfl), K0.cell, Ke.cell]; try first | exact ⟨rfl, rfl⟩ | rfl) fun a80 hA80 => ?_
      refine wl_guard _ hA80 rfl rfl rfl rfl (by decide) (fun hq ev h => by simp [go_sem, ((h.get 95 rfl).trans (gw_t (beq_t hq))), ((h.get 96 rfl).trans (gw_t (beq_t hq))), K0.cell, Ke.cell]; try first | exact ⟨rfl, rfl⟩ | rfl) fun a81 hA81 => ?_
      refine wl_op hA81 rfl rfl (by decide) (fun ev h => by first | exact pick_and rfl (h.get 93 rfl) (h.get 97 rfl) (h.c _) | exact pick_or rfl (h.get 93 rfl) (h.get 97 rfl) (h.c _) | (simp [go_sem, h.c, h.get 93 rfl, h.get 97 rfl, K0.cell, Ke.cell, gv_or, gv_and]; try first | exact ⟨rfl, rfl⟩ | rfl)) fun a82 hA82 => ?_
      refine wl_op hA82 rfl rfl (by decide) (fun ev h => by simp [go_sem, h.get 98 rfl, K0.cell, Ke.cell]; try first | exact ⟨rfl, rfl⟩ | rfl) fun a83 hA83 => ?_
      refine wl_guard _ hA83 rfl rfl rfl rfl (by decide) (fun hq ev h => by simp [go_sem, (h.get 7 rfl), K0.cell, Ke.cell]; try first | exact ⟨rfl, rfl⟩ | rfl) fun a84 hA84 => ?_
      refine wl_guard _ hA84 rfl rfl rfl rfl (by decide) (fun hq ev h => by simp [go_sem, ((h.get 100 rfl).trans (gw_t (beq_t hq))), K0.cell, Ke.cell]; try first | exact ⟨rfl, rfl⟩ | rfl) fun a85 hA85 => ?_
      refine wl_guard _ hA85 rfl rfl rfl rfl (by decide) (fun hq ev h => by simp [go_sem, (h.get 1 rfl), K0.cell, Ke.cell]; try first | exact ⟨rfl, rfl⟩ | rfl) fun a86 hA86 => ?_
      refine wl_guard _ hA86 rfl rfl rfl rfl (by decide) (fun hq ev h => by simp [go_sem, ((h.get 102 rfl).trans (gw_t (beq_t hq))), K0.cell, Ke.cell]; try first | exact ⟨rfl, rfl⟩ | rfl) fun a87 hA87 => ?_
      refine wl_guard _ hA87 rfl rfl rfl rfl (by decide) (fun hq ev h => by simp [go_sem, ((h.get 101 rfl).trans (gw_t (beq_t hq))), ((h.get 103 rfl).trans (gw_t (beq_t hq))), K0.cell, Ke.cell]; try first | exact ⟨rfl, rfl⟩ | rfl) fun a88 hA88 => ?_
      refine wl_guard _ hA88 rfl rfl rfl rfl (by decide) (fun hq ev h => by simp [go_sem, ((h.get 104 rfl).trans (gw_t (beq_t hq))), K0.cell, Ke.cell]; try first | exact ⟨rfl, rfl⟩ | rfl) fun a89 hA89 => ?_
      refine wl_guard2 _ _ hA89 rfl rfl rfl rfl (by decide) (fun hq hr ev h => by simp [go_sem, (h.get 1 rfl), K0.cell, Ke.cell]; try first | exact ⟨rfl, rfl⟩ | rfl) fun a90 hA90 => ?_
      refine wl_guard2 _ _ hA90 rfl rfl rfl rfl (by decide) (fun hq hr ev h => by simp [go_sem, ((h.get 106 rfl).trans (gw_t (and_beq hq hr))), K0.cell, Ke.cell]; try first | exact ⟨rfl, rfl⟩ | rfl) fun a91 hA91 => ?_
      refine wl_guard2 _ _ hA91 rfl rfl rfl rfl (by decide) (fun hq hr ev h => by simp [go_sem, h.c, ((h.get 107 rfl).trans (gw_t (and_beq hq hr))), K0.cell, Ke.cell]; try first | exact ⟨rfl, rfl⟩ | rfl) fun a92 hA92 => ?_
      refine wl_guard _ hA92 rfl rfl rfl rfl (by decide) (fun hq ev h => by first | exact pick_and rfl (((h.get 105 rfl).trans (gw_t (beq_t hq)))) (h.c _) (((h.get 108 rfl).trans (gw_a (beq_t hq)))) | exact pick_or rfl (((h.get 105 rfl).trans (gw_t (beq_t hq)))) (h.c _) (((h.get 108 rfl).trans (gw_a (beq_t hq)))) | (simp [go_sem, h.c, ((h.get 105 rfl).trans (gw_t (beq_t hq))), ((h.get 108 rfl).trans (gw_a (beq_t hq))), K0.cell, Ke.cell, gv_or, gv_and]; try first | exact ⟨rfl, rfl⟩ | rfl)) fun a93 hA93 => ?_
      refine wl_op hA93 rfl rfl (by decide) (fun ev h => by first | exact pick_and rfl (h.get 99 rfl) (h.get 109 rfl) (h.c _) | exact pick_or rfl (h.get 99 rfl) (h.get 109 rfl) (h.c _) | (simp [go_sem, h.c, h.get 99 rfl, h.get 109 rfl, K0.cell, Ke.cell, gv_or, gv_and]; try first | exact ⟨rfl, rfl⟩ | rfl)) fun a94 hA94 => ?_
      refine wl_op hA94 rfl rfl (by decide) (fun ev h => by simp [go_sem, h.get 110 rfl, K0.cell, Ke.cell]; try first | exact ⟨rfl, rfl⟩ | rfl) fun a95 hA95 => ?_
      refine wl_guard _ hA95 rfl rfl rfl rfl (by decide) (fun hq ev h => by simp [go_sem, (h.get 7 rfl), K0.cell, Ke.cell]; try first | exact ⟨rfl, rfl⟩ | rfl) fun a96 hA96 => ?_
      refine wl_guard _ hA96 rfl rfl rfl rfl (by decide) (fun hq ev h => by simp [go_sem, ((h.get 112 rfl).trans (gw_t (beq_t hq))), K0.cell, Ke.cell]; try first | exact ⟨rfl, rfl⟩ | rfl) fun a97 hA97 => ?_
      refine wl_guard _ hA97 rfl rfl rfl rfl (by decide) (fun hq ev h => by simp [go_sem, h.c, ((h.get 113 rfl).trans (gw_t (beq_t hq))), K0.cell, Ke.cell]; try first | exact ⟨rfl, rfl⟩ | rfl) fun a98 hA98 => ?_
      refine wl_op hA98 rfl rfl (by decide) (fun ev h => by first | exact pick_and rfl (h.get 111 rfl) (h.get 114 rfl) (h.c _) | exact pick_or rfl (h.get 111 rfl) (h.get 114 rfl) (h.c _) | (simp [go_sem, h.c, h.get 111 rfl, h.get 114 rfl, K0.cell, Ke.cell, gv_or, gv_and]; try first | exact ⟨rfl, rfl⟩ | rfl)) fun a99 hA99 => ?_
      refine wl_op hA99 rfl rfl (by decide) (fun ev h => by simp [go_sem, h.get 115 rfl, K0.cell, Ke.cell]; try first | exact ⟨rfl, rfl⟩ | rfl) fun a100 hA100 => ?_
      refine wl_guard _ hA100 rfl rfl rfl rfl (by decide) (fun hq ev h => by simp [go_sem, (h.get 7 rfl), K0.cell, Ke.cell]; try first | exact ⟨rfl, rfl⟩ | rfl) fun a101 hA101 => ?_
      refine wl_guard _ hA101 rfl rfl rfl rfl (by decide) (fun hq ev h => by simp [go_sem, ((h.get 117 rfl).trans (gw_t (beq_t hq))), K0.cell, Ke.cell]; try first | exact ⟨rfl, rfl⟩ | rfl) fun a102 hA102 => ?_
      refine wl_guard _ hA102 rfl rfl rfl rfl (by decide) (fun hq ev h => by simp [go_sem, h.c, ((h.get 118 rfl).trans (gw_t (beq_t hq))), K0.cell, Ke.cell]; try first | exact ⟨rfl, rfl⟩ | rfl) fun a103 hA103 => ?_
      refine wl_op hA103 rfl rfl (by decide) (fun ev h => by first | exact pick_and rfl (h.get 116 rfl) (h.get 119 rfl) (h.c _) | exact pick_or rfl (h.get 116 rfl) (h.get 119 rfl) (h.c _) | (simp [go_sem, h.c, h.get 116 rfl, h.get 119 rfl, K0.cell, Ke.cell, gv_or, gv_and]; try first | exact ⟨rfl, rfl⟩ | rfl)) fun a104 hA104 => ?_
      refine wl_op hA104 rfl rfl (by decide) (fun ev h => by simp [go_sem, h.get 120 rfl, K0.cell, Ke.cell]; try first | exact ⟨rfl, rfl⟩ | rfl) fun a105 hA105 => ?_
      refine wl_nil ?_
      refine n_then ?_
      have hA106 := hA105.keep [1, 3, 4, 7, 83, 84]
      simp only [argsE, keepE, lookS, Nat.reduceBEq, cond_true, cond_false, Nat.reduceAdd, gv_tt, gv_ff, Bool.true_and, Bool.false_and, Bool.true_or, Bool.false_or] at hA106
      clear hA75 hA76 hA77 hA78 hA79 hA80 hA81 hA82 hA83 hA84 hA85 hA86 hA87 hA88 hA89 hA90 hA91 hA92 hA93 hA94 hA95 hA96 hA97 hA98 hA99 hA100 hA101 hA102 hA103 hA104 hA105 a74 a76 a77 a78 a79 a80 a81 a82 a83 a84 a85 a86 a87 a88 a89 a90 a91 a92 a93 a94 a95 a96 a97 a98 a99 a100 a101 a102 a103 a104
      refine wp_seq ?_
      refine wp_region_lit ?_
      refine wl_op hA106 rfl rfl (by decide) (fun ev h => by simp [go_sem, h.get 7 rfl, K0.cell, Ke.cell]; try first | exact ⟨rfl, rfl⟩ | rfl) fun a107 hA107 => ?_
      refine wl_op hA107 rfl rfl (by decide) (fun ev h => by simp [go_sem, h.get 121 rfl, K0.cell, Ke.cell]; try first | exact ⟨rfl, rfl⟩ | rfl) fun a108 hA108 => ?_
      refine wl_op hA108 rfl rfl (by decide) (fun ev h => by simp [go_sem, h.get 122 rfl, K0.cell, Ke.cell]; try first | exact ⟨rfl, rfl⟩ | rfl) fun a109 hA109 => ?_
      refine wl_nil ?_
      refine n_then ?_
      have hA110 := hA109.keep [1, 3, 4, 5, 7, 83, 84]
      simp only [argsE, keepE, lookS, Nat.reduceBEq, cond_true, cond_false, Nat.reduceAdd, gv_tt, gv_ff, Bool.true_and, Bool.false_and, Bool.true_or, Bool.false_or] at hA110
      clear hA106 hA107 hA108 hA109 a105 a107 a108
      -- any
      have hwxu : IntKind.i64.wrap (xu : Int) = (xu : Int) := IntWalk.i64_in _ (by omega)
      have hwxu2 : IntKind.u64.wrap (xu : Int) = (xu : Int) := IntWalk.u64_in _ (by omega)
      have hwxf : IntKind.u64.wrap xf = (((xf % 18446744073709551616).toNat : Nat) : Int) := by rw [IntKind.wrap_u64]; omega
      have hwj : IntKind.i64.wrap ((j : Int) + 1) = (j : Int) + 1 := IntWalk.i64_in _ (by omega)
      have hpl := idxP_len nm e nx u l (show j ≤ l.length by omega)
      have hB5 := HB.size
      refine wp_any_at hA110 [(.det ?dC0), (.det ?dC1), (.det ?dC2), (.det ?dC3), (.used (fun v wy => Own8 w1.heap.size wy v (be 4 xu))), (.used (fun v wy => Own8 w1.heap.size wy v (idxP nm e nx u l j ++ be 4 xu))), (.det ?dC6), (.det ?dC7), (.used (fun v wy => Own8 w1.heap.size wy v (low4 xf))), (.held (fun v wy => Own8 w1.heap.size wy v (idxP nm e nx u l j ++ be 4 xu ++ low4 xf))), (.held (fun v wy => Own8 w1.heap.size wy v (idxP nm e nx u l j ++ be 4 xu ++ low4 xf)))] [⟨none, (some 5), fun wy => Own8 w1.heap.size wy vP (idxP nm e nx u l j)⟩] (fun wy => (fun wy => Below w1.heap.size w1 wy) wy ∧ Blk wy (wx.heap.size) (53) (#[.int .u32 (xu : Nat), .int .i64 xf])) (TSp [(5, fun _ _ => True), (9, fun _ _ => True)] Grows) (by kernel_rfl) rfl (by kernel_rfl) (by kernel_rfl) rfl (⟨HB.drew, (Ke).drew⟩) (stab_sp [(5, fun _ _ => True), (9, fun _ _ => True)] [true, true, true, true, false, false, true, true, false, false, false] [true, true, true, true, false, false, true, true, false, true, true] [] rfl rfl rfl (by kernel_rfl) ⟨trivial, trivial, trivial, trivial, (fun _ _ _ _ hp hb => hp.below hb), (fun _ _ _ _ hp hb => hp.below hb), trivial, trivial, (fun _ _ _ _ hp hb => hp.below hb), (fun _ _ _ _ hp hb => hp.below hb), (fun _ _ _ _ hp hb => hp.below hb), trivial⟩ trivial) (List.forall_mem_cons.2 ⟨(fun hn => hoP), (fun _ h => by cases h)⟩) (phase_sp [(5, fun _ _ => True), (9, fun _ _ => True)] [(none, (some 5))] [] rfl (by kernel_rfl) (List.forall_mem_cons.2 ⟨fun _ _ _ hp hR => hp.below hR, (fun _ h => by cases h)⟩) trivial) (List.forall_mem_cons.2 ⟨(fun a h => by first | (exact (no_1 h).elim) | (injection h with h; subst h; exact Nat.le_of_ble_eq_true rfl)), (fun _ h => by cases h)⟩) ⟨?oC0, ?oC1, ?oC2, ?oC3, ?oC4, ?oC5, ?oC6, ?oC7, ?oC8, ?oC9, ?oC10, trivial⟩ ?fC
      case oC0 =>
        intro ev wo hev hC hs hph
        have e4 := see_env hA110 hs 4 (by kernel_rfl) (by kernel_rfl) rfl
        exact ob_det (wanted_none rfl) rfl (by kernel_rfl) hC (TSp.of rfl (Grows.refl _)) (by simp [go_sem, e4]; try first | exact ⟨rfl, rfl⟩ | rfl)
      case oC1 =>
        intro ev wo hev hC hs hph
        have e7 := see_env hA110 hs 7 (by kernel_rfl) (by kernel_rfl) rfl
        exact ob_det (wanted_none rfl) rfl (by kernel_rfl) hC (TSp.of rfl (Grows.refl _)) (by simp [go_sem, e7]; try first | exact ⟨rfl, rfl⟩ | rfl)
      case oC2 =>
        intro ev wo hev hC hs hph
        have e124 := see_det hs 124 1 (by kernel_rfl) (by kernel_rfl) rfl
        have Kx := hC.2
        exact ob_det (wanted_none rfl) rfl (by kernel_rfl) hC (TSp.of rfl (Grows.refl _)) (by simp [go_sem, e124, Kx.cell, K0.cell, Ke.cell]; try first | exact ⟨rfl, rfl⟩ | rfl)
      case oC3 =>
        intro ev wo hev hC hs hph
        have e125 := see_det hs 125 2 (by kernel_rfl) (by kernel_rfl) rfl
        have Kx := hC.2
        exact ob_det (wanted_none rfl) rfl (by kernel_rfl) hC (TSp.of rfl (Grows.refl _)) (by simp [go_sem, e125, hwxu]; try first | exact ⟨rfl, rfl⟩ | rfl)
      case oC4 =>
        intro ev wo hev hC hs hph
        have e126 := see_det hs 126 3 (by kernel_rfl) (by kernel_rfl) rfl
        have Kx := hC.2
        exact ob_yes (wanted_none rfl) (does_enter (by simp [go_sem, e126, hev.func, hev.const]; try first | exact ⟨rfl, rfl⟩ | rfl) (Calls.mono (n4_any (xu : Int) xu hwxu2 (by omega) wo) (by
          rintro ev2 w3 ⟨r, rfl, ho, hb3⟩
          exact ⟨r, rfl, ⟨hC.1.trans (hb3.mono hC.1.size), hC.2.below hb3 hC.2.lt⟩, TSp.of rfl hb3, (Own8.of ho).mono hC.1.size, no_start (by kernel_rfl)⟩)))
      case oC5 =>
        intro ev wo hev hC hs hph
        have e123 := see_det hs 123 0 (by kernel_rfl) (by kernel_rfl) rfl
        have u127 := see_used hs 127 4 (by kernel_rfl) (by kernel_rfl) rfl
        have Kx := hC.2
        have h1 := (hph _ List.mem_cons_self (by kernel_rfl))
        obtain ⟨r, w3, hr, ho, hgr⟩ := run_app8 h1 u127.took (by simp only [List.length_append, be_length]; omega) hC.1.size
        exact ob_yes (wanted_none rfl) (does_value (exec_append rfl e123 rfl hr) ⟨⟨below_app8 hC.1 h1 hgr (Nat.le_refl _) hC.1.size, hC.2.grown hgr (fun e => own_ne h1 hC.2 (by decide) _ e.symm rfl)⟩, TSp.sp rfl trivial, ho, no_start (by kernel_rfl)⟩)
      case oC6 =>
        intro ev wo hev hC hs hph
        have e7 := see_env hA110 hs 7 (by kernel_rfl) (by kernel_rfl) rfl
        exact ob_det (wanted_none rfl) rfl (by kernel_rfl) hC (TSp.of rfl (Grows.refl _)) (by simp [go_sem, e7]; try first | exact ⟨rfl, rfl⟩ | rfl)
      case oC7 =>
        intro ev wo hev hC hs hph
        have e129 := see_det hs 129 6 (by kernel_rfl) (by kernel_rfl) rfl
        have Kx := hC.2
        exact ob_det (wanted_none rfl) rfl (by kernel_rfl) hC (TSp.of rfl (Grows.refl _)) (by simp [go_sem, e129, Kx.cell, K0.cell, Ke.cell]; try first | exact ⟨rfl, rfl⟩ | rfl)
      case oC8 =>
        intro ev wo hev hC hs hph
        have e130 := see_det hs 130 7 (by kernel_rfl) (by kernel_rfl) rfl
        have Kx := hC.2
        exact ob_yes (wanted_none rfl) (does_enter (by simp [go_sem, e130, hev.func, hev.const]; try first | exact ⟨rfl, rfl⟩ | rfl) (Calls.mono (n4_any xf _ hwxf (by omega) wo) (by
          rintro ev2 w3 ⟨r, rfl, ho, hb3⟩
          exact ⟨r, rfl, ⟨hC.1.trans (hb3.mono hC.1.size), hC.2.below hb3 hC.2.lt⟩, TSp.of rfl hb3, (Own8.of ho).mono hC.1.size, no_start (by kernel_rfl)⟩)))
      case oC9 =>
        intro ev wo hev hC hs hph
        have u128 := see_used hs 128 5 (by kernel_rfl) (by kernel_rfl) rfl
        have u131 := see_used hs 131 8 (by kernel_rfl) (by kernel_rfl) rfl
        have Kx := hC.2
        have h1 := u128
        obtain ⟨r, w3, hr, ho, hgr⟩ := run_app8 h1 u131.took (by simp only [List.length_append, be_length, low4_len]; omega) hC.1.size
        exact ob_yes (wanted_none rfl) (does_value (exec_append rfl rfl rfl hr) ⟨⟨below_app8 hC.1 h1 hgr (Nat.le_refl _) hC.1.size, hC.2.grown hgr (fun e => own_ne h1 hC.2 (by decide) _ e.symm rfl)⟩, TSp.sp rfl trivial, ho, no_start (by kernel_rfl)⟩)
      case oC10 =>
        intro ev wo hev hC hs hph
        have u132 := see_held hs 132 9 (by kernel_rfl) (by kernel_rfl) rfl
        have Kx := hC.2
        exact ob_yes (wanted_none rfl) (does_value (v := ev (.tmp 132)) (by simp [go_sem]) ⟨hC, TSp.of rfl (Grows.refl _), u132, no_start (by kernel_rfl)⟩)
      intro wf hC hph
      intro x127
      intro x128
      intro x131
      intro x132 h132
      intro x4 h4
      intro a111 hA111
      refine n_block ?_
      refine n_then ?_
      have hA112 := hA111.keep [1, 3, 4, 5, 83, 84]
      simp only [argsE, keepE, lookS, Nat.reduceBEq, cond_true, cond_false, Nat.reduceAdd, gv_tt, gv_ff, Bool.true_and, Bool.false_and, Bool.true_or, Bool.false_or] at hA112
      clear hA110 hA111 a109
      rw [← idxP_succ nm e nx u hx] at h4
      refine wp_region_lit ?_
      refine wl_op hA112 rfl rfl (by decide) (fun ev h => by simp [go_sem, h.c, h.get 84 rfl, hwj]; try first | exact ⟨rfl, rfl⟩ | rfl) fun a113 hA113 => ?_
      refine wl_op hA113 rfl rfl (by decide) (fun ev h => by simp [go_sem, h.get 133 rfl, hwj]; try first | exact ⟨rfl, rfl⟩ | rfl) fun a114 hA114 => ?_
      refine wl_nil ?_
      refine n_then ?_
      have hA115 := hA114.keep [1, 3, 4, 5, 83, 84]
      simp only [argsE, keepE, lookS, Nat.reduceBEq, cond_true, cond_false, Nat.reduceAdd, gv_tt, gv_ff, Bool.true_and, Bool.false_and, Bool.true_or, Bool.false_or] at hA115
      clear hA112 hA113 hA114 a111 a113
      -- round
      have hxl := lastN_succ hx
      simp only at hxl
      have hj1 : ((j : Int) + 1) = ((j + 1 : Nat) : Int) := by omega
      rw [← idxR_succ nm e nx u hx, ← hxl, hj1] at hA115
      exact ⟨k - 1, by omega, j + 1, x4, by omega, hA115, h4, hC.1⟩
    case nL =>
      have hjn : j = n := by simp at hq; omega
      subst hjn
      refine wp_exit ?_
      refine x_then ?_
      refine x_then ?_
      refine x_block ?_
      refine n_then ?_
      have hA116 := hA65.keep [1, 3, 4]
      simp only [argsE, keepE, lookS, Nat.reduceBEq, cond_true, cond_false, Nat.reduceAdd, gv_tt, gv_ff, Bool.true_and, Bool.false_and, Bool.true_or, Bool.false_or] at hA116
      clear hA65
      refine wp_seq ?_
      refine wp_region_lit ?_
      refine wl_op hA116 rfl rfl (by decide) (fun ev h => by simp [go_sem, h.get 1 rfl, (K.below HB K.lt).cell]; try first | exact ⟨rfl, rfl⟩ | rfl) fun a117 hA117 => ?_
      -- stop call slot 136
      refine wl_call hA117 rfl rfl (by decide) (fun ev h => by simp [go_sem, h.get 135 rfl, (K.below HB K.lt).cell, h.f]; try first | exact ⟨rfl, rfl⟩ | rfl) (putIndex_any nm A c j e nx u l wx (hm.below hg HB) (Nat.lt_of_lt_of_le hg HB.size) hs hu he hnx hl hn ((hr.below HB).more HB.size)) ?_
      rintro e w6 ⟨r8, rfl, ho8, hb⟩
      refine ⟨_, rfl, fun a118 hA118 => ?_⟩
      replace HB := HB.trans (hb.mono HB.size)
      replace hoP := hoP.below hb
      rw [idxR_all' nm e nx u hl] at hA118
      refine wl_op hA118 rfl rfl (by decide) (fun ev h => by simp [go_sem, h.get 136 rfl, (K.below HB K.lt).cell]; try first | exact ⟨rfl, rfl⟩ | rfl) fun a119 hA119 => ?_
      refine wl_op hA119 rfl rfl (by decide) (fun ev h => by simp [go_sem, h.get 134 rfl, (K.below HB K.lt).cell]; try first | exact ⟨rfl, rfl⟩ | rfl) fun a120 hA120 => ?_
      refine wl_op hA120 rfl rfl (by decide) (fun ev h => by simp [go_sem, h.get 134 rfl, (K.below HB K.lt).cell]; try first | exact ⟨rfl, rfl⟩ | rfl) fun a121 hA121 => ?_
      refine wl_op hA121 rfl rfl (by decide) (fun ev h => by simp [go_sem, h.get 137 rfl, (K.below HB K.lt).cell]; try first | exact ⟨rfl, rfl⟩ | rfl) fun a122 hA122 => ?_
      refine wl_op hA122 rfl rfl (by decide) (fun ev h => by simp [go_sem, h.get 138 rfl, (K.below HB K.lt).cell]; try first | exact ⟨rfl, rfl⟩ | rfl) fun a123 hA123 => ?_
      refine wl_nil ?_
      refine n_then ?_
      have hA124 := hA123.keep [1, 3, 4, 8, 9]
      simp only [argsE, keepE, lookS, Nat.reduceBEq, cond_true, cond_false, Nat.reduceAdd, gv_tt, gv_ff, Bool.true_and, Bool.false_and, Bool.true_or, Bool.false_or] at hA124
      clear hA116 hA117 hA118 hA119 hA120 hA121 hA122 hA123 a117 a118 a119 a120 a121 a122
      refine wp_seq ?_
      refine wp_seq ?_
      refine wp_region_lit ?_
      refine wl_op hA124 rfl rfl (by decide) (fun ev h => by simp [go_sem, h.get 3 rfl, (K.below HB K.lt).cell]; try first | exact ⟨rfl, rfl⟩ | rfl) fun a125 hA125 => ?_
      refine wl_op hA125 rfl rfl (by decide) (fun ev h => by simp [go_sem, h.get 139 rfl, (K.below HB K.lt).cell]; try first | exact ⟨rfl, rfl⟩ | rfl) fun a126 hA126 => ?_
      refine wl_nil ?_
      refine n_then ?_
      have hA127 := hA126.keep [1, 4, 8, 9, 140]
      simp only [argsE, keepE, lookS, Nat.reduceBEq, cond_true, cond_false, Nat.reduceAdd, gv_tt, gv_ff, Bool.true_and, Bool.false_and, Bool.true_or, Bool.false_or] at hA127
      clear hA124 hA125 hA126 a123 a125
      -- cond
      refine wp_if hA127 140 _ rfl (fun hv => ?yN) (fun hv => ?nN)
      case yN =>
        have hv : rightIndexV nm e nx u l = false := by simpa using hv
        have e1 : idxErr nm e nx u l = 1 := by unfold idxErr; rw [hv]; rfl
        have e2 : idxPage nm e nx u l = [] := by unfold idxPage; rw [hv]; rfl
        rw [e1] at hA127
        rw [e2] at ho8
        obtain ⟨A8, c8, rfl, _⟩ := ho8.took
        refine wp_seq ?_
        refine wp_region_lit ?_
        refine wl_op hA127 rfl rfl (by decide) (fun ev h => by simp [go_sem, h.get 9 rfl, (K.below HB K.lt).cell]; try first | exact ⟨rfl, rfl⟩ | rfl) fun a128 hA128 => ?_
        refine wl_op hA128 rfl rfl (by decide) (fun ev h => by simp [go_sem, h.c, h.get 141 rfl, (K.below HB K.lt).cell]; try first | exact ⟨rfl, rfl⟩ | rfl) fun a129 hA129 => ?_
        refine wl_op hA129 rfl rfl (by decide) (fun ev h => by simp [go_sem, h.get 142 rfl, (K.below HB K.lt).cell]; try first | exact ⟨rfl, rfl⟩ | rfl) fun a130 hA130 => ?_
        refine wl_guard _ hA130 rfl rfl rfl rfl (by decide) (fun hq ev h => by simp [go_sem, (h.get 8 rfl), (K.below HB K.lt).cell]; try first | exact ⟨rfl, rfl⟩ | rfl) fun a131 hA131 => ?_
        refine wl_guard _ hA131 rfl rfl rfl rfl (by decide) (fun hq ev h => by simp [go_sem, ((h.get 144 rfl).trans (gw_t (beq_t hq))), (K.below HB K.lt).cell]; try first | exact ⟨rfl, rfl⟩ | rfl) fun a132 hA132 => ?_
        refine wl_guard _ hA132 rfl rfl rfl rfl (by decide) (fun hq ev h => by simp [go_sem, h.c, ((h.get 145 rfl).trans (gw_t (beq_t hq))), (K.below HB K.lt).cell]; try first | exact ⟨rfl, rfl⟩ | rfl) fun a133 hA133 => ?_
        refine wl_op hA133 rfl rfl (by decide) (fun ev h => by first | exact pick_and rfl (h.get 143 rfl) (h.get 146 rfl) (h.c _) | exact pick_or rfl (h.get 143 rfl) (h.get 146 rfl) (h.c _) | (simp [go_sem, h.c, h.get 143 rfl, h.get 146 rfl, (K.below HB K.lt).cell, gv_or, gv_and]; try first | exact ⟨rfl, rfl⟩ | rfl)) fun a134 hA134 => ?_
        refine wl_op hA134 rfl rfl (by decide) (fun ev h => by simp [go_sem, h.get 147 rfl, (K.below HB K.lt).cell]; try first | exact ⟨rfl, rfl⟩ | rfl) fun a135 hA135 => ?_
        refine wl_nil ?_
        refine n_then ?_
        have hA136 := hA135.keep [2]
        simp only [argsE, keepE, lookS, Nat.reduceBEq, cond_true, cond_false, Nat.reduceAdd, gv_tt, gv_ff, Bool.true_and, Bool.false_and, Bool.true_or, Bool.false_or] at hA136
        clear hA127 hA128 hA129 hA130 hA131 hA132 hA133 hA134 hA135 a128 a129 a130 a131 a132 a133 a134
        refine wp_ret ?_
        refine r_then ?_
        refine ret_1 hA136 2 rfl rfl ?_
        exact ⟨by simp, hb0.trans (HB.mono hb0.size)⟩
      case nN =>
        have hv : rightIndexV nm e nx u l = true := by simpa using hv
        have e1 : idxErr nm e nx u l = 0 := by unfold idxErr; rw [hv]; rfl
        have e2 : idxPage nm e nx u l = pageB 1 (indexB nm e nx u l) := by unfold idxPage; rw [hv]; rfl
        have hfl := indexB_len hv
        rw [e1] at hA127
        rw [e2] at ho8
        rw [idxP_all' hl hv] at hoP
        obtain ⟨_, _, _, _, hu0, hu1, _⟩ := idx_parts hv
        obtain ⟨ut, rfl⟩ : ∃ ut : Nat, u = (ut : Nat) := ⟨u.toNat, by omega⟩
        have hget := getIndex_put (x := ⟨nm, e, nx, ut, l⟩) he hnx hu hv
        have hbb : IdxM.bytes ⟨nm, e, nx, ut, l⟩ = indexB nm e nx (ut : Nat) l := rfl
        rw [hbb] at hget
        obtain ⟨pg, hpg⟩ : ∃ pg, pageB 1 (indexB nm e nx (ut : Nat) l) = pg := ⟨_, rfl⟩
        have hpl : pg.length ≤ 6000 := by rw [← hpg, pageB_length]; omega
        rw [hpg] at ho8 hget
        obtain ⟨A8, c8, rfl, hr8, hc8⟩ := own_reads ho8
        refine wp_skip ?_
        refine n_then ?_
        refine wp_seq ?_
        refine wp_region_lit ?_
        refine wl_op hA127 rfl rfl (by decide) (fun ev h => by simp [go_sem, h.get 8 rfl, (K.below HB K.lt).cell]; try first | exact ⟨rfl, rfl⟩ | rfl) fun a137 hA137 => ?_
        -- stop call slot 150
        refine wl_call hA137 rfl rfl (by decide) (fun ev h => by simp [go_sem, h.get 149 rfl, (K.below HB K.lt).cell, h.f]; try first | exact ⟨rfl, rfl⟩ | rfl) (getIndex_any A8 c8 pg.length pg _ (hm.below hg HB) (Nat.lt_of_lt_of_le hg HB.size) rfl (by omega) hc8 hr8) ?_
        rintro e w7 ⟨r9, rfl, ho9, hb⟩
        refine ⟨_, rfl, fun a138 hA138 => ?_⟩
        replace HB := HB.trans (hb.mono HB.size)
        replace hoP := hoP.below hb
        replace hr8 := (hr8.below hb).more hb.size
        rw [hget] at ho9 hA138
        simp only [idxOr, getErr, Option.getD_some, Option.isSome_some, if_pos] at ho9 hA138
        obtain ⟨A9, c9, rfl, hr9, _⟩ := own_reads ho9
        refine wl_op hA138 rfl rfl (by decide) (fun ev h => by simp [go_sem, h.get 150 rfl, (K.below HB K.lt).cell]; try first | exact ⟨rfl, rfl⟩ | rfl) fun a139 hA139 => ?_
        refine wl_op hA139 rfl rfl (by decide) (fun ev h => by simp [go_sem, h.get 148 rfl, (K.below HB K.lt).cell]; try first | exact ⟨rfl, rfl⟩ | rfl) fun a140 hA140 => ?_
        refine wl_op hA140 rfl rfl (by decide) (fun ev h => by simp [go_sem, h.get 148 rfl, (K.below HB K.lt).cell]; try first | exact ⟨rfl, rfl⟩ | rfl) fun a141 hA141 => ?_
        -- stop alloc slot 10
        refine wl_local [.string nm, .int .u32 (e : Nat), .int .u32 (nx : Nat), .int .i64 (ut : Nat), .slice A9 l.length c9] hA141 rfl rfl (by decide) (fun ev h => by simp [go_sem, (K.below HB K.lt).cell]; try first | exact ⟨rfl, rfl⟩ | rfl) rfl rfl (by rfl) (fun w1 g ev hb h => by simp [go_sem, h.get 10 rfl, h.get 151 rfl, (K.below HB K.lt).cell, setAll, hb.cell, hb.frozen]) fun w8 a142 (K6 : Blk _ _ _ _) hz8 hb hA142 => ?_
        replace HB := HB.trans (hb.mono HB.size)
        replace hoP := hoP.below hb
        replace hr8 := (hr8.below hb).more hb.size
        replace hr9 := (hr9.below hb).more hb.size
        have K0 := K.below HB K.lt
        obtain ⟨AP, cP, rfl, hrP, _⟩ := own_reads hoP
        obtain ⟨S, hS⟩ : ∃ S : ByteArray, (⟨pg.toArray⟩ : ByteArray) = S := ⟨_, rfl⟩
        refine wl_op hA142 rfl rfl (by decide) (fun ev h => by simp [go_sem, h.get 152 rfl, (K.below HB K.lt).cell]; try first | exact ⟨rfl, rfl⟩ | rfl) fun a143 hA143 => ?_
        refine wl_nil ?_
        refine n_then ?_
        have hA144 := hA143.keep [1, 4, 8, 9, 10, 11]
        simp only [argsE, keepE, lookS, Nat.reduceBEq, cond_true, cond_false, Nat.reduceAdd, gv_tt, gv_ff, Bool.true_and, Bool.false_and, Bool.true_or, Bool.false_or] at hA144
        clear hA127 hA137 hA138 hA139 hA140 hA141 hA142 hA143 a137 a138 a139 a140 a141 a142
        refine wp_seq ?_
        refine wp_seq ?_
        -- any
        refine wp_any_at hA144 ((.det ?dD0) :: (.det ?dD1) :: (.det ?dD2) :: (.det ?dD3) :: (.det ?dD4) :: (.det ?dD5) :: (.used (fun v wy => Took wy v pg)) :: (.det ?dD7) :: (.det ?dD8) :: (.det ?dD9) :: (.det ?dD10) :: (.det ?dD11) :: (.det ?dD12) :: (.det ?dD13) :: (.det ?dD14) :: (.det ?dD15) :: (.det ?dD16) :: (.det ?dD17) :: (.det ?dD18) :: (.det ?dD19) :: (.det ?dD20) :: (.det ?dD21) :: (.det ?dD22) :: (.det ?dD23) :: (.det ?dD24) :: (.det ?dD25) :: (.det ?dD26) :: (.det ?dD27) :: (.det ?dD28) :: (.det ?dD29) :: (.det ?dD30) :: (.det ?dD31) :: (.det ?dD32) :: (.det ?dD33) :: (.det ?dD34) :: (.det ?dD35) :: (.det ?dD36) :: (.det ?dD37) :: (.det ?dD38) :: (.det ?dD39) :: (.det ?dD40) :: (.det ?dD41) :: (.det ?dD42) :: (.det ?dD43) :: (.det ?dD44) :: (.det ?dD45) :: (.det ?dD46) :: (.det ?dD47) :: (.det ?dD48) :: (.det ?dD49) :: (.det ?dD50) :: []) [] (fun wy => Below w8.heap.size w8 wy) (TSp [] Grows) (by kernel_rfl) rfl (by kernel_rfl) (by kernel_rfl) rfl ((Below.refl _ _).drew) (stab_sp [] (true :: true :: true :: true :: true :: true :: false :: true :: true :: true :: true :: true :: true :: true :: true :: true :: true :: true :: true :: true :: true :: true :: true :: true :: true :: true :: true :: true :: true :: true :: true :: true :: true :: true :: true :: true :: true :: true :: true :: true :: true :: true :: true :: true :: true :: true :: true :: true :: true :: true :: true :: []) (true :: true :: true :: true :: true :: true :: false :: true :: true :: true :: true :: true :: true :: true :: true :: true :: true :: true :: true :: true :: true :: true :: true :: true :: true :: true :: true :: true :: true :: true :: true :: true :: true :: true :: true :: true :: true :: true :: true :: true :: true :: true :: true :: true :: true :: true :: true :: true :: true :: true :: true :: []) [] rfl rfl rfl (by kernel_rfl) ⟨trivial, trivial, trivial, trivial, trivial, trivial, (fun _ _ _ _ hp hb => hp.below hb), trivial, trivial, trivial, trivial, trivial, trivial, trivial, trivial, trivial, trivial, trivial, trivial, trivial, trivial, trivial, trivial, trivial, trivial, trivial, trivial, trivial, trivial, trivial, trivial, trivial, trivial, trivial, trivial, trivial, trivial, trivial, trivial, trivial, trivial, trivial, trivial, trivial, trivial, trivial, trivial, trivial, trivial, trivial, trivial, trivial⟩ trivial) (fun _ h => by cases h) (fun _ _ _ _ h => by cases h) (fun _ h => by cases h) ⟨?oD0, ?oD1, ?oD2, ?oD3, ?oD4, ?oD5, ?oD6, ?oD7, ?oD8, ?oD9, ?oD10, ?oD11, ?oD12, ?oD13, ?oD14, ?oD15, ?oD16, ?oD17, ?oD18, ?oD19, ?oD20, ?oD21, ?oD22, ?oD23, ?oD24, ?oD25, ?oD26, ?oD27, ?oD28, ?oD29, ?oD30, ?oD31, ?oD32, ?oD33, ?oD34, ?oD35, ?oD36, ?oD37, ?oD38, ?oD39, ?oD40, ?oD41, ?oD42, ?oD43, ?oD44, ?oD45, ?oD46, ?oD47, ?oD48, ?oD49, ?oD50, trivial⟩ ?fD
        case oD0 =>
          intro ev wo hev hC hs hph
          have e9 := see_env hA144 hs 9 (by kernel_rfl) (by kernel_rfl) rfl
          exact ob_det (wanted_none rfl) rfl (by kernel_rfl) hC (TSp.of rfl (Grows.refl _)) (by simp [go_sem, e9]; try first | exact ⟨rfl, rfl⟩ | rfl)
        case oD1 =>
          intro ev wo hev hC hs hph
          have e153 := see_det hs 153 0 (by kernel_rfl) (by kernel_rfl) rfl
          exact ob_det (wanted_none rfl) rfl (by kernel_rfl) hC (TSp.of rfl (Grows.refl _)) (by simp [go_sem, e153, hev.const]; try first | exact ⟨rfl, rfl⟩ | rfl)
        case oD2 =>
          intro ev wo hev hC hs hph
          have e154 := see_det hs 154 1 (by kernel_rfl) (by kernel_rfl) rfl
          exact ob_det (wanted_none rfl) rfl (by kernel_rfl) hC (TSp.of rfl (Grows.refl _)) (by simp [go_sem, e154]; try first | exact ⟨rfl, rfl⟩ | rfl)
        case oD3 =>
          intro ev wo hev hC hs hph
          have e8 := see_env hA144 hs 8 (by kernel_rfl) (by kernel_rfl) rfl
          have e155 := see_det hs 155 2 (by kernel_rfl) (by kernel_rfl) rfl
          exact ob_gv _ rfl rfl e155 rfl (by kernel_rfl) hC (TSp.of rfl (Grows.refl _)) (fun hq => by simp [go_sem, e8, e155]; try first | exact ⟨rfl, rfl⟩ | rfl) (by rfl)
        case oD4 =>
          intro ev wo hev hC hs hph
          have e156 := see_det hs 156 3 (by kernel_rfl) (by kernel_rfl) rfl
          have e155 := see_det hs 155 2 (by kernel_rfl) (by kernel_rfl) rfl
          have Kx := K0.below hC K0.lt
          have Ky := K6.below hC K6.lt
          have v0 := conv_reads (c := c8) rfl (hr8.below hC)
          rw [hS] at v0
          exact ob_gv _ rfl rfl e155 rfl (by kernel_rfl) hC (TSp.of rfl (Grows.refl _)) (fun hq => by simp [go_sem, (e156.trans (gw_t (beq_t hq))), e155, v0]; try first | exact ⟨rfl, rfl⟩ | rfl) (by rfl)
        case oD5 =>
          intro ev wo hev hC hs hph
          have e4 := see_env hA144 hs 4 (by kernel_rfl) (by kernel_rfl) rfl
          have e155 := see_det hs 155 2 (by kernel_rfl) (by kernel_rfl) rfl
          exact ob_gv _ rfl rfl e155 rfl (by kernel_rfl) hC (TSp.of rfl (Grows.refl _)) (fun hq => by simp [go_sem, e4, e155]; try first | exact ⟨rfl, rfl⟩ | rfl) (by rfl)
        case oD6 =>
          intro ev wo hev hC hs hph
          have e158 := see_det hs 158 5 (by kernel_rfl) (by kernel_rfl) rfl
          have e155 := see_det hs 155 2 (by kernel_rfl) (by kernel_rfl) rfl
          have Kx := K0.below hC K0.lt
          have Ky := K6.below hC K6.lt
          have v0 := conv_reads (c := c8) rfl (hr8.below hC)
          rw [hS] at v0
          exact ob_yes (wanted_bool rfl rfl e155 rfl) (does_enter (by simp [go_sem, e158, hev.func, hev.const, gw]; try first | exact ⟨rfl, rfl⟩ | rfl) (Calls.mono (refPage_any 1 (by omega) AP _ cP (indexB nm e nx (ut : Nat) l) rfl (by omega) wo ((hrP.below hC).more hC.size)) (by
            rintro ev' w7 ⟨r, rfl, ho, hb7⟩
            exact ⟨r, rfl, hC.trans (hb7.mono hC.size), TSp.of rfl hb7, by rw [← hpg]; exact (Own8.of ho).took, no_start (by kernel_rfl)⟩)))
        case oD7 =>
          intro ev wo hev hC hs hph
          have u159 := see_used hs 159 6 (by kernel_rfl) (by kernel_rfl) rfl
          have e155 := see_det hs 155 2 (by kernel_rfl) (by kernel_rfl) rfl
          have Kx := K0.below hC K0.lt
          have Ky := K6.below hC K6.lt
          have v0 := conv_reads (c := c8) rfl (hr8.below hC)
          rw [hS] at v0
          obtain ⟨A1, c1, e1, hr1⟩ := u159
          have v1 := conv_reads (c := c1) rfl hr1
          rw [hS] at v1
          exact ob_gv _ rfl rfl e155 rfl (by kernel_rfl) hC (TSp.of rfl (Grows.refl _)) (fun hq => by simp [go_sem, e1, v1]; try first | exact ⟨rfl, rfl⟩ | rfl) (by rfl)
        case oD8 =>
          intro ev wo hev hC hs hph
          have e157 := see_det hs 157 4 (by kernel_rfl) (by kernel_rfl) rfl
          have e160 := see_det hs 160 7 (by kernel_rfl) (by kernel_rfl) rfl
          have e155 := see_det hs 155 2 (by kernel_rfl) (by kernel_rfl) rfl
          exact ob_gv _ rfl rfl e155 rfl (by kernel_rfl) hC (TSp.of rfl (Grows.refl _)) (fun hq => by simp [go_sem, (e157.trans (gw_t (beq_t hq))), (e160.trans (gw_t (beq_t hq))), e155]; try first | exact ⟨rfl, rfl⟩ | rfl) (by rfl)
        case oD9 =>
          intro ev wo hev hC hs hph
          have e155 := see_det hs 155 2 (by kernel_rfl) (by kernel_rfl) rfl
          have e161 := see_det hs 161 8 (by kernel_rfl) (by kernel_rfl) rfl
          exact ob_det (wanted_none rfl) rfl (by kernel_rfl) hC (TSp.of rfl (Grows.refl _)) (by first | exact pick_and rfl (e155) (hev.const _) (e161) | exact pick_or rfl (e155) (hev.const _) (e161) | (simp [go_sem, e155, e161, hev.const]; try first | exact ⟨rfl, rfl⟩ | rfl))
        case oD10 =>
          intro ev wo hev hC hs hph
          have e162 := see_det hs 162 9 (by kernel_rfl) (by kernel_rfl) rfl
          exact ob_det (wanted_none rfl) rfl (by kernel_rfl) hC (TSp.of rfl (Grows.refl _)) (by simp [go_sem, e162]; try first | exact ⟨rfl, rfl⟩ | rfl)
        case oD11 =>
          intro ev wo hev hC hs hph
          have e11 := see_env hA144 hs 11 (by kernel_rfl) (by kernel_rfl) rfl
          have e163 := see_det hs 163 10 (by kernel_rfl) (by kernel_rfl) rfl
          exact ob_gv _ rfl rfl e163 rfl (by kernel_rfl) hC (TSp.of rfl (Grows.refl _)) (fun hq => by simp [go_sem, e11, e163]; try first | exact ⟨rfl, rfl⟩ | rfl) (by rfl)
        case oD12 =>
          intro ev wo hev hC hs hph
          have e164 := see_det hs 164 11 (by kernel_rfl) (by kernel_rfl) rfl
          have e163 := see_det hs 163 10 (by kernel_rfl) (by kernel_rfl) rfl
          exact ob_gv _ rfl rfl e163 rfl (by kernel_rfl) hC (TSp.of rfl (Grows.refl _)) (fun hq => by simp [go_sem, (e164.trans (gw_t (beq_t hq))), e163, hev.const]; try first | exact ⟨rfl, rfl⟩ | rfl) (by rfl)
        case oD13 =>
          intro ev wo hev hC hs hph
          have e163 := see_det hs 163 10 (by kernel_rfl) (by kernel_rfl) rfl
          have e165 := see_det hs 165 12 (by kernel_rfl) (by kernel_rfl) rfl
          exact ob_det (wanted_none rfl) rfl (by kernel_rfl) hC (TSp.of rfl (Grows.refl _)) (by first | exact pick_and rfl (e163) (hev.const _) (e165) | exact pick_or rfl (e163) (hev.const _) (e165) | (simp [go_sem, e163, e165, hev.const]; try first | exact ⟨rfl, rfl⟩ | rfl))
        case oD14 =>
          intro ev wo hev hC hs hph
          have e166 := see_det hs 166 13 (by kernel_rfl) (by kernel_rfl) rfl
          exact ob_det (wanted_none rfl) rfl (by kernel_rfl) hC (TSp.of rfl (Grows.refl _)) (by simp [go_sem, e166]; try first | exact ⟨rfl, rfl⟩ | rfl)
        case oD15 =>
          intro ev wo hev hC hs hph
          have e10 := see_env hA144 hs 10 (by kernel_rfl) (by kernel_rfl) rfl
          have e167 := see_det hs 167 14 (by kernel_rfl) (by kernel_rfl) rfl
          exact ob_gv _ rfl rfl e167 rfl (by kernel_rfl) hC (TSp.of rfl (Grows.refl _)) (fun hq => by simp [go_sem, e10, e167]; try first | exact ⟨rfl, rfl⟩ | rfl) (by rfl)
        case oD16 =>
          intro ev wo hev hC hs hph
          have e168 := see_det hs 168 15 (by kernel_rfl) (by kernel_rfl) rfl
          have e167 := see_det hs 167 14 (by kernel_rfl) (by kernel_rfl) rfl
          have Kx := K0.below hC K0.lt
          have Ky := K6.below hC K6.lt
          have v0 := conv_reads (c := c8) rfl (hr8.below hC)
          rw [hS] at v0
          exact ob_gv _ rfl rfl e167 rfl (by kernel_rfl) hC (TSp.of rfl (Grows.refl _)) (fun hq => by simp [go_sem, (e168.trans (gw_t (beq_t hq))), e167, Kx.cell, Ky.cell, (K.below HB K.lt).cell]; try first | exact ⟨rfl, rfl⟩ | rfl) (by rfl)
        case oD17 =>
          intro ev wo hev hC hs hph
          have e1 := see_env hA144 hs 1 (by kernel_rfl) (by kernel_rfl) rfl
          have e167 := see_det hs 167 14 (by kernel_rfl) (by kernel_rfl) rfl
          exact ob_gv _ rfl rfl e167 rfl (by kernel_rfl) hC (TSp.of rfl (Grows.refl _)) (fun hq => by simp [go_sem, e1, e167]; try first | exact ⟨rfl, rfl⟩ | rfl) (by rfl)
        case oD18 =>
          intro ev wo hev hC hs hph
          have e170 := see_det hs 170 17 (by kernel_rfl) (by kernel_rfl) rfl
          have e167 := see_det hs 167 14 (by kernel_rfl) (by kernel_rfl) rfl
          have Kx := K0.below hC K0.lt
          have Ky := K6.below hC K6.lt
          have v0 := conv_reads (c := c8) rfl (hr8.below hC)
          rw [hS] at v0
          exact ob_gv _ rfl rfl e167 rfl (by kernel_rfl) hC (TSp.of rfl (Grows.refl _)) (fun hq => by simp [go_sem, (e170.trans (gw_t (beq_t hq))), e167, Kx.cell, Ky.cell, (K.below HB K.lt).cell]; try first | exact ⟨rfl, rfl⟩ | rfl) (by rfl)
        case oD19 =>
          intro ev wo hev hC hs hph
          have e169 := see_det hs 169 16 (by kernel_rfl) (by kernel_rfl) rfl
          have e171 := see_det hs 171 18 (by kernel_rfl) (by kernel_rfl) rfl
          have e167 := see_det hs 167 14 (by kernel_rfl) (by kernel_rfl) rfl
          exact ob_gv _ rfl rfl e167 rfl (by kernel_rfl) hC (TSp.of rfl (Grows.refl _)) (fun hq => by simp [go_sem, (e169.trans (gw_t (beq_t hq))), (e171.trans (gw_t (beq_t hq))), e167]; try first | exact ⟨rfl, rfl⟩ | rfl) (by rfl)
        case oD20 =>
          intro ev wo hev hC hs hph
          have e167 := see_det hs 167 14 (by kernel_rfl) (by kernel_rfl) rfl
          have e172 := see_det hs 172 19 (by kernel_rfl) (by kernel_rfl) rfl
          exact ob_det (wanted_none rfl) rfl (by kernel_rfl) hC (TSp.of rfl (Grows.refl _)) (by first | exact pick_and rfl (e167) (hev.const _) (e172) | exact pick_or rfl (e167) (hev.const _) (e172) | (simp [go_sem, e167, e172, hev.const]; try first | exact ⟨rfl, rfl⟩ | rfl))
        case oD21 =>
          intro ev wo hev hC hs hph
          have e173 := see_det hs 173 20 (by kernel_rfl) (by kernel_rfl) rfl
          exact ob_det (wanted_none rfl) rfl (by kernel_rfl) hC (TSp.of rfl (Grows.refl _)) (by simp [go_sem, e173]; try first | exact ⟨rfl, rfl⟩ | rfl)
        case oD22 =>
          intro ev wo hev hC hs hph
          have e10 := see_env hA144 hs 10 (by kernel_rfl) (by kernel_rfl) rfl
          have e174 := see_det hs 174 21 (by kernel_rfl) (by kernel_rfl) rfl
          exact ob_gv _ rfl rfl e174 rfl (by kernel_rfl) hC (TSp.of rfl (Grows.refl _)) (fun hq => by simp [go_sem, e10, e174]; try first | exact ⟨rfl, rfl⟩ | rfl) (by rfl)
        case oD23 =>
          intro ev wo hev hC hs hph
          have e175 := see_det hs 175 22 (by kernel_rfl) (by kernel_rfl) rfl
          have e174 := see_det hs 174 21 (by kernel_rfl) (by kernel_rfl) rfl
          have Kx := K0.below hC K0.lt
          have Ky := K6.below hC K6.lt
          have v0 := conv_reads (c := c8) rfl (hr8.below hC)
          rw [hS] at v0
          exact ob_gv _ rfl rfl e174 rfl (by kernel_rfl) hC (TSp.of rfl (Grows.refl _)) (fun hq => by simp [go_sem, (e175.trans (gw_t (beq_t hq))), e174, Kx.cell, Ky.cell, (K.below HB K.lt).cell]; try first | exact ⟨rfl, rfl⟩ | rfl) (by rfl)
        case oD24 =>
          intro ev wo hev hC hs hph
          have e1 := see_env hA144 hs 1 (by kernel_rfl) (by kernel_rfl) rfl
          have e174 := see_det hs 174 21 (by kernel_rfl) (by kernel_rfl) rfl
          exact ob_gv _ rfl rfl e174 rfl (by kernel_rfl) hC (TSp.of rfl (Grows.refl _)) (fun hq => by simp [go_sem, e1, e174]; try first | exact ⟨rfl, rfl⟩ | rfl) (by rfl)
        case oD25 =>
          intro ev wo hev hC hs hph
          have e177 := see_det hs 177 24 (by kernel_rfl) (by kernel_rfl) rfl
          have e174 := see_det hs 174 21 (by kernel_rfl) (by kernel_rfl) rfl
          have Kx := K0.below hC K0.lt
          have Ky := K6.below hC K6.lt
          have v0 := conv_reads (c := c8) rfl (hr8.below hC)
          rw [hS] at v0
          exact ob_gv _ rfl rfl e174 rfl (by kernel_rfl) hC (TSp.of rfl (Grows.refl _)) (fun hq => by simp [go_sem, (e177.trans (gw_t (beq_t hq))), e174, Kx.cell, Ky.cell, (K.below HB K.lt).cell]; try first | exact ⟨rfl, rfl⟩ | rfl) (by rfl)
        case oD26 =>
          intro ev wo hev hC hs hph
          have e176 := see_det hs 176 23 (by kernel_rfl) (by kernel_rfl) rfl
          have e178 := see_det hs 178 25 (by kernel_rfl) (by kernel_rfl) rfl
          have e174 := see_det hs 174 21 (by kernel_rfl) (by kernel_rfl) rfl
          exact ob_gv _ rfl rfl e174 rfl (by kernel_rfl) hC (TSp.of rfl (Grows.refl _)) (fun hq => by simp [go_sem, (e176.trans (gw_t (beq_t hq))), (e178.trans (gw_t (beq_t hq))), e174]; try first | exact ⟨rfl, rfl⟩ | rfl) (by rfl)
        case oD27 =>
          intro ev wo hev hC hs hph
          have e174 := see_det hs 174 21 (by kernel_rfl) (by kernel_rfl) rfl
          have e179 := see_det hs 179 26 (by kernel_rfl) (by kernel_rfl) rfl
          exact ob_det (wanted_none rfl) rfl (by kernel_rfl) hC (TSp.of rfl (Grows.refl _)) (by first | exact pick_and rfl (e174) (hev.const _) (e179) | exact pick_or rfl (e174) (hev.const _) (e179) | (simp [go_sem, e174, e179, hev.const]; try first | exact ⟨rfl, rfl⟩ | rfl))
        case oD28 =>
          intro ev wo hev hC hs hph
          have e180 := see_det hs 180 27 (by kernel_rfl) (by kernel_rfl) rfl
          exact ob_det (wanted_none rfl) rfl (by kernel_rfl) hC (TSp.of rfl (Grows.refl _)) (by simp [go_sem, e180]; try first | exact ⟨rfl, rfl⟩ | rfl)
        case oD29 =>
          intro ev wo hev hC hs hph
          have e10 := see_env hA144 hs 10 (by kernel_rfl) (by kernel_rfl) rfl
          have e181 := see_det hs 181 28 (by kernel_rfl) (by kernel_rfl) rfl
          exact ob_gv _ rfl rfl e181 rfl (by kernel_rfl) hC (TSp.of rfl (Grows.refl _)) (fun hq => by simp [go_sem, e10, e181]; try first | exact ⟨rfl, rfl⟩ | rfl) (by rfl)
        case oD30 =>
          intro ev wo hev hC hs hph
          have e182 := see_det hs 182 29 (by kernel_rfl) (by kernel_rfl) rfl
          have e181 := see_det hs 181 28 (by kernel_rfl) (by kernel_rfl) rfl
          have Kx := K0.below hC K0.lt
          have Ky := K6.below hC K6.lt
          have v0 := conv_reads (c := c8) rfl (hr8.below hC)
          rw [hS] at v0
          exact ob_gv _ rfl rfl e181 rfl (by kernel_rfl) hC (TSp.of rfl (Grows.refl _)) (fun hq => by simp [go_sem, (e182.trans (gw_t (beq_t hq))), e181, Kx.cell, Ky.cell, (K.below HB K.lt).cell]; try first | exact ⟨rfl, rfl⟩ | rfl) (by rfl)
        case oD31 =>
          intro ev wo hev hC hs hph
          have e1 := see_env hA144 hs 1 (by kernel_rfl) (by kernel_rfl) rfl
          have e181 := see_det hs 181 28 (by kernel_rfl) (by kernel_rfl) rfl
          exact ob_gv _ rfl rfl e181 rfl (by kernel_rfl) hC (TSp.of rfl (Grows.refl _)) (fun hq => by simp [go_sem, e1, e181]; try first | exact ⟨rfl, rfl⟩ | rfl) (by rfl)
        case oD32 =>
          intro ev wo hev hC hs hph
          have e184 := see_det hs 184 31 (by kernel_rfl) (by kernel_rfl) rfl
          have e181 := see_det hs 181 28 (by kernel_rfl) (by kernel_rfl) rfl
          have Kx := K0.below hC K0.lt
          have Ky := K6.below hC K6.lt
          have v0 := conv_reads (c := c8) rfl (hr8.below hC)
          rw [hS] at v0
          exact ob_gv _ rfl rfl e181 rfl (by kernel_rfl) hC (TSp.of rfl (Grows.refl _)) (fun hq => by simp [go_sem, (e184.trans (gw_t (beq_t hq))), e181, Kx.cell, Ky.cell, (K.below HB K.lt).cell]; try first | exact ⟨rfl, rfl⟩ | rfl) (by rfl)
        case oD33 =>
          intro ev wo hev hC hs hph
          have e183 := see_det hs 183 30 (by kernel_rfl) (by kernel_rfl) rfl
          have e185 := see_det hs 185 32 (by kernel_rfl) (by kernel_rfl) rfl
          have e181 := see_det hs 181 28 (by kernel_rfl) (by kernel_rfl) rfl
          exact ob_gv _ rfl rfl e181 rfl (by kernel_rfl) hC (TSp.of rfl (Grows.refl _)) (fun hq => by simp [go_sem, (e183.trans (gw_t (beq_t hq))), (e185.trans (gw_t (beq_t hq))), e181]; try first | exact ⟨rfl, rfl⟩ | rfl) (by rfl)
        case oD34 =>
          intro ev wo hev hC hs hph
          have e181 := see_det hs 181 28 (by kernel_rfl) (by kernel_rfl) rfl
          have e186 := see_det hs 186 33 (by kernel_rfl) (by kernel_rfl) rfl
          exact ob_det (wanted_none rfl) rfl (by kernel_rfl) hC (TSp.of rfl (Grows.refl _)) (by first | exact pick_and rfl (e181) (hev.const _) (e186) | exact pick_or rfl (e181) (hev.const _) (e186) | (simp [go_sem, e181, e186, hev.const]; try first | exact ⟨rfl, rfl⟩ | rfl))
        case oD35 =>
          intro ev wo hev hC hs hph
          have e187 := see_det hs 187 34 (by kernel_rfl) (by kernel_rfl) rfl
          exact ob_det (wanted_none rfl) rfl (by kernel_rfl) hC (TSp.of rfl (Grows.refl _)) (by simp [go_sem, e187]; try first | exact ⟨rfl, rfl⟩ | rfl)
        case oD36 =>
          intro ev wo hev hC hs hph
          have e10 := see_env hA144 hs 10 (by kernel_rfl) (by kernel_rfl) rfl
          have e188 := see_det hs 188 35 (by kernel_rfl) (by kernel_rfl) rfl
          exact ob_gv _ rfl rfl e188 rfl (by kernel_rfl) hC (TSp.of rfl (Grows.refl _)) (fun hq => by simp [go_sem, e10, e188]; try first | exact ⟨rfl, rfl⟩ | rfl) (by rfl)
        case oD37 =>
          intro ev wo hev hC hs hph
          have e189 := see_det hs 189 36 (by kernel_rfl) (by kernel_rfl) rfl
          have e188 := see_det hs 188 35 (by kernel_rfl) (by kernel_rfl) rfl
          have Kx := K0.below hC K0.lt
          have Ky := K6.below hC K6.lt
          have v0 := conv_reads (c := c8) rfl (hr8.below hC)
          rw [hS] at v0
          exact ob_gv _ rfl rfl e188 rfl (by kernel_rfl) hC (TSp.of rfl (Grows.refl _)) (fun hq => by simp [go_sem, (e189.trans (gw_t (beq_t hq))), e188, Kx.cell, Ky.cell, (K.below HB K.lt).cell]; try first | exact ⟨rfl, rfl⟩ | rfl) (by rfl)
        case oD38 =>
          intro ev wo hev hC hs hph
          have e1 := see_env hA144 hs 1 (by kernel_rfl) (by kernel_rfl) rfl
          have e188 := see_det hs 188 35 (by kernel_rfl) (by kernel_rfl) rfl
          exact ob_gv _ rfl rfl e188 rfl (by kernel_rfl) hC (TSp.of rfl (Grows.refl _)) (fun hq => by simp [go_sem, e1, e188]; try first | exact ⟨rfl, rfl⟩ | rfl) (by rfl)
        case oD39 =>
          intro ev wo hev hC hs hph
          have e191 := see_det hs 191 38 (by kernel_rfl) (by kernel_rfl) rfl
          have e188 := see_det hs 188 35 (by kernel_rfl) (by kernel_rfl) rfl
          have Kx := K0.below hC K0.lt
          have Ky := K6.below hC K6.lt
          have v0 := conv_reads (c := c8) rfl (hr8.below hC)
          rw [hS] at v0
          exact ob_gv _ rfl rfl e188 rfl (by kernel_rfl) hC (TSp.of rfl (Grows.refl _)) (fun hq => by simp [go_sem, (e191.trans (gw_t (beq_t hq))), e188, Kx.cell, Ky.cell, (K.below HB K.lt).cell]; try first | exact ⟨rfl, rfl⟩ | rfl) (by rfl)
        case oD40 =>
          intro ev wo hev hC hs hph
          have e190 := see_det hs 190 37 (by kernel_rfl) (by kernel_rfl) rfl
          have e192 := see_det hs 192 39 (by kernel_rfl) (by kernel_rfl) rfl
          have e188 := see_det hs 188 35 (by kernel_rfl) (by kernel_rfl) rfl
          exact ob_gv _ rfl rfl e188 rfl (by kernel_rfl) hC (TSp.of rfl (Grows.refl _)) (fun hq => by simp [go_sem, (e190.trans (gw_t (beq_t hq))), (e192.trans (gw_t (beq_t hq))), e188]; try first | exact ⟨rfl, rfl⟩ | rfl) (by rfl)
        case oD41 =>
          intro ev wo hev hC hs hph
          have e188 := see_det hs 188 35 (by kernel_rfl) (by kernel_rfl) rfl
          have e193 := see_det hs 193 40 (by kernel_rfl) (by kernel_rfl) rfl
          exact ob_det (wanted_none rfl) rfl (by kernel_rfl) hC (TSp.of rfl (Grows.refl _)) (by first | exact pick_and rfl (e188) (hev.const _) (e193) | exact pick_or rfl (e188) (hev.const _) (e193) | (simp [go_sem, e188, e193, hev.const]; try first | exact ⟨rfl, rfl⟩ | rfl))
        case oD42 =>
          intro ev wo hev hC hs hph
          have e194 := see_det hs 194 41 (by kernel_rfl) (by kernel_rfl) rfl
          exact ob_det (wanted_none rfl) rfl (by kernel_rfl) hC (TSp.of rfl (Grows.refl _)) (by simp [go_sem, e194]; try first | exact ⟨rfl, rfl⟩ | rfl)
        case oD43 =>
          intro ev wo hev hC hs hph
          have e10 := see_env hA144 hs 10 (by kernel_rfl) (by kernel_rfl) rfl
          have e195 := see_det hs 195 42 (by kernel_rfl) (by kernel_rfl) rfl
          exact ob_gv _ rfl rfl e195 rfl (by kernel_rfl) hC (TSp.of rfl (Grows.refl _)) (fun hq => by simp [go_sem, e10, e195]; try first | exact ⟨rfl, rfl⟩ | rfl) (by rfl)
        case oD44 =>
          intro ev wo hev hC hs hph
          have e196 := see_det hs 196 43 (by kernel_rfl) (by kernel_rfl) rfl
          have e195 := see_det hs 195 42 (by kernel_rfl) (by kernel_rfl) rfl
          have Kx := K0.below hC K0.lt
          have Ky := K6.below hC K6.lt
          have v0 := conv_reads (c := c8) rfl (hr8.below hC)
          rw [hS] at v0
          exact ob_gv _ rfl rfl e195 rfl (by kernel_rfl) hC (TSp.of rfl (Grows.refl _)) (fun hq => by simp [go_sem, (e196.trans (gw_t (beq_t hq))), e195, Kx.cell, Ky.cell, (K.below HB K.lt).cell]; try first | exact ⟨rfl, rfl⟩ | rfl) (by rfl)
        case oD45 =>
          intro ev wo hev hC hs hph
          have e197 := see_det hs 197 44 (by kernel_rfl) (by kernel_rfl) rfl
          have e195 := see_det hs 195 42 (by kernel_rfl) (by kernel_rfl) rfl
          exact ob_gv _ rfl rfl e195 rfl (by kernel_rfl) hC (TSp.of rfl (Grows.refl _)) (fun hq => by simp [go_sem, (e197.trans (gw_t (beq_t hq))), e195]; try first | exact ⟨rfl, rfl⟩ | rfl) (by rfl)
        case oD46 =>
          intro ev wo hev hC hs hph
          have e1 := see_env hA144 hs 1 (by kernel_rfl) (by kernel_rfl) rfl
          have e195 := see_det hs 195 42 (by kernel_rfl) (by kernel_rfl) rfl
          exact ob_gv _ rfl rfl e195 rfl (by kernel_rfl) hC (TSp.of rfl (Grows.refl _)) (fun hq => by simp [go_sem, e1, e195]; try first | exact ⟨rfl, rfl⟩ | rfl) (by rfl)
        case oD47 =>
          intro ev wo hev hC hs hph
          have e199 := see_det hs 199 46 (by kernel_rfl) (by kernel_rfl) rfl
          have e195 := see_det hs 195 42 (by kernel_rfl) (by kernel_rfl) rfl
          have Kx := K0.below hC K0.lt
          have Ky := K6.below hC K6.lt
          have v0 := conv_reads (c := c8) rfl (hr8.below hC)
          rw [hS] at v0
          exact ob_gv _ rfl rfl e195 rfl (by kernel_rfl) hC (TSp.of rfl (Grows.refl _)) (fun hq => by simp [go_sem, (e199.trans (gw_t (beq_t hq))), e195, Kx.cell, Ky.cell, (K.below HB K.lt).cell]; try first | exact ⟨rfl, rfl⟩ | rfl) (by rfl)
        case oD48 =>
          intro ev wo hev hC hs hph
          have e200 := see_det hs 200 47 (by kernel_rfl) (by kernel_rfl) rfl
          have e195 := see_det hs 195 42 (by kernel_rfl) (by kernel_rfl) rfl
          exact ob_gv _ rfl rfl e195 rfl (by kernel_rfl) hC (TSp.of rfl (Grows.refl _)) (fun hq => by simp [go_sem, (e200.trans (gw_t (beq_t hq))), e195]; try first | exact ⟨rfl, rfl⟩ | rfl) (by rfl)
        case oD49 =>
          intro ev wo hev hC hs hph
          have e198 := see_det hs 198 45 (by kernel_rfl) (by kernel_rfl) rfl
          have e201 := see_det hs 201 48 (by kernel_rfl) (by kernel_rfl) rfl
          have e195 := see_det hs 195 42 (by kernel_rfl) (by kernel_rfl) rfl
          exact ob_gv _ rfl rfl e195 rfl (by kernel_rfl) hC (TSp.of rfl (Grows.refl _)) (fun hq => by simp [go_sem, (e198.trans (gw_t (beq_t hq))), (e201.trans (gw_t (beq_t hq))), e195]; try first | exact ⟨rfl, rfl⟩ | rfl) (by rfl)
        case oD50 =>
          intro ev wo hev hC hs hph
          have e195 := see_det hs 195 42 (by kernel_rfl) (by kernel_rfl) rfl
          have e202 := see_det hs 202 49 (by kernel_rfl) (by kernel_rfl) rfl
          exact ob_det (wanted_none rfl) rfl (by kernel_rfl) hC (TSp.of rfl (Grows.refl _)) (by first | exact pick_and rfl (e195) (hev.const _) (e202) | exact pick_or rfl (e195) (hev.const _) (e202) | (simp [go_sem, e195, e202, hev.const]; try first | exact ⟨rfl, rfl⟩ | rfl))
        intro wf hC hph
        intro x159
        intro a145 hA145
        refine n_then ?_
        have hA146 := hA145.keep [1, 10, 203]
        simp only [argsE, keepE, lookS, Nat.reduceBEq, cond_true, cond_false, Nat.reduceAdd, gv_tt, gv_ff, Bool.true_and, Bool.false_and, Bool.true_or, Bool.false_or] at hA146
        clear hA144 hA145 a143
        replace HB := HB.trans (hC.mono HB.size)
        -- cond
        replace K6 := K6.below hC K6.lt
        replace hr9 := (hr9.below hC).more hC.size
        have K0 := K.below HB K.lt
        refine wp_if hA146 203 _ rfl (fun hq2 => ?yM) (fun hq2 => ?nM)
        case yM => simp [hl] at hq2
        case nM =>
          refine wp_skip ?_
          refine n_then ?_
          refine wp_seq ?_
          refine wp_seq ?_
          refine wp_region_lit ?_
          refine wl_op hA146 rfl rfl (by decide) (fun ev h => by simp [go_sem, h.get 10 rfl, K6.cell, K0.cell]; try first | exact ⟨rfl, rfl⟩ | rfl) fun a147 hA147 => ?_
          refine wl_op hA147 rfl rfl (by decide) (fun ev h => by simp [go_sem, h.get 204 rfl, K6.cell, K0.cell]; try first | exact ⟨rfl, rfl⟩ | rfl) fun a148 hA148 => ?_
          refine wl_op hA148 rfl rfl (by decide) (fun ev h => by simp [go_sem, h.get 205 rfl, K6.cell, K0.cell]; try first | exact ⟨rfl, rfl⟩ | rfl) fun a149 hA149 => ?_
          refine wl_op hA149 rfl rfl (by decide) (fun ev h => by simp [go_sem, h.c, K6.cell, K0.cell]; try first | exact ⟨rfl, rfl⟩ | rfl) fun a150 hA150 => ?_
          refine wl_nil ?_
          refine n_then ?_
          have hA151 := hA150.keep [1, 10, 206, 207]
          simp only [argsE, keepE, lookS, Nat.reduceBEq, cond_true, cond_false, Nat.reduceAdd, gv_tt, gv_ff, Bool.true_and, Bool.false_and, Bool.true_or, Bool.false_or] at hA151
          clear hA146 hA147 hA148 hA149 hA150 a147 a148 a149
          refine wp_block ?_
          -- loop
          refine wp_loop_at (fun k a wz => ∃ (i : Nat), i + k = l.length ∧ At 222 [(1, .pointer (some ⟨w.heap.size, 0, none⟩)), (10, .pointer (some ⟨w7.heap.size, 0, none⟩)), (206, .int .i64 (l.length : Nat)), (207, .int .i64 (i : Nat))] a ∧ Below wf.heap.size wf wz) (l.length) ?_ ?_
          · exact ⟨0, by omega, hA151, Below.refl _ _⟩
          rintro k a wz ⟨i, hik, hA, hB2⟩
          refine wp_seq ?_
          refine wp_region_lit ?_
          refine wl_op hA rfl rfl (by decide) (fun ev h => by simp [go_sem, h.get 207 rfl, h.get 206 rfl, K6.cell, K0.cell]; try first | exact ⟨rfl, rfl⟩ | rfl) fun a152 hA152 => ?_
          refine wl_nil ?_
          refine n_then ?_
          have hA153 := hA152.keep [1, 10, 206, 207, 208]
          simp only [argsE, keepE, lookS, Nat.reduceBEq, cond_true, cond_false, Nat.reduceAdd, gv_tt, gv_ff, Bool.true_and, Bool.false_and, Bool.true_or, Bool.false_or] at hA153
          clear hA hA152
          refine wp_seq ?_
          -- cond
          refine wp_if hA153 208 _ rfl (fun hq3 => ?yR) (fun hq3 => ?nR)
          case yR =>
            have hlt : i < l.length := by simp at hq3; omega
            obtain ⟨x, hx⟩ : ∃ x, l[i]? = some x := ⟨_, List.getElem?_eq_getElem hlt⟩
            obtain ⟨ad, rfl, hadl, hc⟩ := ((hr.below (HB.trans (hB2.mono HB.size))).more (Nat.le_trans HB.size hB2.size)).2 (by omega)
            obtain ⟨k0, k1⟩ := mark_at hc hx
            obtain ⟨ad9, rfl, hadl9, hc9⟩ := ((hr9.below hB2).more hB2.size).2 (by omega)
            obtain ⟨y0, y1⟩ := mark_at hc9 hx
            have ii0 : (0 : Int) ≤ (i : Int) := by omega
            have ii1 : (i : Int) < (l.length : Int) := by omega
            have hlj : (i : Int) < (j : Int) := by omega
            have K6z := K6.below hB2 K6.lt
            have K0z := K0.below hB2 K0.lt
            have hwi : IntKind.i64.wrap ((i : Int) + 1) = ((i + 1 : Nat) : Int) := by rw [IntWalk.i64_in _ (by omega)]; omega
            refine wp_skip ?_
            refine n_then ?_
            refine wp_seq ?_
            refine wp_block ?_
            refine wp_seq ?_
            refine wp_region_lit ?_
            refine wl_op hA153 rfl rfl (by decide) (fun ev h => by simp [go_sem, h.get 207 rfl, K6.cell, K0.cell]; try first | exact ⟨rfl, rfl⟩ | rfl) fun a154 hA154 => ?_
            refine wl_op hA154 rfl rfl (by decide) (fun ev h => by simp [go_sem, h.get 209 rfl, K6.cell, K0.cell]; try first | exact ⟨rfl, rfl⟩ | rfl) fun a155 hA155 => ?_
            refine wl_nil ?_
            refine n_then ?_
            have hA156 := hA155.keep [1, 10, 12, 206, 207]
            simp only [argsE, keepE, lookS, Nat.reduceBEq, cond_true, cond_false, Nat.reduceAdd, gv_tt, gv_ff, Bool.true_and, Bool.false_and, Bool.true_or, Bool.false_or] at hA156
            clear hA153 hA154 hA155 a154
            refine wp_seq ?_
            -- any
            refine wp_any_at hA156 [(.det ?dE0), (.det ?dE1), (.det ?dE2), (.det ?dE3), (.det ?dE4), (.det ?dE5), (.det ?dE6), (.det ?dE7), (.det ?dE8), (.det ?dE9), (.det ?dE10)] [] (fun wy => Below wz.heap.size wz wy) (TSp [] Grows) (by kernel_rfl) rfl (by kernel_rfl) (by kernel_rfl) rfl ((Below.refl _ _).drew) (stab_sp [] [true, true, true, true, true, true, true, true, true, true, true] [true, true, true, true, true, true, true, true, true, true, true] [] rfl rfl rfl (by kernel_rfl) ⟨trivial, trivial, trivial, trivial, trivial, trivial, trivial, trivial, trivial, trivial, trivial, trivial⟩ trivial) (fun _ h => by cases h) (fun _ _ _ _ h => by cases h) (fun _ h => by cases h) ⟨?oE0, ?oE1, ?oE2, ?oE3, ?oE4, ?oE5, ?oE6, ?oE7, ?oE8, ?oE9, ?oE10, trivial⟩ ?fE
            case oE0 =>
              intro ev wo hev hC hs hph
              have e10 := see_env hA156 hs 10 (by kernel_rfl) (by kernel_rfl) rfl
              exact ob_det (wanted_none rfl) rfl (by kernel_rfl) hC (TSp.of rfl (Grows.refl _)) (by simp [go_sem, e10]; try first | exact ⟨rfl, rfl⟩ | rfl)
            case oE1 =>
              intro ev wo hev hC hs hph
              have e210 := see_det hs 210 0 (by kernel_rfl) (by kernel_rfl) rfl
              have Kx := K0z.below hC K0z.lt
              have Ky := K6z.below hC K6z.lt
              have k0x := (hC.cell (by rw [block_of_add]; exact hadl)).trans k0
              have k1x := (hC.cell (p := ⟨(ad.add (i * 2)).block, (ad.add (i * 2)).off + 1, none⟩) (by show (ad.add (i * 2)).block < _; rw [block_of_add]; exact hadl)).trans k1
              have y0x := (hC.cell (by rw [block_of_add]; exact hadl9)).trans y0
              have y1x := (hC.cell (p := ⟨(ad9.add (i * 2)).block, (ad9.add (i * 2)).off + 1, none⟩) (by show (ad9.add (i * 2)).block < _; rw [block_of_add]; exact hadl9)).trans y1
              exact ob_det (wanted_none rfl) rfl (by kernel_rfl) hC (TSp.of rfl (Grows.refl _)) (by simp [go_sem, e210, Kx.cell, Ky.cell, k0x, k1x, y0x, y1x, K6.cell, K0.cell]; try first | exact ⟨rfl, rfl⟩ | rfl)
            case oE2 =>
              intro ev wo hev hC hs hph
              have e12 := see_env hA156 hs 12 (by kernel_rfl) (by kernel_rfl) rfl
              exact ob_det (wanted_none rfl) rfl (by kernel_rfl) hC (TSp.of rfl (Grows.refl _)) (by simp [go_sem, e12]; try first | exact ⟨rfl, rfl⟩ | rfl)
            case oE3 =>
              intro ev wo hev hC hs hph
              have e211 := see_det hs 211 1 (by kernel_rfl) (by kernel_rfl) rfl
              have e212 := see_det hs 212 2 (by kernel_rfl) (by kernel_rfl) rfl
              have Kx := K0z.below hC K0z.lt
              have Ky := K6z.below hC K6z.lt
              have k0x := (hC.cell (by rw [block_of_add]; exact hadl)).trans k0
              have k1x := (hC.cell (p := ⟨(ad.add (i * 2)).block, (ad.add (i * 2)).off + 1, none⟩) (by show (ad.add (i * 2)).block < _; rw [block_of_add]; exact hadl)).trans k1
              have y0x := (hC.cell (by rw [block_of_add]; exact hadl9)).trans y0
              have y1x := (hC.cell (p := ⟨(ad9.add (i * 2)).block, (ad9.add (i * 2)).off + 1, none⟩) (by show (ad9.add (i * 2)).block < _; rw [block_of_add]; exact hadl9)).trans y1
              exact ob_det (wanted_none rfl) rfl (by kernel_rfl) hC (TSp.of rfl (Grows.refl _)) (by simp [go_sem, e211, e212, ii0, ii1, hlj]; try first | exact ⟨rfl, rfl⟩ | rfl)
            case oE4 =>
              intro ev wo hev hC hs hph
              have e213 := see_det hs 213 3 (by kernel_rfl) (by kernel_rfl) rfl
              have Kx := K0z.below hC K0z.lt
              have Ky := K6z.below hC K6z.lt
              have k0x := (hC.cell (by rw [block_of_add]; exact hadl)).trans k0
              have k1x := (hC.cell (p := ⟨(ad.add (i * 2)).block, (ad.add (i * 2)).off + 1, none⟩) (by show (ad.add (i * 2)).block < _; rw [block_of_add]; exact hadl)).trans k1
              have y0x := (hC.cell (by rw [block_of_add]; exact hadl9)).trans y0
              have y1x := (hC.cell (p := ⟨(ad9.add (i * 2)).block, (ad9.add (i * 2)).off + 1, none⟩) (by show (ad9.add (i * 2)).block < _; rw [block_of_add]; exact hadl9)).trans y1
              exact ob_det (wanted_none rfl) rfl (by kernel_rfl) hC (TSp.of rfl (Grows.refl _)) (by simp [go_sem, e213, Kx.cell, Ky.cell, k0x, k1x, y0x, y1x, K6.cell, K0.cell]; try first | exact ⟨rfl, rfl⟩ | rfl)
            case oE5 =>
              intro ev wo hev hC hs hph
              have e1 := see_env hA156 hs 1 (by kernel_rfl) (by kernel_rfl) rfl
              exact ob_det (wanted_none rfl) rfl (by kernel_rfl) hC (TSp.of rfl (Grows.refl _)) (by simp [go_sem, e1]; try first | exact ⟨rfl, rfl⟩ | rfl)
            case oE6 =>
              intro ev wo hev hC hs hph
              have e215 := see_det hs 215 5 (by kernel_rfl) (by kernel_rfl) rfl
              have Kx := K0z.below hC K0z.lt
              have Ky := K6z.below hC K6z.lt
              have k0x := (hC.cell (by rw [block_of_add]; exact hadl)).trans k0
              have k1x := (hC.cell (p := ⟨(ad.add (i * 2)).block, (ad.add (i * 2)).off + 1, none⟩) (by show (ad.add (i * 2)).block < _; rw [block_of_add]; exact hadl)).trans k1
              have y0x := (hC.cell (by rw [block_of_add]; exact hadl9)).trans y0
              have y1x := (hC.cell (p := ⟨(ad9.add (i * 2)).block, (ad9.add (i * 2)).off + 1, none⟩) (by show (ad9.add (i * 2)).block < _; rw [block_of_add]; exact hadl9)).trans y1
              exact ob_det (wanted_none rfl) rfl (by kernel_rfl) hC (TSp.of rfl (Grows.refl _)) (by simp [go_sem, e215, Kx.cell, Ky.cell, k0x, k1x, y0x, y1x, K6.cell, K0.cell]; try first | exact ⟨rfl, rfl⟩ | rfl)
            case oE7 =>
              intro ev wo hev hC hs hph
              have e12 := see_env hA156 hs 12 (by kernel_rfl) (by kernel_rfl) rfl
              exact ob_det (wanted_none rfl) rfl (by kernel_rfl) hC (TSp.of rfl (Grows.refl _)) (by simp [go_sem, e12]; try first | exact ⟨rfl, rfl⟩ | rfl)
            case oE8 =>
              intro ev wo hev hC hs hph
              have e216 := see_det hs 216 6 (by kernel_rfl) (by kernel_rfl) rfl
              have e217 := see_det hs 217 7 (by kernel_rfl) (by kernel_rfl) rfl
              have Kx := K0z.below hC K0z.lt
              have Ky := K6z.below hC K6z.lt
              have k0x := (hC.cell (by rw [block_of_add]; exact hadl)).trans k0
              have k1x := (hC.cell (p := ⟨(ad.add (i * 2)).block, (ad.add (i * 2)).off + 1, none⟩) (by show (ad.add (i * 2)).block < _; rw [block_of_add]; exact hadl)).trans k1
              have y0x := (hC.cell (by rw [block_of_add]; exact hadl9)).trans y0
              have y1x := (hC.cell (p := ⟨(ad9.add (i * 2)).block, (ad9.add (i * 2)).off + 1, none⟩) (by show (ad9.add (i * 2)).block < _; rw [block_of_add]; exact hadl9)).trans y1
              exact ob_det (wanted_none rfl) rfl (by kernel_rfl) hC (TSp.of rfl (Grows.refl _)) (by simp [go_sem, e216, e217, ii0, ii1, hlj]; try first | exact ⟨rfl, rfl⟩ | rfl)
            case oE9 =>
              intro ev wo hev hC hs hph
              have e218 := see_det hs 218 8 (by kernel_rfl) (by kernel_rfl) rfl
              have Kx := K0z.below hC K0z.lt
              have Ky := K6z.below hC K6z.lt
              have k0x := (hC.cell (by rw [block_of_add]; exact hadl)).trans k0
              have k1x := (hC.cell (p := ⟨(ad.add (i * 2)).block, (ad.add (i * 2)).off + 1, none⟩) (by show (ad.add (i * 2)).block < _; rw [block_of_add]; exact hadl)).trans k1
              have y0x := (hC.cell (by rw [block_of_add]; exact hadl9)).trans y0
              have y1x := (hC.cell (p := ⟨(ad9.add (i * 2)).block, (ad9.add (i * 2)).off + 1, none⟩) (by show (ad9.add (i * 2)).block < _; rw [block_of_add]; exact hadl9)).trans y1
              exact ob_det (wanted_none rfl) rfl (by kernel_rfl) hC (TSp.of rfl (Grows.refl _)) (by simp [go_sem, e218, Kx.cell, Ky.cell, k0x, k1x, y0x, y1x, K6.cell, K0.cell]; try first | exact ⟨rfl, rfl⟩ | rfl)
            case oE10 =>
              intro ev wo hev hC hs hph
              have e214 := see_det hs 214 4 (by kernel_rfl) (by kernel_rfl) rfl
              have e219 := see_det hs 219 9 (by kernel_rfl) (by kernel_rfl) rfl
              exact ob_det (wanted_none rfl) rfl (by kernel_rfl) hC (TSp.of rfl (Grows.refl _)) (by simp [go_sem, e214, e219]; try first | exact ⟨rfl, rfl⟩ | rfl)
            intro wf hC hph
            intro a157 hA157
            refine n_then ?_
            have hA158 := hA157.keep [1, 10, 206, 207, 220]
            simp only [argsE, keepE, lookS, Nat.reduceBEq, cond_true, cond_false, Nat.reduceAdd, gv_tt, gv_ff, Bool.true_and, Bool.false_and, Bool.true_or, Bool.false_or] at hA158
            clear hA156 hA157 a155
            -- cond
            refine wp_if hA158 220 _ rfl (fun hq4 => ?yS) (fun hq4 => ?nS)
            case yS => simp at hq4
            case nS =>
              refine wp_skip ?_
              refine n_block ?_
              refine n_then ?_
              refine wp_region_lit ?_
              refine wl_op hA158 rfl rfl (by decide) (fun ev h => by simp [go_sem, h.c, h.get 207 rfl, hwi]; try first | exact ⟨rfl, rfl⟩ | rfl) fun a159 hA159 => ?_
              refine wl_op hA159 rfl rfl (by decide) (fun ev h => by simp [go_sem, h.get 221 rfl, hwi]; try first | exact ⟨rfl, rfl⟩ | rfl) fun a160 hA160 => ?_
              refine wl_nil ?_
              refine n_then ?_
              have hA161 := hA160.keep [1, 10, 206, 207]
              simp only [argsE, keepE, lookS, Nat.reduceBEq, cond_true, cond_false, Nat.reduceAdd, gv_tt, gv_ff, Bool.true_and, Bool.false_and, Bool.true_or, Bool.false_or] at hA161
              clear hA158 hA159 hA160 a159
              -- round
              have hi1 : ((i : Int) + 1) = ((i + 1 : Nat) : Int) := by omega
              rw [hi1] at hA161
              exact ⟨k - 1, by omega, i + 1, by omega, hA161, hB2.trans (hC.mono hB2.size)⟩
          case nR =>
            refine wp_exit ?_
            refine x_then ?_
            refine x_then ?_
            refine x_block ?_
            refine n_then ?_
            have hA162 := hA153.keep []
            simp only [argsE, keepE, lookS, Nat.reduceBEq, cond_true, cond_false, Nat.reduceAdd, gv_tt, gv_ff, Bool.true_and, Bool.false_and, Bool.true_or, Bool.false_or] at hA162
            clear hA153
            refine wp_seq ?_
            refine wp_region_lit ?_
            refine wl_op hA162 rfl rfl (by decide) (fun ev h => by simp [go_sem, h.c, K6.cell, K0.cell]; try first | exact ⟨rfl, rfl⟩ | rfl) fun a163 hA163 => ?_
            refine wl_nil ?_
            refine n_then ?_
            have hA164 := hA163.keep [2]
            simp only [argsE, keepE, lookS, Nat.reduceBEq, cond_true, cond_false, Nat.reduceAdd, gv_tt, gv_ff, Bool.true_and, Bool.false_and, Bool.true_or, Bool.false_or] at hA164
            clear hA162 hA163
            refine wp_ret ?_
            refine ret_1 hA164 2 rfl rfl ?_
            exact ⟨rfl, hb0.trans ((HB.trans (hB2.mono HB.size)).mono hb0.size)⟩
end Go.Proofs.YtljclehhicmkhaaDoor
