/-
  Walk: an index that is formed.
-/
import Derived.Test.YtljclehhicmkhaaDoorN4
import Derived.Test.YtljclehhicmkhaaDoorBytes
import Derived.IntWalk
namespace Go.Proofs.YtljclehhicmkhaaDoor
open Go.RowKit
set_option linter.unusedSimpArgs false
set_option linter.unusedVariables false
def goodE (nx : Nat) (q : MarkM) : Bool := (decide (q.1 < nx) || decide (nx = 4294967295)) && decide (0 ≤ q.2) && decide (q.2 ≤ 4294967295)
def rightIndexV (nm : ByteArray) (e nx : Nat) (u : Int) (l : List MarkM) : Bool := marksN (goodE nx) l l.length && nameIs nm && decide (1 ≤ e) && decide (1 ≤ nx) && decide (0 ≤ u) && decide (u ≤ 4294967295) && decide (l.length ≤ 500)
theorem mstepE (nx : Nat) (l : List MarkM) (j xu : Nat) (xf : Int) : mstep (goodE nx) l j (xu, xf) = !(decide (xu ≤ lastN l j) || decide (nx ≤ xu) && ((nx : Int) != 4294967295) || decide (xf < 0) || decide (4294967295 < xf)) := by
  unfold mstep goodE
  rw [Bool.eq_iff_iff]
  simp
  omega
theorem one_le (e : Nat) : decide ((1 : Int) ≤ (e : Int)) = decide (1 ≤ e) := by rw [Bool.eq_iff_iff]; simp; omega
theorem nat_le500 (e : Nat) : decide ((e : Int) ≤ 500) = decide (e ≤ 500) := by rw [Bool.eq_iff_iff]; simp; omega
set_option maxRecDepth 100000 in
set_option maxHeartbeats 1000000 in
theorem rightIndex_any (nm : ByteArray) (A : Option Addr) (c n e nx : Nat) (u : Int) (l : List MarkM) (w : World) (hm : MaxCell w) (hg : 1 < w.heap.size) (hs : nm.size ≤ 9223372036854775807) (hu : ∀ q ∈ l, q.1 < 4294967296) (hnx : nx < 4294967296) (hl : l.length = n) (hn : n ≤ 9223372036854775807) (hr : Reads w w.heap.size 2 A n (mcells l)) :
    Calls Tryd.prog 31 #[.agg #[.string nm, .int .u32 (e : Nat), .int .u32 (nx : Nat), .int .i64 u, .slice A n c]] w fun ev w' => ev = .returned (.bool (rightIndexV nm e nx u l)) ∧ Below w.heap.size w w' := by
  refine calls_at 71 Tryd.func31 rfl rfl (Nat.le_of_ble_eq_true rfl) ?_
  intro a hA
  simp only [argsE, keepE, lookS, Nat.reduceBEq, cond_true, cond_false, Nat.reduceAdd, gv_tt, gv_ff, Bool.true_and, Bool.false_and, Bool.true_or, Bool.false_or] at hA
  refine wp_seq ?_
  refine wp_region_lit ?_
  -- stop box slot 1
  refine wl_new hA rfl rfl (by decide) (fun ev h => by simp [go_sem, h.get 0 rfl]; try first | exact ⟨rfl, rfl⟩ | rfl) fun w1 a1 (K : Blk _ _ _ _) hz hb0 hA1 => ?_
  replace hr := (hr.below hb0).more hb0.size
  replace hm := hm.below hg hb0; replace hg := Nat.lt_of_lt_of_le hg hb0.size
  have HB := Below.refl w1.heap.size w1
  refine wl_op hA1 rfl rfl (by decide) (fun ev h => by simp [go_sem, h.c, (K.below HB K.lt).cell]; try first | exact ⟨rfl, rfl⟩ | rfl) fun a2 hA2 => ?_
  refine wl_nil ?_
  refine n_then ?_
  have hA3 := hA2.keep [1]
  simp only [argsE, keepE, lookS, Nat.reduceBEq, cond_true, cond_false, Nat.reduceAdd, gv_tt, gv_ff, Bool.true_and, Bool.false_and, Bool.true_or, Bool.false_or] at hA3
  clear hA hA1 hA2 a1
  refine wp_seq ?_
  refine wp_region_lit ?_
  refine wl_op hA3 rfl rfl (by decide) (fun ev h => by simp [go_sem, h.c, (K.below HB K.lt).cell]; try first | exact ⟨rfl, rfl⟩ | rfl) fun a4 hA4 => ?_
  refine wl_nil ?_
  refine n_then ?_
  have hA5 := hA4.keep [1, 3]
  simp only [argsE, keepE, lookS, Nat.reduceBEq, cond_true, cond_false, Nat.reduceAdd, gv_tt, gv_ff, Bool.true_and, Bool.false_and, Bool.true_or, Bool.false_or] at hA5
  clear hA3 hA4 a2
  refine wp_seq ?_
  refine wp_seq ?_
  refine wp_region_lit ?_
  refine wl_op hA5 rfl rfl (by decide) (fun ev h => by simp [go_sem, h.get 1 rfl, (K.below HB K.lt).cell]; try first | exact ⟨rfl, rfl⟩ | rfl) fun a6 hA6 => ?_
  refine wl_op hA6 rfl rfl (by decide) (fun ev h => by simp [go_sem, h.get 6 rfl, (K.below HB K.lt).cell]; try first | exact ⟨rfl, rfl⟩ | rfl) fun a7 hA7 => ?_
  refine wl_op hA7 rfl rfl (by decide) (fun ev h => by simp [go_sem, h.get 7 rfl, (K.below HB K.lt).cell]; try first | exact ⟨rfl, rfl⟩ | rfl) fun a8 hA8 => ?_
  refine wl_op hA8 rfl rfl (by decide) (fun ev h => by simp [go_sem, h.c, (K.below HB K.lt).cell]; try first | exact ⟨rfl, rfl⟩ | rfl) fun a9 hA9 => ?_
  refine wl_nil ?_
  refine n_then ?_
  have hA10 := hA9.keep [1, 3, 7, 8, 9]
  simp only [argsE, keepE, lookS, Nat.reduceBEq, cond_true, cond_false, Nat.reduceAdd, gv_tt, gv_ff, Bool.true_and, Bool.false_and, Bool.true_or, Bool.false_or] at hA10
  clear hA5 hA6 hA7 hA8 hA9 a4 a6 a7 a8
  refine wp_block ?_
  -- loop
  refine wp_loop_at (fun k a wx => ∃ (j : Nat), j + k = n ∧ At 71 [(1, .pointer (some ⟨w.heap.size, 0, none⟩)), (3, .int .u32 (lastN l j : Nat)), (7, .slice A n c), (8, .int .i64 (n : Nat)), (9, .int .i64 (j : Nat))] a ∧ marksN (goodE nx) l j = true ∧ Below w1.heap.size w1 wx) (n) ?_ ?_
  · exact ⟨0, by omega, hA10, rfl, HB⟩
  rintro k a wx ⟨j, hjk, hA, hall, HB⟩
  refine wp_seq ?_
  refine wp_region_lit ?_
  refine wl_op hA rfl rfl (by decide) (fun ev h => by simp [go_sem, h.get 9 rfl, h.get 8 rfl, (K.below HB K.lt).cell]; try first | exact ⟨rfl, rfl⟩ | rfl) fun a11 hA11 => ?_
  refine wl_nil ?_
  refine n_then ?_
  have hA12 := hA11.keep [1, 3, 7, 8, 9, 10]
  simp only [argsE, keepE, lookS, Nat.reduceBEq, cond_true, cond_false, Nat.reduceAdd, gv_tt, gv_ff, Bool.true_and, Bool.false_and, Bool.true_or, Bool.false_or] at hA12
  clear hA hA11
  refine wp_seq ?_
  -- cond
  refine wp_if hA12 10 _ rfl (fun hq => ?yL) (fun hq => ?nL)
  case yL =>
    have hlt : j < n := by simp at hq; omega
    obtain ⟨x, hx⟩ : ∃ x, l[j]? = some x := ⟨_, List.getElem?_eq_getElem (by omega)⟩
    obtain ⟨ad, rfl, hadl, hc⟩ := hr.2 (by omega)
    obtain ⟨k0, k1⟩ := mark_at hc hx
    have hadl' : (ad.add (j * 2)).block < w1.heap.size := by rw [block_of_add]; exact hadl
    obtain ⟨xu, xf⟩ := x
    have hxu := hu _ (List.mem_of_getElem? hx)
    simp only at k0 k1 hxu
    have z0 := (HB.cell hadl').trans k0
    have z1 := (HB.cell (p := ⟨(ad.add (j * 2)).block, (ad.add (j * 2)).off + 1, none⟩) hadl').trans k1
    have jj0 : (0 : Int) ≤ (j : Int) := by omega
    have jj1 : (j : Int) < (n : Int) := by omega
    have K0 := K.below HB K.lt
    refine wp_skip ?_
    refine n_then ?_
    refine wp_seq ?_
    refine wp_block ?_
    refine wp_seq ?_
    refine wp_region_lit ?_
    refine wl_op hA12 rfl rfl (by decide) (fun ev h => by simp [go_sem, h.get 7 rfl, h.get 9 rfl, K0.cell, z0, z1, jj0, jj1]; try first | exact ⟨rfl, rfl⟩ | rfl) fun a13 hA13 => ?_
    refine wl_op hA13 rfl rfl (by decide) (fun ev h => by simp [go_sem, h.get 11 rfl, K0.cell, z0, z1, jj0, jj1]; try first | exact ⟨rfl, rfl⟩ | rfl) fun a14 hA14 => ?_
    -- stop alloc slot 5
    refine wl_local [.int .u32 (xu : Nat), .int .i64 xf] hA14 rfl rfl (by decide) (fun ev h => by simp [go_sem, K0.cell, z0, z1, jj0, jj1]; try first | exact ⟨rfl, rfl⟩ | rfl) rfl rfl (by rfl) (fun w1 g ev hb h => by simp [go_sem, h.get 5 rfl, h.get 12 rfl, K0.cell, z0, z1, jj0, jj1, setAll, hb.cell, hb.frozen]) fun w2 a15 (Ke : Blk _ _ _ _) hz hb hA15 => ?_
    replace K0 := K0.below hb K0.lt
    replace HB := HB.trans (hb.mono HB.size)
    refine wl_nil ?_
    refine n_then ?_
    have hA16 := hA15.keep [1, 3, 5, 7, 8, 9]
    simp only [argsE, keepE, lookS, Nat.reduceBEq, cond_true, cond_false, Nat.reduceAdd, gv_tt, gv_ff, Bool.true_and, Bool.false_and, Bool.true_or, Bool.false_or] at hA16
    clear hA12 hA13 hA14 hA15 a13 a14
    refine wp_seq ?_
    refine wp_seq ?_
    refine wp_region_lit ?_
    refine wl_op hA16 rfl rfl (by decide) (fun ev h => by simp [go_sem, h.get 5 rfl, K0.cell, Ke.cell]; try first | exact ⟨rfl, rfl⟩ | rfl) fun a17 hA17 => ?_
    refine wl_op hA17 rfl rfl (by decide) (fun ev h => by simp [go_sem, h.get 13 rfl, K0.cell, Ke.cell]; try first | exact ⟨rfl, rfl⟩ | rfl) fun a18 hA18 => ?_
    refine wl_op hA18 rfl rfl (by decide) (fun ev h => by simp [go_sem, h.get 3 rfl, K0.cell, Ke.cell]; try first | exact ⟨rfl, rfl⟩ | rfl) fun a19 hA19 => ?_
    refine wl_op hA19 rfl rfl (by decide) (fun ev h => by simp [go_sem, h.get 14 rfl, h.get 15 rfl, K0.cell, Ke.cell]; try first | exact ⟨rfl, rfl⟩ | rfl) fun a20 hA20 => ?_
    refine wl_op hA20 rfl rfl (by decide) (fun ev h => by simp [go_sem, h.get 16 rfl, K0.cell, Ke.cell]; try first | exact ⟨rfl, rfl⟩ | rfl) fun a21 hA21 => ?_
    refine wl_guard _ hA21 rfl rfl rfl rfl (by decide) (fun hq ev h => by simp [go_sem, (h.get 5 rfl), K0.cell, Ke.cell]; try first | exact ⟨rfl, rfl⟩ | rfl) fun a22 hA22 => ?_
    refine wl_guard _ hA22 rfl rfl rfl rfl (by decide) (fun hq ev h => by simp [go_sem, ((h.get 18 rfl).trans (gw_t (beq_t hq))), K0.cell, Ke.cell]; try first | exact ⟨rfl, rfl⟩ | rfl) fun a23 hA23 => ?_
    refine wl_guard _ hA23 rfl rfl rfl rfl (by decide) (fun hq ev h => by simp [go_sem, (h.get 1 rfl), K0.cell, Ke.cell]; try first | exact ⟨rfl, rfl⟩ | rfl) fun a24 hA24 => ?_
    refine wl_guard _ hA24 rfl rfl rfl rfl (by decide) (fun hq ev h => by simp [go_sem, ((h.get 20 rfl).trans (gw_t (beq_t hq))), K0.cell, Ke.cell]; try first | exact ⟨rfl, rfl⟩ | rfl) fun a25 hA25 => ?_
    refine wl_guard _ hA25 rfl rfl rfl rfl (by decide) (fun hq ev h => by simp [go_sem, ((h.get 19 rfl).trans (gw_t (beq_t hq))), ((h.get 21 rfl).trans (gw_t (beq_t hq))), K0.cell, Ke.cell]; try first | exact ⟨rfl, rfl⟩ | rfl) fun a26 hA26 => ?_
    refine wl_guard _ hA26 rfl rfl rfl rfl (by decide) (fun hq ev h => by simp [go_sem, ((h.get 22 rfl).trans (gw_t (beq_t hq))), K0.cell, Ke.cell]; try first | exact ⟨rfl, rfl⟩ | rfl) fun a27 hA27 => ?_
    refine wl_guard2 _ _ hA27 rfl rfl rfl rfl (by decide) (fun hq hr ev h => by simp [go_sem, (h.get 1 rfl), K0.cell, Ke.cell]; try first | exact ⟨rfl, rfl⟩ | rfl) fun a28 hA28 => ?_
    refine wl_guard2 _ _ hA28 rfl rfl rfl rfl (by decide) (fun hq hr ev h => by simp [go_sem, ((h.get 24 rfl).trans (gw_t (and_beq hq hr))), K0.cell, Ke.cell]; try first | exact ⟨rfl, rfl⟩ | rfl) fun a29 hA29 => ?_
    refine wl_guard2 _ _ hA29 rfl rfl rfl rfl (by decide) (fun hq hr ev h => by simp [go_sem, h.c, ((h.get 25 rfl).trans (gw_t (and_beq hq hr))), K0.cell, Ke.cell]; try first | exact ⟨rfl, rfl⟩ | rfl) fun a30 hA30 => ?_
    refine wl_guard _ hA30 rfl rfl rfl rfl (by decide) (fun hq ev h => by first | exact pick_and rfl (((h.get 23 rfl).trans (gw_t (beq_t hq)))) (((h.get 26 rfl).trans (gw_a (beq_t hq)))) (h.c _) | exact pick_or rfl (((h.get 23 rfl).trans (gw_t (beq_t hq)))) (((h.get 26 rfl).trans (gw_a (beq_t hq)))) (h.c _) | (simp [go_sem, h.c, ((h.get 23 rfl).trans (gw_t (beq_t hq))), ((h.get 26 rfl).trans (gw_a (beq_t hq))), K0.cell, Ke.cell, gv_or, gv_and]; try first | exact ⟨rfl, rfl⟩ | rfl)) fun a31 hA31 => ?_
    refine wl_op hA31 rfl rfl (by decide) (fun ev h => by first | exact pick_and rfl (h.get 17 rfl) (h.c _) (h.get 27 rfl) | exact pick_or rfl (h.get 17 rfl) (h.c _) (h.get 27 rfl) | (simp [go_sem, h.c, h.get 17 rfl, h.get 27 rfl, K0.cell, Ke.cell, gv_or, gv_and]; try first | exact ⟨rfl, rfl⟩ | rfl)) fun a32 hA32 => ?_
    refine wl_op hA32 rfl rfl (by decide) (fun ev h => by simp [go_sem, h.get 28 rfl, K0.cell, Ke.cell]; try first | exact ⟨rfl, rfl⟩ | rfl) fun a33 hA33 => ?_
    refine wl_guard _ hA33 rfl rfl rfl rfl (by decide) (fun hq ev h => by simp [go_sem, (h.get 5 rfl), K0.cell, Ke.cell]; try first | exact ⟨rfl, rfl⟩ | rfl) fun a34 hA34 => ?_
    refine wl_guard _ hA34 rfl rfl rfl rfl (by decide) (fun hq ev h => by simp [go_sem, ((h.get 30 rfl).trans (gw_t (beq_t hq))), K0.cell, Ke.cell]; try first | exact ⟨rfl, rfl⟩ | rfl) fun a35 hA35 => ?_
    refine wl_guard _ hA35 rfl rfl rfl rfl (by decide) (fun hq ev h => by simp [go_sem, h.c, ((h.get 31 rfl).trans (gw_t (beq_t hq))), K0.cell, Ke.cell]; try first | exact ⟨rfl, rfl⟩ | rfl) fun a36 hA36 => ?_
    refine wl_op hA36 rfl rfl (by decide) (fun ev h => by first | exact pick_and rfl (h.get 29 rfl) (h.c _) (h.get 32 rfl) | exact pick_or rfl (h.get 29 rfl) (h.c _) (h.get 32 rfl) | (simp [go_sem, h.c, h.get 29 rfl, h.get 32 rfl, K0.cell, Ke.cell, gv_or, gv_and]; try first | exact ⟨rfl, rfl⟩ | rfl)) fun a37 hA37 => ?_
    refine wl_op hA37 rfl rfl (by decide) (fun ev h => by simp [go_sem, h.get 33 rfl, K0.cell, Ke.cell]; try first | exact ⟨rfl, rfl⟩ | rfl) fun a38 hA38 => ?_
    refine wl_guard _ hA38 rfl rfl rfl rfl (by decide) (fun hq ev h => by simp [go_sem, (h.get 5 rfl), K0.cell, Ke.cell]; try first | exact ⟨rfl, rfl⟩ | rfl) fun a39 hA39 => ?_
    refine wl_guard _ hA39 rfl rfl rfl rfl (by decide) (fun hq ev h => by simp [go_sem, ((h.get 35 rfl).trans (gw_t (beq_t hq))), K0.cell, Ke.cell]; try first | exact ⟨rfl, rfl⟩ | rfl) fun a40 hA40 => ?_
    refine wl_guard _ hA40 rfl rfl rfl rfl (by decide) (fun hq ev h => by simp [go_sem, h.c, ((h.get 36 rfl).trans (gw_t (beq_t hq))), K0.cell, Ke.cell]; try first | exact ⟨rfl, rfl⟩ | rfl) fun a41 hA41 => ?_
    refine wl_op hA41 rfl rfl (by decide) (fun ev h => by first | exact pick_and rfl (h.get 34 rfl) (h.c _) (h.get 37 rfl) | exact pick_or rfl (h.get 34 rfl) (h.c _) (h.get 37 rfl) | (simp [go_sem, h.c, h.get 34 rfl, h.get 37 rfl, K0.cell, Ke.cell, gv_or, gv_and]; try first | exact ⟨rfl, rfl⟩ | rfl)) fun a42 hA42 => ?_
    refine wl_nil ?_
    refine n_then ?_
    have hA43 := hA42.keep [1, 5, 7, 8, 9, 38]
    simp only [argsE, keepE, lookS, Nat.reduceBEq, cond_true, cond_false, Nat.reduceAdd, gv_tt, gv_ff, Bool.true_and, Bool.false_and, Bool.true_or, Bool.false_or] at hA43
    clear hA16 hA17 hA18 hA19 hA20 hA21 hA22 hA23 hA24 hA25 hA26 hA27 hA28 hA29 hA30 hA31 hA32 hA33 hA34 hA35 hA36 hA37 hA38 hA39 hA40 hA41 hA42 a15 a17 a18 a19 a20 a21 a22 a23 a24 a25 a26 a27 a28 a29 a30 a31 a32 a33 a34 a35 a36 a37 a38 a39 a40 a41
    -- cond
    have hme := mstepE nx l j xu xf
    obtain ⟨q, hqe⟩ : ∃ q, (decide (xu ≤ lastN l j) || decide (nx ≤ xu) && ((nx : Int) != 4294967295) || decide (xf < 0) || decide (4294967295 < xf)) = q := ⟨_, rfl⟩
    rw [hqe] at hme hA43
    refine wp_if hA43 38 _ rfl (fun hq => ?yR) (fun hq => ?nR)
    case yR =>
      subst hq
      refine wp_seq ?_
      refine wp_region_lit ?_
      refine wl_op hA43 rfl rfl (by decide) (fun ev h => by simp [go_sem, h.c, K0.cell, Ke.cell]; try first | exact ⟨rfl, rfl⟩ | rfl) fun a44 hA44 => ?_
      refine wl_nil ?_
      refine n_then ?_
      have hA45 := hA44.keep [2]
      simp only [argsE, keepE, lookS, Nat.reduceBEq, cond_true, cond_false, Nat.reduceAdd, gv_tt, gv_ff, Bool.true_and, Bool.false_and, Bool.true_or, Bool.false_or] at hA45
      clear hA43 hA44
      refine wp_ret ?_
      refine r_then ?_
      refine r_block ?_
      refine r_then ?_
      refine r_then ?_
      refine r_block ?_
      refine r_then ?_
      refine ret_1 hA45 2 rfl rfl ?_
      exact ⟨ret_bool (by unfold rightIndexV; rw [marks_no hx hme]; simp), hb0.trans (HB.mono hb0.size)⟩
    case nR =>
      subst hq
      have hj1 : ((j : Int) + 1) = ((j + 1 : Nat) : Int) := by omega
      have hwj : IntKind.i64.wrap ((j : Int) + 1) = (j : Int) + 1 := IntWalk.i64_in _ (by omega)
      refine wp_skip ?_
      refine n_then ?_
      refine wp_region_lit ?_
      refine wl_op hA43 rfl rfl (by decide) (fun ev h => by simp [go_sem, h.get 5 rfl, K0.cell, Ke.cell, hwj]; try first | exact ⟨rfl, rfl⟩ | rfl) fun a46 hA46 => ?_
      refine wl_op hA46 rfl rfl (by decide) (fun ev h => by simp [go_sem, h.get 39 rfl, K0.cell, Ke.cell, hwj]; try first | exact ⟨rfl, rfl⟩ | rfl) fun a47 hA47 => ?_
      refine wl_op hA47 rfl rfl (by decide) (fun ev h => by simp [go_sem, h.get 40 rfl, K0.cell, Ke.cell, hwj]; try first | exact ⟨rfl, rfl⟩ | rfl) fun a48 hA48 => ?_
      refine wl_nil ?_
      refine n_block ?_
      refine n_then ?_
      have hA49 := hA48.keep [1, 3, 7, 8, 9]
      simp only [argsE, keepE, lookS, Nat.reduceBEq, cond_true, cond_false, Nat.reduceAdd, gv_tt, gv_ff, Bool.true_and, Bool.false_and, Bool.true_or, Bool.false_or] at hA49
      clear hA43 hA46 hA47 hA48 a46 a47
      refine wp_region_lit ?_
      refine wl_op hA49 rfl rfl (by decide) (fun ev h => by simp [go_sem, h.c, h.get 9 rfl, K0.cell, Ke.cell, hwj]; try first | exact ⟨rfl, rfl⟩ | rfl) fun a50 hA50 => ?_
      refine wl_op hA50 rfl rfl (by decide) (fun ev h => by simp [go_sem, h.get 41 rfl, K0.cell, Ke.cell, hwj]; try first | exact ⟨rfl, rfl⟩ | rfl) fun a51 hA51 => ?_
      refine wl_nil ?_
      refine n_then ?_
      have hA52 := hA51.keep [1, 3, 7, 8, 9]
      simp only [argsE, keepE, lookS, Nat.reduceBEq, cond_true, cond_false, Nat.reduceAdd, gv_tt, gv_ff, Bool.true_and, Bool.false_and, Bool.true_or, Bool.false_or] at hA52
      clear hA49 hA50 hA51 a48 a50
      -- round
      have hxl := lastN_succ hx
      simp only at hxl
      rw [← hxl, hj1] at hA52
      exact ⟨k - 1, by omega, j + 1, by omega, hA52, by rw [marksN_succ _ hx, hall, hme]; rfl, HB⟩
  case nL =>
    have hjn : j = n := by simp at hq; omega
    subst hjn
    have K0 := K.below HB K.lt
    refine wp_exit ?_
    refine x_then ?_
    refine x_then ?_
    refine x_block ?_
    refine n_then ?_
    have hA53 := hA12.keep [1]
    simp only [argsE, keepE, lookS, Nat.reduceBEq, cond_true, cond_false, Nat.reduceAdd, gv_tt, gv_ff, Bool.true_and, Bool.false_and, Bool.true_or, Bool.false_or] at hA53
    clear hA12
    refine wp_seq ?_
    refine wp_region_lit ?_
    refine wl_op hA53 rfl rfl (by decide) (fun ev h => by simp [go_sem, h.get 1 rfl, K0.cell]; try first | exact ⟨rfl, rfl⟩ | rfl) fun a54 hA54 => ?_
    refine wl_op hA54 rfl rfl (by decide) (fun ev h => by simp [go_sem, h.get 42 rfl, K0.cell]; try first | exact ⟨rfl, rfl⟩ | rfl) fun a55 hA55 => ?_
    -- stop call slot 44
    refine wl_call hA55 rfl rfl (by decide) (fun ev h => by simp [go_sem, h.get 43 rfl, K0.cell, h.f]; try first | exact ⟨rfl, rfl⟩ | rfl) (named_any nm hs wx (hm.below hg HB)) ?_
    rintro e w2 ⟨rfl, hb⟩
    refine ⟨_, rfl, fun a56 hA56 => ?_⟩
    replace K0 := K0.below hb K0.lt
    replace HB := HB.trans (hb.mono HB.size)
    refine wl_op hA56 rfl rfl (by decide) (fun ev h => by simp [go_sem, h.get 44 rfl, K0.cell]; try first | exact ⟨rfl, rfl⟩ | rfl) fun a57 hA57 => ?_
    refine wl_guard _ hA57 rfl rfl rfl rfl (by decide) (fun hq ev h => by simp [go_sem, (h.get 1 rfl), K0.cell]; try first | exact ⟨rfl, rfl⟩ | rfl) fun a58 hA58 => ?_
    refine wl_guard _ hA58 rfl rfl rfl rfl (by decide) (fun hq ev h => by simp [go_sem, ((h.get 46 rfl).trans (gw_t (beq_t hq))), K0.cell]; try first | exact ⟨rfl, rfl⟩ | rfl) fun a59 hA59 => ?_
    refine wl_guard _ hA59 rfl rfl rfl rfl (by decide) (fun hq ev h => by simp [go_sem, h.c, ((h.get 47 rfl).trans (gw_t (beq_t hq))), K0.cell]; try first | exact ⟨rfl, rfl⟩ | rfl) fun a60 hA60 => ?_
    refine wl_op hA60 rfl rfl (by decide) (fun ev h => by first | exact pick_and rfl (h.get 45 rfl) (h.get 48 rfl) (h.c _) | exact pick_or rfl (h.get 45 rfl) (h.get 48 rfl) (h.c _) | (simp [go_sem, h.c, h.get 45 rfl, h.get 48 rfl, K0.cell, gv_or, gv_and]; try first | exact ⟨rfl, rfl⟩ | rfl)) fun a61 hA61 => ?_
    refine wl_op hA61 rfl rfl (by decide) (fun ev h => by simp [go_sem, h.get 49 rfl, K0.cell]; try first | exact ⟨rfl, rfl⟩ | rfl) fun a62 hA62 => ?_
    refine wl_guard _ hA62 rfl rfl rfl rfl (by decide) (fun hq ev h => by simp [go_sem, (h.get 1 rfl), K0.cell]; try first | exact ⟨rfl, rfl⟩ | rfl) fun a63 hA63 => ?_
    refine wl_guard _ hA63 rfl rfl rfl rfl (by decide) (fun hq ev h => by simp [go_sem, ((h.get 51 rfl).trans (gw_t (beq_t hq))), K0.cell]; try first | exact ⟨rfl, rfl⟩ | rfl) fun a64 hA64 => ?_
    refine wl_guard _ hA64 rfl rfl rfl rfl (by decide) (fun hq ev h => by simp [go_sem, h.c, ((h.get 52 rfl).trans (gw_t (beq_t hq))), K0.cell]; try first | exact ⟨rfl, rfl⟩ | rfl) fun a65 hA65 => ?_
    refine wl_op hA65 rfl rfl (by decide) (fun ev h => by first | exact pick_and rfl (h.get 50 rfl) (h.get 53 rfl) (h.c _) | exact pick_or rfl (h.get 50 rfl) (h.get 53 rfl) (h.c _) | (simp [go_sem, h.c, h.get 50 rfl, h.get 53 rfl, K0.cell, gv_or, gv_and]; try first | exact ⟨rfl, rfl⟩ | rfl)) fun a66 hA66 => ?_
    refine wl_op hA66 rfl rfl (by decide) (fun ev h => by simp [go_sem, h.get 54 rfl, K0.cell]; try first | exact ⟨rfl, rfl⟩ | rfl) fun a67 hA67 => ?_
    refine wl_guard _ hA67 rfl rfl rfl rfl (by decide) (fun hq ev h => by simp [go_sem, (h.get 1 rfl), K0.cell]; try first | exact ⟨rfl, rfl⟩ | rfl) fun a68 hA68 => ?_
    refine wl_guard _ hA68 rfl rfl rfl rfl (by decide) (fun hq ev h => by simp [go_sem, ((h.get 56 rfl).trans (gw_t (beq_t hq))), K0.cell]; try first | exact ⟨rfl, rfl⟩ | rfl) fun a69 hA69 => ?_
    refine wl_guard _ hA69 rfl rfl rfl rfl (by decide) (fun hq ev h => by simp [go_sem, h.c, ((h.get 57 rfl).trans (gw_t (beq_t hq))), K0.cell]; try first | exact ⟨rfl, rfl⟩ | rfl) fun a70 hA70 => ?_
    refine wl_op hA70 rfl rfl (by decide) (fun ev h => by first | exact pick_and rfl (h.get 55 rfl) (h.get 58 rfl) (h.c _) | exact pick_or rfl (h.get 55 rfl) (h.get 58 rfl) (h.c _) | (simp [go_sem, h.c, h.get 55 rfl, h.get 58 rfl, K0.cell, gv_or, gv_and]; try first | exact ⟨rfl, rfl⟩ | rfl)) fun a71 hA71 => ?_
    refine wl_op hA71 rfl rfl (by decide) (fun ev h => by simp [go_sem, h.get 59 rfl, K0.cell]; try first | exact ⟨rfl, rfl⟩ | rfl) fun a72 hA72 => ?_
    refine wl_guard _ hA72 rfl rfl rfl rfl (by decide) (fun hq ev h => by simp [go_sem, (h.get 1 rfl), K0.cell]; try first | exact ⟨rfl, rfl⟩ | rfl) fun a73 hA73 => ?_
    refine wl_guard _ hA73 rfl rfl rfl rfl (by decide) (fun hq ev h => by simp [go_sem, ((h.get 61 rfl).trans (gw_t (beq_t hq))), K0.cell]; try first | exact ⟨rfl, rfl⟩ | rfl) fun a74 hA74 => ?_
    refine wl_guard _ hA74 rfl rfl rfl rfl (by decide) (fun hq ev h => by simp [go_sem, h.c, ((h.get 62 rfl).trans (gw_t (beq_t hq))), K0.cell]; try first | exact ⟨rfl, rfl⟩ | rfl) fun a75 hA75 => ?_
    refine wl_op hA75 rfl rfl (by decide) (fun ev h => by first | exact pick_and rfl (h.get 60 rfl) (h.get 63 rfl) (h.c _) | exact pick_or rfl (h.get 60 rfl) (h.get 63 rfl) (h.c _) | (simp [go_sem, h.c, h.get 60 rfl, h.get 63 rfl, K0.cell, gv_or, gv_and]; try first | exact ⟨rfl, rfl⟩ | rfl)) fun a76 hA76 => ?_
    refine wl_op hA76 rfl rfl (by decide) (fun ev h => by simp [go_sem, h.get 64 rfl, K0.cell]; try first | exact ⟨rfl, rfl⟩ | rfl) fun a77 hA77 => ?_
    refine wl_guard _ hA77 rfl rfl rfl rfl (by decide) (fun hq ev h => by simp [go_sem, (h.get 1 rfl), K0.cell]; try first | exact ⟨rfl, rfl⟩ | rfl) fun a78 hA78 => ?_
    refine wl_guard _ hA78 rfl rfl rfl rfl (by decide) (fun hq ev h => by simp [go_sem, ((h.get 66 rfl).trans (gw_t (beq_t hq))), K0.cell]; try first | exact ⟨rfl, rfl⟩ | rfl) fun a79 hA79 => ?_
    refine wl_guard _ hA79 rfl rfl rfl rfl (by decide) (fun hq ev h => by simp [go_sem, ((h.get 67 rfl).trans (gw_t (beq_t hq))), K0.cell]; try first | exact ⟨rfl, rfl⟩ | rfl) fun a80 hA80 => ?_
    refine wl_guard _ hA80 rfl rfl rfl rfl (by decide) (fun hq ev h => by simp [go_sem, h.c, ((h.get 68 rfl).trans (gw_t (beq_t hq))), K0.cell]; try first | exact ⟨rfl, rfl⟩ | rfl) fun a81 hA81 => ?_
    refine wl_op hA81 rfl rfl (by decide) (fun ev h => by first | exact pick_and rfl (h.get 65 rfl) (h.get 69 rfl) (h.c _) | exact pick_or rfl (h.get 65 rfl) (h.get 69 rfl) (h.c _) | (simp [go_sem, h.c, h.get 65 rfl, h.get 69 rfl, K0.cell, gv_or, gv_and]; try first | exact ⟨rfl, rfl⟩ | rfl)) fun a82 hA82 => ?_
    refine wl_op hA82 rfl rfl (by decide) (fun ev h => by simp [go_sem, h.get 70 rfl, K0.cell]; try first | exact ⟨rfl, rfl⟩ | rfl) fun a83 hA83 => ?_
    refine wl_nil ?_
    refine n_then ?_
    have hA84 := hA83.keep [2]
    simp only [argsE, keepE, lookS, Nat.reduceBEq, cond_true, cond_false, Nat.reduceAdd, gv_tt, gv_ff, Bool.true_and, Bool.false_and, Bool.true_or, Bool.false_or] at hA84
    clear hA53 hA54 hA55 hA56 hA57 hA58 hA59 hA60 hA61 hA62 hA63 hA64 hA65 hA66 hA67 hA68 hA69 hA70 hA71 hA72 hA73 hA74 hA75 hA76 hA77 hA78 hA79 hA80 hA81 hA82 hA83 a54 a55 a56 a57 a58 a59 a60 a61 a62 a63 a64 a65 a66 a67 a68 a69 a70 a71 a72 a73 a74 a75 a76 a77 a78 a79 a80 a81 a82
    refine wp_ret ?_
    refine ret_1 hA84 2 rfl rfl ?_
    exact ⟨ret_bool (by unfold rightIndexV; rw [hl, hall]; simp only [one_le, nat_le500, Bool.true_and]), hb0.trans (HB.mono hb0.size)⟩
end Go.Proofs.YtljclehhicmkhaaDoor
