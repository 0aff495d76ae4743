/-
  Walk: a mailbox that is right.
-/
import Derived.Test.YtbbhblnhbgkcaaaDoorFits
namespace Go.Proofs.YtbbhblnhbgkcaaaDoor
open Go.RowKit
set_option linter.unusedSimpArgs false
set_option linter.unusedVariables false
theorem msgStepE (nx : Nat) (l : List MsgV) (j : Nat) (m : MsgV) : msgStep nx l j m = !(decide (m.uid ≤ lastU l j) || decide (nx ≤ m.uid) || !fitsDF m.date m.flags || decide (20000 < m.b.length)) := by
  unfold msgStep fitsV
  rw [Bool.eq_iff_iff]
  simp
theorem headE (nm : ByteArray) (e nx n : Nat) : (!(normV nm).snd || !(normV nm).fst.toList == nm.toList || decide ((e : Int) < 1) || decide ((nx : Int) < 1) || decide ((500 : Int) < (n : Int))) = !(nameIs nm && decide (1 ≤ e) && decide (1 ≤ nx) && decide (n ≤ 500)) := by
  unfold nameIs
  rw [show decide ((e : Int) < 1) = !decide (1 ≤ e) by rw [Bool.eq_iff_iff]; simp; omega, show decide ((nx : Int) < 1) = !decide (1 ≤ nx) by rw [Bool.eq_iff_iff]; simp; omega, show decide ((500 : Int) < (n : Int)) = !decide (n ≤ 500) by rw [Bool.eq_iff_iff]; simp; omega]
  simp only [Bool.not_and]
theorem nat_lt20000 (n : Nat) : decide ((20000 : Int) < (n : Int)) = decide (20000 < n) := by rw [Bool.eq_iff_iff]; simp; omega
set_option maxRecDepth 100000 in
set_option maxHeartbeats 1000000 in
theorem right_any (nm : ByteArray) (A : Option Addr) (c n e nx : Nat) (l : List MsgV) (w : World) (hm : MaxCell w) (hg : 1 < w.heap.size) (htab : Lib.TabIs Tryd.prog w "internal/strconv.uint64pow10" .u64 Lib.pow10Tab) (hs : nm.size ≤ 9223372036854775807) (hn : n ≤ 9223372036854775807) (hr : Msgs w A n l) :
    Calls Tryd.prog 12 #[.agg (boxC nm e nx A n c)] w fun ev w' => ev = .returned (.bool (boxRight nm e nx l)) ∧ Below w.heap.size w w' := by
  have Ht := Lib.tabBelow_of_tabIs htab
  obtain ⟨mx, hmx⟩ := hm
  have hl := hr.len
  refine calls_at 70 Tryd.func12 rfl rfl (Nat.le_of_ble_eq_true rfl) ?_
  intro a hA
  simp only [argsE, keepE, lookS, Nat.reduceBEq, cond_true, cond_false, Nat.reduceAdd, gv_tt, gv_ff, Bool.true_and, Bool.false_and, Bool.true_or, Bool.false_or] at hA
  refine wp_seq ?_
  refine wp_region_lit ?_
  -- stop box slot 1
  refine wl_new hA rfl rfl (by decide) (fun ev h => by simp [go_sem, h.get 0 rfl]; try first | exact ⟨rfl, rfl⟩ | rfl) fun w1 a1 (K : Blk _ _ _ _) hz hb0 hA1 => ?_
  replace hr := hr.below hb0
  have HB := Below.refl w1.heap.size w1
  unfold boxC at K
  refine wl_op hA1 rfl rfl (by decide) (fun ev h => by simp [go_sem, h.c, (K.below HB K.lt).cell]; try first | exact ⟨rfl, rfl⟩ | rfl) fun a2 hA2 => ?_
  refine wl_nil ?_
  refine n_then ?_
  have hA3 := hA2.keep [1]
  simp only [argsE, keepE, lookS, Nat.reduceBEq, cond_true, cond_false, Nat.reduceAdd, gv_tt, gv_ff, Bool.true_and, Bool.false_and, Bool.true_or, Bool.false_or] at hA3
  clear hA hA1 hA2 a1
  refine wp_seq ?_
  refine wp_region_lit ?_
  refine wl_op hA3 rfl rfl (by decide) (fun ev h => by simp [go_sem, h.get 1 rfl, (K.below HB K.lt).cell]; try first | exact ⟨rfl, rfl⟩ | rfl) fun a4 hA4 => ?_
  refine wl_op hA4 rfl rfl (by decide) (fun ev h => by simp [go_sem, h.get 9 rfl, (K.below HB K.lt).cell]; try first | exact ⟨rfl, rfl⟩ | rfl) fun a5 hA5 => ?_
  -- stop call slot 11
  refine wl_call hA5 rfl rfl (by decide) (fun ev h => by simp [go_sem, h.get 10 rfl, (K.below HB K.lt).cell, h.f]; try first | exact ⟨rfl, rfl⟩ | rfl) (norm_all nm mx _ hs ((hb0.cell hg).trans hmx)) ?_
  rintro e w2 ⟨rfl, hb⟩
  refine ⟨_, rfl, fun a6 hA6 => ?_⟩
  replace HB := HB.trans (hb.mono HB.size)
  have K0 := K.below HB K.lt
  refine wl_op hA6 rfl rfl (by decide) (fun ev h => by simp [go_sem, h.get 11 rfl, K0.cell]; try first | exact ⟨rfl, rfl⟩ | rfl) fun a7 hA7 => ?_
  refine wl_op hA7 rfl rfl (by decide) (fun ev h => by simp [go_sem, h.get 8 rfl, K0.cell]; try first | exact ⟨rfl, rfl⟩ | rfl) fun a8 hA8 => ?_
  refine wl_op hA8 rfl rfl (by decide) (fun ev h => by simp [go_sem, h.get 8 rfl, K0.cell]; try first | exact ⟨rfl, rfl⟩ | rfl) fun a9 hA9 => ?_
  refine wl_op hA9 rfl rfl (by decide) (fun ev h => by simp [go_sem, h.get 12 rfl, K0.cell]; try first | exact ⟨rfl, rfl⟩ | rfl) fun a10 hA10 => ?_
  refine wl_op hA10 rfl rfl (by decide) (fun ev h => by simp [go_sem, h.get 13 rfl, K0.cell]; try first | exact ⟨rfl, rfl⟩ | rfl) fun a11 hA11 => ?_
  refine wl_nil ?_
  refine n_then ?_
  have hA12 := hA11.keep [1, 3, 4]
  simp only [argsE, keepE, lookS, Nat.reduceBEq, cond_true, cond_false, Nat.reduceAdd, gv_tt, gv_ff, Bool.true_and, Bool.false_and, Bool.true_or, Bool.false_or] at hA12
  clear hA3 hA4 hA5 hA6 hA7 hA8 hA9 hA10 hA11 a2 a4 a5 a6 a7 a8 a9 a10
  refine wp_seq ?_
  refine wp_seq ?_
  refine wp_region_lit ?_
  refine wl_op hA12 rfl rfl (by decide) (fun ev h => by simp [go_sem, h.get 4 rfl, K0.cell]; try first | exact ⟨rfl, rfl⟩ | rfl) fun a13 hA13 => ?_
  refine wl_op hA13 rfl rfl (by decide) (fun ev h => by simp [go_sem, h.get 14 rfl, K0.cell]; try first | exact ⟨rfl, rfl⟩ | rfl) fun a14 hA14 => ?_
  refine wl_op hA14 rfl rfl (by decide) (fun ev h => by simp [go_sem, h.get 15 rfl, K0.cell]; try first | exact ⟨rfl, rfl⟩ | rfl) fun a15 hA15 => ?_
  refine wl_guard _ hA15 rfl rfl rfl rfl (by decide) (fun hq ev h => by simp [go_sem, (h.get 3 rfl), K0.cell]; try first | exact ⟨rfl, rfl⟩ | rfl) fun a16 hA16 => ?_
  refine wl_guard _ hA16 rfl rfl rfl rfl (by decide) (fun hq ev h => by simp [go_sem, (h.get 1 rfl), K0.cell]; try first | exact ⟨rfl, rfl⟩ | rfl) fun a17 hA17 => ?_
  refine wl_guard _ hA17 rfl rfl rfl rfl (by decide) (fun hq ev h => by simp [go_sem, ((h.get 18 rfl).trans (gw_t (beq_t hq))), K0.cell]; try first | exact ⟨rfl, rfl⟩ | rfl) fun a18 hA18 => ?_
  refine wl_guard _ hA18 rfl rfl rfl rfl (by decide) (fun hq ev h => by simp [go_sem, ((h.get 17 rfl).trans (gw_t (beq_t hq))), ((h.get 19 rfl).trans (gw_t (beq_t hq))), K0.cell]; try first | exact ⟨rfl, rfl⟩ | rfl) fun a19 hA19 => ?_
  refine wl_op hA19 rfl rfl (by decide) (fun ev h => by first | exact pick_and rfl (h.get 16 rfl) (h.c _) (h.get 20 rfl) | exact pick_or rfl (h.get 16 rfl) (h.c _) (h.get 20 rfl) | (simp [go_sem, h.c, h.get 16 rfl, h.get 20 rfl, K0.cell, gv_or, gv_and]; try first | exact ⟨rfl, rfl⟩ | rfl)) fun a20 hA20 => ?_
  refine wl_op hA20 rfl rfl (by decide) (fun ev h => by simp [go_sem, h.get 21 rfl, K0.cell]; try first | exact ⟨rfl, rfl⟩ | rfl) fun a21 hA21 => ?_
  refine wl_guard _ hA21 rfl rfl rfl rfl (by decide) (fun hq ev h => by simp [go_sem, (h.get 1 rfl), K0.cell]; try first | exact ⟨rfl, rfl⟩ | rfl) fun a22 hA22 => ?_
  refine wl_guard _ hA22 rfl rfl rfl rfl (by decide) (fun hq ev h => by simp [go_sem, ((h.get 23 rfl).trans (gw_t (beq_t hq))), K0.cell]; try first | exact ⟨rfl, rfl⟩ | rfl) fun a23 hA23 => ?_
  refine wl_guard _ hA23 rfl rfl rfl rfl (by decide) (fun hq ev h => by simp [go_sem, h.c, ((h.get 24 rfl).trans (gw_t (beq_t hq))), K0.cell]; try first | exact ⟨rfl, rfl⟩ | rfl) fun a24 hA24 => ?_
  refine wl_op hA24 rfl rfl (by decide) (fun ev h => by first | exact pick_and rfl (h.get 22 rfl) (h.c _) (h.get 25 rfl) | exact pick_or rfl (h.get 22 rfl) (h.c _) (h.get 25 rfl) | (simp [go_sem, h.c, h.get 22 rfl, h.get 25 rfl, K0.cell, gv_or, gv_and]; try first | exact ⟨rfl, rfl⟩ | rfl)) fun a25 hA25 => ?_
  refine wl_op hA25 rfl rfl (by decide) (fun ev h => by simp [go_sem, h.get 26 rfl, K0.cell]; try first | exact ⟨rfl, rfl⟩ | rfl) fun a26 hA26 => ?_
  refine wl_guard _ hA26 rfl rfl rfl rfl (by decide) (fun hq ev h => by simp [go_sem, (h.get 1 rfl), K0.cell]; try first | exact ⟨rfl, rfl⟩ | rfl) fun a27 hA27 => ?_
  refine wl_guard _ hA27 rfl rfl rfl rfl (by decide) (fun hq ev h => by simp [go_sem, ((h.get 28 rfl).trans (gw_t (beq_t hq))), K0.cell]; try first | exact ⟨rfl, rfl⟩ | rfl) fun a28 hA28 => ?_
  refine wl_guard _ hA28 rfl rfl rfl rfl (by decide) (fun hq ev h => by simp [go_sem, h.c, ((h.get 29 rfl).trans (gw_t (beq_t hq))), K0.cell]; try first | exact ⟨rfl, rfl⟩ | rfl) fun a29 hA29 => ?_
  refine wl_op hA29 rfl rfl (by decide) (fun ev h => by first | exact pick_and rfl (h.get 27 rfl) (h.c _) (h.get 30 rfl) | exact pick_or rfl (h.get 27 rfl) (h.c _) (h.get 30 rfl) | (simp [go_sem, h.c, h.get 27 rfl, h.get 30 rfl, K0.cell, gv_or, gv_and]; try first | exact ⟨rfl, rfl⟩ | rfl)) fun a30 hA30 => ?_
  refine wl_op hA30 rfl rfl (by decide) (fun ev h => by simp [go_sem, h.get 31 rfl, K0.cell]; try first | exact ⟨rfl, rfl⟩ | rfl) fun a31 hA31 => ?_
  refine wl_guard _ hA31 rfl rfl rfl rfl (by decide) (fun hq ev h => by simp [go_sem, (h.get 1 rfl), K0.cell]; try first | exact ⟨rfl, rfl⟩ | rfl) fun a32 hA32 => ?_
  refine wl_guard _ hA32 rfl rfl rfl rfl (by decide) (fun hq ev h => by simp [go_sem, ((h.get 33 rfl).trans (gw_t (beq_t hq))), K0.cell]; try first | exact ⟨rfl, rfl⟩ | rfl) fun a33 hA33 => ?_
  refine wl_guard _ hA33 rfl rfl rfl rfl (by decide) (fun hq ev h => by simp [go_sem, ((h.get 34 rfl).trans (gw_t (beq_t hq))), K0.cell]; try first | exact ⟨rfl, rfl⟩ | rfl) fun a34 hA34 => ?_
  refine wl_guard _ hA34 rfl rfl rfl rfl (by decide) (fun hq ev h => by simp [go_sem, h.c, ((h.get 35 rfl).trans (gw_t (beq_t hq))), K0.cell]; try first | exact ⟨rfl, rfl⟩ | rfl) fun a35 hA35 => ?_
  refine wl_op hA35 rfl rfl (by decide) (fun ev h => by first | exact pick_and rfl (h.get 32 rfl) (h.c _) (h.get 36 rfl) | exact pick_or rfl (h.get 32 rfl) (h.c _) (h.get 36 rfl) | (simp [go_sem, h.c, h.get 32 rfl, h.get 36 rfl, K0.cell, gv_or, gv_and]; try first | exact ⟨rfl, rfl⟩ | rfl)) fun a36 hA36 => ?_
  refine wl_nil ?_
  refine n_then ?_
  have hA37 := hA36.keep [1, 37]
  simp only [argsE, keepE, lookS, Nat.reduceBEq, cond_true, cond_false, Nat.reduceAdd, gv_tt, gv_ff, Bool.true_and, Bool.false_and, Bool.true_or, Bool.false_or] at hA37
  clear hA12 hA13 hA14 hA15 hA16 hA17 hA18 hA19 hA20 hA21 hA22 hA23 hA24 hA25 hA26 hA27 hA28 hA29 hA30 hA31 hA32 hA33 hA34 hA35 hA36 a11 a13 a14 a15 a16 a17 a18 a19 a20 a21 a22 a23 a24 a25 a26 a27 a28 a29 a30 a31 a32 a33 a34 a35
  -- cond
  obtain ⟨q, hqe⟩ : ∃ q, (nameIs nm && decide (1 ≤ e) && decide (1 ≤ nx) && decide (n ≤ 500)) = q := ⟨_, rfl⟩
  rw [headE, hqe] at hA37
  have hbr : boxRight nm e nx l = (q && msgsN nx l n) := by unfold boxRight; rw [hl, hqe]
  rw [hbr]
  refine wp_if hA37 37 _ rfl (fun hq => ?yA) (fun hq => ?nA)
  case yA =>
    have hq : q = false := by simpa using hq
    subst hq
    refine wp_seq ?_
    refine wp_region_lit ?_
    refine wl_op hA37 rfl rfl (by decide) (fun ev h => by simp [go_sem, h.c, K0.cell]; try first | exact ⟨rfl, rfl⟩ | rfl) fun a38 hA38 => ?_
    refine wl_nil ?_
    refine n_then ?_
    have hA39 := hA38.keep [2]
    simp only [argsE, keepE, lookS, Nat.reduceBEq, cond_true, cond_false, Nat.reduceAdd, gv_tt, gv_ff, Bool.true_and, Bool.false_and, Bool.true_or, Bool.false_or] at hA39
    clear hA37 hA38
    refine wp_ret ?_
    refine r_then ?_
    refine ret_1 hA39 2 rfl rfl ?_
    exact ⟨rfl, hb0.trans (HB.mono hb0.size)⟩
  case nA =>
    have hq : q = true := by simpa using hq
    subst hq
    rw [Bool.true_and]
    refine wp_skip ?_
    refine n_then ?_
    refine wp_seq ?_
    refine wp_region_lit ?_
    refine wl_op hA37 rfl rfl (by decide) (fun ev h => by simp [go_sem, h.c, K0.cell]; try first | exact ⟨rfl, rfl⟩ | rfl) fun a40 hA40 => ?_
    refine wl_nil ?_
    refine n_then ?_
    have hA41 := hA40.keep [1, 5]
    simp only [argsE, keepE, lookS, Nat.reduceBEq, cond_true, cond_false, Nat.reduceAdd, gv_tt, gv_ff, Bool.true_and, Bool.false_and, Bool.true_or, Bool.false_or] at hA41
    clear hA37 hA40
    refine wp_seq ?_
    refine wp_seq ?_
    refine wp_region_lit ?_
    refine wl_op hA41 rfl rfl (by decide) (fun ev h => by simp [go_sem, h.get 1 rfl, K0.cell]; try first | exact ⟨rfl, rfl⟩ | rfl) fun a42 hA42 => ?_
    refine wl_op hA42 rfl rfl (by decide) (fun ev h => by simp [go_sem, h.get 38 rfl, K0.cell]; try first | exact ⟨rfl, rfl⟩ | rfl) fun a43 hA43 => ?_
    refine wl_op hA43 rfl rfl (by decide) (fun ev h => by simp [go_sem, h.get 39 rfl, K0.cell]; try first | exact ⟨rfl, rfl⟩ | rfl) fun a44 hA44 => ?_
    refine wl_op hA44 rfl rfl (by decide) (fun ev h => by simp [go_sem, h.c, K0.cell]; try first | exact ⟨rfl, rfl⟩ | rfl) fun a45 hA45 => ?_
    refine wl_nil ?_
    refine n_then ?_
    have hA46 := hA45.keep [1, 5, 39, 40, 41]
    simp only [argsE, keepE, lookS, Nat.reduceBEq, cond_true, cond_false, Nat.reduceAdd, gv_tt, gv_ff, Bool.true_and, Bool.false_and, Bool.true_or, Bool.false_or] at hA46
    clear hA41 hA42 hA43 hA44 hA45 a40 a42 a43 a44
    refine wp_block ?_
    -- loop
    refine wp_loop_at (fun k a wx => ∃ (j : Nat), j + k = n ∧ At 70 [(1, .pointer (some ⟨w.heap.size, 0, none⟩)), (5, .int .u32 (lastU l j : Nat)), (39, .slice A n c), (40, .int .i64 (n : Nat)), (41, .int .i64 (j : Nat))] a ∧ msgsN nx l j = true ∧ Below w1.heap.size w1 wx) (n) ?_ ?_
    · exact ⟨0, by omega, hA46, rfl, HB⟩
    clear HB K0
    rintro k a wx ⟨j, hjk, hA, hall, HB⟩
    refine wp_seq ?_
    refine wp_region_lit ?_
    refine wl_op hA rfl rfl (by decide) (fun ev h => by simp [go_sem, h.get 41 rfl, h.get 40 rfl]; try first | exact ⟨rfl, rfl⟩ | rfl) fun a47 hA47 => ?_
    refine wl_nil ?_
    refine n_then ?_
    have hA48 := hA47.keep [1, 5, 39, 40, 41, 42]
    simp only [argsE, keepE, lookS, Nat.reduceBEq, cond_true, cond_false, Nat.reduceAdd, gv_tt, gv_ff, Bool.true_and, Bool.false_and, Bool.true_or, Bool.false_or] at hA48
    clear hA hA47
    refine wp_seq ?_
    -- cond
    refine wp_if hA48 42 _ rfl (fun hq => ?yL) (fun hq => ?nL)
    case yL =>
      have hlt : j < n := by simp at hq; omega
      obtain ⟨x, hx⟩ : ∃ x, l[j]? = some x := ⟨_, List.getElem?_eq_getElem (by omega)⟩
      obtain ⟨ad, rfl, hadl, k0, k1, k2, k3⟩ := hr.at_ hx
      have z0 := (HB.cell hadl).trans k0
      have z1 := (HB.cell (p := ⟨(ad.add (j * 4)).block, (ad.add (j * 4)).off + 1, none⟩) hadl).trans k1
      have z2 := (HB.cell (p := ⟨(ad.add (j * 4)).block, (ad.add (j * 4)).off + 2, none⟩) hadl).trans k2
      have z3 := (HB.cell (p := ⟨(ad.add (j * 4)).block, (ad.add (j * 4)).off + 3, none⟩) hadl).trans k3
      have jj0 : (0 : Int) ≤ (j : Int) := by omega
      have jj1 : (j : Int) < (n : Int) := by omega
      have hwj : IntKind.i64.wrap ((j : Int) + 1) = (j : Int) + 1 := IntWalk.i64_in _ (by omega)
      have K0 := K.below HB K.lt
      refine wp_skip ?_
      refine n_then ?_
      refine wp_seq ?_
      refine wp_block ?_
      refine wp_seq ?_
      refine wp_region_lit ?_
      refine wl_op hA48 rfl rfl (by decide) (fun ev h => by simp [go_sem, h.get 39 rfl, h.get 41 rfl, K0.cell, z0, z1, z2, z3, jj0, jj1]; try first | exact ⟨rfl, rfl⟩ | rfl) fun a49 hA49 => ?_
      refine wl_op hA49 rfl rfl (by decide) (fun ev h => by simp [go_sem, h.get 43 rfl, K0.cell, z0, z1, z2, z3, jj0, jj1]; try first | exact ⟨rfl, rfl⟩ | rfl) fun a50 hA50 => ?_
      -- stop alloc slot 7
      refine wl_local [.int .u32 (x.uid : Nat), .int .i64 x.date, .int .i64 x.flags, .slice x.a x.b.length x.c] hA50 rfl rfl (by decide) (fun ev h => by simp [go_sem, K0.cell, z0, z1, z2, z3, jj0, jj1]; try first | exact ⟨rfl, rfl⟩ | rfl) rfl rfl (by rfl) (fun w1 g ev hb h => by simp [go_sem, h.get 7 rfl, h.get 44 rfl, K0.cell, z0, z1, z2, z3, jj0, jj1, setAll, hb.cell, hb.frozen]) fun w5 a51 (Ke : Blk _ _ _ _) hz5 hb hA51 => ?_
      replace K0 := K0.below hb K0.lt
      replace HB := HB.trans (hb.mono HB.size)
      refine wl_nil ?_
      refine n_then ?_
      have hA52 := hA51.keep [1, 5, 7, 39, 40, 41]
      simp only [argsE, keepE, lookS, Nat.reduceBEq, cond_true, cond_false, Nat.reduceAdd, gv_tt, gv_ff, Bool.true_and, Bool.false_and, Bool.true_or, Bool.false_or] at hA52
      clear hA48 hA49 hA50 hA51 a49 a50
      refine wp_seq ?_
      refine wp_seq ?_
      refine wp_region_lit ?_
      refine wl_op hA52 rfl rfl (by decide) (fun ev h => by simp [go_sem, h.get 7 rfl, K0.cell, Ke.cell]; try first | exact ⟨rfl, rfl⟩ | rfl) fun a53 hA53 => ?_
      refine wl_op hA53 rfl rfl (by decide) (fun ev h => by simp [go_sem, h.get 45 rfl, K0.cell, Ke.cell]; try first | exact ⟨rfl, rfl⟩ | rfl) fun a54 hA54 => ?_
      refine wl_op hA54 rfl rfl (by decide) (fun ev h => by simp [go_sem, h.get 5 rfl, K0.cell, Ke.cell]; try first | exact ⟨rfl, rfl⟩ | rfl) fun a55 hA55 => ?_
      refine wl_op hA55 rfl rfl (by decide) (fun ev h => by simp [go_sem, h.get 46 rfl, h.get 47 rfl, K0.cell, Ke.cell]; try first | exact ⟨rfl, rfl⟩ | rfl) fun a56 hA56 => ?_
      refine wl_op hA56 rfl rfl (by decide) (fun ev h => by simp [go_sem, h.get 48 rfl, K0.cell, Ke.cell]; try first | exact ⟨rfl, rfl⟩ | rfl) fun a57 hA57 => ?_
      refine wl_guard _ hA57 rfl rfl rfl rfl (by decide) (fun hq ev h => by simp [go_sem, (h.get 7 rfl), K0.cell, Ke.cell]; try first | exact ⟨rfl, rfl⟩ | rfl) fun a58 hA58 => ?_
      refine wl_guard _ hA58 rfl rfl rfl rfl (by decide) (fun hq ev h => by simp [go_sem, ((h.get 50 rfl).trans (gw_t (beq_t hq))), K0.cell, Ke.cell]; try first | exact ⟨rfl, rfl⟩ | rfl) fun a59 hA59 => ?_
      refine wl_guard _ hA59 rfl rfl rfl rfl (by decide) (fun hq ev h => by simp [go_sem, (h.get 1 rfl), K0.cell, Ke.cell]; try first | exact ⟨rfl, rfl⟩ | rfl) fun a60 hA60 => ?_
      refine wl_guard _ hA60 rfl rfl rfl rfl (by decide) (fun hq ev h => by simp [go_sem, ((h.get 52 rfl).trans (gw_t (beq_t hq))), K0.cell, Ke.cell]; try first | exact ⟨rfl, rfl⟩ | rfl) fun a61 hA61 => ?_
      refine wl_guard _ hA61 rfl rfl rfl rfl (by decide) (fun hq ev h => by simp [go_sem, ((h.get 51 rfl).trans (gw_t (beq_t hq))), ((h.get 53 rfl).trans (gw_t (beq_t hq))), K0.cell, Ke.cell]; try first | exact ⟨rfl, rfl⟩ | rfl) fun a62 hA62 => ?_
      refine wl_op hA62 rfl rfl (by decide) (fun ev h => by first | exact pick_and rfl (h.get 49 rfl) (h.c _) (h.get 54 rfl) | exact pick_or rfl (h.get 49 rfl) (h.c _) (h.get 54 rfl) | (simp [go_sem, h.c, h.get 49 rfl, h.get 54 rfl, K0.cell, Ke.cell, gv_or, gv_and]; try first | exact ⟨rfl, rfl⟩ | rfl)) fun a63 hA63 => ?_
      refine wl_op hA63 rfl rfl (by decide) (fun ev h => by simp [go_sem, h.get 55 rfl, K0.cell, Ke.cell]; try first | exact ⟨rfl, rfl⟩ | rfl) fun a64 hA64 => ?_
      refine wl_guard _ hA64 rfl rfl rfl rfl (by decide) (fun hq ev h => by simp [go_sem, (h.get 7 rfl), K0.cell, Ke.cell]; try first | exact ⟨rfl, rfl⟩ | rfl) fun a65 hA65 => ?_
      -- stop call slot 58
      refine wl_gcallv _ hA65 rfl rfl rfl rfl (by decide) (fun hq ev h => by simp [go_sem, ((h.get 57 rfl).trans (gw_t (beq_t hq))), K0.cell, Ke.cell, h.f]; try first | exact ⟨rfl, rfl⟩ | rfl) (fun hq => fits_any (x.uid : Nat) x.date x.flags x.a x.b.length x.c _ (Ht _ (hb0.trans (HB.mono hb0.size)))) fun a66 w6 hb hA66 => ?_
      replace K0 := K0.below hb K0.lt
      replace HB := HB.trans (hb.mono HB.size)
      replace Ke := Ke.below hb Ke.lt
      refine wl_guard _ hA66 rfl rfl rfl rfl (by decide) (fun hq ev h => by simp [go_sem, ((h.get 58 rfl).trans (gw_t (beq_t hq))), K0.cell, Ke.cell]; try first | exact ⟨rfl, rfl⟩ | rfl) fun a67 hA67 => ?_
      refine wl_op hA67 rfl rfl (by decide) (fun ev h => by first | exact pick_and rfl (h.get 56 rfl) (h.c _) (h.get 59 rfl) | exact pick_or rfl (h.get 56 rfl) (h.c _) (h.get 59 rfl) | (simp [go_sem, h.c, h.get 56 rfl, h.get 59 rfl, K0.cell, Ke.cell, gv_or, gv_and]; try first | exact ⟨rfl, rfl⟩ | rfl)) fun a68 hA68 => ?_
      refine wl_op hA68 rfl rfl (by decide) (fun ev h => by simp [go_sem, h.get 60 rfl, K0.cell, Ke.cell]; try first | exact ⟨rfl, rfl⟩ | rfl) fun a69 hA69 => ?_
      refine wl_guard _ hA69 rfl rfl rfl rfl (by decide) (fun hq ev h => by simp [go_sem, (h.get 7 rfl), K0.cell, Ke.cell]; try first | exact ⟨rfl, rfl⟩ | rfl) fun a70 hA70 => ?_
      refine wl_guard _ hA70 rfl rfl rfl rfl (by decide) (fun hq ev h => by simp [go_sem, ((h.get 62 rfl).trans (gw_t (beq_t hq))), K0.cell, Ke.cell]; try first | exact ⟨rfl, rfl⟩ | rfl) fun a71 hA71 => ?_
      refine wl_guard _ hA71 rfl rfl rfl rfl (by decide) (fun hq ev h => by simp [go_sem, ((h.get 63 rfl).trans (gw_t (beq_t hq))), K0.cell, Ke.cell]; try first | exact ⟨rfl, rfl⟩ | rfl) fun a72 hA72 => ?_
      refine wl_guard _ hA72 rfl rfl rfl rfl (by decide) (fun hq ev h => by simp [go_sem, h.c, ((h.get 64 rfl).trans (gw_t (beq_t hq))), K0.cell, Ke.cell]; try first | exact ⟨rfl, rfl⟩ | rfl) fun a73 hA73 => ?_
      refine wl_op hA73 rfl rfl (by decide) (fun ev h => by first | exact pick_and rfl (h.get 61 rfl) (h.c _) (h.get 65 rfl) | exact pick_or rfl (h.get 61 rfl) (h.c _) (h.get 65 rfl) | (simp [go_sem, h.c, h.get 61 rfl, h.get 65 rfl, K0.cell, Ke.cell, gv_or, gv_and]; try first | exact ⟨rfl, rfl⟩ | rfl)) fun a74 hA74 => ?_
      refine wl_nil ?_
      refine n_then ?_
      have hA75 := hA74.keep [1, 7, 39, 40, 41, 66]
      simp only [argsE, keepE, lookS, Nat.reduceBEq, cond_true, cond_false, Nat.reduceAdd, gv_tt, gv_ff, Bool.true_and, Bool.false_and, Bool.true_or, Bool.false_or] at hA75
      clear hA52 hA53 hA54 hA55 hA56 hA57 hA58 hA59 hA60 hA61 hA62 hA63 hA64 hA65 hA66 hA67 hA68 hA69 hA70 hA71 hA72 hA73 hA74 a51 a53 a54 a55 a56 a57 a58 a59 a60 a61 a62 a63 a64 a65 a66 a67 a68 a69 a70 a71 a72 a73
      -- cond
      have hme := msgStepE nx l j x
      rw [nat_lt20000] at hA75
      obtain ⟨q, hqe⟩ : ∃ q, (decide (x.uid ≤ lastU l j) || decide (nx ≤ x.uid) || !fitsDF x.date x.flags || decide (20000 < x.b.length)) = q := ⟨_, rfl⟩
      rw [hqe] at hme hA75
      refine wp_if hA75 66 _ rfl (fun hq2 => ?yR) (fun hq2 => ?nR)
      case yR =>
        subst hq2
        refine wp_seq ?_
        refine wp_region_lit ?_
        refine wl_op hA75 rfl rfl (by decide) (fun ev h => by simp [go_sem, h.c, K0.cell, Ke.cell]; try first | exact ⟨rfl, rfl⟩ | rfl) fun a76 hA76 => ?_
        refine wl_nil ?_
        refine n_then ?_
        have hA77 := hA76.keep [2]
        simp only [argsE, keepE, lookS, Nat.reduceBEq, cond_true, cond_false, Nat.reduceAdd, gv_tt, gv_ff, Bool.true_and, Bool.false_and, Bool.true_or, Bool.false_or] at hA77
        clear hA75 hA76
        refine wp_ret ?_
        refine r_then ?_
        refine r_block ?_
        refine r_then ?_
        refine r_then ?_
        refine r_block ?_
        refine r_then ?_
        refine ret_1 hA77 2 rfl rfl ?_
        exact ⟨ret_bool (by rw [← hl]; exact (msgs_no hx hme).symm), hb0.trans (HB.mono hb0.size)⟩
      case nR =>
        subst hq2
        refine wp_skip ?_
        refine n_then ?_
        refine wp_region_lit ?_
        refine wl_op hA75 rfl rfl (by decide) (fun ev h => by simp [go_sem, h.get 7 rfl, K0.cell, Ke.cell, hwj]; try first | exact ⟨rfl, rfl⟩ | rfl) fun a78 hA78 => ?_
        refine wl_op hA78 rfl rfl (by decide) (fun ev h => by simp [go_sem, h.get 67 rfl, K0.cell, Ke.cell, hwj]; try first | exact ⟨rfl, rfl⟩ | rfl) fun a79 hA79 => ?_
        refine wl_op hA79 rfl rfl (by decide) (fun ev h => by simp [go_sem, h.get 68 rfl, K0.cell, Ke.cell, hwj]; try first | exact ⟨rfl, rfl⟩ | rfl) fun a80 hA80 => ?_
        refine wl_nil ?_
        refine n_block ?_
        refine n_then ?_
        have hA81 := hA80.keep [1, 5, 39, 40, 41]
        simp only [argsE, keepE, lookS, Nat.reduceBEq, cond_true, cond_false, Nat.reduceAdd, gv_tt, gv_ff, Bool.true_and, Bool.false_and, Bool.true_or, Bool.false_or] at hA81
        clear hA75 hA78 hA79 hA80 a78 a79
        refine wp_region_lit ?_
        refine wl_op hA81 rfl rfl (by decide) (fun ev h => by simp [go_sem, h.c, h.get 41 rfl, K0.cell, Ke.cell, hwj]; try first | exact ⟨rfl, rfl⟩ | rfl) fun a82 hA82 => ?_
        refine wl_op hA82 rfl rfl (by decide) (fun ev h => by simp [go_sem, h.get 69 rfl, K0.cell, Ke.cell, hwj]; try first | exact ⟨rfl, rfl⟩ | rfl) fun a83 hA83 => ?_
        refine wl_nil ?_
        refine n_then ?_
        have hA84 := hA83.keep [1, 5, 39, 40, 41]
        simp only [argsE, keepE, lookS, Nat.reduceBEq, cond_true, cond_false, Nat.reduceAdd, gv_tt, gv_ff, Bool.true_and, Bool.false_and, Bool.true_or, Bool.false_or] at hA84
        clear hA81 hA82 hA83 a80 a82
        -- round
        have hj1 : ((j : Int) + 1) = ((j + 1 : Nat) : Int) := by omega
        rw [← lastU_succ hx, hj1] at hA84
        exact ⟨k - 1, by omega, j + 1, by omega, hA84, by rw [msgsN_succ hx, hall, hme]; rfl, HB⟩
    case nL =>
      have hjn : j = n := by simp at hq; omega
      subst hjn
      refine wp_exit ?_
      refine x_then ?_
      refine x_then ?_
      refine x_block ?_
      refine n_then ?_
      have hA85 := hA48.keep []
      simp only [argsE, keepE, lookS, Nat.reduceBEq, cond_true, cond_false, Nat.reduceAdd, gv_tt, gv_ff, Bool.true_and, Bool.false_and, Bool.true_or, Bool.false_or] at hA85
      clear hA48
      refine wp_seq ?_
      refine wp_region_lit ?_
      refine wl_op hA85 rfl rfl (by decide) (fun ev h => by simp [go_sem, h.c]; try first | exact ⟨rfl, rfl⟩ | rfl) fun a86 hA86 => ?_
      refine wl_nil ?_
      refine n_then ?_
      have hA87 := hA86.keep [2]
      simp only [argsE, keepE, lookS, Nat.reduceBEq, cond_true, cond_false, Nat.reduceAdd, gv_tt, gv_ff, Bool.true_and, Bool.false_and, Bool.true_or, Bool.false_or] at hA87
      clear hA85 hA86
      refine wp_ret ?_
      refine ret_1 hA87 2 rfl rfl ?_
      exact ⟨ret_bool hall.symm, hb0.trans (HB.mono hb0.size)⟩
end Go.Proofs.YtbbhblnhbgkcaaaDoor
