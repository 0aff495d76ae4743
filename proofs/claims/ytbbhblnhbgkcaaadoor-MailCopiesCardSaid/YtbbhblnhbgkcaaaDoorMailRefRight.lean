/-
  Walk: a mailbox that is right, as the document says.
-/
import Derived.Test.YtbbhblnhbgkcaaaDoorMailRight
namespace Go.Proofs.YtbbhblnhbgkcaaaDoor
open Go.RowKit
set_option linter.unusedSimpArgs false
set_option linter.unusedVariables false
theorem headR (nm : ByteArray) (e nx n : Nat) : (!nameIs nm || ((e : Int) == 0) || ((nx : Int) == 0) || decide ((500 : Int) < (n : Int))) = !(nameIs nm && decide (1 ≤ e) && decide (1 ≤ nx) && decide (n ≤ 500)) := by
  rw [show ((e : Int) == 0) = !decide (1 ≤ e) by rw [Bool.eq_iff_iff]; simp, show ((nx : Int) == 0) = !decide (1 ≤ nx) by rw [Bool.eq_iff_iff]; simp, show decide ((500 : Int) < (n : Int)) = !decide (n ≤ 500) by rw [Bool.eq_iff_iff]; simp; omega]
  simp only [Bool.not_and]
theorem Msgs.prev {w : World} {ad : Addr} {n j : Nat} {l : List MsgV} (h : Msgs w (some ad) n l) (hn : j < n) (hj : 0 < j) :
    (ad.add ((j - 1) * 4)).block < w.heap.size ∧ w.cell? (ad.add ((j - 1) * 4)) = some (.int .u32 (lastU l j : Nat)) := by
  obtain ⟨i, rfl⟩ : ∃ i, j = i + 1 := ⟨j - 1, by omega⟩
  have hl := h.len
  obtain ⟨x, hx⟩ : ∃ x, l[i]? = some x := ⟨_, List.getElem?_eq_getElem (by omega)⟩
  obtain ⟨ad', e, hb, h0, _⟩ := h.at_ hx
  injection e with e
  subst e
  rw [Nat.add_sub_cancel, lastU_succ hx]
  exact ⟨hb, h0⟩
theorem refStepE (nx : Nat) (l : List MsgV) (j : Nat) (x : MsgV) : (((x.uid : Int) == 0 || decide (nx ≤ x.uid) || (!fitsDF x.date x.flags || !decide (x.b.length ≤ 20000)) || decide (0 < j) && decide (x.uid ≤ lastU l j))) = !msgStep nx l j x := by
  unfold msgStep fitsV
  rw [show ((x.uid : Int) == 0) = decide (x.uid = 0) by rw [Bool.eq_iff_iff]; simp, show decide (lastU l j < x.uid) = !decide (x.uid ≤ lastU l j) by rw [Bool.eq_iff_iff]; simp, show decide (x.uid < nx) = !decide (nx ≤ x.uid) by rw [Bool.eq_iff_iff]; simp]
  have h0 : j = 0 → lastU l j = 0 := fun e => by subst e; rfl
  have h1 : (decide (x.uid = 0) || decide (0 < j) && decide (x.uid ≤ lastU l j)) = decide (x.uid ≤ lastU l j) := by
    rcases Nat.eq_zero_or_pos j with h | h
    · rw [h0 h, h]
      rw [Bool.eq_iff_iff]; simp
    · rw [Bool.eq_iff_iff]; simp; omega
  rw [← h1]
  clear h1
  generalize decide (x.uid ≤ lastU l j) = b at *
  generalize decide (x.uid = 0) = a at *
  generalize decide (0 < j) = b2 at *
  generalize decide (nx ≤ x.uid) = c
  generalize fitsDF x.date x.flags = d
  generalize decide (x.b.length ≤ 20000) = e
  cases a <;> cases b <;> cases b2 <;> cases c <;> cases d <;> cases e <;> rfl
set_option maxRecDepth 100000 in
set_option maxHeartbeats 1000000 in
theorem refRight_any (nm : ByteArray) (A : Option Addr) (c n e nx : Nat) (l : List MsgV) (w : World) (hs : nm.size ≤ 9223372036854775807) (hn : n ≤ 9223372036854775807) (hms : Msgs w A n l) :
    Calls Tryd.prog 13 #[.agg (boxC nm e nx A n c)] w fun ev w' => ev = .returned (.bool (boxRight nm e nx l)) ∧ Below w.heap.size w w' := by
  have hl := hms.len
  refine calls_at 68 Tryd.func13 rfl rfl (Nat.le_of_ble_eq_true rfl) ?_
  intro a hA
  simp only [argsE, keepE, lookS, Nat.reduceBEq, cond_true, cond_false, Nat.reduceAdd, gv_tt, gv_ff, Bool.true_and, Bool.false_and, Bool.true_or, Bool.false_or] at hA
  refine wp_seq ?_
  refine wp_region_lit ?_
  -- stop box slot 1
  refine wl_new hA rfl rfl (by decide) (fun ev h => by simp [go_sem, h.get 0 rfl]; try first | exact ⟨rfl, rfl⟩ | rfl) fun w1 a1 (K : Blk _ _ _ _) hz hb0 hA1 => ?_
  replace hms := hms.below hb0
  have HB := Below.refl w1.heap.size w1
  unfold boxC at K
  refine wl_op hA1 rfl rfl (by decide) (fun ev h => by simp [go_sem, h.c, (K.below HB K.lt).cell]; try first | exact ⟨rfl, rfl⟩ | rfl) fun a2 hA2 => ?_
  refine wl_nil ?_
  refine n_then ?_
  have hA3 := hA2.keep [1]
  simp only [argsE, keepE, lookS, Nat.reduceBEq, cond_true, cond_false, Nat.reduceAdd, gv_tt, gv_ff, Bool.true_and, Bool.false_and, Bool.true_or, Bool.false_or] at hA3
  clear hA hA1 hA2 a1
  refine wp_seq ?_
  refine wp_seq ?_
  refine wp_region_lit ?_
  refine wl_op hA3 rfl rfl (by decide) (fun ev h => by simp [go_sem, h.get 1 rfl, (K.below HB K.lt).cell]; try first | exact ⟨rfl, rfl⟩ | rfl) fun a4 hA4 => ?_
  refine wl_op hA4 rfl rfl (by decide) (fun ev h => by simp [go_sem, h.get 5 rfl, (K.below HB K.lt).cell]; try first | exact ⟨rfl, rfl⟩ | rfl) fun a5 hA5 => ?_
  -- stop call slot 7
  refine wl_call hA5 rfl rfl (by decide) (fun ev h => by simp [go_sem, h.get 6 rfl, (K.below HB K.lt).cell, h.f]; try first | exact ⟨rfl, rfl⟩ | rfl) (refNamed_any nm hs _) ?_
  rintro e w2 ⟨rfl, hb⟩
  refine ⟨_, rfl, fun a6 hA6 => ?_⟩
  replace HB := HB.trans (hb.mono HB.size)
  have K0 := K.below HB K.lt
  refine wl_op hA6 rfl rfl (by decide) (fun ev h => by simp [go_sem, h.get 7 rfl, K0.cell]; try first | exact ⟨rfl, rfl⟩ | rfl) fun a7 hA7 => ?_
  refine wl_op hA7 rfl rfl (by decide) (fun ev h => by simp [go_sem, h.get 8 rfl, K0.cell]; try first | exact ⟨rfl, rfl⟩ | rfl) fun a8 hA8 => ?_
  refine wl_guard _ hA8 rfl rfl rfl rfl (by decide) (fun hq ev h => by simp [go_sem, (h.get 1 rfl), K0.cell]; try first | exact ⟨rfl, rfl⟩ | rfl) fun a9 hA9 => ?_
  refine wl_guard _ hA9 rfl rfl rfl rfl (by decide) (fun hq ev h => by simp [go_sem, ((h.get 10 rfl).trans (gw_t (beq_t hq))), K0.cell]; try first | exact ⟨rfl, rfl⟩ | rfl) fun a10 hA10 => ?_
  refine wl_guard _ hA10 rfl rfl rfl rfl (by decide) (fun hq ev h => by simp [go_sem, h.c, ((h.get 11 rfl).trans (gw_t (beq_t hq))), K0.cell]; try first | exact ⟨rfl, rfl⟩ | rfl) fun a11 hA11 => ?_
  refine wl_op hA11 rfl rfl (by decide) (fun ev h => by first | exact pick_and rfl (h.get 9 rfl) (h.c _) (h.get 12 rfl) | exact pick_or rfl (h.get 9 rfl) (h.c _) (h.get 12 rfl) | (simp [go_sem, h.c, h.get 9 rfl, h.get 12 rfl, K0.cell, gv_or, gv_and]; try first | exact ⟨rfl, rfl⟩ | rfl)) fun a12 hA12 => ?_
  refine wl_op hA12 rfl rfl (by decide) (fun ev h => by simp [go_sem, h.get 13 rfl, K0.cell]; try first | exact ⟨rfl, rfl⟩ | rfl) fun a13 hA13 => ?_
  refine wl_guard _ hA13 rfl rfl rfl rfl (by decide) (fun hq ev h => by simp [go_sem, (h.get 1 rfl), K0.cell]; try first | exact ⟨rfl, rfl⟩ | rfl) fun a14 hA14 => ?_
  refine wl_guard _ hA14 rfl rfl rfl rfl (by decide) (fun hq ev h => by simp [go_sem, ((h.get 15 rfl).trans (gw_t (beq_t hq))), K0.cell]; try first | exact ⟨rfl, rfl⟩ | rfl) fun a15 hA15 => ?_
  refine wl_guard _ hA15 rfl rfl rfl rfl (by decide) (fun hq ev h => by simp [go_sem, h.c, ((h.get 16 rfl).trans (gw_t (beq_t hq))), K0.cell]; try first | exact ⟨rfl, rfl⟩ | rfl) fun a16 hA16 => ?_
  refine wl_op hA16 rfl rfl (by decide) (fun ev h => by first | exact pick_and rfl (h.get 14 rfl) (h.c _) (h.get 17 rfl) | exact pick_or rfl (h.get 14 rfl) (h.c _) (h.get 17 rfl) | (simp [go_sem, h.c, h.get 14 rfl, h.get 17 rfl, K0.cell, gv_or, gv_and]; try first | exact ⟨rfl, rfl⟩ | rfl)) fun a17 hA17 => ?_
  refine wl_op hA17 rfl rfl (by decide) (fun ev h => by simp [go_sem, h.get 18 rfl, K0.cell]; try first | exact ⟨rfl, rfl⟩ | rfl) fun a18 hA18 => ?_
  refine wl_guard _ hA18 rfl rfl rfl rfl (by decide) (fun hq ev h => by simp [go_sem, (h.get 1 rfl), K0.cell]; try first | exact ⟨rfl, rfl⟩ | rfl) fun a19 hA19 => ?_
  refine wl_guard _ hA19 rfl rfl rfl rfl (by decide) (fun hq ev h => by simp [go_sem, ((h.get 20 rfl).trans (gw_t (beq_t hq))), K0.cell]; try first | exact ⟨rfl, rfl⟩ | rfl) fun a20 hA20 => ?_
  refine wl_guard _ hA20 rfl rfl rfl rfl (by decide) (fun hq ev h => by simp [go_sem, ((h.get 21 rfl).trans (gw_t (beq_t hq))), K0.cell]; try first | exact ⟨rfl, rfl⟩ | rfl) fun a21 hA21 => ?_
  refine wl_guard _ hA21 rfl rfl rfl rfl (by decide) (fun hq ev h => by simp [go_sem, h.c, ((h.get 22 rfl).trans (gw_t (beq_t hq))), K0.cell]; try first | exact ⟨rfl, rfl⟩ | rfl) fun a22 hA22 => ?_
  refine wl_op hA22 rfl rfl (by decide) (fun ev h => by first | exact pick_and rfl (h.get 19 rfl) (h.c _) (h.get 23 rfl) | exact pick_or rfl (h.get 19 rfl) (h.c _) (h.get 23 rfl) | (simp [go_sem, h.c, h.get 19 rfl, h.get 23 rfl, K0.cell, gv_or, gv_and]; try first | exact ⟨rfl, rfl⟩ | rfl)) fun a23 hA23 => ?_
  refine wl_nil ?_
  refine n_then ?_
  have hA24 := hA23.keep [1, 24]
  simp only [argsE, keepE, lookS, Nat.reduceBEq, cond_true, cond_false, Nat.reduceAdd, gv_tt, gv_ff, Bool.true_and, Bool.false_and, Bool.true_or, Bool.false_or] at hA24
  clear hA3 hA4 hA5 hA6 hA7 hA8 hA9 hA10 hA11 hA12 hA13 hA14 hA15 hA16 hA17 hA18 hA19 hA20 hA21 hA22 hA23 a2 a4 a5 a6 a7 a8 a9 a10 a11 a12 a13 a14 a15 a16 a17 a18 a19 a20 a21 a22
  -- cond
  obtain ⟨q, hqe⟩ : ∃ q, (nameIs nm && decide (1 ≤ e) && decide (1 ≤ nx) && decide (n ≤ 500)) = q := ⟨_, rfl⟩
  rw [headR, hqe] at hA24
  have hbr : boxRight nm e nx l = (q && msgsN nx l n) := by unfold boxRight; rw [hl, hqe]
  rw [hbr]
  refine wp_if hA24 24 _ rfl (fun hq => ?yA) (fun hq => ?nA)
  case yA =>
    have hq : q = false := by simpa using hq
    subst hq
    refine wp_seq ?_
    refine wp_region_lit ?_
    refine wl_op hA24 rfl rfl (by decide) (fun ev h => by simp [go_sem, h.c, K0.cell]; try first | exact ⟨rfl, rfl⟩ | rfl) fun a25 hA25 => ?_
    refine wl_nil ?_
    refine n_then ?_
    have hA26 := hA25.keep [2]
    simp only [argsE, keepE, lookS, Nat.reduceBEq, cond_true, cond_false, Nat.reduceAdd, gv_tt, gv_ff, Bool.true_and, Bool.false_and, Bool.true_or, Bool.false_or] at hA26
    clear hA24 hA25
    refine wp_ret ?_
    refine r_then ?_
    refine ret_1 hA26 2 rfl rfl ?_
    exact ⟨rfl, hb0.trans (HB.mono hb0.size)⟩
  case nA =>
    have hq : q = true := by simpa using hq
    subst hq
    rw [Bool.true_and]
    refine wp_skip ?_
    refine n_then ?_
    refine wp_seq ?_
    refine wp_seq ?_
    refine wp_region_lit ?_
    refine wl_op hA24 rfl rfl (by decide) (fun ev h => by simp [go_sem, h.get 1 rfl, K0.cell]; try first | exact ⟨rfl, rfl⟩ | rfl) fun a27 hA27 => ?_
    refine wl_op hA27 rfl rfl (by decide) (fun ev h => by simp [go_sem, h.get 25 rfl, K0.cell]; try first | exact ⟨rfl, rfl⟩ | rfl) fun a28 hA28 => ?_
    refine wl_op hA28 rfl rfl (by decide) (fun ev h => by simp [go_sem, h.get 26 rfl, K0.cell]; try first | exact ⟨rfl, rfl⟩ | rfl) fun a29 hA29 => ?_
    refine wl_op hA29 rfl rfl (by decide) (fun ev h => by simp [go_sem, h.c, K0.cell]; try first | exact ⟨rfl, rfl⟩ | rfl) fun a30 hA30 => ?_
    refine wl_nil ?_
    refine n_then ?_
    have hA31 := hA30.keep [1, 27, 28]
    simp only [argsE, keepE, lookS, Nat.reduceBEq, cond_true, cond_false, Nat.reduceAdd, gv_tt, gv_ff, Bool.true_and, Bool.false_and, Bool.true_or, Bool.false_or] at hA31
    clear hA24 hA27 hA28 hA29 hA30 a27 a28 a29
    refine wp_block ?_
    -- loop
    refine wp_loop_at (fun k a wx => ∃ (j : Nat), j + k = n ∧ At 68 [(1, .pointer (some ⟨w.heap.size, 0, none⟩)), (27, .int .i64 (n : Nat)), (28, .int .i64 (j : Nat))] a ∧ msgsN nx l j = true ∧ Below w1.heap.size w1 wx) (n) ?_ ?_
    · exact ⟨0, by omega, hA31, rfl, HB⟩
    clear HB K0
    rintro k a wx ⟨j, hjk, hA, hall, HB⟩
    refine wp_seq ?_
    refine wp_region_lit ?_
    refine wl_op hA rfl rfl (by decide) (fun ev h => by simp [go_sem, h.get 28 rfl, h.get 27 rfl]; try first | exact ⟨rfl, rfl⟩ | rfl) fun a32 hA32 => ?_
    refine wl_nil ?_
    refine n_then ?_
    have hA33 := hA32.keep [1, 27, 28, 29]
    simp only [argsE, keepE, lookS, Nat.reduceBEq, cond_true, cond_false, Nat.reduceAdd, gv_tt, gv_ff, Bool.true_and, Bool.false_and, Bool.true_or, Bool.false_or] at hA33
    clear hA hA32
    refine wp_seq ?_
    -- cond
    refine wp_if hA33 29 _ rfl (fun hq => ?yL) (fun hq => ?nL)
    case yL =>
      have hlt : j < n := by simp at hq; omega
      obtain ⟨x, hx⟩ : ∃ x, l[j]? = some x := ⟨_, List.getElem?_eq_getElem (by omega)⟩
      obtain ⟨ad, rfl, hadl, k0, k1, k2, k3⟩ := hms.at_ hx
      have z0 := (HB.cell hadl).trans k0
      have z1 := (HB.cell (p := ⟨(ad.add (j * 4)).block, (ad.add (j * 4)).off + 1, none⟩) hadl).trans k1
      have z2 := (HB.cell (p := ⟨(ad.add (j * 4)).block, (ad.add (j * 4)).off + 2, none⟩) hadl).trans k2
      have z3 := (HB.cell (p := ⟨(ad.add (j * 4)).block, (ad.add (j * 4)).off + 3, none⟩) hadl).trans k3
      have jj0 : (0 : Int) ≤ (j : Int) := by omega
      have jj1 : (j : Int) < (n : Int) := by omega
      have hwj : IntKind.i64.wrap ((j : Int) + 1) = (j : Int) + 1 := IntWalk.i64_in _ (by omega)
      have hwk : IntKind.i64.wrap ((j : Int) - 1) = (j : Int) - 1 := IntWalk.i64_in _ (by omega)
      have hpi : decide (0 < j) = true → 0 < j := fun h => by simpa using h
      have hpj : decide (0 < j) = true → (1 : Int) ≤ (j : Int) := fun h => by have := hpi h; omega
      have hpk : (j : Int) - 1 < (n : Int) := by omega
      have K0 := K.below HB K.lt
      refine wp_skip ?_
      refine n_then ?_
      refine wp_seq ?_
      refine wp_block ?_
      refine wp_seq ?_
      refine wp_region_lit ?_
      refine wl_op hA33 rfl rfl (by decide) (fun ev h => by simp [go_sem, h.get 28 rfl, K0.cell, z0, z1, z2, z3, jj0, jj1]; try first | exact ⟨rfl, rfl⟩ | rfl) fun a34 hA34 => ?_
      refine wl_op hA34 rfl rfl (by decide) (fun ev h => by simp [go_sem, h.get 30 rfl, K0.cell, z0, z1, z2, z3, jj0, jj1]; try first | exact ⟨rfl, rfl⟩ | rfl) fun a35 hA35 => ?_
      refine wl_nil ?_
      refine n_then ?_
      have hA36 := hA35.keep [1, 3, 27, 28]
      simp only [argsE, keepE, lookS, Nat.reduceBEq, cond_true, cond_false, Nat.reduceAdd, gv_tt, gv_ff, Bool.true_and, Bool.false_and, Bool.true_or, Bool.false_or] at hA36
      clear hA33 hA34 hA35 a34
      refine wp_seq ?_
      refine wp_region_lit ?_
      refine wl_op hA36 rfl rfl (by decide) (fun ev h => by simp [go_sem, h.get 1 rfl, K0.cell, z0, z1, z2, z3, jj0, jj1]; try first | exact ⟨rfl, rfl⟩ | rfl) fun a37 hA37 => ?_
      refine wl_op hA37 rfl rfl (by decide) (fun ev h => by simp [go_sem, h.get 31 rfl, K0.cell, z0, z1, z2, z3, jj0, jj1]; try first | exact ⟨rfl, rfl⟩ | rfl) fun a38 hA38 => ?_
      refine wl_op hA38 rfl rfl (by decide) (fun ev h => by simp [go_sem, h.get 3 rfl, K0.cell, z0, z1, z2, z3, jj0, jj1]; try first | exact ⟨rfl, rfl⟩ | rfl) fun a39 hA39 => ?_
      refine wl_op hA39 rfl rfl (by decide) (fun ev h => by simp [go_sem, h.get 32 rfl, h.get 33 rfl, K0.cell, z0, z1, z2, z3, jj0, jj1]; try first | exact ⟨rfl, rfl⟩ | rfl) fun a40 hA40 => ?_
      refine wl_op hA40 rfl rfl (by decide) (fun ev h => by simp [go_sem, h.get 34 rfl, K0.cell, z0, z1, z2, z3, jj0, jj1]; try first | exact ⟨rfl, rfl⟩ | rfl) fun a41 hA41 => ?_
      -- stop alloc slot 4
      refine wl_local [.int .u32 (x.uid : Nat), .int .i64 x.date, .int .i64 x.flags, .slice x.a x.b.length x.c] hA41 rfl rfl (by decide) (fun ev h => by simp [go_sem, K0.cell, z0, z1, z2, z3, jj0, jj1]; try first | exact ⟨rfl, rfl⟩ | rfl) rfl rfl (by rfl) (fun w1 g ev hb h => by simp [go_sem, h.get 4 rfl, h.get 35 rfl, K0.cell, z0, z1, z2, z3, jj0, jj1, setAll, hb.cell, hb.frozen]) fun w5 a42 (Ke : Blk _ _ _ _) hz5 hb hA42 => ?_
      replace K0 := K0.below hb K0.lt
      replace HB := HB.trans (hb.mono HB.size)
      refine wl_nil ?_
      refine n_then ?_
      have hA43 := hA42.keep [1, 3, 4, 27, 28]
      simp only [argsE, keepE, lookS, Nat.reduceBEq, cond_true, cond_false, Nat.reduceAdd, gv_tt, gv_ff, Bool.true_and, Bool.false_and, Bool.true_or, Bool.false_or] at hA43
      clear hA36 hA37 hA38 hA39 hA40 hA41 hA42 a35 a37 a38 a39 a40 a41
      refine wp_seq ?_
      refine wp_any_at hA43 ((.det ?dD0) :: (.det ?dD1) :: (.det ?dD2) :: (.det ?dD3) :: (.det ?dD4) :: (.det ?dD5) :: (.det ?dD6) :: (.det ?dD7) :: (.det ?dD8) :: (.det ?dD9) :: (.det ?dD10) :: (.det ?dD11) :: (.det ?dD12) :: (.det ?dD13) :: (.det ?dD14) :: (.det ?dD15) :: (.det ?dD16) :: (.det ?dD17) :: (.det ?dD18) :: (.det ?dD19) :: (.det ?dD20) :: (.det ?dD21) :: (.det ?dD22) :: (.det ?dD23) :: (.det ?dD24) :: (.det ?dD25) :: (.det ?dD26) :: (.det ?dD27) :: (.det ?dD28) :: (.det ?dD29) :: (.det ?dD30) :: []) [] (fun wy => Below w5.heap.size w5 wy) (TSp [] Grows) (by kernel_rfl) rfl (by kernel_rfl) (by kernel_rfl) rfl ((Below.refl w5.heap.size w5).drew) (stab_sp [] (true :: true :: true :: true :: true :: true :: true :: true :: true :: true :: true :: true :: true :: true :: true :: true :: true :: true :: true :: true :: true :: true :: true :: true :: true :: true :: true :: true :: true :: true :: true :: []) (true :: true :: true :: true :: true :: true :: true :: true :: true :: true :: true :: true :: true :: true :: true :: true :: true :: true :: true :: true :: true :: true :: true :: true :: true :: true :: true :: true :: true :: true :: true :: []) [] rfl rfl rfl (by kernel_rfl) ⟨trivial, trivial, trivial, trivial, trivial, trivial, trivial, trivial, trivial, trivial, trivial, trivial, trivial, trivial, trivial, trivial, trivial, trivial, trivial, trivial, trivial, trivial, trivial, trivial, trivial, trivial, trivial, trivial, trivial, trivial, trivial, trivial⟩ trivial) (fun _ h => by cases h) (fun _ _ _ _ _ h => by cases h) (fun _ h => by cases h) ⟨?oD0, ?oD1, ?oD2, ?oD3, ?oD4, ?oD5, ?oD6, ?oD7, ?oD8, ?oD9, ?oD10, ?oD11, ?oD12, ?oD13, ?oD14, ?oD15, ?oD16, ?oD17, ?oD18, ?oD19, ?oD20, ?oD21, ?oD22, ?oD23, ?oD24, ?oD25, ?oD26, ?oD27, ?oD28, ?oD29, ?oD30, trivial⟩ (by kernel_rfl) ?fD
      case oD0 =>
        intro ev wo hev hC hs hph
        have e4 := see_env hA43 hs 4 (by kernel_rfl) (by kernel_rfl) rfl
        exact ob_det (wanted_none rfl) rfl (by kernel_rfl) hC (TSp.of rfl (Grows.refl _)) (by simp [go_sem, e4]; try first | exact ⟨rfl, rfl⟩ | rfl)
      case oD1 =>
        intro ev wo hev hC hs hph
        have e36 := see_det hs 36 0 (by kernel_rfl) (by kernel_rfl) rfl
        have Kx := K0.below hC K0.lt
        have Kex := Ke.below hC Ke.lt
        have pz := fun h => ((HB.trans (hC.mono HB.size)).cell (hms.prev hlt h).1).trans (hms.prev hlt h).2
        exact ob_det (wanted_none rfl) rfl (by kernel_rfl) hC (TSp.of rfl (Grows.refl _)) (by simp [go_sem, e36, Kx.cell, Kex.cell, K0.cell, Ke.cell]; try first | exact ⟨rfl, rfl⟩ | rfl)
      case oD2 =>
        intro ev wo hev hC hs hph
        have e37 := see_det hs 37 1 (by kernel_rfl) (by kernel_rfl) rfl
        exact ob_det (wanted_none rfl) rfl (by kernel_rfl) hC (TSp.of rfl (Grows.refl _)) (by simp [go_sem, e37, hev.const]; try first | exact ⟨rfl, rfl⟩ | rfl)
      case oD3 =>
        intro ev wo hev hC hs hph
        have e38 := see_det hs 38 2 (by kernel_rfl) (by kernel_rfl) rfl
        exact ob_det (wanted_none rfl) rfl (by kernel_rfl) hC (TSp.of rfl (Grows.refl _)) (by simp [go_sem, e38]; try first | exact ⟨rfl, rfl⟩ | rfl)
      case oD4 =>
        intro ev wo hev hC hs hph
        have e4 := see_env hA43 hs 4 (by kernel_rfl) (by kernel_rfl) rfl
        have e39 := see_det hs 39 3 (by kernel_rfl) (by kernel_rfl) rfl
        exact ob_gv _ rfl rfl e39 rfl (by kernel_rfl) hC (TSp.of rfl (Grows.refl _)) (fun hq => by simp [go_sem, e4, e39]; try first | exact ⟨rfl, rfl⟩ | rfl) (by rfl)
      case oD5 =>
        intro ev wo hev hC hs hph
        have e40 := see_det hs 40 4 (by kernel_rfl) (by kernel_rfl) rfl
        have e39 := see_det hs 39 3 (by kernel_rfl) (by kernel_rfl) rfl
        have Kx := K0.below hC K0.lt
        have Kex := Ke.below hC Ke.lt
        have pz := fun h => ((HB.trans (hC.mono HB.size)).cell (hms.prev hlt h).1).trans (hms.prev hlt h).2
        exact ob_gv _ rfl rfl e39 rfl (by kernel_rfl) hC (TSp.of rfl (Grows.refl _)) (fun hq => by simp [go_sem, (e40.trans (gw_t (beq_t hq))), e39, Kx.cell, Kex.cell, K0.cell, Ke.cell]; try first | exact ⟨rfl, rfl⟩ | rfl) (by rfl)
      case oD6 =>
        intro ev wo hev hC hs hph
        have e1 := see_env hA43 hs 1 (by kernel_rfl) (by kernel_rfl) rfl
        have e39 := see_det hs 39 3 (by kernel_rfl) (by kernel_rfl) rfl
        exact ob_gv _ rfl rfl e39 rfl (by kernel_rfl) hC (TSp.of rfl (Grows.refl _)) (fun hq => by simp [go_sem, e1, e39]; try first | exact ⟨rfl, rfl⟩ | rfl) (by rfl)
      case oD7 =>
        intro ev wo hev hC hs hph
        have e42 := see_det hs 42 6 (by kernel_rfl) (by kernel_rfl) rfl
        have e39 := see_det hs 39 3 (by kernel_rfl) (by kernel_rfl) rfl
        have Kx := K0.below hC K0.lt
        have Kex := Ke.below hC Ke.lt
        have pz := fun h => ((HB.trans (hC.mono HB.size)).cell (hms.prev hlt h).1).trans (hms.prev hlt h).2
        exact ob_gv _ rfl rfl e39 rfl (by kernel_rfl) hC (TSp.of rfl (Grows.refl _)) (fun hq => by simp [go_sem, (e42.trans (gw_t (beq_t hq))), e39, Kx.cell, Kex.cell, K0.cell, Ke.cell]; try first | exact ⟨rfl, rfl⟩ | rfl) (by rfl)
      case oD8 =>
        intro ev wo hev hC hs hph
        have e41 := see_det hs 41 5 (by kernel_rfl) (by kernel_rfl) rfl
        have e43 := see_det hs 43 7 (by kernel_rfl) (by kernel_rfl) rfl
        have e39 := see_det hs 39 3 (by kernel_rfl) (by kernel_rfl) rfl
        exact ob_gv _ rfl rfl e39 rfl (by kernel_rfl) hC (TSp.of rfl (Grows.refl _)) (fun hq => by simp [go_sem, (e41.trans (gw_t (beq_t hq))), (e43.trans (gw_t (beq_t hq))), e39]; try first | exact ⟨rfl, rfl⟩ | rfl) (by rfl)
      case oD9 =>
        intro ev wo hev hC hs hph
        have e39 := see_det hs 39 3 (by kernel_rfl) (by kernel_rfl) rfl
        have e44 := see_det hs 44 8 (by kernel_rfl) (by kernel_rfl) rfl
        exact ob_det (wanted_none rfl) rfl (by kernel_rfl) hC (TSp.of rfl (Grows.refl _)) (by first | (refine (pick_and ?_ (e39) (hev.const _) (e44)); rfl) | (rw [pick_and _ (e39) (hev.const _) (e44)]; rfl) | (refine (pick_or ?_ (e39) (hev.const _) (e44)); rfl) | (rw [pick_or _ (e39) (hev.const _) (e44)]; rfl) | (simp [go_sem, e39, e44, hev.const]; try first | exact ⟨rfl, rfl⟩ | rfl))
      case oD10 =>
        intro ev wo hev hC hs hph
        have e45 := see_det hs 45 9 (by kernel_rfl) (by kernel_rfl) rfl
        exact ob_det (wanted_none rfl) rfl (by kernel_rfl) hC (TSp.of rfl (Grows.refl _)) (by simp [go_sem, e45]; try first | exact ⟨rfl, rfl⟩ | rfl)
      case oD11 =>
        intro ev wo hev hC hs hph
        have e4 := see_env hA43 hs 4 (by kernel_rfl) (by kernel_rfl) rfl
        have e46 := see_det hs 46 10 (by kernel_rfl) (by kernel_rfl) rfl
        have Kx := K0.below hC K0.lt
        have Kex := Ke.below hC Ke.lt
        have pz := fun h => ((HB.trans (hC.mono HB.size)).cell (hms.prev hlt h).1).trans (hms.prev hlt h).2
        exact ob_gv _ rfl rfl e46 rfl (by kernel_rfl) hC (TSp.of rfl (Grows.refl _)) (fun hq => by simp [go_sem, e4, e46, Kx.cell, Kex.cell, K0.cell, Ke.cell]; try first | exact ⟨rfl, rfl⟩ | rfl) (by rfl)
      case oD12 =>
        intro ev wo hev hC hs hph
        have e47 := see_det hs 47 11 (by kernel_rfl) (by kernel_rfl) rfl
        have e46 := see_det hs 46 10 (by kernel_rfl) (by kernel_rfl) rfl
        have Kx := K0.below hC K0.lt
        have Kex := Ke.below hC Ke.lt
        have pz := fun h => ((HB.trans (hC.mono HB.size)).cell (hms.prev hlt h).1).trans (hms.prev hlt h).2
        exact ob_gcall _ rfl rfl e46 rfl (by kernel_rfl) (by rfl) (fun hq => by simp [go_sem, (e47.trans (gw_t (beq_t hq))), e46, hev.func, hev.const]; try first | exact ⟨rfl, rfl⟩ | rfl) (fun hq => refFits_any (x.uid : Nat) x.date x.flags x.a x.b.length x.c _) (fun w3 hb3 => ⟨hC.trans (hb3.mono hC.size), TSp.of rfl hb3⟩)
      case oD13 =>
        intro ev wo hev hC hs hph
        have e48 := see_det hs 48 12 (by kernel_rfl) (by kernel_rfl) rfl
        have e46 := see_det hs 46 10 (by kernel_rfl) (by kernel_rfl) rfl
        exact ob_gv _ rfl rfl e46 rfl (by kernel_rfl) hC (TSp.of rfl (Grows.refl _)) (fun hq => by simp [go_sem, (e48.trans (gw_t (beq_t hq))), e46]; try first | exact ⟨rfl, rfl⟩ | rfl) (by rfl)
      case oD14 =>
        intro ev wo hev hC hs hph
        have e46 := see_det hs 46 10 (by kernel_rfl) (by kernel_rfl) rfl
        have e49 := see_det hs 49 13 (by kernel_rfl) (by kernel_rfl) rfl
        exact ob_det (wanted_none rfl) rfl (by kernel_rfl) hC (TSp.of rfl (Grows.refl _)) (by first | (refine (pick_and ?_ (e46) (hev.const _) (e49)); rfl) | (rw [pick_and _ (e46) (hev.const _) (e49)]; rfl) | (refine (pick_or ?_ (e46) (hev.const _) (e49)); rfl) | (rw [pick_or _ (e46) (hev.const _) (e49)]; rfl) | (simp [go_sem, e46, e49, hev.const]; try first | exact ⟨rfl, rfl⟩ | rfl))
      case oD15 =>
        intro ev wo hev hC hs hph
        have e50 := see_det hs 50 14 (by kernel_rfl) (by kernel_rfl) rfl
        exact ob_det (wanted_none rfl) rfl (by kernel_rfl) hC (TSp.of rfl (Grows.refl _)) (by simp [go_sem, e50]; try first | exact ⟨rfl, rfl⟩ | rfl)
      case oD16 =>
        intro ev wo hev hC hs hph
        have e3 := see_env hA43 hs 3 (by kernel_rfl) (by kernel_rfl) rfl
        have e51 := see_det hs 51 15 (by kernel_rfl) (by kernel_rfl) rfl
        exact ob_gv _ rfl rfl e51 rfl (by kernel_rfl) hC (TSp.of rfl (Grows.refl _)) (fun hq => by simp [go_sem, e3, e51]; try first | exact ⟨rfl, rfl⟩ | rfl) (by rfl)
      case oD17 =>
        intro ev wo hev hC hs hph
        have e52 := see_det hs 52 16 (by kernel_rfl) (by kernel_rfl) rfl
        have e51 := see_det hs 51 15 (by kernel_rfl) (by kernel_rfl) rfl
        exact ob_gv _ rfl rfl e51 rfl (by kernel_rfl) hC (TSp.of rfl (Grows.refl _)) (fun hq => by simp [go_sem, (e52.trans (gw_t (beq_t hq))), e51, hev.const]; try first | exact ⟨rfl, rfl⟩ | rfl) (by rfl)
      case oD18 =>
        intro ev wo hev hC hs hph
        have e53 := see_det hs 53 17 (by kernel_rfl) (by kernel_rfl) rfl
        have e51 := see_det hs 51 15 (by kernel_rfl) (by kernel_rfl) rfl
        exact ob_gv _ rfl rfl e51 rfl (by kernel_rfl) hC (TSp.of rfl (Grows.refl _)) (fun hq => by simp [go_sem, (e53.trans (gw_t (beq_t hq))), e51]; try first | exact ⟨rfl, rfl⟩ | rfl) (by rfl)
      case oD19 =>
        intro ev wo hev hC hs hph
        have e1 := see_env hA43 hs 1 (by kernel_rfl) (by kernel_rfl) rfl
        have e54 := see_det hs 54 18 (by kernel_rfl) (by kernel_rfl) rfl
        exact ob_gw _ _ rfl rfl e54 rfl (by kernel_rfl) hC (TSp.of rfl (Grows.refl _)) (fun hq hr => by simp [go_sem, e1, e54]; try first | exact ⟨rfl, rfl⟩ | rfl) (by rfl)
      case oD20 =>
        intro ev wo hev hC hs hph
        have e55 := see_det hs 55 19 (by kernel_rfl) (by kernel_rfl) rfl
        have e54 := see_det hs 54 18 (by kernel_rfl) (by kernel_rfl) rfl
        have Kx := K0.below hC K0.lt
        have Kex := Ke.below hC Ke.lt
        have pz := fun h => ((HB.trans (hC.mono HB.size)).cell (hms.prev hlt h).1).trans (hms.prev hlt h).2
        exact ob_gw _ _ rfl rfl e54 rfl (by kernel_rfl) hC (TSp.of rfl (Grows.refl _)) (fun hq hr => by simp [go_sem, (e55.trans (gw_t (and_beq hq hr))), e54, Kx.cell, Kex.cell, K0.cell, Ke.cell]; try first | exact ⟨rfl, rfl⟩ | rfl) (by rfl)
      case oD21 =>
        intro ev wo hev hC hs hph
        have e3 := see_env hA43 hs 3 (by kernel_rfl) (by kernel_rfl) rfl
        have e54 := see_det hs 54 18 (by kernel_rfl) (by kernel_rfl) rfl
        exact ob_gw _ _ rfl rfl e54 rfl (by kernel_rfl) hC (TSp.of rfl (Grows.refl _)) (fun hq hr => by simp [go_sem, e3, e54]; try first | exact ⟨rfl, rfl⟩ | rfl) (by rfl)
      case oD22 =>
        intro ev wo hev hC hs hph
        have e57 := see_det hs 57 21 (by kernel_rfl) (by kernel_rfl) rfl
        have e54 := see_det hs 54 18 (by kernel_rfl) (by kernel_rfl) rfl
        have Kx := K0.below hC K0.lt
        have Kex := Ke.below hC Ke.lt
        have pz := fun h => ((HB.trans (hC.mono HB.size)).cell (hms.prev hlt h).1).trans (hms.prev hlt h).2
        exact ob_gw _ _ rfl rfl e54 rfl (by kernel_rfl) hC (TSp.of rfl (Grows.refl _)) (fun hq hr => by simp [go_sem, (e57.trans (gw_t (and_beq hq hr))), e54, hev.const, hwk]; try first | exact ⟨rfl, rfl⟩ | rfl) (by rfl)
      case oD23 =>
        intro ev wo hev hC hs hph
        have e56 := see_det hs 56 20 (by kernel_rfl) (by kernel_rfl) rfl
        have e58 := see_det hs 58 22 (by kernel_rfl) (by kernel_rfl) rfl
        have e54 := see_det hs 54 18 (by kernel_rfl) (by kernel_rfl) rfl
        have Kx := K0.below hC K0.lt
        have Kex := Ke.below hC Ke.lt
        have pz := fun h => ((HB.trans (hC.mono HB.size)).cell (hms.prev hlt h).1).trans (hms.prev hlt h).2
        exact ob_gw _ _ rfl rfl e54 rfl (by kernel_rfl) hC (TSp.of rfl (Grows.refl _)) (fun hq hr => by simp [go_sem, (e56.trans (gw_t (and_beq hq hr))), (e58.trans (gw_t (and_beq hq hr))), e54, hpj hr, hpk]; try first | exact ⟨rfl, rfl⟩ | rfl) (by rfl)
      case oD24 =>
        intro ev wo hev hC hs hph
        have e59 := see_det hs 59 23 (by kernel_rfl) (by kernel_rfl) rfl
        have e54 := see_det hs 54 18 (by kernel_rfl) (by kernel_rfl) rfl
        exact ob_gw _ _ rfl rfl e54 rfl (by kernel_rfl) hC (TSp.of rfl (Grows.refl _)) (fun hq hr => by simp [go_sem, (e59.trans (gw_t (and_beq hq hr))), e54]; try first | exact ⟨rfl, rfl⟩ | rfl) (by rfl)
      case oD25 =>
        intro ev wo hev hC hs hph
        have e60 := see_det hs 60 24 (by kernel_rfl) (by kernel_rfl) rfl
        have e54 := see_det hs 54 18 (by kernel_rfl) (by kernel_rfl) rfl
        have Kx := K0.below hC K0.lt
        have Kex := Ke.below hC Ke.lt
        have pz := fun h => ((HB.trans (hC.mono HB.size)).cell (hms.prev hlt h).1).trans (hms.prev hlt h).2
        exact ob_gw _ _ rfl rfl e54 rfl (by kernel_rfl) hC (TSp.of rfl (Grows.refl _)) (fun hq hr => by simp [go_sem, (e60.trans (gw_t (and_beq hq hr))), e54, Kx.cell, Kex.cell, K0.cell, Ke.cell, pz (hpi hr)]; try first | exact ⟨rfl, rfl⟩ | rfl) (by rfl)
      case oD26 =>
        intro ev wo hev hC hs hph
        have e4 := see_env hA43 hs 4 (by kernel_rfl) (by kernel_rfl) rfl
        have e54 := see_det hs 54 18 (by kernel_rfl) (by kernel_rfl) rfl
        exact ob_gw _ _ rfl rfl e54 rfl (by kernel_rfl) hC (TSp.of rfl (Grows.refl _)) (fun hq hr => by simp [go_sem, e4, e54]; try first | exact ⟨rfl, rfl⟩ | rfl) (by rfl)
      case oD27 =>
        intro ev wo hev hC hs hph
        have e62 := see_det hs 62 26 (by kernel_rfl) (by kernel_rfl) rfl
        have e54 := see_det hs 54 18 (by kernel_rfl) (by kernel_rfl) rfl
        have Kx := K0.below hC K0.lt
        have Kex := Ke.below hC Ke.lt
        have pz := fun h => ((HB.trans (hC.mono HB.size)).cell (hms.prev hlt h).1).trans (hms.prev hlt h).2
        exact ob_gw _ _ rfl rfl e54 rfl (by kernel_rfl) hC (TSp.of rfl (Grows.refl _)) (fun hq hr => by simp [go_sem, (e62.trans (gw_t (and_beq hq hr))), e54, Kx.cell, Kex.cell, K0.cell, Ke.cell]; try first | exact ⟨rfl, rfl⟩ | rfl) (by rfl)
      case oD28 =>
        intro ev wo hev hC hs hph
        have e61 := see_det hs 61 25 (by kernel_rfl) (by kernel_rfl) rfl
        have e63 := see_det hs 63 27 (by kernel_rfl) (by kernel_rfl) rfl
        have e54 := see_det hs 54 18 (by kernel_rfl) (by kernel_rfl) rfl
        exact ob_gw _ _ rfl rfl e54 rfl (by kernel_rfl) hC (TSp.of rfl (Grows.refl _)) (fun hq hr => by simp [go_sem, (e61.trans (gw_t (and_beq hq hr))), (e63.trans (gw_t (and_beq hq hr))), e54]; try first | exact ⟨rfl, rfl⟩ | rfl) (by rfl)
      case oD29 =>
        intro ev wo hev hC hs hph
        have e54 := see_det hs 54 18 (by kernel_rfl) (by kernel_rfl) rfl
        have e64 := see_det hs 64 28 (by kernel_rfl) (by kernel_rfl) rfl
        have e51 := see_det hs 51 15 (by kernel_rfl) (by kernel_rfl) rfl
        exact ob_gv _ rfl rfl e51 rfl (by kernel_rfl) hC (TSp.of rfl (Grows.refl _)) (fun hq => by first | (refine (pick_and ?_ ((e54.trans (gw_t (beq_t hq)))) ((e64.trans (gw_a (beq_t hq)))) (hev.const _)); rfl) | (rw [pick_and _ ((e54.trans (gw_t (beq_t hq)))) ((e64.trans (gw_a (beq_t hq)))) (hev.const _)]; rfl) | (refine (pick_or ?_ ((e54.trans (gw_t (beq_t hq)))) ((e64.trans (gw_a (beq_t hq)))) (hev.const _)); rfl) | (rw [pick_or _ ((e54.trans (gw_t (beq_t hq)))) ((e64.trans (gw_a (beq_t hq)))) (hev.const _)]; rfl) | (simp [go_sem, (e54.trans (gw_t (beq_t hq))), (e64.trans (gw_a (beq_t hq))), e51, hev.const]; try first | exact ⟨rfl, rfl⟩ | rfl)) (by rfl)
      case oD30 =>
        intro ev wo hev hC hs hph
        have e51 := see_det hs 51 15 (by kernel_rfl) (by kernel_rfl) rfl
        have e65 := see_det hs 65 29 (by kernel_rfl) (by kernel_rfl) rfl
        exact ob_det (wanted_none rfl) rfl (by kernel_rfl) hC (TSp.of rfl (Grows.refl _)) (by first | (refine (pick_and ?_ (e51) (hev.const _) (e65)); rfl) | (rw [pick_and _ (e51) (hev.const _) (e65)]; rfl) | (refine (pick_or ?_ (e51) (hev.const _) (e65)); rfl) | (rw [pick_or _ (e51) (hev.const _) (e65)]; rfl) | (simp [go_sem, e51, e65, hev.const]; try first | exact ⟨rfl, rfl⟩ | rfl))
      intro sg wf hC hph
      intro a44 hA44
      refine n_then ?_
      have hA45 := hA44.keep [1, 27, 28, 66]
      simp only [argsE, keepE, lookS, Nat.reduceBEq, cond_true, cond_false, Nat.reduceAdd, gv_tt, gv_ff, Bool.true_and, Bool.false_and, Bool.true_or, Bool.false_or] at hA45
      clear hA43 hA44 a42
      rw [refStepE nx l j x] at hA45
      obtain ⟨q, hqe⟩ : ∃ q, msgStep nx l j x = q := ⟨_, rfl⟩
      rw [hqe] at hA45
      have HB := HB.trans (hC.mono HB.size)
      refine wp_if hA45 66 _ rfl (fun hq2 => ?yR) (fun hq2 => ?nR)
      case yR =>
        have hq2 : q = false := by simpa using hq2
        subst hq2
        refine wp_seq ?_
        refine wp_region_lit ?_
        refine wl_op hA45 rfl rfl (by decide) (fun ev h => by simp [go_sem, h.c, hwj]; try first | exact ⟨rfl, rfl⟩ | rfl) fun a46 hA46 => ?_
        refine wl_nil ?_
        refine n_then ?_
        have hA47 := hA46.keep [2]
        simp only [argsE, keepE, lookS, Nat.reduceBEq, cond_true, cond_false, Nat.reduceAdd, gv_tt, gv_ff, Bool.true_and, Bool.false_and, Bool.true_or, Bool.false_or] at hA47
        clear hA45 hA46
        refine wp_ret ?_
        refine r_block ?_
        refine r_then ?_
        refine r_then ?_
        refine r_block ?_
        refine r_then ?_
        refine ret_1 hA47 2 rfl rfl ?_
        exact ⟨ret_bool (by rw [← hl]; exact (msgs_no hx hqe).symm), hb0.trans (HB.mono hb0.size)⟩
      case nR =>
        have hq2 : q = true := by simpa using hq2
        subst hq2
        refine wp_skip ?_
        refine n_block ?_
        refine n_then ?_
        refine wp_region_lit ?_
        refine wl_op hA45 rfl rfl (by decide) (fun ev h => by simp [go_sem, h.c, h.get 28 rfl, hwj]; try first | exact ⟨rfl, rfl⟩ | rfl) fun a48 hA48 => ?_
        refine wl_op hA48 rfl rfl (by decide) (fun ev h => by simp [go_sem, h.get 67 rfl, hwj]; try first | exact ⟨rfl, rfl⟩ | rfl) fun a49 hA49 => ?_
        refine wl_nil ?_
        refine n_then ?_
        have hA50 := hA49.keep [1, 27, 28]
        simp only [argsE, keepE, lookS, Nat.reduceBEq, cond_true, cond_false, Nat.reduceAdd, gv_tt, gv_ff, Bool.true_and, Bool.false_and, Bool.true_or, Bool.false_or] at hA50
        clear hA45 hA48 hA49 a48
        -- round
        rw [show ((j : Int) + 1) = ((j + 1 : Nat) : Int) by omega] at hA50
        exact ⟨k - 1, by omega, j + 1, by omega, hA50, by rw [msgsN_succ hx, hall, hqe]; rfl, HB⟩
    case nL =>
      have hjn : j = n := by simp at hq; omega
      subst hjn
      refine wp_exit ?_
      refine x_then ?_
      refine x_then ?_
      refine x_block ?_
      refine n_then ?_
      have hA51 := hA33.keep []
      simp only [argsE, keepE, lookS, Nat.reduceBEq, cond_true, cond_false, Nat.reduceAdd, gv_tt, gv_ff, Bool.true_and, Bool.false_and, Bool.true_or, Bool.false_or] at hA51
      clear hA33
      refine wp_seq ?_
      refine wp_region_lit ?_
      refine wl_op hA51 rfl rfl (by decide) (fun ev h => by simp [go_sem, h.c]; try first | exact ⟨rfl, rfl⟩ | rfl) fun a52 hA52 => ?_
      refine wl_nil ?_
      refine n_then ?_
      have hA53 := hA52.keep [2]
      simp only [argsE, keepE, lookS, Nat.reduceBEq, cond_true, cond_false, Nat.reduceAdd, gv_tt, gv_ff, Bool.true_and, Bool.false_and, Bool.true_or, Bool.false_or] at hA53
      clear hA51 hA52
      refine wp_ret ?_
      refine ret_1 hA53 2 rfl rfl ?_
      exact ⟨ret_bool hall.symm, hb0.trans (HB.mono hb0.size)⟩
end Go.Proofs.YtbbhblnhbgkcaaaDoor
