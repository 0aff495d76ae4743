/-
  Walk: the law MailRight.
-/
import Derived.Test.YtbbhblnhbgkcaaaDoorMailRefRight
import Derived.Test.YtbbhblnhbgkcaaaDoorMailFew
import Derived.Test.YtbbhblnhbgkcaaaDoorMailAt
namespace Go.Proofs.YtbbhblnhbgkcaaaDoor
open Go.RowKit
set_option linter.unusedSimpArgs false
set_option linter.unusedVariables false
theorem awake_right : boxRight ⟨#[97]⟩ 1 1 [] = true := by decide +kernel
set_option maxRecDepth 100000 in
theorem awake_any (w : World) (hm : MaxCell w) (hg : 1 < w.heap.size) (htab : Lib.TabIs Tryd.prog w "internal/strconv.uint64pow10" .u64 Lib.pow10Tab) :
    Calls Tryd.prog 8 #[] w fun ev w' => ev = .returned (.bool true) ∧ Below w.heap.size w w' := by
  have N := new_any ⟨#[97]⟩ 1 w hm hg htab (by decide)
  rw [awake_right] at N
  simp only [cond_true] at N
  unfold boxC at N
  refine calls_at 19 Tryd.func8 rfl rfl (Nat.le_of_ble_eq_true rfl) ?_
  intro a hA
  simp only [argsE, keepE, lookS, Nat.reduceBEq, cond_true, cond_false, Nat.reduceAdd, gv_tt, gv_ff, Bool.true_and, Bool.false_and, Bool.true_or, Bool.false_or] at hA
  refine wp_seq ?_
  refine wp_region_lit ?_
  refine wl_op hA rfl rfl (by decide) (fun ev h => by simp [go_sem, h.c]; try first | exact ⟨rfl, rfl⟩ | rfl) fun a1 hA1 => ?_
  refine wl_nil ?_
  refine n_then ?_
  have hA2 := hA1.keep []
  simp only [argsE, keepE, lookS, Nat.reduceBEq, cond_true, cond_false, Nat.reduceAdd, gv_tt, gv_ff, Bool.true_and, Bool.false_and, Bool.true_or, Bool.false_or] at hA2
  clear hA hA1
  refine wp_seq ?_
  refine wp_region_lit ?_
  -- stop call slot 4
  refine wl_call hA2 rfl rfl (by decide) (fun ev h => by simp [go_sem, h.c, h.f]; try first | exact ⟨rfl, rfl⟩ | rfl) (N) ?_
  rintro e w1 ⟨rfl, hb1⟩
  refine ⟨_, rfl, fun a3 hA3 => ?_⟩
  refine wl_op hA3 rfl rfl (by decide) (fun ev h => by simp [go_sem, h.get 4 rfl]; try first | exact ⟨rfl, rfl⟩ | rfl) fun a4 hA4 => ?_
  refine wl_op hA4 rfl rfl (by decide) (fun ev h => by simp [go_sem, h.get 3 rfl]; try first | exact ⟨rfl, rfl⟩ | rfl) fun a5 hA5 => ?_
  refine wl_op hA5 rfl rfl (by decide) (fun ev h => by simp [go_sem, h.get 3 rfl]; try first | exact ⟨rfl, rfl⟩ | rfl) fun a6 hA6 => ?_
  -- stop alloc slot 1
  refine wl_local [.string ⟨#[97]⟩, .int .u32 ((1 : Nat) : Int), .int .u32 ((1 : Nat) : Int), .slice none 0 0] hA6 rfl rfl (by decide) (fun ev h => by simp [go_sem]; try first | exact ⟨rfl, rfl⟩ | rfl) rfl rfl (by rfl) (fun w1 g ev hb h => by simp [go_sem, h.get 1 rfl, h.get 5 rfl, setAll, hb.cell, hb.frozen]) fun w2 a7 (K2 : Blk _ _ _ _) hz2 hb2 hA7 => ?_
  have HB := hb1.trans (hb2.mono hb1.size)
  refine wl_op hA7 rfl rfl (by decide) (fun ev h => by simp [go_sem, h.get 6 rfl, K2.cell]; try first | exact ⟨rfl, rfl⟩ | rfl) fun a8 hA8 => ?_
  refine wl_nil ?_
  refine n_then ?_
  have hA9 := hA8.keep [1, 2]
  simp only [argsE, keepE, lookS, Nat.reduceBEq, cond_true, cond_false, Nat.reduceAdd, gv_tt, gv_ff, Bool.true_and, Bool.false_and, Bool.true_or, Bool.false_or] at hA9
  clear hA2 hA3 hA4 hA5 hA6 hA7 hA8 a1 a3 a4 a5 a6 a7
  refine wp_seq ?_
  refine wp_region_lit ?_
  refine wl_op hA9 rfl rfl (by decide) (fun ev h => by simp [go_sem, h.get 2 rfl, K2.cell]; try first | exact ⟨rfl, rfl⟩ | rfl) fun a10 hA10 => ?_
  refine wl_op hA10 rfl rfl (by decide) (fun ev h => by simp [go_sem, h.c, h.get 7 rfl, K2.cell]; try first | exact ⟨rfl, rfl⟩ | rfl) fun a11 hA11 => ?_
  refine wl_op hA11 rfl rfl (by decide) (fun ev h => by simp [go_sem, h.get 8 rfl, K2.cell]; try first | exact ⟨rfl, rfl⟩ | rfl) fun a12 hA12 => ?_
  refine wl_guard _ hA12 rfl rfl rfl rfl (by decide) (fun hq ev h => by simp [go_sem, (h.get 1 rfl), K2.cell]; try first | exact ⟨rfl, rfl⟩ | rfl) fun a13 hA13 => ?_
  refine wl_guard _ hA13 rfl rfl rfl rfl (by decide) (fun hq ev h => by simp [go_sem, ((h.get 10 rfl).trans (gw_t (beq_t hq))), K2.cell]; try first | exact ⟨rfl, rfl⟩ | rfl) fun a14 hA14 => ?_
  refine wl_guard _ hA14 rfl rfl rfl rfl (by decide) (fun hq ev h => by simp [go_sem, h.c, ((h.get 11 rfl).trans (gw_t (beq_t hq))), K2.cell]; try first | exact ⟨rfl, rfl⟩ | rfl) fun a15 hA15 => ?_
  refine wl_op hA15 rfl rfl (by decide) (fun ev h => by first | exact pick_and rfl (h.get 9 rfl) (h.get 12 rfl) (h.c _) | exact pick_or rfl (h.get 9 rfl) (h.get 12 rfl) (h.c _) | (simp [go_sem, h.c, h.get 9 rfl, h.get 12 rfl, K2.cell, gv_or, gv_and]; try first | exact ⟨rfl, rfl⟩ | rfl)) fun a16 hA16 => ?_
  refine wl_op hA16 rfl rfl (by decide) (fun ev h => by simp [go_sem, h.get 13 rfl, K2.cell]; try first | exact ⟨rfl, rfl⟩ | rfl) fun a17 hA17 => ?_
  refine wl_guard _ hA17 rfl rfl rfl rfl (by decide) (fun hq ev h => by simp [go_sem, (h.get 1 rfl), K2.cell]; try first | exact ⟨rfl, rfl⟩ | rfl) fun a18 hA18 => ?_
  -- stop call slot 16
  refine wl_gcallv _ hA18 rfl rfl rfl rfl (by decide) (fun hq ev h => by simp [go_sem, h.c, ((h.get 15 rfl).trans (gw_t (beq_t hq))), K2.cell, h.f]; try first | exact ⟨rfl, rfl⟩ | rfl) (fun hq => at_any ⟨#[97]⟩ none 0 0 1 1 1 [] _ (by omega) (Msgs.nil _)) fun a19 w3 hb3 hA19 => ?_
  replace HB := HB.trans (hb3.mono HB.size)
  refine wl_guard _ hA19 rfl rfl rfl rfl (by decide) (fun hq ev h => by simp [go_sem, h.c, ((h.get 16 rfl).trans (gw_t (beq_t hq))), K2.cell]; try first | exact ⟨rfl, rfl⟩ | rfl) fun a20 hA20 => ?_
  refine wl_op hA20 rfl rfl (by decide) (fun ev h => by first | exact pick_and rfl (h.get 14 rfl) (h.get 17 rfl) (h.c _) | exact pick_or rfl (h.get 14 rfl) (h.get 17 rfl) (h.c _) | (simp [go_sem, h.c, h.get 14 rfl, h.get 17 rfl, K2.cell, gv_or, gv_and]; try first | exact ⟨rfl, rfl⟩ | rfl)) fun a21 hA21 => ?_
  refine wl_op hA21 rfl rfl (by decide) (fun ev h => by simp [go_sem, h.get 18 rfl, K2.cell]; try first | exact ⟨rfl, rfl⟩ | rfl) fun a22 hA22 => ?_
  refine wl_nil ?_
  refine n_then ?_
  have hA23 := hA22.keep [0]
  simp only [argsE, keepE, lookS, Nat.reduceBEq, cond_true, cond_false, Nat.reduceAdd, gv_tt, gv_ff, Bool.true_and, Bool.false_and, Bool.true_or, Bool.false_or] at hA23
  clear hA9 hA10 hA11 hA12 hA13 hA14 hA15 hA16 hA17 hA18 hA19 hA20 hA21 hA22 a8 a10 a11 a12 a13 a14 a15 a16 a17 a18 a19 a20 a21
  refine wp_ret ?_
  -- ret
  refine ret_1 hA23 0 rfl rfl ?_
  exact ⟨rfl, HB⟩
set_option maxRecDepth 100000 in
set_option maxHeartbeats 2000000 in
theorem right_law (nm nm2 : ByteArray) (A A2 : Option Addr) (c c2 n n2 e e2 nx nx2 u : Nat) (l l2 : List MsgV) (w : World) (hm : MaxCell w) (hg : 1 < w.heap.size) (htab : Lib.TabIs Tryd.prog w "internal/strconv.uint64pow10" .u64 Lib.pow10Tab)
    (hs : nm.size ≤ 140737488355328) (hs2 : nm2.size ≤ 140737488355328) (hn : n ≤ 140737488355328) (hn2 : n2 ≤ 140737488355328) (hz : ∀ m ∈ l, m.b.length ≤ 140737488355328) (hz2 : ∀ m ∈ l2, m.b.length ≤ 140737488355328) (hms : Msgs w A n l) (hms2 : Msgs w A2 n2 l2) :
    Calls Tryd.prog 3 #[.agg (boxC nm e nx A n c), .agg (boxC nm2 e2 nx2 A2 n2 c2), .int .u32 (u : Nat)] w fun ev w' => ev = .returned (.bool true) ∧ Below w.heap.size w w' := by
  have Ht := Lib.tabBelow_of_tabIs htab
  have hl := hms.len
  have hl2 := hms2.len
  refine calls_at 117 Tryd.func3 rfl rfl (Nat.le_of_ble_eq_true rfl) ?_
  intro a hA
  simp only [argsE, keepE, lookS, Nat.reduceBEq, cond_true, cond_false, Nat.reduceAdd, gv_tt, gv_ff, Bool.true_and, Bool.false_and, Bool.true_or, Bool.false_or] at hA
  refine wp_seq ?_
  refine wp_region_lit ?_
  -- stop box slot 3
  refine wl_new hA rfl rfl (by decide) (fun ev h => by simp [go_sem, h.get 0 rfl]; try first | exact ⟨rfl, rfl⟩ | rfl) fun w1 a24 (K : Blk _ _ _ _) hzz0 hb0 hA24 => ?_
  replace hm := hm.below hg hb0; replace hg := Nat.lt_of_lt_of_le hg hb0.size
  replace hms := hms.below hb0
  replace hms2 := hms2.below hb0
  refine wl_new hA24 rfl rfl (by decide) (fun ev h => by simp [go_sem, h.get 1 rfl]; try first | exact ⟨rfl, rfl⟩ | rfl) fun w2 a25 (K2 : Blk _ _ _ _) hzz2 hb2 hA25 => ?_
  replace hm := hm.below hg hb2; replace hg := Nat.lt_of_lt_of_le hg hb2.size
  replace hms := hms.below hb2
  replace hms2 := hms2.below hb2
  replace K := K.below hb2 K.lt
  have HB := hb0.trans (hb2.mono hb0.size)
  unfold boxC at K K2
  refine wl_op hA25 rfl rfl (by decide) (fun ev h => by simp [go_sem, h.c, K.cell, K2.cell]; try first | exact ⟨rfl, rfl⟩ | rfl) fun a26 hA26 => ?_
  refine wl_nil ?_
  refine n_then ?_
  have hA27 := hA26.keep [2, 3, 4]
  simp only [argsE, keepE, lookS, Nat.reduceBEq, cond_true, cond_false, Nat.reduceAdd, gv_tt, gv_ff, Bool.true_and, Bool.false_and, Bool.true_or, Bool.false_or] at hA27
  clear hA hA24 hA25 hA26 a24 a25
  refine wp_seq ?_
  refine wp_seq ?_
  refine wp_region_lit ?_
  -- stop call slot 12
  refine wl_call hA27 rfl rfl (by decide) (fun ev h => by simp [go_sem, K.cell, K2.cell, h.f]; try first | exact ⟨rfl, rfl⟩ | rfl) (awake_any _ hm hg (Ht _ HB)) ?_
  rintro e w3 ⟨rfl, hb3⟩
  refine ⟨_, rfl, fun a28 hA28 => ?_⟩
  replace hm := hm.below hg hb3; replace hg := Nat.lt_of_lt_of_le hg hb3.size
  replace hms := hms.below hb3
  replace hms2 := hms2.below hb3
  replace K := K.below hb3 K.lt
  replace K2 := K2.below hb3 K2.lt
  replace HB := HB.trans (hb3.mono HB.size)
  refine wl_op hA28 rfl rfl (by decide) (fun ev h => by simp [go_sem, h.get 12 rfl, K.cell, K2.cell]; try first | exact ⟨rfl, rfl⟩ | rfl) fun a29 hA29 => ?_
  refine wl_op hA29 rfl rfl (by decide) (fun ev h => by simp [go_sem, h.get 13 rfl, K.cell, K2.cell]; try first | exact ⟨rfl, rfl⟩ | rfl) fun a30 hA30 => ?_
  refine wl_guard _ hA30 rfl rfl rfl rfl (by decide) (fun hq ev h => by simp [go_sem, (h.get 3 rfl), K.cell, K2.cell]; try first | exact ⟨rfl, rfl⟩ | rfl) fun a31 hA31 => ?_
  -- stop call slot 16
  refine wl_gcallv _ hA31 rfl rfl rfl rfl (by decide) (fun hq ev h => by simp [go_sem, h.c, ((h.get 15 rfl).trans (gw_t (beq_t hq))), K.cell, K2.cell, h.f]; try first | exact ⟨rfl, rfl⟩ | rfl) (fun hq => few_any nm A none c n e nx 0 0 l _ hs hn hz hms) fun a32 w4 hb4 hA32 => ?_
  replace hm := hm.below hg hb4; replace hg := Nat.lt_of_lt_of_le hg hb4.size
  replace hms := hms.below hb4
  replace hms2 := hms2.below hb4
  replace K := K.below hb4 K.lt
  replace K2 := K2.below hb4 K2.lt
  replace HB := HB.trans (hb4.mono HB.size)
  refine wl_guard _ hA32 rfl rfl rfl rfl (by decide) (fun hq ev h => by simp [go_sem, ((h.get 16 rfl).trans (gw_t (beq_t hq))), K.cell, K2.cell]; try first | exact ⟨rfl, rfl⟩ | rfl) fun a33 hA33 => ?_
  refine wl_op hA33 rfl rfl (by decide) (fun ev h => by first | exact pick_and rfl (h.get 14 rfl) (h.c _) (h.get 17 rfl) | exact pick_or rfl (h.get 14 rfl) (h.c _) (h.get 17 rfl) | (simp [go_sem, h.c, h.get 14 rfl, h.get 17 rfl, K.cell, K2.cell, gv_or, gv_and]; try first | exact ⟨rfl, rfl⟩ | rfl)) fun a34 hA34 => ?_
  refine wl_op hA34 rfl rfl (by decide) (fun ev h => by simp [go_sem, h.get 18 rfl, K.cell, K2.cell]; try first | exact ⟨rfl, rfl⟩ | rfl) fun a35 hA35 => ?_
  refine wl_guard _ hA35 rfl rfl rfl rfl (by decide) (fun hq ev h => by simp [go_sem, (h.get 4 rfl), K.cell, K2.cell]; try first | exact ⟨rfl, rfl⟩ | rfl) fun a36 hA36 => ?_
  -- stop call slot 21
  refine wl_gcallv _ hA36 rfl rfl rfl rfl (by decide) (fun hq ev h => by simp [go_sem, h.c, ((h.get 20 rfl).trans (gw_t (beq_t hq))), K.cell, K2.cell, h.f]; try first | exact ⟨rfl, rfl⟩ | rfl) (fun hq => few_any nm2 A2 none c2 n2 e2 nx2 0 0 l2 _ hs2 hn2 hz2 hms2) fun a37 w5 hb5 hA37 => ?_
  replace hm := hm.below hg hb5; replace hg := Nat.lt_of_lt_of_le hg hb5.size
  replace hms := hms.below hb5
  replace hms2 := hms2.below hb5
  replace K := K.below hb5 K.lt
  replace K2 := K2.below hb5 K2.lt
  replace HB := HB.trans (hb5.mono HB.size)
  refine wl_guard _ hA37 rfl rfl rfl rfl (by decide) (fun hq ev h => by simp [go_sem, ((h.get 21 rfl).trans (gw_t (beq_t hq))), K.cell, K2.cell]; try first | exact ⟨rfl, rfl⟩ | rfl) fun a38 hA38 => ?_
  refine wl_op hA38 rfl rfl (by decide) (fun ev h => by first | exact pick_and rfl (h.get 19 rfl) (h.c _) (h.get 22 rfl) | exact pick_or rfl (h.get 19 rfl) (h.c _) (h.get 22 rfl) | (simp [go_sem, h.c, h.get 19 rfl, h.get 22 rfl, K.cell, K2.cell, gv_or, gv_and]; try first | exact ⟨rfl, rfl⟩ | rfl)) fun a39 hA39 => ?_
  refine wl_nil ?_
  refine n_then ?_
  have hA40 := hA39.keep [2, 3, 4, 23]
  simp only [argsE, keepE, lookS, Nat.reduceBEq, cond_true, cond_false, Nat.reduceAdd, gv_tt, gv_ff, Bool.true_and, Bool.false_and, Bool.true_or, Bool.false_or] at hA40
  clear hA27 hA28 hA29 hA30 hA31 hA32 hA33 hA34 hA35 hA36 hA37 hA38 hA39 a26 a28 a29 a30 a31 a32 a33 a34 a35 a36 a37 a38
  -- cond
  refine wp_if hA40 23 _ rfl (fun hq => ?yA) (fun hq => ?nA)
  case yA =>
    refine wp_seq ?_
    refine wp_region_lit ?_
    -- stop call slot 24
    refine wl_call hA40 rfl rfl (by decide) (fun ev h => by simp [go_sem, K.cell, K2.cell, h.f]; try first | exact ⟨rfl, rfl⟩ | rfl) (awake_any _ hm hg (Ht _ HB)) ?_
    rintro e w6 ⟨rfl, hb6⟩
    refine ⟨_, rfl, fun a41 hA41 => ?_⟩
    replace hm := hm.below hg hb6; replace hg := Nat.lt_of_lt_of_le hg hb6.size
    replace hms := hms.below hb6
    replace hms2 := hms2.below hb6
    replace K := K.below hb6 K.lt
    replace K2 := K2.below hb6 K2.lt
    replace HB := HB.trans (hb6.mono HB.size)
    refine wl_op hA41 rfl rfl (by decide) (fun ev h => by simp [go_sem, h.get 24 rfl, K.cell, K2.cell]; try first | exact ⟨rfl, rfl⟩ | rfl) fun a42 hA42 => ?_
    refine wl_nil ?_
    refine n_then ?_
    have hA43 := hA42.keep [6]
    simp only [argsE, keepE, lookS, Nat.reduceBEq, cond_true, cond_false, Nat.reduceAdd, gv_tt, gv_ff, Bool.true_and, Bool.false_and, Bool.true_or, Bool.false_or] at hA43
    clear hA40 hA41 hA42 a41
    refine wp_ret ?_
    refine r_then ?_
    -- ret
    refine ret_1 hA43 6 rfl rfl ?_
    exact ⟨rfl, HB⟩
  case nA =>
    have hf1 : fewL nm l = true := by simp at hq; exact hq.1
    have hf2 : fewL nm2 l2 = true := by simp at hq; exact hq.2
    clear hq
    refine wp_skip ?_
    refine n_then ?_
    refine wp_seq ?_
    refine wp_region_lit ?_
    refine wl_op hA40 rfl rfl (by decide) (fun ev h => by simp [go_sem, h.c, K.cell, K2.cell, (IntWalk.i64_in ((n : Int) - 1) (by omega) : IntKind.i64.wrap ((n : Int) - 1) = (n : Int) - 1)]; try first | exact ⟨rfl, rfl⟩ | rfl) fun a44 hA44 => ?_
    refine wl_nil ?_
    refine n_then ?_
    have hA45 := hA44.keep [2, 3, 4, 7]
    simp only [argsE, keepE, lookS, Nat.reduceBEq, cond_true, cond_false, Nat.reduceAdd, gv_tt, gv_ff, Bool.true_and, Bool.false_and, Bool.true_or, Bool.false_or] at hA45
    clear hA40 hA44
    refine wp_seq ?_
    refine wp_seq ?_
    refine wp_region_lit ?_
    refine wl_op hA45 rfl rfl (by decide) (fun ev h => by simp [go_sem, h.get 3 rfl, K.cell, K2.cell, (IntWalk.i64_in ((n : Int) - 1) (by omega) : IntKind.i64.wrap ((n : Int) - 1) = (n : Int) - 1)]; try first | exact ⟨rfl, rfl⟩ | rfl) fun a46 hA46 => ?_
    refine wl_op hA46 rfl rfl (by decide) (fun ev h => by simp [go_sem, h.get 25 rfl, K.cell, K2.cell, (IntWalk.i64_in ((n : Int) - 1) (by omega) : IntKind.i64.wrap ((n : Int) - 1) = (n : Int) - 1)]; try first | exact ⟨rfl, rfl⟩ | rfl) fun a47 hA47 => ?_
    refine wl_op hA47 rfl rfl (by decide) (fun ev h => by simp [go_sem, h.get 26 rfl, K.cell, K2.cell, (IntWalk.i64_in ((n : Int) - 1) (by omega) : IntKind.i64.wrap ((n : Int) - 1) = (n : Int) - 1)]; try first | exact ⟨rfl, rfl⟩ | rfl) fun a48 hA48 => ?_
    refine wl_op hA48 rfl rfl (by decide) (fun ev h => by simp [go_sem, h.c, h.get 27 rfl, K.cell, K2.cell, (IntWalk.i64_in ((n : Int) - 1) (by omega) : IntKind.i64.wrap ((n : Int) - 1) = (n : Int) - 1)]; try first | exact ⟨rfl, rfl⟩ | rfl) fun a49 hA49 => ?_
    refine wl_op hA49 rfl rfl (by decide) (fun ev h => by simp [go_sem, h.get 28 rfl, K.cell, K2.cell, (IntWalk.i64_in ((n : Int) - 1) (by omega) : IntKind.i64.wrap ((n : Int) - 1) = (n : Int) - 1)]; try first | exact ⟨rfl, rfl⟩ | rfl) fun a50 hA50 => ?_
    refine wl_nil ?_
    refine n_then ?_
    have hA51 := hA50.keep [2, 3, 4, 7, 8]
    simp only [argsE, keepE, lookS, Nat.reduceBEq, cond_true, cond_false, Nat.reduceAdd, gv_tt, gv_ff, Bool.true_and, Bool.false_and, Bool.true_or, Bool.false_or] at hA51
    clear hA45 hA46 hA47 hA48 hA49 hA50 a44 a46 a47 a48 a49
    refine wp_block ?_
    -- loop
    refine wp_loop_at (fun k a wx => ∃ (j : Nat), j = k ∧ j ≤ n ∧ At 117 [(2, .int .u32 (u : Nat)), (3, .pointer (some ⟨w.heap.size, 0, none⟩)), (4, .pointer (some ⟨w1.heap.size, 0, none⟩)), (7, .int .i64 (firstU u (l.drop j) j)), (8, .int .i64 ((j : Int) - 1))] a ∧ wx = w5) (n) ?_ ?_
    · exact ⟨n, rfl, by omega, by rw [List.drop_of_length_le (by omega)]; exact hA51, rfl⟩
    rintro k a wx ⟨j, rfl, hjn, hA, rfl⟩
    refine wp_seq ?_
    refine wp_seq ?_
    refine wp_region_lit ?_
    refine wl_op hA rfl rfl (by decide) (fun ev h => by simp [go_sem, h.get 8 rfl]; try first | exact ⟨rfl, rfl⟩ | rfl) fun a52 hA52 => ?_
    refine wl_op hA52 rfl rfl (by decide) (fun ev h => by simp [go_sem, h.c, h.get 29 rfl]; try first | exact ⟨rfl, rfl⟩ | rfl) fun a53 hA53 => ?_
    refine wl_nil ?_
    refine n_then ?_
    have hA54 := hA53.keep [2, 3, 4, 7, 8, 30]
    simp only [argsE, keepE, lookS, Nat.reduceBEq, cond_true, cond_false, Nat.reduceAdd, gv_tt, gv_ff, Bool.true_and, Bool.false_and, Bool.true_or, Bool.false_or] at hA54
    clear hA hA52 hA53 a52
    -- cond
    refine wp_if hA54 30 _ rfl (fun hq => ?yL) (fun hq => ?nL)
    case yL =>
      obtain ⟨i, rfl⟩ : ∃ i, j = i + 1 := ⟨j - 1, by simp at hq; omega⟩
      clear hq
      rw [show ((i + 1 : Nat) : Int) - 1 = (i : Int) by omega] at hA54
      obtain ⟨x, hx⟩ : ∃ x, l[i]? = some x := ⟨_, List.getElem?_eq_getElem (by omega)⟩
      have hat := firstU_at u hx
      obtain ⟨ad, rfl, hadl, k0, k1, k2, k3⟩ := hms.at_ hx
      have jj0 : (0 : Int) ≤ (i : Int) := by omega
      have jj1 : (i : Int) < (n : Int) := by omega
      have hwj : IntKind.i64.wrap ((i : Int) - 1) = (i : Int) - 1 := IntWalk.i64_in _ (by omega)
      refine wp_skip ?_
      refine n_then ?_
      refine wp_seq ?_
      refine wp_block ?_
      refine wp_seq ?_
      refine wp_region_lit ?_
      refine wl_op hA54 rfl rfl (by decide) (fun ev h => by simp [go_sem, h.get 3 rfl, K.cell, k0, jj0, jj1, hwj]; try first | exact ⟨rfl, rfl⟩ | rfl) fun a55 hA55 => ?_
      refine wl_op hA55 rfl rfl (by decide) (fun ev h => by simp [go_sem, h.get 33 rfl, K.cell, k0, jj0, jj1, hwj]; try first | exact ⟨rfl, rfl⟩ | rfl) fun a56 hA56 => ?_
      refine wl_op hA56 rfl rfl (by decide) (fun ev h => by simp [go_sem, h.get 8 rfl, K.cell, k0, jj0, jj1, hwj]; try first | exact ⟨rfl, rfl⟩ | rfl) fun a57 hA57 => ?_
      refine wl_op hA57 rfl rfl (by decide) (fun ev h => by simp [go_sem, h.get 34 rfl, h.get 35 rfl, K.cell, k0, jj0, jj1, hwj]; try first | exact ⟨rfl, rfl⟩ | rfl) fun a58 hA58 => ?_
      refine wl_op hA58 rfl rfl (by decide) (fun ev h => by simp [go_sem, h.get 36 rfl, K.cell, k0, jj0, jj1, hwj]; try first | exact ⟨rfl, rfl⟩ | rfl) fun a59 hA59 => ?_
      refine wl_op hA59 rfl rfl (by decide) (fun ev h => by simp [go_sem, h.get 37 rfl, K.cell, k0, jj0, jj1, hwj]; try first | exact ⟨rfl, rfl⟩ | rfl) fun a60 hA60 => ?_
      refine wl_op hA60 rfl rfl (by decide) (fun ev h => by simp [go_sem, h.get 2 rfl, K.cell, k0, jj0, jj1, hwj]; try first | exact ⟨rfl, rfl⟩ | rfl) fun a61 hA61 => ?_
      refine wl_op hA61 rfl rfl (by decide) (fun ev h => by simp [go_sem, h.get 38 rfl, h.get 39 rfl, K.cell, k0, jj0, jj1, hwj]; try first | exact ⟨rfl, rfl⟩ | rfl) fun a62 hA62 => ?_
      refine wl_nil ?_
      refine n_then ?_
      have hA63 := hA62.keep [2, 3, 4, 7, 8, 40]
      simp only [argsE, keepE, lookS, Nat.reduceBEq, cond_true, cond_false, Nat.reduceAdd, gv_tt, gv_ff, Bool.true_and, Bool.false_and, Bool.true_or, Bool.false_or] at hA63
      clear hA54 hA55 hA56 hA57 hA58 hA59 hA60 hA61 hA62 a55 a56 a57 a58 a59 a60 a61
      -- cond
      rw [int_beq] at hA63
      refine wp_if hA63 40 _ rfl (fun hq2 => ?yR) (fun hq2 => ?nR)
      case yR =>
        rw [hq2, cond_true] at hat
        refine wp_region_lit ?_
        refine wl_op hA63 rfl rfl (by decide) (fun ev h => by simp [go_sem, h.get 8 rfl, K.cell, k0, jj0, jj1, hwj]; try first | exact ⟨rfl, rfl⟩ | rfl) fun a64 hA64 => ?_
        refine wl_op hA64 rfl rfl (by decide) (fun ev h => by simp [go_sem, h.get 41 rfl, K.cell, k0, jj0, jj1, hwj]; try first | exact ⟨rfl, rfl⟩ | rfl) fun a65 hA65 => ?_
        refine wl_nil ?_
        refine n_block ?_
        refine n_then ?_
        have hA66 := hA65.keep [2, 3, 4, 7, 8]
        simp only [argsE, keepE, lookS, Nat.reduceBEq, cond_true, cond_false, Nat.reduceAdd, gv_tt, gv_ff, Bool.true_and, Bool.false_and, Bool.true_or, Bool.false_or] at hA66
        clear hA63 hA64 hA65 a64
        refine wp_region_lit ?_
        refine wl_op hA66 rfl rfl (by decide) (fun ev h => by simp [go_sem, h.get 8 rfl, K.cell, k0, jj0, jj1, hwj]; try first | exact ⟨rfl, rfl⟩ | rfl) fun a67 hA67 => ?_
        refine wl_op hA67 rfl rfl (by decide) (fun ev h => by simp [go_sem, h.c, h.get 31 rfl, K.cell, k0, jj0, jj1, hwj]; try first | exact ⟨rfl, rfl⟩ | rfl) fun a68 hA68 => ?_
        refine wl_op hA68 rfl rfl (by decide) (fun ev h => by simp [go_sem, h.get 32 rfl, K.cell, k0, jj0, jj1, hwj]; try first | exact ⟨rfl, rfl⟩ | rfl) fun a69 hA69 => ?_
        refine wl_nil ?_
        refine n_then ?_
        have hA70 := hA69.keep [2, 3, 4, 7, 8]
        simp only [argsE, keepE, lookS, Nat.reduceBEq, cond_true, cond_false, Nat.reduceAdd, gv_tt, gv_ff, Bool.true_and, Bool.false_and, Bool.true_or, Bool.false_or] at hA70
        clear hA66 hA67 hA68 hA69 a65 a67 a68
        -- round
        exact ⟨i, by omega, i, rfl, by omega, by rw [hat]; exact hA70, rfl⟩
      case nR =>
        rw [hq2, cond_false] at hat
        refine wp_skip ?_
        refine n_block ?_
        refine n_then ?_
        refine wp_region_lit ?_
        refine wl_op hA63 rfl rfl (by decide) (fun ev h => by simp [go_sem, h.get 8 rfl, K.cell, k0, jj0, jj1, hwj]; try first | exact ⟨rfl, rfl⟩ | rfl) fun a71 hA71 => ?_
        refine wl_op hA71 rfl rfl (by decide) (fun ev h => by simp [go_sem, h.c, h.get 31 rfl, K.cell, k0, jj0, jj1, hwj]; try first | exact ⟨rfl, rfl⟩ | rfl) fun a72 hA72 => ?_
        refine wl_op hA72 rfl rfl (by decide) (fun ev h => by simp [go_sem, h.get 32 rfl, K.cell, k0, jj0, jj1, hwj]; try first | exact ⟨rfl, rfl⟩ | rfl) fun a73 hA73 => ?_
        refine wl_nil ?_
        refine n_then ?_
        have hA74 := hA73.keep [2, 3, 4, 7, 8]
        simp only [argsE, keepE, lookS, Nat.reduceBEq, cond_true, cond_false, Nat.reduceAdd, gv_tt, gv_ff, Bool.true_and, Bool.false_and, Bool.true_or, Bool.false_or] at hA74
        clear hA63 hA71 hA72 hA73 a71 a72
        -- round
        exact ⟨i, by omega, i, rfl, by omega, by rw [hat]; exact hA74, rfl⟩
    case nL =>
      obtain rfl : j = 0 := by simp at hq; omega
      rw [List.drop_zero] at hA54
      refine wp_exit ?_
      refine x_then ?_
      refine x_then ?_
      refine x_block ?_
      refine n_then ?_
      have hA75 := hA54.keep [2, 3, 4, 7]
      simp only [argsE, keepE, lookS, Nat.reduceBEq, cond_true, cond_false, Nat.reduceAdd, gv_tt, gv_ff, Bool.true_and, Bool.false_and, Bool.true_or, Bool.false_or] at hA75
      clear hA54
      refine wp_seq ?_
      refine wp_region_lit ?_
      refine wl_op hA75 rfl rfl (by decide) (fun ev h => by simp [go_sem, h.get 3 rfl, K.cell, K2.cell]; try first | exact ⟨rfl, rfl⟩ | rfl) fun a76 hA76 => ?_
      refine wl_op hA76 rfl rfl (by decide) (fun ev h => by simp [go_sem, h.get 43 rfl, K.cell, K2.cell]; try first | exact ⟨rfl, rfl⟩ | rfl) fun a77 hA77 => ?_
      refine wl_op hA77 rfl rfl (by decide) (fun ev h => by simp [go_sem, h.get 3 rfl, K.cell, K2.cell]; try first | exact ⟨rfl, rfl⟩ | rfl) fun a78 hA78 => ?_
      refine wl_op hA78 rfl rfl (by decide) (fun ev h => by simp [go_sem, h.get 45 rfl, K.cell, K2.cell]; try first | exact ⟨rfl, rfl⟩ | rfl) fun a79 hA79 => ?_
      -- stop call slot 47
      refine wl_call hA79 rfl rfl (by decide) (fun ev h => by simp [go_sem, h.get 44 rfl, h.get 46 rfl, K.cell, K2.cell, h.f]; try first | exact ⟨rfl, rfl⟩ | rfl) (new_any nm e _ hm hg (Ht _ HB) (by omega)) ?_
      rintro e w6 ⟨rfl, hb6⟩
      refine ⟨_, rfl, fun a80 hA80 => ?_⟩
      replace hm := hm.below hg hb6; replace hg := Nat.lt_of_lt_of_le hg hb6.size
      replace hms := hms.below hb6
      replace hms2 := hms2.below hb6
      replace K := K.below hb6 K.lt
      replace K2 := K2.below hb6 K2.lt
      replace HB := HB.trans (hb6.mono HB.size)
      unfold boxC at hA80
      refine wl_op hA80 rfl rfl (by decide) (fun ev h => by simp [go_sem, h.get 47 rfl, K.cell, K2.cell]; try first | exact ⟨rfl, rfl⟩ | rfl) fun a81 hA81 => ?_
      refine wl_op hA81 rfl rfl (by decide) (fun ev h => by simp [go_sem, h.get 42 rfl, K.cell, K2.cell]; try first | exact ⟨rfl, rfl⟩ | rfl) fun a82 hA82 => ?_
      refine wl_op hA82 rfl rfl (by decide) (fun ev h => by simp [go_sem, h.get 42 rfl, K.cell, K2.cell]; try first | exact ⟨rfl, rfl⟩ | rfl) fun a83 hA83 => ?_
      -- stop alloc slot 9
      obtain ⟨r, hr⟩ : ∃ r, boxRight nm e 1 [] = r := ⟨_, rfl⟩
      rw [hr] at hA83
      refine wl_local [.string (bif r then nm else ⟨#[]⟩), .int .u32 ((bif r then e else 0 : Nat) : Int), .int .u32 ((bif r then 1 else 0 : Nat) : Int), .slice none 0 0] hA83 rfl rfl (by decide) (fun ev h => by simp [go_sem, K.cell, K2.cell]; try first | exact ⟨rfl, rfl⟩ | rfl) rfl rfl (by rfl) (fun w1 g ev hb h => by simp [go_sem, h.get 9 rfl, h.get 48 rfl, K.cell, K2.cell, setAll, hb.cell, hb.frozen]) fun w7 a84 (K9 : Blk _ _ _ _) hz7 hb7 hA84 => ?_
      replace hm := hm.below hg hb7; replace hg := Nat.lt_of_lt_of_le hg hb7.size
      replace hms := hms.below hb7
      replace hms2 := hms2.below hb7
      replace K := K.below hb7 K.lt
      replace K2 := K2.below hb7 K2.lt
      replace HB := HB.trans (hb7.mono HB.size)
      refine wl_op hA84 rfl rfl (by decide) (fun ev h => by simp [go_sem, h.get 49 rfl, K.cell, K2.cell]; try first | exact ⟨rfl, rfl⟩ | rfl) fun a85 hA85 => ?_
      refine wl_nil ?_
      refine n_then ?_
      have hA86 := hA85.keep [2, 3, 4, 7, 9, 10]
      simp only [argsE, keepE, lookS, Nat.reduceBEq, cond_true, cond_false, Nat.reduceAdd, gv_tt, gv_ff, Bool.true_and, Bool.false_and, Bool.true_or, Bool.false_or] at hA86
      clear hA75 hA76 hA77 hA78 hA79 hA80 hA81 hA82 hA83 hA84 hA85 a76 a77 a78 a79 a80 a81 a82 a83 a84
      refine wp_seq ?_
      refine wp_region_lit ?_
      refine wl_op hA86 rfl rfl (by decide) (fun ev h => by simp [go_sem, h.get 3 rfl, K.cell, K2.cell]; try first | exact ⟨rfl, rfl⟩ | rfl) fun a87 hA87 => ?_
      refine wl_op hA87 rfl rfl (by decide) (fun ev h => by simp [go_sem, h.get 50 rfl, K.cell, K2.cell]; try first | exact ⟨rfl, rfl⟩ | rfl) fun a88 hA88 => ?_
      -- stop call slot 52
      refine wl_call hA88 rfl rfl (by decide) (fun ev h => by simp [go_sem, h.get 51 rfl, K.cell, K2.cell, h.f]; try first | exact ⟨rfl, rfl⟩ | rfl) (refNamed_any nm (by omega) _) ?_
      rintro e w8 ⟨rfl, hb8⟩
      refine ⟨_, rfl, fun a89 hA89 => ?_⟩
      replace hm := hm.below hg hb8; replace hg := Nat.lt_of_lt_of_le hg hb8.size
      replace hms := hms.below hb8
      replace hms2 := hms2.below hb8
      replace K := K.below hb8 K.lt
      replace K2 := K2.below hb8 K2.lt
      replace HB := HB.trans (hb8.mono HB.size)
      replace K9 := K9.below hb8 K9.lt
      refine wl_op hA89 rfl rfl (by decide) (fun ev h => by simp [go_sem, h.get 52 rfl, K.cell, K2.cell, K9.cell]; try first | exact ⟨rfl, rfl⟩ | rfl) fun a90 hA90 => ?_
      refine wl_guard _ hA90 rfl rfl rfl rfl (by decide) (fun hq ev h => by simp [go_sem, (h.get 3 rfl), K.cell, K2.cell, K9.cell]; try first | exact ⟨rfl, rfl⟩ | rfl) fun a91 hA91 => ?_
      refine wl_guard _ hA91 rfl rfl rfl rfl (by decide) (fun hq ev h => by simp [go_sem, ((h.get 54 rfl).trans (gw_t (beq_t hq))), K.cell, K2.cell, K9.cell]; try first | exact ⟨rfl, rfl⟩ | rfl) fun a92 hA92 => ?_
      refine wl_guard _ hA92 rfl rfl rfl rfl (by decide) (fun hq ev h => by simp [go_sem, h.c, ((h.get 55 rfl).trans (gw_t (beq_t hq))), K.cell, K2.cell, K9.cell]; try first | exact ⟨rfl, rfl⟩ | rfl) fun a93 hA93 => ?_
      refine wl_op hA93 rfl rfl (by decide) (fun ev h => by first | exact pick_and rfl (h.get 53 rfl) (h.get 56 rfl) (h.c _) | exact pick_or rfl (h.get 53 rfl) (h.get 56 rfl) (h.c _) | (simp [go_sem, h.c, h.get 53 rfl, h.get 56 rfl, K.cell, K2.cell, K9.cell, gv_or, gv_and]; try first | exact ⟨rfl, rfl⟩ | rfl)) fun a94 hA94 => ?_
      refine wl_op hA94 rfl rfl (by decide) (fun ev h => by simp [go_sem, h.get 57 rfl, K.cell, K2.cell, K9.cell]; try first | exact ⟨rfl, rfl⟩ | rfl) fun a95 hA95 => ?_
      refine wl_nil ?_
      refine n_then ?_
      have hA96 := hA95.keep [2, 3, 4, 7, 9, 10, 11]
      simp only [argsE, keepE, lookS, Nat.reduceBEq, cond_true, cond_false, Nat.reduceAdd, gv_tt, gv_ff, Bool.true_and, Bool.false_and, Bool.true_or, Bool.false_or] at hA96
      clear hA86 hA87 hA88 hA89 hA90 hA91 hA92 hA93 hA94 hA95 a85 a87 a88 a89 a90 a91 a92 a93 a94
      refine wp_seq ?_
      refine wp_seq ?_
      refine wp_region_lit ?_
      refine wl_op hA96 rfl rfl (by decide) (fun ev h => by simp [go_sem, h.get 11 rfl, K.cell, K2.cell, K9.cell]; try first | exact ⟨rfl, rfl⟩ | rfl) fun a97 hA97 => ?_
      refine wl_op hA97 rfl rfl (by decide) (fun ev h => by simp [go_sem, h.get 58 rfl, K.cell, K2.cell, K9.cell]; try first | exact ⟨rfl, rfl⟩ | rfl) fun a98 hA98 => ?_
      refine wl_guard _ hA98 rfl rfl rfl rfl (by decide) (fun hq ev h => by simp [go_sem, (h.get 10 rfl), K.cell, K2.cell, K9.cell]; try first | exact ⟨rfl, rfl⟩ | rfl) fun a99 hA99 => ?_
      refine wl_guard _ hA99 rfl rfl rfl rfl (by decide) (fun hq ev h => by simp [go_sem, h.c, ((h.get 60 rfl).trans (gw_t (beq_t hq))), K.cell, K2.cell, K9.cell]; try first | exact ⟨rfl, rfl⟩ | rfl) fun a100 hA100 => ?_
      refine wl_guard _ hA100 rfl rfl rfl rfl (by decide) (fun hq ev h => by simp [go_sem, ((h.get 61 rfl).trans (gw_t (beq_t hq))), K.cell, K2.cell, K9.cell]; try first | exact ⟨rfl, rfl⟩ | rfl) fun a101 hA101 => ?_
      refine wl_guard2 _ _ hA101 rfl rfl rfl rfl (by decide) (fun hq hr ev h => by simp [go_sem, (h.get 9 rfl), K.cell, K2.cell, K9.cell]; try first | exact ⟨rfl, rfl⟩ | rfl) fun a102 hA102 => ?_
      refine wl_guard2 _ _ hA102 rfl rfl rfl rfl (by decide) (fun hq hr ev h => by simp [go_sem, ((h.get 63 rfl).trans (gw_t (and_beq hq hr))), K.cell, K2.cell, K9.cell]; try first | exact ⟨rfl, rfl⟩ | rfl) fun a103 hA103 => ?_
      refine wl_guard2 _ _ hA103 rfl rfl rfl rfl (by decide) (fun hq hr ev h => by simp [go_sem, (h.get 3 rfl), K.cell, K2.cell, K9.cell]; try first | exact ⟨rfl, rfl⟩ | rfl) fun a104 hA104 => ?_
      refine wl_guard2 _ _ hA104 rfl rfl rfl rfl (by decide) (fun hq hr ev h => by simp [go_sem, ((h.get 65 rfl).trans (gw_t (and_beq hq hr))), K.cell, K2.cell, K9.cell]; try first | exact ⟨rfl, rfl⟩ | rfl) fun a105 hA105 => ?_
      refine wl_guard2 _ _ hA105 rfl rfl rfl rfl (by decide) (fun hq hr ev h => by simp [go_sem, ((h.get 64 rfl).trans (gw_t (and_beq hq hr))), ((h.get 66 rfl).trans (gw_t (and_beq hq hr))), K.cell, K2.cell, K9.cell]; try first | exact ⟨rfl, rfl⟩ | rfl) fun a106 hA106 => ?_
      refine wl_guard _ hA106 rfl rfl rfl rfl (by decide) (fun hq ev h => by first | exact pick_and rfl (((h.get 62 rfl).trans (gw_t (beq_t hq)))) (h.c _) (((h.get 67 rfl).trans (gw_a (beq_t hq)))) | exact pick_or rfl (((h.get 62 rfl).trans (gw_t (beq_t hq)))) (h.c _) (((h.get 67 rfl).trans (gw_a (beq_t hq)))) | (simp [go_sem, h.c, ((h.get 62 rfl).trans (gw_t (beq_t hq))), ((h.get 67 rfl).trans (gw_a (beq_t hq))), K.cell, K2.cell, K9.cell, gv_or, gv_and]; try first | exact ⟨rfl, rfl⟩ | rfl)) fun a107 hA107 => ?_
      refine wl_guard _ hA107 rfl rfl rfl rfl (by decide) (fun hq ev h => by simp [go_sem, ((h.get 68 rfl).trans (gw_t (beq_t hq))), K.cell, K2.cell, K9.cell]; try first | exact ⟨rfl, rfl⟩ | rfl) fun a108 hA108 => ?_
      refine wl_guard2 _ _ hA108 rfl rfl rfl rfl (by decide) (fun hq hr ev h => by simp [go_sem, (h.get 9 rfl), K.cell, K2.cell, K9.cell]; try first | exact ⟨rfl, rfl⟩ | rfl) fun a109 hA109 => ?_
      refine wl_guard2 _ _ hA109 rfl rfl rfl rfl (by decide) (fun hq hr ev h => by simp [go_sem, ((h.get 70 rfl).trans (gw_t (and_beq hq hr))), K.cell, K2.cell, K9.cell]; try first | exact ⟨rfl, rfl⟩ | rfl) fun a110 hA110 => ?_
      refine wl_guard2 _ _ hA110 rfl rfl rfl rfl (by decide) (fun hq hr ev h => by simp [go_sem, (h.get 3 rfl), K.cell, K2.cell, K9.cell]; try first | exact ⟨rfl, rfl⟩ | rfl) fun a111 hA111 => ?_
      refine wl_guard2 _ _ hA111 rfl rfl rfl rfl (by decide) (fun hq hr ev h => by simp [go_sem, ((h.get 72 rfl).trans (gw_t (and_beq hq hr))), K.cell, K2.cell, K9.cell]; try first | exact ⟨rfl, rfl⟩ | rfl) fun a112 hA112 => ?_
      refine wl_guard2 _ _ hA112 rfl rfl rfl rfl (by decide) (fun hq hr ev h => by simp [go_sem, ((h.get 71 rfl).trans (gw_t (and_beq hq hr))), ((h.get 73 rfl).trans (gw_t (and_beq hq hr))), K.cell, K2.cell, K9.cell]; try first | exact ⟨rfl, rfl⟩ | rfl) fun a113 hA113 => ?_
      refine wl_guard _ hA113 rfl rfl rfl rfl (by decide) (fun hq ev h => by first | exact pick_and rfl (((h.get 69 rfl).trans (gw_t (beq_t hq)))) (h.c _) (((h.get 74 rfl).trans (gw_a (beq_t hq)))) | exact pick_or rfl (((h.get 69 rfl).trans (gw_t (beq_t hq)))) (h.c _) (((h.get 74 rfl).trans (gw_a (beq_t hq)))) | (simp [go_sem, h.c, ((h.get 69 rfl).trans (gw_t (beq_t hq))), ((h.get 74 rfl).trans (gw_a (beq_t hq))), K.cell, K2.cell, K9.cell, gv_or, gv_and]; try first | exact ⟨rfl, rfl⟩ | rfl)) fun a114 hA114 => ?_
      refine wl_guard _ hA114 rfl rfl rfl rfl (by decide) (fun hq ev h => by simp [go_sem, ((h.get 75 rfl).trans (gw_t (beq_t hq))), K.cell, K2.cell, K9.cell]; try first | exact ⟨rfl, rfl⟩ | rfl) fun a115 hA115 => ?_
      refine wl_guard2 _ _ hA115 rfl rfl rfl rfl (by decide) (fun hq hr ev h => by simp [go_sem, (h.get 9 rfl), K.cell, K2.cell, K9.cell]; try first | exact ⟨rfl, rfl⟩ | rfl) fun a116 hA116 => ?_
      refine wl_guard2 _ _ hA116 rfl rfl rfl rfl (by decide) (fun hq hr ev h => by simp [go_sem, ((h.get 77 rfl).trans (gw_t (and_beq hq hr))), K.cell, K2.cell, K9.cell]; try first | exact ⟨rfl, rfl⟩ | rfl) fun a117 hA117 => ?_
      refine wl_guard2 _ _ hA117 rfl rfl rfl rfl (by decide) (fun hq hr ev h => by simp [go_sem, h.c, ((h.get 78 rfl).trans (gw_t (and_beq hq hr))), K.cell, K2.cell, K9.cell]; try first | exact ⟨rfl, rfl⟩ | rfl) fun a118 hA118 => ?_
      refine wl_guard _ hA118 rfl rfl rfl rfl (by decide) (fun hq ev h => by first | exact pick_and rfl (((h.get 76 rfl).trans (gw_t (beq_t hq)))) (h.c _) (((h.get 79 rfl).trans (gw_a (beq_t hq)))) | exact pick_or rfl (((h.get 76 rfl).trans (gw_t (beq_t hq)))) (h.c _) (((h.get 79 rfl).trans (gw_a (beq_t hq)))) | (simp [go_sem, h.c, ((h.get 76 rfl).trans (gw_t (beq_t hq))), ((h.get 79 rfl).trans (gw_a (beq_t hq))), K.cell, K2.cell, K9.cell, gv_or, gv_and]; try first | exact ⟨rfl, rfl⟩ | rfl)) fun a119 hA119 => ?_
      refine wl_guard _ hA119 rfl rfl rfl rfl (by decide) (fun hq ev h => by simp [go_sem, ((h.get 80 rfl).trans (gw_t (beq_t hq))), K.cell, K2.cell, K9.cell]; try first | exact ⟨rfl, rfl⟩ | rfl) fun a120 hA120 => ?_
      refine wl_guard2 _ _ hA120 rfl rfl rfl rfl (by decide) (fun hq hr ev h => by simp [go_sem, (h.get 9 rfl), K.cell, K2.cell, K9.cell]; try first | exact ⟨rfl, rfl⟩ | rfl) fun a121 hA121 => ?_
      refine wl_guard2 _ _ hA121 rfl rfl rfl rfl (by decide) (fun hq hr ev h => by simp [go_sem, ((h.get 82 rfl).trans (gw_t (and_beq hq hr))), K.cell, K2.cell, K9.cell]; try first | exact ⟨rfl, rfl⟩ | rfl) fun a122 hA122 => ?_
      refine wl_guard2 _ _ hA122 rfl rfl rfl rfl (by decide) (fun hq hr ev h => by simp [go_sem, ((h.get 83 rfl).trans (gw_t (and_beq hq hr))), K.cell, K2.cell, K9.cell]; try first | exact ⟨rfl, rfl⟩ | rfl) fun a123 hA123 => ?_
      refine wl_guard2 _ _ hA123 rfl rfl rfl rfl (by decide) (fun hq hr ev h => by simp [go_sem, h.c, ((h.get 84 rfl).trans (gw_t (and_beq hq hr))), K.cell, K2.cell, K9.cell]; try first | exact ⟨rfl, rfl⟩ | rfl) fun a124 hA124 => ?_
      refine wl_guard _ hA124 rfl rfl rfl rfl (by decide) (fun hq ev h => by first | exact pick_and rfl (((h.get 81 rfl).trans (gw_t (beq_t hq)))) (h.c _) (((h.get 85 rfl).trans (gw_a (beq_t hq)))) | exact pick_or rfl (((h.get 81 rfl).trans (gw_t (beq_t hq)))) (h.c _) (((h.get 85 rfl).trans (gw_a (beq_t hq)))) | (simp [go_sem, h.c, ((h.get 81 rfl).trans (gw_t (beq_t hq))), ((h.get 85 rfl).trans (gw_a (beq_t hq))), K.cell, K2.cell, K9.cell, gv_or, gv_and]; try first | exact ⟨rfl, rfl⟩ | rfl)) fun a125 hA125 => ?_
      refine wl_op hA125 rfl rfl (by decide) (fun ev h => by first | exact pick_and rfl (h.get 59 rfl) (h.get 86 rfl) (h.c _) | exact pick_or rfl (h.get 59 rfl) (h.get 86 rfl) (h.c _) | (simp [go_sem, h.c, h.get 59 rfl, h.get 86 rfl, K.cell, K2.cell, K9.cell, gv_or, gv_and]; try first | exact ⟨rfl, rfl⟩ | rfl)) fun a126 hA126 => ?_
      refine wl_op hA126 rfl rfl (by decide) (fun ev h => by simp [go_sem, h.get 87 rfl, K.cell, K2.cell, K9.cell]; try first | exact ⟨rfl, rfl⟩ | rfl) fun a127 hA127 => ?_
      refine wl_guard _ hA127 rfl rfl rfl rfl (by decide) (fun hq ev h => by simp [go_sem, (h.get 11 rfl), K.cell, K2.cell, K9.cell]; try first | exact ⟨rfl, rfl⟩ | rfl) fun a128 hA128 => ?_
      refine wl_guard _ hA128 rfl rfl rfl rfl (by decide) (fun hq ev h => by simp [go_sem, ((h.get 89 rfl).trans (gw_t (beq_t hq))), K.cell, K2.cell, K9.cell]; try first | exact ⟨rfl, rfl⟩ | rfl) fun a129 hA129 => ?_
      refine wl_guard _ hA129 rfl rfl rfl rfl (by decide) (fun hq ev h => by simp [go_sem, ((h.get 90 rfl).trans (gw_t (beq_t hq))), K.cell, K2.cell, K9.cell]; try first | exact ⟨rfl, rfl⟩ | rfl) fun a130 hA130 => ?_
      refine wl_guard2 _ _ hA130 rfl rfl rfl rfl (by decide) (fun hq hr ev h => by simp [go_sem, (h.get 10 rfl), K.cell, K2.cell, K9.cell]; try first | exact ⟨rfl, rfl⟩ | rfl) fun a131 hA131 => ?_
      refine wl_guard2 _ _ hA131 rfl rfl rfl rfl (by decide) (fun hq hr ev h => by simp [go_sem, h.c, ((h.get 92 rfl).trans (gw_t (and_beq hq hr))), K.cell, K2.cell, K9.cell]; try first | exact ⟨rfl, rfl⟩ | rfl) fun a132 hA132 => ?_
      refine wl_guard _ hA132 rfl rfl rfl rfl (by decide) (fun hq ev h => by first | exact pick_and rfl (((h.get 91 rfl).trans (gw_t (beq_t hq)))) (((h.get 93 rfl).trans (gw_a (beq_t hq)))) (h.c _) | exact pick_or rfl (((h.get 91 rfl).trans (gw_t (beq_t hq)))) (((h.get 93 rfl).trans (gw_a (beq_t hq)))) (h.c _) | (simp [go_sem, h.c, ((h.get 91 rfl).trans (gw_t (beq_t hq))), ((h.get 93 rfl).trans (gw_a (beq_t hq))), K.cell, K2.cell, K9.cell, gv_or, gv_and]; try first | exact ⟨rfl, rfl⟩ | rfl)) fun a133 hA133 => ?_
      refine wl_op hA133 rfl rfl (by decide) (fun ev h => by first | exact pick_and rfl (h.get 88 rfl) (h.c _) (h.get 94 rfl) | exact pick_or rfl (h.get 88 rfl) (h.c _) (h.get 94 rfl) | (simp [go_sem, h.c, h.get 88 rfl, h.get 94 rfl, K.cell, K2.cell, K9.cell, gv_or, gv_and]; try first | exact ⟨rfl, rfl⟩ | rfl)) fun a134 hA134 => ?_
      refine wl_nil ?_
      refine n_then ?_
      have hA135 := hA134.keep [2, 3, 4, 7, 95]
      simp only [argsE, keepE, lookS, Nat.reduceBEq, cond_true, cond_false, Nat.reduceAdd, gv_tt, gv_ff, Bool.true_and, Bool.false_and, Bool.true_or, Bool.false_or] at hA135
      clear hA96 hA97 hA98 hA99 hA100 hA101 hA102 hA103 hA104 hA105 hA106 hA107 hA108 hA109 hA110 hA111 hA112 hA113 hA114 hA115 hA116 hA117 hA118 hA119 hA120 hA121 hA122 hA123 hA124 hA125 hA126 hA127 hA128 hA129 hA130 hA131 hA132 hA133 hA134 a95 a97 a98 a99 a100 a101 a102 a103 a104 a105 a106 a107 a108 a109 a110 a111 a112 a113 a114 a115 a116 a117 a118 a119 a120 a121 a122 a123 a124 a125 a126 a127 a128 a129 a130 a131 a132 a133
      -- cond
      have hr2 : r = (nameIs nm && decide (0 < e)) := by
        rw [← hr]
        unfold boxRight msgsN
        simp
        rfl
      refine wp_if hA135 95 _ rfl (fun hq => ?yF) (fun hq => ?nF)
      case yF =>
        exfalso
        generalize nameIs nm = p at *
        generalize decide (0 < e) = d at *
        subst hr2
        cases p <;> cases d <;> simp at hq
      case nF =>
        clear hq
        refine wp_skip ?_
        refine n_then ?_
        refine wp_seq ?_
        -- any
        refine wp_any_at hA135 [(.det ?dD0), (.det ?dD1), (.det ?dD2), (.det ?dD3), (.det ?dD4), (.det ?dD5), (.det ?dD6), (.det ?dD7), (.det ?dD8), (.det ?dD9), (.det ?dD10), (.det ?dD11), (.det ?dD12), (.det ?dD13), (.det ?dD14), (.det ?dD15), (.det ?dD16), (.det ?dD17), (.det ?dD18), (.det ?dD19), (.det ?dD20), (.det ?dD21)] [] (fun wy => Below w8.heap.size w8 wy) (TSp [] Grows) (by kernel_rfl) rfl (by kernel_rfl) (by kernel_rfl) rfl ((Below.refl w8.heap.size w8).drew) (stab_sp [] [true, true, true, true, true, true, true, true, true, true, true, true, true, true, true, true, true, true, true, true, true, true] [true, true, true, true, true, true, true, true, true, true, true, true, true, true, true, true, true, true, true, true, true, true] [] rfl rfl rfl (by kernel_rfl) ⟨trivial, trivial, trivial, trivial, trivial, trivial, trivial, trivial, trivial, trivial, trivial, trivial, trivial, trivial, trivial, trivial, trivial, trivial, trivial, trivial, trivial, trivial, trivial⟩ trivial) (fun _ h => by cases h) (fun _ _ _ _ _ h => by cases h) (fun _ h => by cases h) ⟨?oD0, ?oD1, ?oD2, ?oD3, ?oD4, ?oD5, ?oD6, ?oD7, ?oD8, ?oD9, ?oD10, ?oD11, ?oD12, ?oD13, ?oD14, ?oD15, ?oD16, ?oD17, ?oD18, ?oD19, ?oD20, ?oD21, trivial⟩ (by kernel_rfl) ?fD
        case oD0 =>
          intro ev wo hev hC hs hph
          have e3 := see_env hA135 hs 3 (by kernel_rfl) (by kernel_rfl) rfl
          have Kx := K.below hC K.lt
          have Kx2 := K2.below hC K2.lt
          exact ob_det (wanted_none rfl) rfl (by kernel_rfl) hC (TSp.of rfl (Grows.refl _)) (by simp [go_sem, e3, Kx.cell, Kx2.cell, K.cell, K2.cell, K9.cell]; try first | exact ⟨rfl, rfl⟩ | rfl)
        case oD1 =>
          intro ev wo hev hC hs hph
          have e96 := see_det hs 96 0 (by kernel_rfl) (by kernel_rfl) rfl
          have Kx := K.below hC K.lt
          have Kx2 := K2.below hC K2.lt
          exact ob_yes (wanted_none rfl) (does_enter (by simp [go_sem, e96, hev.func, hev.const]; try first | exact ⟨rfl, rfl⟩ | rfl) (Calls.mono (right_any nm A c n e nx l _ (hm.below hg hC) (Nat.lt_of_lt_of_le hg hC.size) (Ht _ (HB.trans (hC.mono HB.size))) (by omega) (by omega) (hms.below hC)) (by
            rintro ev2 w3 ⟨rfl, hb3⟩
            exact ⟨_, rfl, hC.trans (hb3.mono hC.size), TSp.of rfl hb3, (by rfl), no_start (by kernel_rfl)⟩)))
        case oD2 =>
          intro ev wo hev hC hs hph
          have e3 := see_env hA135 hs 3 (by kernel_rfl) (by kernel_rfl) rfl
          have Kx := K.below hC K.lt
          have Kx2 := K2.below hC K2.lt
          exact ob_det (wanted_none rfl) rfl (by kernel_rfl) hC (TSp.of rfl (Grows.refl _)) (by simp [go_sem, e3, Kx.cell, Kx2.cell, K.cell, K2.cell, K9.cell]; try first | exact ⟨rfl, rfl⟩ | rfl)
        case oD3 =>
          intro ev wo hev hC hs hph
          have e98 := see_det hs 98 2 (by kernel_rfl) (by kernel_rfl) rfl
          have Kx := K.below hC K.lt
          have Kx2 := K2.below hC K2.lt
          exact ob_yes (wanted_none rfl) (does_enter (by simp [go_sem, e98, hev.func, hev.const]; try first | exact ⟨rfl, rfl⟩ | rfl) (Calls.mono (refRight_any nm A c n e nx l _ (by omega) (by omega) (hms.below hC)) (by
            rintro ev2 w3 ⟨rfl, hb3⟩
            exact ⟨_, rfl, hC.trans (hb3.mono hC.size), TSp.of rfl hb3, (by rfl), no_start (by kernel_rfl)⟩)))
        case oD4 =>
          intro ev wo hev hC hs hph
          have e97 := see_det hs 97 1 (by kernel_rfl) (by kernel_rfl) rfl
          have e99 := see_det hs 99 3 (by kernel_rfl) (by kernel_rfl) rfl
          exact ob_det (wanted_none rfl) rfl (by kernel_rfl) hC (TSp.of rfl (Grows.refl _)) (by simp [go_sem, e97, e99]; try first | exact ⟨rfl, rfl⟩ | rfl)
        case oD5 =>
          intro ev wo hev hC hs hph
          have e100 := see_det hs 100 4 (by kernel_rfl) (by kernel_rfl) rfl
          exact ob_det (wanted_none rfl) rfl (by kernel_rfl) hC (TSp.of rfl (Grows.refl _)) (by simp [go_sem, e100]; try first | exact ⟨rfl, rfl⟩ | rfl)
        case oD6 =>
          intro ev wo hev hC hs hph
          have e3 := see_env hA135 hs 3 (by kernel_rfl) (by kernel_rfl) rfl
          have e101 := see_det hs 101 5 (by kernel_rfl) (by kernel_rfl) rfl
          have Kx := K.below hC K.lt
          have Kx2 := K2.below hC K2.lt
          exact ob_gv _ rfl rfl e101 rfl (by kernel_rfl) hC (TSp.of rfl (Grows.refl _)) (fun hq => by simp [go_sem, e3, e101, Kx.cell, Kx2.cell, K.cell, K2.cell, K9.cell]; try first | exact ⟨rfl, rfl⟩ | rfl) (by rfl)
        case oD7 =>
          intro ev wo hev hC hs hph
          have e4 := see_env hA135 hs 4 (by kernel_rfl) (by kernel_rfl) rfl
          have e101 := see_det hs 101 5 (by kernel_rfl) (by kernel_rfl) rfl
          have Kx := K.below hC K.lt
          have Kx2 := K2.below hC K2.lt
          exact ob_gv _ rfl rfl e101 rfl (by kernel_rfl) hC (TSp.of rfl (Grows.refl _)) (fun hq => by simp [go_sem, e4, e101, Kx.cell, Kx2.cell, K.cell, K2.cell, K9.cell]; try first | exact ⟨rfl, rfl⟩ | rfl) (by rfl)
        case oD8 =>
          intro ev wo hev hC hs hph
          have e102 := see_det hs 102 6 (by kernel_rfl) (by kernel_rfl) rfl
          have e103 := see_det hs 103 7 (by kernel_rfl) (by kernel_rfl) rfl
          have e101 := see_det hs 101 5 (by kernel_rfl) (by kernel_rfl) rfl
          have Kx := K.below hC K.lt
          have Kx2 := K2.below hC K2.lt
          exact ob_gcall _ rfl rfl e101 rfl (by kernel_rfl) (by rfl) (fun hq => by simp [go_sem, (e102.trans (gw_t (beq_t hq))), (e103.trans (gw_t (beq_t hq))), e101, hev.func, hev.const]; try first | exact ⟨rfl, rfl⟩ | rfl) (fun hq => sameBox_any nm nm2 A A2 c c2 n n2 e e2 nx nx2 l l2 _ hn (hms.below hC) (hms2.below hC)) (fun w3 hb3 => ⟨hC.trans (hb3.mono hC.size), TSp.of rfl hb3⟩)
        case oD9 =>
          intro ev wo hev hC hs hph
          have e3 := see_env hA135 hs 3 (by kernel_rfl) (by kernel_rfl) rfl
          have e101 := see_det hs 101 5 (by kernel_rfl) (by kernel_rfl) rfl
          have Kx := K.below hC K.lt
          have Kx2 := K2.below hC K2.lt
          exact ob_gv _ rfl rfl e101 rfl (by kernel_rfl) hC (TSp.of rfl (Grows.refl _)) (fun hq => by simp [go_sem, e3, e101, Kx.cell, Kx2.cell, K.cell, K2.cell, K9.cell]; try first | exact ⟨rfl, rfl⟩ | rfl) (by rfl)
        case oD10 =>
          intro ev wo hev hC hs hph
          have e4 := see_env hA135 hs 4 (by kernel_rfl) (by kernel_rfl) rfl
          have e101 := see_det hs 101 5 (by kernel_rfl) (by kernel_rfl) rfl
          have Kx := K.below hC K.lt
          have Kx2 := K2.below hC K2.lt
          exact ob_gv _ rfl rfl e101 rfl (by kernel_rfl) hC (TSp.of rfl (Grows.refl _)) (fun hq => by simp [go_sem, e4, e101, Kx.cell, Kx2.cell, K.cell, K2.cell, K9.cell]; try first | exact ⟨rfl, rfl⟩ | rfl) (by rfl)
        case oD11 =>
          intro ev wo hev hC hs hph
          have e105 := see_det hs 105 9 (by kernel_rfl) (by kernel_rfl) rfl
          have e106 := see_det hs 106 10 (by kernel_rfl) (by kernel_rfl) rfl
          have e101 := see_det hs 101 5 (by kernel_rfl) (by kernel_rfl) rfl
          have Kx := K.below hC K.lt
          have Kx2 := K2.below hC K2.lt
          exact ob_gcall _ rfl rfl e101 rfl (by kernel_rfl) (by rfl) (fun hq => by simp [go_sem, (e105.trans (gw_t (beq_t hq))), (e106.trans (gw_t (beq_t hq))), e101, hev.func, hev.const]; try first | exact ⟨rfl, rfl⟩ | rfl) (fun hq => refSameBox_any nm nm2 A A2 c c2 n n2 e e2 nx nx2 l l2 _ hn (hms.below hC) (hms2.below hC)) (fun w3 hb3 => ⟨hC.trans (hb3.mono hC.size), TSp.of rfl hb3⟩)
        case oD12 =>
          intro ev wo hev hC hs hph
          have e104 := see_det hs 104 8 (by kernel_rfl) (by kernel_rfl) rfl
          have e107 := see_det hs 107 11 (by kernel_rfl) (by kernel_rfl) rfl
          have e101 := see_det hs 101 5 (by kernel_rfl) (by kernel_rfl) rfl
          exact ob_gv _ rfl rfl e101 rfl (by kernel_rfl) hC (TSp.of rfl (Grows.refl _)) (fun hq => by simp [go_sem, (e104.trans (gw_t (beq_t hq))), (e107.trans (gw_t (beq_t hq))), e101]; try first | exact ⟨rfl, rfl⟩ | rfl) (by rfl)
        case oD13 =>
          intro ev wo hev hC hs hph
          have e101 := see_det hs 101 5 (by kernel_rfl) (by kernel_rfl) rfl
          have e108 := see_det hs 108 12 (by kernel_rfl) (by kernel_rfl) rfl
          exact ob_det (wanted_none rfl) rfl (by kernel_rfl) hC (TSp.of rfl (Grows.refl _)) (by first | (refine (pick_and ?_ (e101) (e108) (hev.const _)); rfl) | (rw [pick_and _ (e101) (e108) (hev.const _)]; rfl) | (refine (pick_or ?_ (e101) (e108) (hev.const _)); rfl) | (rw [pick_or _ (e101) (e108) (hev.const _)]; rfl) | (simp [go_sem, e101, e108, hev.const]; try first | exact ⟨rfl, rfl⟩ | rfl))
        case oD14 =>
          intro ev wo hev hC hs hph
          have e109 := see_det hs 109 13 (by kernel_rfl) (by kernel_rfl) rfl
          exact ob_det (wanted_none rfl) rfl (by kernel_rfl) hC (TSp.of rfl (Grows.refl _)) (by simp [go_sem, e109]; try first | exact ⟨rfl, rfl⟩ | rfl)
        case oD15 =>
          intro ev wo hev hC hs hph
          have e3 := see_env hA135 hs 3 (by kernel_rfl) (by kernel_rfl) rfl
          have e110 := see_det hs 110 14 (by kernel_rfl) (by kernel_rfl) rfl
          have Kx := K.below hC K.lt
          have Kx2 := K2.below hC K2.lt
          exact ob_gv _ rfl rfl e110 rfl (by kernel_rfl) hC (TSp.of rfl (Grows.refl _)) (fun hq => by simp [go_sem, e3, e110, Kx.cell, Kx2.cell, K.cell, K2.cell, K9.cell]; try first | exact ⟨rfl, rfl⟩ | rfl) (by rfl)
        case oD16 =>
          intro ev wo hev hC hs hph
          have e2 := see_env hA135 hs 2 (by kernel_rfl) (by kernel_rfl) rfl
          have e110 := see_det hs 110 14 (by kernel_rfl) (by kernel_rfl) rfl
          exact ob_gv _ rfl rfl e110 rfl (by kernel_rfl) hC (TSp.of rfl (Grows.refl _)) (fun hq => by simp [go_sem, e2, e110]; try first | exact ⟨rfl, rfl⟩ | rfl) (by rfl)
        case oD17 =>
          intro ev wo hev hC hs hph
          have e111 := see_det hs 111 15 (by kernel_rfl) (by kernel_rfl) rfl
          have e112 := see_det hs 112 16 (by kernel_rfl) (by kernel_rfl) rfl
          have e110 := see_det hs 110 14 (by kernel_rfl) (by kernel_rfl) rfl
          have Kx := K.below hC K.lt
          have Kx2 := K2.below hC K2.lt
          exact ob_gcall _ rfl rfl e110 rfl (by kernel_rfl) (by rfl) (fun hq => by simp [go_sem, (e111.trans (gw_t (beq_t hq))), (e112.trans (gw_t (beq_t hq))), e110, hev.func, hev.const]; try first | exact ⟨rfl, rfl⟩ | rfl) (fun hq => at_any nm A c n e nx u l _ hn (hms.below hC)) (fun w3 hb3 => ⟨hC.trans (hb3.mono hC.size), TSp.of rfl hb3⟩)
        case oD18 =>
          intro ev wo hev hC hs hph
          have e7 := see_env hA135 hs 7 (by kernel_rfl) (by kernel_rfl) rfl
          have e110 := see_det hs 110 14 (by kernel_rfl) (by kernel_rfl) rfl
          exact ob_gv _ rfl rfl e110 rfl (by kernel_rfl) hC (TSp.of rfl (Grows.refl _)) (fun hq => by simp [go_sem, e7, e110]; try first | exact ⟨rfl, rfl⟩ | rfl) (by rfl)
        case oD19 =>
          intro ev wo hev hC hs hph
          have e113 := see_det hs 113 17 (by kernel_rfl) (by kernel_rfl) rfl
          have e114 := see_det hs 114 18 (by kernel_rfl) (by kernel_rfl) rfl
          have e110 := see_det hs 110 14 (by kernel_rfl) (by kernel_rfl) rfl
          exact ob_gv _ rfl rfl e110 rfl (by kernel_rfl) hC (TSp.of rfl (Grows.refl _)) (fun hq => by simp [go_sem, (e113.trans (gw_t (beq_t hq))), (e114.trans (gw_t (beq_t hq))), e110]; try first | exact ⟨rfl, rfl⟩ | rfl) (by rfl)
        case oD20 =>
          intro ev wo hev hC hs hph
          have e110 := see_det hs 110 14 (by kernel_rfl) (by kernel_rfl) rfl
          have e115 := see_det hs 115 19 (by kernel_rfl) (by kernel_rfl) rfl
          exact ob_det (wanted_none rfl) rfl (by kernel_rfl) hC (TSp.of rfl (Grows.refl _)) (by first | (refine (pick_and ?_ (e110) (e115) (hev.const _)); rfl) | (rw [pick_and _ (e110) (e115) (hev.const _)]; rfl) | (refine (pick_or ?_ (e110) (e115) (hev.const _)); rfl) | (rw [pick_or _ (e110) (e115) (hev.const _)]; rfl) | (simp [go_sem, e110, e115, hev.const]; try first | exact ⟨rfl, rfl⟩ | rfl))
        case oD21 =>
          intro ev wo hev hC hs hph
          have e116 := see_det hs 116 20 (by kernel_rfl) (by kernel_rfl) rfl
          exact ob_det (wanted_none rfl) rfl (by kernel_rfl) hC (TSp.of rfl (Grows.refl _)) (by simp [go_sem, e116]; try first | exact ⟨rfl, rfl⟩ | rfl)
        intro sg wf hC hph
        intro a136 hA136
        refine n_then ?_
        have hA137 := hA136.keep [6]
        simp only [argsE, keepE, lookS, Nat.reduceBEq, cond_true, cond_false, Nat.reduceAdd, gv_tt, gv_ff, Bool.true_and, Bool.false_and, Bool.true_or, Bool.false_or] at hA137
        clear hA135 hA136
        refine wp_ret ?_
        refine ret_1 hA137 6 rfl rfl ?_
        exact ⟨rfl, HB.trans (hC.mono HB.size)⟩
end Go.Proofs.YtbbhblnhbgkcaaaDoor
