/-
  Walk of the law: any payload is a formed note's of its kind, just that, or refused.
-/
import Derived.Test.YtmjikfeaopmejaaDoorNoteDec
import Derived.Test.YtmjikfeaopmejaaDoorNoteRefEnc
namespace Go.Proofs.YtmjikfeaopmejaaDoor
open Go.RowKit
set_option linter.unusedSimpArgs false
set_option linter.unusedVariables false
theorem awake_formed : formedV 3 1 ⟨#[]⟩ ⟨2, 0, 0, none, 0, []⟩ = true := by
  unfold formedV
  rw [ByteArray.toList_eq]
  rfl
theorem bodyAwake_any (w : World) (hm : MaxCell w) (hg : 2 < w.heap.size) (htab : Lib.TabIs Tryd.prog w "internal/strconv.uint64pow10" .u64 Lib.pow10Tab) :
    Calls Tryd.prog 4 #[] w fun ev w' => ev = .returned (.bool true) ∧ Below w.heap.size w w' := by
  refine calls_at 16 Tryd.func4 rfl rfl (Nat.le_of_ble_eq_true rfl) ?_
  intro a hA
  simp only [argsE, keepE, lookS, Nat.reduceBEq, cond_true, cond_false, Nat.reduceAdd, gv_tt, gv_ff, Bool.true_and, Bool.false_and, Bool.true_or, Bool.false_or] at hA
  refine wp_seq ?_
  refine wp_region_lit ?_
  refine wl_op hA rfl rfl (by decide) (fun ev h => by simp [go_sem, h.c]; try first | exact ⟨rfl, rfl⟩ | rfl) fun a1 hA1 => ?_
  refine wl_nil ?_
  refine n_then ?_
  have hA2 := hA1.keep []
  simp only [argsE, keepE, lookS, Nat.reduceBEq, cond_true, cond_false, Nat.reduceAdd, gv_tt, gv_ff, Bool.true_and, Bool.false_and, Bool.true_or, Bool.false_or] at hA2
  clear hA hA1
  refine wp_seq ?_
  refine wp_region_lit ?_
  refine wl_op hA2 rfl rfl (by decide) (fun ev h => by simp [go_sem, h.c]; try first | exact ⟨rfl, rfl⟩ | rfl) fun a3 hA3 => ?_
  refine wl_op hA3 rfl rfl (by decide) (fun ev h => by simp [go_sem, h.c, h.get 4 rfl]; try first | exact ⟨rfl, rfl⟩ | rfl) fun a4 hA4 => ?_
  -- stop call slot 6
  refine wl_call hA4 rfl rfl (by decide) (fun ev h => by simp [go_sem, h.get 5 rfl, h.f]; try first | exact ⟨rfl, rfl⟩ | rfl) (encode_any 3 1 ⟨#[]⟩ ⟨2, 0, 0, none, 0, []⟩ _ hm hg htab (by decide) (by decide) (by decide) Reads.none8) ?_
  rintro e w1 ⟨r, rfl, ho, hb⟩
  refine ⟨_, rfl, fun a5 hA5 => ?_⟩
  rw [awake_formed, cond_true] at ho hA5
  obtain ⟨A, c, rfl, _⟩ := ho.took
  rw [show (encV 3 1 ⟨#[]⟩ ⟨2, 0, 0, none, 0, []⟩).length = 8 by rfl] at hA5
  refine wl_op hA5 rfl rfl (by decide) (fun ev h => by simp [go_sem, h.get 6 rfl]; try first | exact ⟨rfl, rfl⟩ | rfl) fun a6 hA6 => ?_
  refine wl_op hA6 rfl rfl (by decide) (fun ev h => by simp [go_sem, h.get 3 rfl]; try first | exact ⟨rfl, rfl⟩ | rfl) fun a7 hA7 => ?_
  refine wl_op hA7 rfl rfl (by decide) (fun ev h => by simp [go_sem, h.get 3 rfl]; try first | exact ⟨rfl, rfl⟩ | rfl) fun a8 hA8 => ?_
  refine wl_op hA8 rfl rfl (by decide) (fun ev h => by simp [go_sem, h.get 7 rfl]; try first | exact ⟨rfl, rfl⟩ | rfl) fun a9 hA9 => ?_
  refine wl_op hA9 rfl rfl (by decide) (fun ev h => by simp [go_sem, h.get 8 rfl]; try first | exact ⟨rfl, rfl⟩ | rfl) fun a10 hA10 => ?_
  refine wl_nil ?_
  refine n_then ?_
  have hA11 := hA10.keep [1, 2]
  simp only [argsE, keepE, lookS, Nat.reduceBEq, cond_true, cond_false, Nat.reduceAdd, gv_tt, gv_ff, Bool.true_and, Bool.false_and, Bool.true_or, Bool.false_or] at hA11
  clear hA2 hA3 hA4 hA5 hA6 hA7 hA8 hA9 hA10 a1 a3 a4 a5 a6 a7 a8 a9
  refine wp_seq ?_
  refine wp_region_lit ?_
  refine wl_op hA11 rfl rfl (by decide) (fun ev h => by simp [go_sem, h.get 2 rfl]; try first | exact ⟨rfl, rfl⟩ | rfl) fun a12 hA12 => ?_
  refine wl_op hA12 rfl rfl (by decide) (fun ev h => by simp [go_sem, h.c, h.get 9 rfl]; try first | exact ⟨rfl, rfl⟩ | rfl) fun a13 hA13 => ?_
  refine wl_op hA13 rfl rfl (by decide) (fun ev h => by simp [go_sem, h.get 10 rfl]; try first | exact ⟨rfl, rfl⟩ | rfl) fun a14 hA14 => ?_
  refine wl_guard _ hA14 rfl rfl rfl rfl (by decide) (fun hq ev h => by simp [go_sem, (h.get 1 rfl)]; try first | exact ⟨rfl, rfl⟩ | rfl) fun a15 hA15 => ?_
  refine wl_guard _ hA15 rfl rfl rfl rfl (by decide) (fun hq ev h => by simp [go_sem, ((h.get 12 rfl).trans (gw_t (beq_t hq)))]; try first | exact ⟨rfl, rfl⟩ | rfl) fun a16 hA16 => ?_
  refine wl_guard _ hA16 rfl rfl rfl rfl (by decide) (fun hq ev h => by simp [go_sem, h.c, ((h.get 13 rfl).trans (gw_t (beq_t hq)))]; try first | exact ⟨rfl, rfl⟩ | rfl) fun a17 hA17 => ?_
  refine wl_op hA17 rfl rfl (by decide) (fun ev h => by first | exact pick_and rfl (h.get 11 rfl) (h.get 14 rfl) (h.c _) | exact pick_or rfl (h.get 11 rfl) (h.get 14 rfl) (h.c _) | (simp [go_sem, h.c, h.get 11 rfl, h.get 14 rfl, gv_or, gv_and]; try first | exact ⟨rfl, rfl⟩ | rfl)) fun a18 hA18 => ?_
  refine wl_op hA18 rfl rfl (by decide) (fun ev h => by simp [go_sem, h.get 15 rfl]; try first | exact ⟨rfl, rfl⟩ | rfl) fun a19 hA19 => ?_
  refine wl_nil ?_
  refine n_then ?_
  have hA20 := hA19.keep [0]
  simp only [argsE, keepE, lookS, Nat.reduceBEq, cond_true, cond_false, Nat.reduceAdd, gv_tt, gv_ff, Bool.true_and, Bool.false_and, Bool.true_or, Bool.false_or] at hA20
  clear hA11 hA12 hA13 hA14 hA15 hA16 hA17 hA18 hA19 a10 a12 a13 a14 a15 a16 a17 a18
  refine wp_ret ?_
  -- ret
  refine ret_1 hA20 0 rfl rfl ?_
  exact ⟨ret_bool (by first | rfl | simp), hb⟩
set_option maxRecDepth 100000 in
set_option maxHeartbeats 4000000 in
theorem bodyReads_law (k : Int) (A : Option Addr) (n c : Nat) (p : List UInt8) (hl : p.length = n) (w : World) (hm : MaxCell w) (hg : 2 < w.heap.size) (htab : Lib.TabIs Tryd.prog w "internal/strconv.uint64pow10" .u64 Lib.pow10Tab) (hr : Reads w w.heap.size 1 A n (u8s p)) :
    Calls Tryd.prog 3 #[.int .i64 k, .slice A n c] w fun ev w' => ev = .returned (.bool true) ∧ Below w.heap.size w w' := by
  have Ht := Lib.tabBelow_of_tabIs htab
  have HB := Below.refl w.heap.size w
  refine calls_at 53 Tryd.func3 rfl rfl (Nat.le_of_ble_eq_true rfl) ?_
  intro a hA
  simp only [argsE, keepE, lookS, Nat.reduceBEq, cond_true, cond_false, Nat.reduceAdd, gv_tt, gv_ff, Bool.true_and, Bool.false_and, Bool.true_or, Bool.false_or] at hA
  refine wp_seq ?_
  refine wp_region_lit ?_
  refine wl_op hA rfl rfl (by decide) (fun ev h => by simp [go_sem, h.c]; try first | exact ⟨rfl, rfl⟩ | rfl) fun a21 hA21 => ?_
  refine wl_nil ?_
  refine n_then ?_
  have hA22 := hA21.keep [0, 1]
  simp only [argsE, keepE, lookS, Nat.reduceBEq, cond_true, cond_false, Nat.reduceAdd, gv_tt, gv_ff, Bool.true_and, Bool.false_and, Bool.true_or, Bool.false_or] at hA22
  clear hA hA21
  refine wp_seq ?_
  refine wp_seq ?_
  refine wp_region_lit ?_
  -- stop call slot 8
  refine wl_call hA22 rfl rfl (by decide) (fun ev h => by simp [go_sem, h.f]; try first | exact ⟨rfl, rfl⟩ | rfl) (bodyAwake_any _ hm hg htab) ?_
  rintro e w1 ⟨rfl, hb⟩
  refine ⟨_, rfl, fun a23 hA23 => ?_⟩
  replace HB := HB.trans (hb.mono HB.size)
  refine wl_op hA23 rfl rfl (by decide) (fun ev h => by simp [go_sem, h.get 8 rfl]; try first | exact ⟨rfl, rfl⟩ | rfl) fun a24 hA24 => ?_
  refine wl_op hA24 rfl rfl (by decide) (fun ev h => by simp [go_sem, h.get 9 rfl]; try first | exact ⟨rfl, rfl⟩ | rfl) fun a25 hA25 => ?_
  refine wl_guard _ hA25 rfl rfl rfl rfl (by decide) (fun hq ev h => by simp [go_sem, (h.get 1 rfl)]; try first | exact ⟨rfl, rfl⟩ | rfl) fun a26 hA26 => ?_
  refine wl_guard _ hA26 rfl rfl rfl rfl (by decide) (fun hq ev h => by simp [go_sem, ((h.get 11 rfl).trans (gw_t (beq_t hq)))]; try first | exact ⟨rfl, rfl⟩ | rfl) fun a27 hA27 => ?_
  refine wl_guard _ hA27 rfl rfl rfl rfl (by decide) (fun hq ev h => by simp [go_sem, h.c, ((h.get 12 rfl).trans (gw_t (beq_t hq)))]; try first | exact ⟨rfl, rfl⟩ | rfl) fun a28 hA28 => ?_
  refine wl_op hA28 rfl rfl (by decide) (fun ev h => by first | exact pick_and rfl (h.get 10 rfl) (h.c _) (h.get 13 rfl) | exact pick_or rfl (h.get 10 rfl) (h.c _) (h.get 13 rfl) | (simp [go_sem, h.c, h.get 10 rfl, h.get 13 rfl, gv_or, gv_and]; try first | exact ⟨rfl, rfl⟩ | rfl)) fun a29 hA29 => ?_
  refine wl_nil ?_
  refine n_then ?_
  have hA30 := hA29.keep [0, 1, 14]
  simp only [argsE, keepE, lookS, Nat.reduceBEq, cond_true, cond_false, Nat.reduceAdd, gv_tt, gv_ff, Bool.true_and, Bool.false_and, Bool.true_or, Bool.false_or] at hA30
  clear hA22 hA23 hA24 hA25 hA26 hA27 hA28 hA29 a21 a23 a24 a25 a26 a27 a28
  -- cond
  refine wp_if hA30 14 _ rfl (fun hq => ?yA) (fun hq => ?nA)
  case yA =>
    refine wp_seq ?_
    refine wp_region_lit ?_
    -- stop call slot 15
    refine wl_call hA30 rfl rfl (by decide) (fun ev h => by simp [go_sem, h.f]; try first | exact ⟨rfl, rfl⟩ | rfl) (bodyAwake_any _ (hm.below hg HB) (Nat.lt_of_lt_of_le hg HB.size) (Ht _ HB)) ?_
    rintro e w2 ⟨rfl, hb⟩
    refine ⟨_, rfl, fun a31 hA31 => ?_⟩
    replace HB := HB.trans (hb.mono HB.size)
    refine wl_op hA31 rfl rfl (by decide) (fun ev h => by simp [go_sem, h.get 15 rfl]; try first | exact ⟨rfl, rfl⟩ | rfl) fun a32 hA32 => ?_
    refine wl_nil ?_
    refine n_then ?_
    have hA33 := hA32.keep [4]
    simp only [argsE, keepE, lookS, Nat.reduceBEq, cond_true, cond_false, Nat.reduceAdd, gv_tt, gv_ff, Bool.true_and, Bool.false_and, Bool.true_or, Bool.false_or] at hA33
    clear hA30 hA31 hA32 a31
    refine wp_ret ?_
    refine r_then ?_
    -- ret
    refine ret_1 hA33 4 rfl rfl ?_
    exact ⟨rfl, HB⟩
  case nA =>
    have hn : n ≤ 25000 := by simp at hq; omega
    refine wp_skip ?_
    refine n_then ?_
    refine wp_seq ?_
    refine wp_region_lit ?_
    refine wl_op hA30 rfl rfl (by decide) (fun ev h => by simp [go_sem, h.get 0 rfl]; try first | exact ⟨rfl, rfl⟩ | rfl) fun a34 hA34 => ?_
    refine wl_op hA34 rfl rfl (by decide) (fun ev h => by simp [go_sem, h.get 1 rfl]; try first | exact ⟨rfl, rfl⟩ | rfl) fun a35 hA35 => ?_
    -- stop call slot 19
    refine wl_call hA35 rfl rfl (by decide) (fun ev h => by simp [go_sem, h.get 17 rfl, h.get 18 rfl, h.f]; try first | exact ⟨rfl, rfl⟩ | rfl) (decode_any k A n c p hl (by omega) _ (hm.below hg HB) (Nat.lt_of_lt_of_le hg HB.size) (htab := Ht _ HB) ((hr.below HB).more HB.size)) ?_
    rintro e w2 ⟨a, c', rfl, hrd, hb⟩
    refine ⟨_, rfl, fun a36 hA36 => ?_⟩
    replace HB := HB.trans (hb.mono HB.size)
    cases hd : decOk k p with
    | false =>
      rw [hd, cond_false, cond_false] at hA36
      unfold noteZ at hA36
      refine wl_op hA36 rfl rfl (by decide) (fun ev h => by simp [go_sem, h.get 19 rfl]; try first | exact ⟨rfl, rfl⟩ | rfl) fun a37 hA37 => ?_
      refine wl_op hA37 rfl rfl (by decide) (fun ev h => by simp [go_sem, h.get 16 rfl]; try first | exact ⟨rfl, rfl⟩ | rfl) fun a38 hA38 => ?_
      refine wl_op hA38 rfl rfl (by decide) (fun ev h => by simp [go_sem, h.get 16 rfl]; try first | exact ⟨rfl, rfl⟩ | rfl) fun a39 hA39 => ?_
      -- stop alloc slot 5
      refine wl_local [.int .i64 0, .int .u32 0, .string ⟨#[]⟩, .int .u32 0, .int .i64 0, .int .i64 0, .slice none 0 0] hA39 rfl rfl (by decide) (fun ev h => by simp [go_sem]; try first | exact ⟨rfl, rfl⟩ | rfl) rfl rfl (by rfl) (fun w1 g ev hb h => by simp [go_sem, h.get 5 rfl, h.get 20 rfl, setAll, hb.cell, hb.frozen]) fun w3 a40 (K5 : Blk _ _ _ _) hz3 hb3 hA40 => ?_
      replace HB := HB.trans (hb3.mono HB.size)
      refine wl_op hA40 rfl rfl (by decide) (fun ev h => by simp [go_sem, h.get 21 rfl]; try first | exact ⟨rfl, rfl⟩ | rfl) fun a41 hA41 => ?_
      refine wl_nil ?_
      refine n_then ?_
      have hA42 := hA41.keep [0, 1, 5, 6]
      simp only [argsE, keepE, lookS, Nat.reduceBEq, cond_true, cond_false, Nat.reduceAdd, gv_tt, gv_ff, Bool.true_and, Bool.false_and, Bool.true_or, Bool.false_or] at hA42
      clear hA30 hA34 hA35 hA36 hA37 hA38 hA39 hA40 hA41 a34 a35 a36 a37 a38 a39 a40
      refine wp_seq ?_
      refine wp_seq ?_
      refine wp_region_lit ?_
      refine wl_op hA42 rfl rfl (by decide) (fun ev h => by simp [go_sem, h.get 6 rfl]; try first | exact ⟨rfl, rfl⟩ | rfl) fun a43 hA43 => ?_
      refine wl_op hA43 rfl rfl (by decide) (fun ev h => by simp [go_sem, h.c, h.get 22 rfl]; try first | exact ⟨rfl, rfl⟩ | rfl) fun a44 hA44 => ?_
      refine wl_nil ?_
      refine n_then ?_
      have hA45 := hA44.keep [0, 1, 5, 6, 23]
      simp only [argsE, keepE, lookS, Nat.reduceBEq, cond_true, cond_false, Nat.reduceAdd, gv_tt, gv_ff, Bool.true_and, Bool.false_and, Bool.true_or, Bool.false_or] at hA45
      clear hA42 hA43 hA44 a41 a43
      -- cond
      refine wp_if hA45 23 _ rfl (fun hq2 => ?yB) (fun hq2 => ?nB)
      case yB =>
        refine wp_seq ?_
        refine wp_region_lit ?_
        refine wl_op hA45 rfl rfl (by decide) (fun ev h => by simp [go_sem, h.get 6 rfl, K5.cell]; try first | exact ⟨rfl, rfl⟩ | rfl) fun a46 hA46 => ?_
        refine wl_op hA46 rfl rfl (by decide) (fun ev h => by simp [go_sem, h.c, h.get 24 rfl, K5.cell]; try first | exact ⟨rfl, rfl⟩ | rfl) fun a47 hA47 => ?_
        refine wl_op hA47 rfl rfl (by decide) (fun ev h => by simp [go_sem, h.get 25 rfl, K5.cell]; try first | exact ⟨rfl, rfl⟩ | rfl) fun a48 hA48 => ?_
        refine wl_guard _ hA48 rfl rfl rfl rfl (by decide) (fun hq ev h => by simp [go_sem, (h.get 5 rfl), K5.cell]; try first | exact ⟨rfl, rfl⟩ | rfl) fun a49 hA49 => ?_
        refine wl_guard _ hA49 rfl rfl rfl rfl (by decide) (fun hq ev h => by simp [go_sem, ((h.get 27 rfl).trans (gw_t (beq_t hq))), K5.cell]; try first | exact ⟨rfl, rfl⟩ | rfl) fun a50 hA50 => ?_
        refine wl_guard _ hA50 rfl rfl rfl rfl (by decide) (fun hq ev h => by simp [go_sem, h.c, ((h.get 28 rfl).trans (gw_t (beq_t hq))), K5.cell]; try first | exact ⟨rfl, rfl⟩ | rfl) fun a51 hA51 => ?_
        refine wl_op hA51 rfl rfl (by decide) (fun ev h => by first | exact pick_and rfl (h.get 26 rfl) (h.get 29 rfl) (h.c _) | exact pick_or rfl (h.get 26 rfl) (h.get 29 rfl) (h.c _) | (simp [go_sem, h.c, h.get 26 rfl, h.get 29 rfl, K5.cell, gv_or, gv_and]; try first | exact ⟨rfl, rfl⟩ | rfl)) fun a52 hA52 => ?_
        refine wl_op hA52 rfl rfl (by decide) (fun ev h => by simp [go_sem, h.get 30 rfl, K5.cell]; try first | exact ⟨rfl, rfl⟩ | rfl) fun a53 hA53 => ?_
        refine wl_guard _ hA53 rfl rfl rfl rfl (by decide) (fun hq ev h => by simp [go_sem, (h.get 5 rfl), K5.cell]; try first | exact ⟨rfl, rfl⟩ | rfl) fun a54 hA54 => ?_
        refine wl_guard _ hA54 rfl rfl rfl rfl (by decide) (fun hq ev h => by simp [go_sem, ((h.get 32 rfl).trans (gw_t (beq_t hq))), K5.cell]; try first | exact ⟨rfl, rfl⟩ | rfl) fun a55 hA55 => ?_
        refine wl_guard _ hA55 rfl rfl rfl rfl (by decide) (fun hq ev h => by simp [go_sem, h.c, ((h.get 33 rfl).trans (gw_t (beq_t hq))), K5.cell]; try first | exact ⟨rfl, rfl⟩ | rfl) fun a56 hA56 => ?_
        refine wl_op hA56 rfl rfl (by decide) (fun ev h => by first | exact pick_and rfl (h.get 31 rfl) (h.get 34 rfl) (h.c _) | exact pick_or rfl (h.get 31 rfl) (h.get 34 rfl) (h.c _) | (simp [go_sem, h.c, h.get 31 rfl, h.get 34 rfl, K5.cell, gv_or, gv_and]; try first | exact ⟨rfl, rfl⟩ | rfl)) fun a57 hA57 => ?_
        refine wl_op hA57 rfl rfl (by decide) (fun ev h => by simp [go_sem, h.get 35 rfl, K5.cell]; try first | exact ⟨rfl, rfl⟩ | rfl) fun a58 hA58 => ?_
        refine wl_nil ?_
        refine n_then ?_
        have hA59 := hA58.keep [4]
        simp only [argsE, keepE, lookS, Nat.reduceBEq, cond_true, cond_false, Nat.reduceAdd, gv_tt, gv_ff, Bool.true_and, Bool.false_and, Bool.true_or, Bool.false_or] at hA59
        clear hA45 hA46 hA47 hA48 hA49 hA50 hA51 hA52 hA53 hA54 hA55 hA56 hA57 hA58 a46 a47 a48 a49 a50 a51 a52 a53 a54 a55 a56 a57
        refine wp_ret ?_
        refine r_then ?_
        -- ret
        refine ret_1 hA59 4 rfl rfl ?_
        exact ⟨ret_bool (by first | rfl | simp), HB⟩
      case nB => cases hq2
    | true =>
      rw [hd, cond_true, cond_true] at hA36
      have hrd := hrd hd
      have hok := hd
      unfold decOk at hok
      rw [Bool.and_eq_true, Bool.and_eq_true] at hok
      obtain ⟨_, hf, he⟩ := hok
      rw [← formed_ac k (rd1 p).1 (rd4 k p).1 p a c'] at hf
      rw [← enc_ac k (rd1 p).1 (rd4 k p).1 p a c', beq_iff_eq] at he
      have q1 : (rd1 p).1 < 4294967296 := inN_lt _ 4
      have q2 := rd2_lt k p
      have q4 := rd4_size k p
      unfold noteC rdM at hA36
      refine wl_op hA36 rfl rfl (by decide) (fun ev h => by simp [go_sem, h.get 19 rfl]; try first | exact ⟨rfl, rfl⟩ | rfl) fun a60 hA60 => ?_
      refine wl_op hA60 rfl rfl (by decide) (fun ev h => by simp [go_sem, h.get 16 rfl]; try first | exact ⟨rfl, rfl⟩ | rfl) fun a61 hA61 => ?_
      refine wl_op hA61 rfl rfl (by decide) (fun ev h => by simp [go_sem, h.get 16 rfl]; try first | exact ⟨rfl, rfl⟩ | rfl) fun a62 hA62 => ?_
      -- stop alloc slot 5
      refine wl_local [.int .i64 k, .int .u32 ((rd1 p).1 : Nat), .string (rd4 k p).1, .int .u32 ((rd2 k p).1 : Nat), .int .i64 ((rd3 k p).1.1 : Nat), .int .i64 ((rd3 k p).1.2 : Nat), .slice a (rd5 k p).1.length c'] hA62 rfl rfl (by decide) (fun ev h => by simp [go_sem]; try first | exact ⟨rfl, rfl⟩ | rfl) rfl rfl (by rfl) (fun w1 g ev hb h => by simp [go_sem, h.get 5 rfl, h.get 20 rfl, setAll, hb.cell, hb.frozen]) fun w3 a63 (K5 : Blk _ _ _ _) hz3 hb3 hA63 => ?_
      replace HB := HB.trans (hb3.mono HB.size)
      replace hrd := (hrd.below hb3).more hb3.size
      refine wl_op hA63 rfl rfl (by decide) (fun ev h => by simp [go_sem, h.get 21 rfl]; try first | exact ⟨rfl, rfl⟩ | rfl) fun a64 hA64 => ?_
      refine wl_nil ?_
      refine n_then ?_
      have hA65 := hA64.keep [0, 1, 5, 6]
      simp only [argsE, keepE, lookS, Nat.reduceBEq, cond_true, cond_false, Nat.reduceAdd, gv_tt, gv_ff, Bool.true_and, Bool.false_and, Bool.true_or, Bool.false_or] at hA65
      clear hA36 hA60 hA61 hA62 hA63 hA64 a60 a61 a62 a63
      refine wp_seq ?_
      refine wp_seq ?_
      refine wp_region_lit ?_
      refine wl_op hA65 rfl rfl (by decide) (fun ev h => by simp [go_sem, h.get 6 rfl]; try first | exact ⟨rfl, rfl⟩ | rfl) fun a66 hA66 => ?_
      refine wl_op hA66 rfl rfl (by decide) (fun ev h => by simp [go_sem, h.c, h.get 22 rfl]; try first | exact ⟨rfl, rfl⟩ | rfl) fun a67 hA67 => ?_
      refine wl_nil ?_
      refine n_then ?_
      have hA68 := hA67.keep [0, 1, 5, 6, 23]
      simp only [argsE, keepE, lookS, Nat.reduceBEq, cond_true, cond_false, Nat.reduceAdd, gv_tt, gv_ff, Bool.true_and, Bool.false_and, Bool.true_or, Bool.false_or] at hA68
      clear hA65 hA66 hA67 a64 a66
      -- cond
      refine wp_if hA68 23 _ rfl (fun hq2 => ?yB) (fun hq2 => ?nB)
      case yB => cases hq2
      case nB =>
        refine wp_skip ?_
        refine n_then ?_
        refine wp_seq ?_
        refine wp_region_lit ?_
        refine wl_op hA68 rfl rfl (by decide) (fun ev h => by simp [go_sem, h.get 5 rfl, K5.cell]; try first | exact ⟨rfl, rfl⟩ | rfl) fun a69 hA69 => ?_
        -- stop alloc slot 7
        refine wl_local [.int .i64 k, .int .u32 ((rd1 p).1 : Nat), .string (rd4 k p).1, .int .u32 ((rd2 k p).1 : Nat), .int .i64 ((rd3 k p).1.1 : Nat), .int .i64 ((rd3 k p).1.2 : Nat), .slice a (rd5 k p).1.length c'] hA69 rfl rfl (by decide) (fun ev h => by simp [go_sem, K5.cell]; try first | exact ⟨rfl, rfl⟩ | rfl) rfl rfl (by rfl) (fun w1 g ev hb h => by simp [go_sem, h.get 7 rfl, h.get 36 rfl, K5.cell, setAll, hb.cell, hb.frozen]) fun w4 a70 (K7 : Blk _ _ _ _) hz4 hb4 hA70 => ?_
        replace HB := HB.trans (hb4.mono HB.size)
        replace hrd := (hrd.below hb4).more hb4.size
        replace K5 := K5.below hb4 K5.lt
        have hrp := (hr.below HB).more HB.size
        obtain ⟨S, hS⟩ : ∃ S : ByteArray, (⟨p.toArray⟩ : ByteArray) = S := ⟨_, rfl⟩
        refine wl_nil ?_
        refine n_then ?_
        have hA71 := hA70.keep [0, 1, 5, 7]
        simp only [argsE, keepE, lookS, Nat.reduceBEq, cond_true, cond_false, Nat.reduceAdd, gv_tt, gv_ff, Bool.true_and, Bool.false_and, Bool.true_or, Bool.false_or] at hA71
        clear hA68 hA69 hA70 a69
        refine wp_seq ?_
        -- any
        refine wp_any_at hA71 [(.det ?dD0), (.det ?dD1), (.det ?dD2), (.det ?dD3), (.det ?dD4), (.det ?dD5), (.det ?dD6), (.det ?dD7), (.det ?dD8), (.det ?dD9), (.used (fun v wy => Took wy v p)), (.det ?dD11), (.det ?dD12), (.det ?dD13), (.det ?dD14), (.det ?dD15), (.det ?dD16)] [] (fun wy => Below w4.heap.size w4 wy) (TSp [] Grows) (by kernel_rfl) rfl (by kernel_rfl) (by kernel_rfl) rfl ((Below.refl _ _).drew) (stab_sp [] [true, true, true, true, true, true, true, true, true, true, false, true, true, true, true, true, true] [true, true, true, true, true, true, true, true, true, true, false, true, true, true, true, true, true] [] rfl rfl rfl (by kernel_rfl) ⟨trivial, trivial, trivial, trivial, trivial, trivial, trivial, trivial, trivial, trivial, (fun _ _ _ _ hp hb => hp.below hb), trivial, trivial, trivial, trivial, trivial, trivial, trivial⟩ trivial) (fun _ h => by cases h) (fun _ _ _ _ _ h => by cases h) (fun _ h => by cases h) ⟨?oD0, ?oD1, ?oD2, ?oD3, ?oD4, ?oD5, ?oD6, ?oD7, ?oD8, ?oD9, ?oD10, ?oD11, ?oD12, ?oD13, ?oD14, ?oD15, ?oD16, trivial⟩ (by kernel_rfl) ?fD
        case oD0 =>
          intro ev wo hev hC hs hph
          have e5 := see_env hA71 hs 5 (by kernel_rfl) (by kernel_rfl) rfl
          exact ob_det (wanted_none rfl) rfl (by kernel_rfl) hC (TSp.of rfl (Grows.refl _)) (by simp [go_sem, e5]; try first | exact ⟨rfl, rfl⟩ | rfl)
        case oD1 =>
          intro ev wo hev hC hs hph
          have e37 := see_det hs 37 0 (by kernel_rfl) (by kernel_rfl) rfl
          have Kx := K5.below hC K5.lt
          have Ky := K7.below hC K7.lt
          have v0 := conv_reads (c := c) hl (hrp.below hC)
          rw [hS] at v0
          exact ob_det (wanted_none rfl) rfl (by kernel_rfl) hC (TSp.of rfl (Grows.refl _)) (by simp [go_sem, e37, Kx.cell, Ky.cell, K5.cell]; try first | exact ⟨rfl, rfl⟩ | rfl)
        case oD2 =>
          intro ev wo hev hC hs hph
          have e0 := see_env hA71 hs 0 (by kernel_rfl) (by kernel_rfl) rfl
          exact ob_det (wanted_none rfl) rfl (by kernel_rfl) hC (TSp.of rfl (Grows.refl _)) (by simp [go_sem, e0]; try first | exact ⟨rfl, rfl⟩ | rfl)
        case oD3 =>
          intro ev wo hev hC hs hph
          have e38 := see_det hs 38 1 (by kernel_rfl) (by kernel_rfl) rfl
          have e39 := see_det hs 39 2 (by kernel_rfl) (by kernel_rfl) rfl
          exact ob_det (wanted_none rfl) rfl (by kernel_rfl) hC (TSp.of rfl (Grows.refl _)) (by simp [go_sem, e38, e39]; try first | exact ⟨rfl, rfl⟩ | rfl)
        case oD4 =>
          intro ev wo hev hC hs hph
          have e40 := see_det hs 40 3 (by kernel_rfl) (by kernel_rfl) rfl
          exact ob_det (wanted_none rfl) rfl (by kernel_rfl) hC (TSp.of rfl (Grows.refl _)) (by simp [go_sem, e40]; try first | exact ⟨rfl, rfl⟩ | rfl)
        case oD5 =>
          intro ev wo hev hC hs hph
          have e7 := see_env hA71 hs 7 (by kernel_rfl) (by kernel_rfl) rfl
          have e41 := see_det hs 41 4 (by kernel_rfl) (by kernel_rfl) rfl
          have Kx := K5.below hC K5.lt
          have Ky := K7.below hC K7.lt
          have v0 := conv_reads (c := c) hl (hrp.below hC)
          rw [hS] at v0
          exact ob_gv _ rfl rfl e41 rfl (by kernel_rfl) hC (TSp.of rfl (Grows.refl _)) (fun hq => by simp [go_sem, e7, e41, Kx.cell, Ky.cell, K5.cell]; try first | exact ⟨rfl, rfl⟩ | rfl) (by rfl)
        case oD6 =>
          intro ev wo hev hC hs hph
          have e42 := see_det hs 42 5 (by kernel_rfl) (by kernel_rfl) rfl
          have e41 := see_det hs 41 4 (by kernel_rfl) (by kernel_rfl) rfl
          have Kx := K5.below hC K5.lt
          have Ky := K7.below hC K7.lt
          have v0 := conv_reads (c := c) hl (hrp.below hC)
          rw [hS] at v0
          exact ob_gcall _ rfl rfl e41 rfl (by kernel_rfl) (by rfl) (fun hq => by simp [go_sem, (e42.trans (gw_t (beq_t hq))), e41, hev.func, hev.const]; try first | exact ⟨rfl, rfl⟩ | rfl) (fun hq => (refFormed_any k (rd1 p).1 (rd4 k p).1 (rdM k p a c') wo (by omega)).mono fun e w' h => ⟨by rw [h.1, hf], h.2⟩) (fun w3 hb3 => ⟨hC.trans (hb3.mono hC.size), TSp.of rfl hb3⟩)
        case oD7 =>
          intro ev wo hev hC hs hph
          have e41 := see_det hs 41 4 (by kernel_rfl) (by kernel_rfl) rfl
          have e43 := see_det hs 43 6 (by kernel_rfl) (by kernel_rfl) rfl
          exact ob_det (wanted_none rfl) rfl (by kernel_rfl) hC (TSp.of rfl (Grows.refl _)) (by first | (refine (pick_and ?_ (e41) (e43) (hev.const _)); rfl) | (rw [pick_and _ (e41) (e43) (hev.const _)]; rfl) | (refine (pick_or ?_ (e41) (e43) (hev.const _)); rfl) | (rw [pick_or _ (e41) (e43) (hev.const _)]; rfl) | (simp [go_sem, e41, e43, hev.const]; try first | exact ⟨rfl, rfl⟩ | rfl))
        case oD8 =>
          intro ev wo hev hC hs hph
          have e44 := see_det hs 44 7 (by kernel_rfl) (by kernel_rfl) rfl
          exact ob_det (wanted_none rfl) rfl (by kernel_rfl) hC (TSp.of rfl (Grows.refl _)) (by simp [go_sem, e44]; try first | exact ⟨rfl, rfl⟩ | rfl)
        case oD9 =>
          intro ev wo hev hC hs hph
          have e7 := see_env hA71 hs 7 (by kernel_rfl) (by kernel_rfl) rfl
          have e45 := see_det hs 45 8 (by kernel_rfl) (by kernel_rfl) rfl
          have Kx := K5.below hC K5.lt
          have Ky := K7.below hC K7.lt
          have v0 := conv_reads (c := c) hl (hrp.below hC)
          rw [hS] at v0
          exact ob_gv _ rfl rfl e45 rfl (by kernel_rfl) hC (TSp.of rfl (Grows.refl _)) (fun hq => by simp [go_sem, e7, e45, Kx.cell, Ky.cell, K5.cell]; try first | exact ⟨rfl, rfl⟩ | rfl) (by rfl)
        case oD10 =>
          intro ev wo hev hC hs hph
          have e46 := see_det hs 46 9 (by kernel_rfl) (by kernel_rfl) rfl
          have e45 := see_det hs 45 8 (by kernel_rfl) (by kernel_rfl) rfl
          have Kx := K5.below hC K5.lt
          have Ky := K7.below hC K7.lt
          have v0 := conv_reads (c := c) hl (hrp.below hC)
          rw [hS] at v0
          exact ob_yes (wanted_bool rfl rfl e45 rfl) (does_enter (by simp [go_sem, e46, hev.func, hev.const, gw]; try first | exact ⟨rfl, rfl⟩ | rfl) (Calls.mono (refNote_any k (rd1 p).1 (rd4 k p).1 (rdM k p a c') wo hf q1 q2 ((hrd.below hC).more hC.size)) (by
            rintro ev' w7 ⟨r, rfl, ho, hb7⟩
            exact ⟨r, rfl, hC.trans (hb7.mono hC.size), TSp.of rfl hb7, by rw [← he]; exact ho.took, no_start (by kernel_rfl)⟩)))
        case oD11 =>
          intro ev wo hev hC hs hph
          have u47 := see_used hs 47 10 (by kernel_rfl) (by kernel_rfl) rfl
          have e45 := see_det hs 45 8 (by kernel_rfl) (by kernel_rfl) rfl
          have Kx := K5.below hC K5.lt
          have Ky := K7.below hC K7.lt
          have v0 := conv_reads (c := c) hl (hrp.below hC)
          rw [hS] at v0
          obtain ⟨A1, c1, e1, hr1⟩ := u47
          have v1 := conv_reads (c := c1) rfl hr1
          rw [hS] at v1
          exact ob_gv _ rfl rfl e45 rfl (by kernel_rfl) hC (TSp.of rfl (Grows.refl _)) (fun hq => by simp [go_sem, e1, v1]; try first | exact ⟨rfl, rfl⟩ | rfl) (by rfl)
        case oD12 =>
          intro ev wo hev hC hs hph
          have e1 := see_env hA71 hs 1 (by kernel_rfl) (by kernel_rfl) rfl
          have e45 := see_det hs 45 8 (by kernel_rfl) (by kernel_rfl) rfl
          exact ob_gv _ rfl rfl e45 rfl (by kernel_rfl) hC (TSp.of rfl (Grows.refl _)) (fun hq => by simp [go_sem, e1, e45]; try first | exact ⟨rfl, rfl⟩ | rfl) (by rfl)
        case oD13 =>
          intro ev wo hev hC hs hph
          have e49 := see_det hs 49 12 (by kernel_rfl) (by kernel_rfl) rfl
          have e45 := see_det hs 45 8 (by kernel_rfl) (by kernel_rfl) rfl
          have Kx := K5.below hC K5.lt
          have Ky := K7.below hC K7.lt
          have v0 := conv_reads (c := c) hl (hrp.below hC)
          rw [hS] at v0
          exact ob_gv _ rfl rfl e45 rfl (by kernel_rfl) hC (TSp.of rfl (Grows.refl _)) (fun hq => by simp [go_sem, (e49.trans (gw_t (beq_t hq))), e45, v0]; try first | exact ⟨rfl, rfl⟩ | rfl) (by rfl)
        case oD14 =>
          intro ev wo hev hC hs hph
          have e48 := see_det hs 48 11 (by kernel_rfl) (by kernel_rfl) rfl
          have e50 := see_det hs 50 13 (by kernel_rfl) (by kernel_rfl) rfl
          have e45 := see_det hs 45 8 (by kernel_rfl) (by kernel_rfl) rfl
          exact ob_gv _ rfl rfl e45 rfl (by kernel_rfl) hC (TSp.of rfl (Grows.refl _)) (fun hq => by simp [go_sem, (e48.trans (gw_t (beq_t hq))), (e50.trans (gw_t (beq_t hq))), e45]; try first | exact ⟨rfl, rfl⟩ | rfl) (by rfl)
        case oD15 =>
          intro ev wo hev hC hs hph
          have e45 := see_det hs 45 8 (by kernel_rfl) (by kernel_rfl) rfl
          have e51 := see_det hs 51 14 (by kernel_rfl) (by kernel_rfl) rfl
          exact ob_det (wanted_none rfl) rfl (by kernel_rfl) hC (TSp.of rfl (Grows.refl _)) (by first | (refine (pick_and ?_ (e45) (e51) (hev.const _)); rfl) | (rw [pick_and _ (e45) (e51) (hev.const _)]; rfl) | (refine (pick_or ?_ (e45) (e51) (hev.const _)); rfl) | (rw [pick_or _ (e45) (e51) (hev.const _)]; rfl) | (simp [go_sem, e45, e51, hev.const]; try first | exact ⟨rfl, rfl⟩ | rfl))
        case oD16 =>
          intro ev wo hev hC hs hph
          have e52 := see_det hs 52 15 (by kernel_rfl) (by kernel_rfl) rfl
          exact ob_det (wanted_none rfl) rfl (by kernel_rfl) hC (TSp.of rfl (Grows.refl _)) (by simp [go_sem, e52]; try first | exact ⟨rfl, rfl⟩ | rfl)
        intro sg wf hC hph
        intro x47 hx47
        intro a72 hA72
        refine n_then ?_
        have hA73 := hA72.keep [4]
        simp only [argsE, keepE, lookS, Nat.reduceBEq, cond_true, cond_false, Nat.reduceAdd, gv_tt, gv_ff, Bool.true_and, Bool.false_and, Bool.true_or, Bool.false_or] at hA73
        clear hA71 hA72 a70
        refine wp_ret ?_
        refine ret_1 hA73 4 rfl rfl ?_
        exact ⟨ret_bool (by first | rfl | simp), HB.trans (hC.mono HB.size)⟩
end Go.Proofs.YtmjikfeaopmejaaDoor
