/-
  Walks: messages are put behind another mailbox's.
-/
import Derived.Test.YtbbhblnhbgkcaaaDoorOwnU
import Derived.Test.YtbbhblnhbgkcaaaDoorMailAppendsW
namespace Go.Proofs.YtbbhblnhbgkcaaaDoor
open Go.RowKit
set_option linter.unusedSimpArgs false
set_option linter.unusedVariables false
def apM (b : BoxV) (x : MsgV) : BoxV × Nat × Nat := appV b.nm b.e b.nx b.l x
def apR (b : BoxV) (x : MsgV) : BoxV × Nat × Nat := refAppV b.nm b.e b.nx b.l x
theorem bare_bare (l : List MsgV) : bare (bare l) = bare l := by unfold bare; rw [List.map_map]; rfl
theorem putV_bare (nm : ByteArray) (e nx : Nat) (l : List MsgV) (x : MsgV) : putV nm e nx (bare l) (strip x) = putV nm e nx l x := by unfold putV; rw [bare_bare]; rfl
theorem refAppV_bare (nm : ByteArray) (e nx : Nat) (l : List MsgV) (x : MsgV) : refAppV nm e nx (bare l) (strip x) = refAppV nm e nx l x := by unfold refAppV; rw [bare_len, putV_bare]
theorem appV_bare (nm : ByteArray) (e nx : Nat) (l : List MsgV) (x : MsgV) : appV nm e nx (bare l) (strip x) = appV nm e nx l x := by unfold appV; rw [boxRight_bare, refAppV_bare]; rfl
/-- messages that are named are put behind, one by one -/
def cpV (ap : BoxV → MsgV → BoxV × Nat × Nat) (us : List Nat) : List MsgV → BoxV → List Nat → BoxV × List Nat × Nat
  | [], b, g => (b, g, 0)
  | x :: r, b, g => bif inU us x.uid then (bif (ap b x).2.2 == 0 then cpV ap us r (ap b x).1 (g ++ [(ap b x).2.1]) else (zeroB, [], (ap b x).2.2)) else cpV ap us r b g
theorem cpV_at {ap : BoxV → MsgV → BoxV × Nat × Nat} {us : List Nat} {l : List MsgV} {j : Nat} {x : MsgV} {b : BoxV} {g : List Nat} (hx : l[j]? = some x) :
    cpV ap us (bare (l.drop j)) b g = bif inU us x.uid then (bif (ap b (strip x)).2.2 == 0 then cpV ap us (bare (l.drop (j + 1))) (ap b (strip x)).1 (g ++ [(ap b (strip x)).2.1]) else (zeroB, [], (ap b (strip x)).2.2)) else cpV ap us (bare (l.drop (j + 1))) b g := by
  rw [List.drop_eq_getElem_cons (List.getElem?_eq_some_iff.1 hx).1, (List.getElem?_eq_some_iff.1 hx).2]
  rfl
theorem appV_nx {nm : ByteArray} {e nx : Nat} {l : List MsgV} {m : MsgV} (hnx : nx < 4294967296) (hnm : nm.size ≤ 140737488355328) (hl : l.length ≤ 500) : (appV nm e nx l m).1.nx < 4294967296 ∧ (appV nm e nx l m).1.nm.size ≤ 140737488355328 ∧ (appV nm e nx l m).1.l.length ≤ 500 := by
  have h2 := refAppV_nm nm e nx l m
  have h3 := refAppV_len nm e nx l m
  have h1 : (refAppV nm e nx l m).1.nx < 4294967296 := by
    unfold refAppV
    cases decide (499 < l.length) with
    | true => exact (by decide : (0 : Nat) < 4294967296)
    | false =>
      rw [cond_false]
      cases h : nx == 4294967295 with
      | true => exact (by decide : (0 : Nat) < 4294967296)
      | false =>
        simp at h
        show nx + 1 < 4294967296
        omega
  have hz : zeroB.nx < 4294967296 ∧ zeroB.nm.size ≤ 140737488355328 ∧ zeroB.l.length ≤ 500 := ⟨by decide, by decide, by decide⟩
  unfold appV
  cases !(boxRight nm e nx l && fitsV m) with
  | true => exact hz
  | false =>
    rw [cond_false]
    cases decide (20000 < m.b.length) with
    | true => exact hz
    | false => rw [cond_false]; exact ⟨h1, by omega, h3⟩
def copyV (n1 : ByteArray) (e1 x1 : Nat) (l1 : List MsgV) (n2 : ByteArray) (e2 x2 : Nat) (l2 : List MsgV) (us : List Nat) : BoxV × List Nat × Nat :=
  bif !(boxRight n1 e1 x1 l1 && boxRight n2 e2 x2 l2) then (zeroB, [], 1) else cpV apM us (bare l1) ⟨n2, e2, x2, bare l2⟩ []
set_option maxRecDepth 100000 in
set_option maxHeartbeats 2000000 in
theorem copy_any (n1 n2 : ByteArray) (A A2 Au : Option Addr) (c c2 cu n m e1 e2 x1 x2 k : Nat) (l l2 : List MsgV) (us : List Nat) (w : World) (hm : MaxCell w) (hg : 1 < w.heap.size) (htab : Lib.TabIs Tryd.prog w "internal/strconv.uint64pow10" .u64 Lib.pow10Tab)
    (hs1 : n1.size ≤ 140737488355328) (hs2 : n2.size ≤ 140737488355328) (hn : n ≤ 140737488355328) (hm2 : m ≤ 140737488355328) (hx2 : x2 < 4294967296) (hms : Msgs w A n l) (hms2 : Msgs w A2 m l2) (hk : k ≤ 140737488355328) (hus : us.length = k) (hur : Reads w w.heap.size 1 Au k (u32s us)) :
    Calls Tryd.prog 23 #[.agg (boxC n1 e1 x1 A n c), .agg (boxC n2 e2 x2 A2 m c2), .slice Au k cu] w fun ev w' => ∃ r vg, ev = .returned (.tuple #[r, vg, .int .i64 ((copyV n1 e1 x1 l n2 e2 x2 l2 us).2.2 : Nat)]) ∧ GivesB w.heap.size w' r (copyV n1 e1 x1 l n2 e2 x2 l2 us).1 ∧ OwnU w.heap.size w' vg (copyV n1 e1 x1 l n2 e2 x2 l2 us).2.1 ∧ Below w.heap.size w w' := by
  have Ht := Lib.tabBelow_of_tabIs htab
  have hl := hms.len
  have hl2 := hms2.len
  have hm0 := hm
  have hg0 := hg
  refine calls_at 58 Tryd.func23 rfl rfl (Nat.le_of_ble_eq_true rfl) ?_
  intro a hA
  simp only [argsE, keepE, lookS, Nat.reduceBEq, cond_true, cond_false, Nat.reduceAdd, gv_tt, gv_ff, Bool.true_and, Bool.false_and, Bool.true_or, Bool.false_or] at hA
  refine wp_seq ?_
  refine wp_region_lit ?_
  -- stop box slot 3
  refine wl_new hA rfl rfl (by decide) (fun ev h => by simp [go_sem, h.get 0 rfl]; try first | exact ⟨rfl, rfl⟩ | rfl) fun w1 a1 (K3 : Blk _ _ _ _) hz1 hb1 hA1 => ?_
  replace hm := hm.below hg hb1; replace hg := Nat.lt_of_lt_of_le hg hb1.size
  refine wl_new hA1 rfl rfl (by decide) (fun ev h => by simp [go_sem, h.get 1 rfl]; try first | exact ⟨rfl, rfl⟩ | rfl) fun w2 a2 (K4 : Blk _ _ _ _) hz2 hb2 hA2 => ?_
  replace hm := hm.below hg hb2; replace hg := Nat.lt_of_lt_of_le hg hb2.size
  replace K3 := K3.below hb2 K3.lt
  refine wl_new hA2 rfl rfl (by decide) (fun ev h => by simp [go_sem]; try first | exact ⟨rfl, rfl⟩ | rfl) fun w3 a3 (K6 : Blk _ _ _ _) hz3 hb3 hA3 => ?_
  replace hm := hm.below hg hb3; replace hg := Nat.lt_of_lt_of_le hg hb3.size
  replace K3 := K3.below hb3 K3.lt
  replace K4 := K4.below hb3 K4.lt
  have HB : Below w.heap.size w w3 := hb1.trans ((hb2.trans (hb3.mono hb2.size)).mono hb1.size)
  unfold boxC at K3 K4
  refine wl_op hA3 rfl rfl (by decide) (fun ev h => by simp [go_sem, h.c, K3.cell, K4.cell]; try first | exact ⟨rfl, rfl⟩ | rfl) fun a4 hA4 => ?_
  refine wl_op hA4 rfl rfl (by decide) (fun ev h => by simp [go_sem, h.c, K3.cell, K4.cell]; try first | exact ⟨rfl, rfl⟩ | rfl) fun a5 hA5 => ?_
  refine wl_nil ?_
  refine n_then ?_
  have hA6 := hA5.keep [2, 3, 4, 6]
  simp only [argsE, keepE, lookS, Nat.reduceBEq, cond_true, cond_false, Nat.reduceAdd, gv_tt, gv_ff, Bool.true_and, Bool.false_and, Bool.true_or, Bool.false_or] at hA6
  clear hA hA1 hA2 hA3 hA4 hA5 a1 a2 a3 a4
  refine wp_seq ?_
  refine wp_seq ?_
  refine wp_region_lit ?_
  refine wl_op hA6 rfl rfl (by decide) (fun ev h => by simp [go_sem, h.get 3 rfl, K3.cell, K4.cell]; try first | exact ⟨rfl, rfl⟩ | rfl) fun a7 hA7 => ?_
  -- stop call slot 17
  refine wl_call hA7 rfl rfl (by decide) (fun ev h => by simp [go_sem, h.get 16 rfl, K3.cell, K4.cell, h.f]; try first | exact ⟨rfl, rfl⟩ | rfl) (right_any n1 A c n e1 x1 l _ hm hg (Ht _ HB) (by omega) (by omega) (hms.below HB)) ?_
  rintro e w4 ⟨rfl, hb4⟩
  refine ⟨_, rfl, fun a8 hA8 => ?_⟩
  replace hm := hm.below hg hb4; replace hg := Nat.lt_of_lt_of_le hg hb4.size
  replace K3 := K3.below hb4 K3.lt
  replace K4 := K4.below hb4 K4.lt
  replace K6 := K6.below hb4 K6.lt
  replace HB := HB.trans (hb4.mono HB.size)
  have hz4 := hb4.size
  refine wl_op hA8 rfl rfl (by decide) (fun ev h => by simp [go_sem, h.get 17 rfl, K3.cell, K4.cell]; try first | exact ⟨rfl, rfl⟩ | rfl) fun a9 hA9 => ?_
  refine wl_op hA9 rfl rfl (by decide) (fun ev h => by simp [go_sem, h.get 18 rfl, K3.cell, K4.cell]; try first | exact ⟨rfl, rfl⟩ | rfl) fun a10 hA10 => ?_
  refine wl_guard _ hA10 rfl rfl rfl rfl (by decide) (fun hq ev h => by simp [go_sem, (h.get 4 rfl), K3.cell, K4.cell]; try first | exact ⟨rfl, rfl⟩ | rfl) fun a11 hA11 => ?_
  -- stop call slot 21
  refine wl_gcallv _ hA11 rfl rfl rfl rfl (by decide) (fun hq ev h => by simp [go_sem, ((h.get 20 rfl).trans (gw_t (beq_t hq))), K3.cell, K4.cell, h.f]; try first | exact ⟨rfl, rfl⟩ | rfl) (fun hq => right_any n2 A2 c2 m e2 x2 l2 _ hm hg (Ht _ HB) (by omega) (by omega) (hms2.below HB)) fun a12 w5 hb5 hA12 => ?_
  replace hm := hm.below hg hb5; replace hg := Nat.lt_of_lt_of_le hg hb5.size
  replace K3 := K3.below hb5 K3.lt
  replace K4 := K4.below hb5 K4.lt
  replace K6 := K6.below hb5 K6.lt
  replace HB := HB.trans (hb5.mono HB.size)
  have hz5 := hb5.size
  refine wl_guard _ hA12 rfl rfl rfl rfl (by decide) (fun hq ev h => by simp [go_sem, ((h.get 21 rfl).trans (gw_t (beq_t hq))), K3.cell, K4.cell]; try first | exact ⟨rfl, rfl⟩ | rfl) fun a13 hA13 => ?_
  refine wl_op hA13 rfl rfl (by decide) (fun ev h => by first | exact pick_and rfl (h.get 19 rfl) (h.c _) (h.get 22 rfl) | exact pick_or rfl (h.get 19 rfl) (h.c _) (h.get 22 rfl) | (simp [go_sem, h.c, h.get 19 rfl, h.get 22 rfl, K3.cell, K4.cell, gv_or, gv_and]; try first | exact ⟨rfl, rfl⟩ | rfl)) fun a14 hA14 => ?_
  refine wl_nil ?_
  refine n_then ?_
  have hA15 := hA14.keep [2, 3, 4, 6, 23]
  simp only [argsE, keepE, lookS, Nat.reduceBEq, cond_true, cond_false, Nat.reduceAdd, gv_tt, gv_ff, Bool.true_and, Bool.false_and, Bool.true_or, Bool.false_or] at hA15
  clear hA6 hA7 hA8 hA9 hA10 hA11 hA12 hA13 hA14 a5 a7 a8 a9 a10 a11 a12 a13
  -- cond
  rw [show (!boxRight n1 e1 x1 l || !boxRight n2 e2 x2 l2) = !(boxRight n1 e1 x1 l && boxRight n2 e2 x2 l2) by rw [Bool.not_and]] at hA15
  refine wp_if hA15 23 _ rfl (fun hq => ?yA) (fun hq => ?nA)
  case yA =>
    have hap : copyV n1 e1 x1 l n2 e2 x2 l2 us = (zeroB, [], 1) := by unfold copyV; rw [hq]; rfl
    rw [hap]
    refine wp_seq ?_
    refine wp_region_lit ?_
    refine wl_op hA15 rfl rfl (by decide) (fun ev h => by simp [go_sem, K3.cell, K4.cell]; try first | exact ⟨rfl, rfl⟩ | rfl) fun a16 hA16 => ?_
    -- stop store slot None
    refine wl_set [.string ⟨#[]⟩, .int .u32 0, .int .u32 0, .slice none 0 0] hA16 rfl rfl K6 (by rfl) (fun ev h => by simp [go_sem, h.get 6 rfl, h.get 24 rfl, K3.cell, K4.cell, setAll, K6.cell, K6.frozen]) fun w6 (K6 : Blk _ _ _ _) hs6 => ?_
    refine wl_op hA16 rfl rfl (by decide) (fun ev h => by simp [go_sem, h.c, K6.cell]; try first | exact ⟨rfl, rfl⟩ | rfl) fun a17 hA17 => ?_
    refine wl_op hA17 rfl rfl (by decide) (fun ev h => by simp [go_sem, h.c, K6.cell]; try first | exact ⟨rfl, rfl⟩ | rfl) fun a18 hA18 => ?_
    refine wl_nil ?_
    refine n_then ?_
    have hA19 := hA18.keep [6, 7, 8]
    simp only [argsE, keepE, lookS, Nat.reduceBEq, cond_true, cond_false, Nat.reduceAdd, gv_tt, gv_ff, Bool.true_and, Bool.false_and, Bool.true_or, Bool.false_or] at hA19
    clear hA15 hA16 hA17 hA18 a16 a17
    refine wp_ret ?_
    refine r_then ?_
    refine bodyPost_ret (by simp [results, Tryd.results23, go_sem, hA19.env 6 _ rfl, hA19.env 7 _ rfl, hA19.env 8 _ rfl, K6.cell]; try first | exact ⟨rfl, rfl⟩ | rfl) hA19.defers ?_
    exact ⟨_, _, rfl, GivesB.zero _ _, OwnU.nil _ _, hs6.below HB (by omega)⟩
  case nA =>
    have hap : copyV n1 e1 x1 l n2 e2 x2 l2 us = cpV apM us (bare l) ⟨n2, e2, x2, bare l2⟩ [] := by unfold copyV; rw [hq]; rfl
    have hr1 : boxRight n1 e1 x1 l = true := by simp at hq; exact hq.1
    have hr2 : boxRight n2 e2 x2 l2 = true := by simp at hq; exact hq.2
    have hm5 : m ≤ 500 := by
      unfold boxRight at hr2
      simp only [Bool.and_eq_true, decide_eq_true_eq] at hr2
      rw [← hl2]; exact hr2.1.2
    have hn5 : n ≤ 500 := by
      unfold boxRight at hr1
      simp only [Bool.and_eq_true, decide_eq_true_eq] at hr1
      rw [← hl]; exact hr1.1.2
    rw [hap]
    obtain ⟨res, hres⟩ : ∃ res, cpV apM us (bare l) ⟨n2, e2, x2, bare l2⟩ [] = res := ⟨_, rfl⟩
    rw [hres]
    clear hq hap
    refine wp_skip ?_
    refine n_then ?_
    refine wp_seq ?_
    refine wp_region_lit ?_
    refine wl_op hA15 rfl rfl (by decide) (fun ev h => by simp [go_sem, h.get 4 rfl, K4.cell]; try first | exact ⟨rfl, rfl⟩ | rfl) fun a20 hA20 => ?_
    -- stop call slot 26
    refine wl_call hA20 rfl rfl (by decide) (fun ev h => by simp [go_sem, h.get 25 rfl, K4.cell, h.f]; try first | exact ⟨rfl, rfl⟩ | rfl) (cloneBox_any n2 A2 c2 m e2 x2 l2 _ (by omega) (fun x hx => Nat.le_trans (right_msg hr2 hx).2.2 (by omega)) (hms2.below HB)) ?_
    rintro e w6 ⟨v, lo, rfl, ho, hbl, hb6, hno⟩
    refine ⟨_, rfl, fun a21 hA21 => ?_⟩
    replace hm := hm.below hg hb6; replace hg := Nat.lt_of_lt_of_le hg hb6.size
    replace K3 := K3.below hb6 K3.lt
    replace K6 := K6.below hb6 K6.lt
    replace HB := HB.trans (hb6.mono HB.size)
    have hz6 := hb6.size
    have hll := len_of_bare hbl
    obtain ⟨A1, c1, hv, hm1, hc1⟩ := ho.msgs
    subst hv
    clear hm1
    -- stop alloc slot 9
    refine wl_local [.string n2, .int .u32 (e2 : Nat), .int .u32 (x2 : Nat), .slice A1 lo.length c1] hA21 rfl rfl (by decide) (fun ev h => by simp [go_sem, K4.cell]; try first | exact ⟨rfl, rfl⟩ | rfl) rfl rfl (by rfl) (fun w1 g ev hb h => by simp [go_sem, h.get 9 rfl, h.get 26 rfl, K4.cell, setAll, hb.cell, hb.frozen]) fun w7 a22 (K9 : Blk _ _ _ _) hz7 hb7 hA22 => ?_
    replace K3 := K3.below hb7 K3.lt
    replace K6 := K6.below hb7 K6.lt
    replace HB := HB.trans (hb7.mono HB.size)
    replace ho := ho.below hb7
    refine wl_nil ?_
    refine n_then ?_
    have hA23 := hA22.keep [2, 3, 6, 9]
    simp only [argsE, keepE, lookS, Nat.reduceBEq, cond_true, cond_false, Nat.reduceAdd, gv_tt, gv_ff, Bool.true_and, Bool.false_and, Bool.true_or, Bool.false_or] at hA23
    clear hA15 hA20 hA21 hA22 a20 a21
    refine wp_seq ?_
    refine wp_region_lit ?_
    refine wl_op hA23 rfl rfl (by decide) (fun ev h => by simp [go_sem, h.c, K3.cell]; try first | exact ⟨rfl, rfl⟩ | rfl) fun a24 hA24 => ?_
    refine wl_nil ?_
    refine n_then ?_
    have hA25 := hA24.keep [2, 3, 6, 9, 10]
    simp only [argsE, keepE, lookS, Nat.reduceBEq, cond_true, cond_false, Nat.reduceAdd, gv_tt, gv_ff, Bool.true_and, Bool.false_and, Bool.true_or, Bool.false_or] at hA25
    clear hA23 hA24 a22
    refine wp_seq ?_
    refine wp_seq ?_
    refine wp_region_lit ?_
    refine wl_op hA25 rfl rfl (by decide) (fun ev h => by simp [go_sem, h.get 3 rfl, K3.cell]; try first | exact ⟨rfl, rfl⟩ | rfl) fun a26 hA26 => ?_
    refine wl_op hA26 rfl rfl (by decide) (fun ev h => by simp [go_sem, h.get 27 rfl, K3.cell]; try first | exact ⟨rfl, rfl⟩ | rfl) fun a27 hA27 => ?_
    refine wl_op hA27 rfl rfl (by decide) (fun ev h => by simp [go_sem, h.get 28 rfl, K3.cell]; try first | exact ⟨rfl, rfl⟩ | rfl) fun a28 hA28 => ?_
    refine wl_op hA28 rfl rfl (by decide) (fun ev h => by simp [go_sem, h.c, K3.cell]; try first | exact ⟨rfl, rfl⟩ | rfl) fun a29 hA29 => ?_
    refine wl_nil ?_
    refine n_then ?_
    have hA30 := hA29.keep [2, 6, 9, 10, 28, 29, 30]
    simp only [argsE, keepE, lookS, Nat.reduceBEq, cond_true, cond_false, Nat.reduceAdd, gv_tt, gv_ff, Bool.true_and, Bool.false_and, Bool.true_or, Bool.false_or] at hA30
    clear hA25 hA26 hA27 hA28 hA29 a24 a26 a27 a28
    refine wp_block ?_
    -- loop
    refine wp_loop_at (fun kk a wx => ∃ (j : Nat) (b : BoxV) (A1 : Option Addr) (c1 : Nat) (l' : List MsgV) (gs : List Nat) (v10 : Value), j + kk = n ∧ At 58 [(2, .slice Au k cu), (6, .pointer (some ⟨w2.heap.size, 0, none⟩)), (9, .pointer (some ⟨w6.heap.size, 0, none⟩)), (10, v10), (28, .slice A n c), (29, .int .i64 (n : Nat)), (30, .int .i64 (j : Nat))] a ∧ Blk wx w6.heap.size 25 #[.string b.nm, .int .u32 (b.e : Nat), .int .u32 (b.nx : Nat), .slice A1 l'.length c1] ∧ OwnM w5.heap.size wx (.slice A1 l'.length c1) l' ∧ bare l' = b.l ∧ OwnU w7.heap.size wx v10 gs ∧ Blk wx w2.heap.size 25 #[.string ⟨#[]⟩, .int .u32 0, .int .u32 0, .slice none 0 0] ∧ Below w.heap.size w wx ∧ w7.heap.size ≤ wx.heap.size ∧ cpV apM us (bare (l.drop j)) b gs = res ∧ b.nx < 4294967296 ∧ b.nm.size ≤ 140737488355328 ∧ b.l.length ≤ 500 ∧ gs.length ≤ j) (n) ?_ ?_
    · exact ⟨0, ⟨n2, e2, x2, bare l2⟩, A1, c1, lo, [], _, by omega, hA30, K9, ho, hbl, OwnU.nil _ _, K6, HB, Nat.le_refl _, hres, hx2, hs2, by rw [bare_len]; omega, Nat.le_refl _⟩
    clear K9 K6 K3 ho hbl hno hll hc1 hm hg HB hres
    rintro kk a wx ⟨j, b, A1, c1, l', gs, v10, hjk, hA, K9, ho, hbl, hu, K6, HB, hsx, hres, hbx, hbn, hbl5, hgj⟩
    have hl5 : l'.length ≤ 500 := by rw [← bare_len, hbl]; exact hbl5
    refine wp_seq ?_
    refine wp_region_lit ?_
    refine wl_op hA rfl rfl (by decide) (fun ev h => by simp [go_sem, h.get 30 rfl, h.get 29 rfl]; try first | exact ⟨rfl, rfl⟩ | rfl) fun a31 hA31 => ?_
    refine wl_nil ?_
    refine n_then ?_
    have hA32 := hA31.keep [2, 6, 9, 10, 28, 29, 30, 31]
    simp only [argsE, keepE, lookS, Nat.reduceBEq, cond_true, cond_false, Nat.reduceAdd, gv_tt, gv_ff, Bool.true_and, Bool.false_and, Bool.true_or, Bool.false_or] at hA32
    clear hA hA31
    refine wp_seq ?_
    -- cond
    refine wp_if hA32 31 _ rfl (fun hq => ?yL) (fun hq => ?nL)
    case yL =>
      have hlt : j < n := by simp at hq; omega
      obtain ⟨x, hx⟩ : ∃ x, l[j]? = some x := ⟨_, List.getElem?_eq_getElem (by omega)⟩
      have hxm := List.mem_of_getElem? hx
      have hrx := right_msg hr1 hxm
      rw [cpV_at hx] at hres
      obtain ⟨ad, rfl, hadl, k0, k1, k2, k3⟩ := hms.at_ hx
      have z0 := (HB.cell hadl).trans k0
      have z1 := (HB.cell (p := ⟨(ad.add (j * 4)).block, (ad.add (j * 4)).off + 1, none⟩) hadl).trans k1
      have z2 := (HB.cell (p := ⟨(ad.add (j * 4)).block, (ad.add (j * 4)).off + 2, none⟩) hadl).trans k2
      have z3 := (HB.cell (p := ⟨(ad.add (j * 4)).block, (ad.add (j * 4)).off + 3, none⟩) hadl).trans k3
      have jj0 : (0 : Int) ≤ (j : Int) := by omega
      have jj1 : (j : Int) < (n : Int) := by omega
      have hwj : IntKind.i64.wrap ((j : Int) + 1) = (j : Int) + 1 := IntWalk.i64_in _ (by omega)
      refine wp_skip ?_
      refine n_then ?_
      refine wp_seq ?_
      refine wp_block ?_
      refine wp_seq ?_
      refine wp_region_lit ?_
      refine wl_op hA32 rfl rfl (by decide) (fun ev h => by simp [go_sem, h.get 28 rfl, h.get 30 rfl, z0, z1, z2, z3, jj0, jj1]; try first | exact ⟨rfl, rfl⟩ | rfl) fun a33 hA33 => ?_
      refine wl_op hA33 rfl rfl (by decide) (fun ev h => by simp [go_sem, h.get 32 rfl, z0, z1, z2, z3, jj0, jj1]; try first | exact ⟨rfl, rfl⟩ | rfl) fun a34 hA34 => ?_
      -- stop alloc slot 12
      refine wl_local [.int .u32 (x.uid : Nat), .int .i64 x.date, .int .i64 x.flags, .slice x.a x.b.length x.c] hA34 rfl rfl (by decide) (fun ev h => by simp [go_sem, z0, z1, z2, z3, jj0, jj1]; try first | exact ⟨rfl, rfl⟩ | rfl) rfl rfl (by rfl) (fun w1 g ev hb h => by simp [go_sem, h.get 12 rfl, h.get 33 rfl, z0, z1, z2, z3, jj0, jj1, setAll, hb.cell, hb.frozen]) fun w8 a35 (K12 : Blk _ _ _ _) hz8 hb8 hA35 => ?_
      replace K9 := K9.below hb8 K9.lt
      replace K6 := K6.below hb8 K6.lt
      replace HB := HB.trans (hb8.mono HB.size)
      replace ho := ho.below hb8
      replace hu := hu.below hb8
      refine wl_nil ?_
      refine n_then ?_
      have hA36 := hA35.keep [2, 6, 9, 10, 12, 28, 29, 30]
      simp only [argsE, keepE, lookS, Nat.reduceBEq, cond_true, cond_false, Nat.reduceAdd, gv_tt, gv_ff, Bool.true_and, Bool.false_and, Bool.true_or, Bool.false_or] at hA36
      clear hA32 hA33 hA34 hA35 a33 a34
      refine wp_seq ?_
      refine wp_seq ?_
      refine wp_region_lit ?_
      refine wl_op hA36 rfl rfl (by decide) (fun ev h => by simp [go_sem, h.get 2 rfl, K12.cell]; try first | exact ⟨rfl, rfl⟩ | rfl) fun a37 hA37 => ?_
      refine wl_op hA37 rfl rfl (by decide) (fun ev h => by simp [go_sem, h.get 12 rfl, K12.cell]; try first | exact ⟨rfl, rfl⟩ | rfl) fun a38 hA38 => ?_
      refine wl_op hA38 rfl rfl (by decide) (fun ev h => by simp [go_sem, h.get 35 rfl, K12.cell]; try first | exact ⟨rfl, rfl⟩ | rfl) fun a39 hA39 => ?_
      -- stop call slot 37
      refine wl_call hA39 rfl rfl (by decide) (fun ev h => by simp [go_sem, h.get 34 rfl, h.get 36 rfl, K12.cell, h.f]; try first | exact ⟨rfl, rfl⟩ | rfl) (contains_u32 Au cu k x.uid us _ hk hus ((hur.below HB).more HB.size)) ?_
      rintro e w9 ⟨rfl, hb9⟩
      refine ⟨_, rfl, fun a40 hA40 => ?_⟩
      replace K9 := K9.below hb9 K9.lt
      replace K6 := K6.below hb9 K6.lt
      replace HB := HB.trans (hb9.mono HB.size)
      replace ho := ho.below hb9
      replace hu := hu.below hb9
      replace K12 := K12.below hb9 K12.lt
      have hz9 := hb9.size
      refine wl_op hA40 rfl rfl (by decide) (fun ev h => by simp [go_sem, h.get 37 rfl, K12.cell]; try first | exact ⟨rfl, rfl⟩ | rfl) fun a41 hA41 => ?_
      refine wl_nil ?_
      refine n_then ?_
      have hA42 := hA41.keep [2, 6, 9, 10, 12, 28, 29, 30, 38]
      simp only [argsE, keepE, lookS, Nat.reduceBEq, cond_true, cond_false, Nat.reduceAdd, gv_tt, gv_ff, Bool.true_and, Bool.false_and, Bool.true_or, Bool.false_or] at hA42
      clear hA36 hA37 hA38 hA39 hA40 hA41 a35 a37 a38 a39 a40
      -- cond
      refine wp_if hA42 38 _ rfl (fun hq2 => ?yR) (fun hq2 => ?nR)
      case yR =>
        have hq2 : inU us x.uid = false := by simpa using hq2
        rw [hq2, cond_false] at hres
        refine wp_exit ?_
        refine x_then ?_
        refine x_block ?_
        refine n_then ?_
        have hA43 := hA42.keep [2, 6, 9, 10, 28, 29, 30]
        simp only [argsE, keepE, lookS, Nat.reduceBEq, cond_true, cond_false, Nat.reduceAdd, gv_tt, gv_ff, Bool.true_and, Bool.false_and, Bool.true_or, Bool.false_or] at hA43
        clear hA42
        refine wp_region_lit ?_
        refine wl_op hA43 rfl rfl (by decide) (fun ev h => by simp [go_sem, h.c, h.get 30 rfl, hwj]; try first | exact ⟨rfl, rfl⟩ | rfl) fun a44 hA44 => ?_
        refine wl_op hA44 rfl rfl (by decide) (fun ev h => by simp [go_sem, h.get 55 rfl, hwj]; try first | exact ⟨rfl, rfl⟩ | rfl) fun a45 hA45 => ?_
        refine wl_nil ?_
        refine n_then ?_
        have hA46 := hA45.keep [2, 6, 9, 10, 28, 29, 30]
        simp only [argsE, keepE, lookS, Nat.reduceBEq, cond_true, cond_false, Nat.reduceAdd, gv_tt, gv_ff, Bool.true_and, Bool.false_and, Bool.true_or, Bool.false_or] at hA46
        clear hA43 hA44 hA45 a44
        -- round
        rw [show ((j : Int) + 1) = ((j + 1 : Nat) : Int) by omega] at hA46
        exact ⟨kk - 1, by omega, j + 1, b, A1, c1, l', gs, v10, by omega, hA46, K9, ho, hbl, hu, K6, HB, by omega, hres, hbx, hbn, hbl5, by omega⟩
      case nR =>
        have hq2 : inU us x.uid = true := by simpa using hq2
        rw [hq2, cond_true] at hres
        have hap : appV b.nm b.e b.nx l' x = apM b (strip x) := by unfold apM; rw [← hbl, appV_bare]
        have hnx := appV_nx (nm := b.nm) (e := b.e) (l := l') (m := x) hbx hbn hl5
        obtain ⟨b', u, q, hap2⟩ : ∃ b' u q, apM b (strip x) = (b', u, q) := ⟨_, _, _, rfl⟩
        obtain ⟨_, _, hv0, hmo, _⟩ := ho.msgs
        injection hv0 with hv1 _ hv3
        subst hv1 hv3
        have N := append_any b.nm A1 c1 l'.length b.e b.nx l' x _ (hm0.below hg0 HB) (Nat.lt_of_lt_of_le hg0 HB.size) (Ht _ HB) (by omega) (by omega) hbx hmo (((hms.octs x hxm).below HB).more HB.size)
        rw [hap, hap2] at N hnx
        rw [hap2] at hres
        simp only at N hres hnx
        unfold boxC at N
        have hltu : ∀ g, v10.ownBlock = some g → g < w9.heap.size := fun g hg => (World.ownsRow.lt hu g hg).2
        refine wp_skip ?_
        refine n_then ?_
        refine wp_seq ?_
        refine wp_region_lit ?_
        refine wl_op hA42 rfl rfl (by decide) (fun ev h => by simp [go_sem, h.get 9 rfl, K9.cell, K12.cell]; try first | exact ⟨rfl, rfl⟩ | rfl) fun a47 hA47 => ?_
        refine wl_op hA47 rfl rfl (by decide) (fun ev h => by simp [go_sem, h.get 12 rfl, K9.cell, K12.cell]; try first | exact ⟨rfl, rfl⟩ | rfl) fun a48 hA48 => ?_
        -- stop call slot 42
        refine wl_call hA48 rfl rfl (by decide) (fun ev h => by simp [go_sem, h.get 40 rfl, h.get 41 rfl, K9.cell, K12.cell, h.f]; try first | exact ⟨rfl, rfl⟩ | rfl) (N) ?_
        rintro e w10 ⟨r, rfl, ⟨v, l9, rfl, ho9, hbl9, hno9⟩, hb10⟩
        refine ⟨_, rfl, fun a49 hA49 => ?_⟩
        replace K9 := K9.below hb10 K9.lt
        replace K6 := K6.below hb10 K6.lt
        replace HB := HB.trans (hb10.mono HB.size)
        replace hu := hu.below hb10
        have hz10 := hb10.size
        clear N hmo ho
        obtain ⟨A9, c9, hv, _, _⟩ := ho9.msgs
        subst hv
        refine wl_op hA49 rfl rfl (by decide) (fun ev h => by simp [go_sem, h.get 42 rfl, K9.cell, K12.cell]; try first | exact ⟨rfl, rfl⟩ | rfl) fun a50 hA50 => ?_
        refine wl_op hA50 rfl rfl (by decide) (fun ev h => by simp [go_sem, h.get 39 rfl, K9.cell, K12.cell]; try first | exact ⟨rfl, rfl⟩ | rfl) fun a51 hA51 => ?_
        refine wl_op hA51 rfl rfl (by decide) (fun ev h => by simp [go_sem, h.get 39 rfl, K9.cell, K12.cell]; try first | exact ⟨rfl, rfl⟩ | rfl) fun a52 hA52 => ?_
        refine wl_op hA52 rfl rfl (by decide) (fun ev h => by simp [go_sem, h.get 39 rfl, K9.cell, K12.cell]; try first | exact ⟨rfl, rfl⟩ | rfl) fun a53 hA53 => ?_
        -- stop alloc slot 13
        refine wl_local [.string b'.nm, .int .u32 (b'.e : Nat), .int .u32 (b'.nx : Nat), .slice A9 l9.length c9] hA53 rfl rfl (by decide) (fun ev h => by simp [go_sem, K9.cell, K12.cell]; try first | exact ⟨rfl, rfl⟩ | rfl) rfl rfl (by rfl) (fun w1 g ev hb h => by simp [go_sem, h.get 13 rfl, h.get 43 rfl, K9.cell, K12.cell, setAll, hb.cell, hb.frozen]) fun w13 a54 (K13 : Blk _ _ _ _) hz13 hb13 hA54 => ?_
        replace K9 := K9.below hb13 K9.lt
        replace K6 := K6.below hb13 K6.lt
        replace HB := HB.trans (hb13.mono HB.size)
        replace hu := hu.below hb13
        replace ho9 := ho9.below hb13
        refine wl_op hA54 rfl rfl (by decide) (fun ev h => by simp [go_sem, h.get 44 rfl, K9.cell, K12.cell]; try first | exact ⟨rfl, rfl⟩ | rfl) fun a55 hA55 => ?_
        refine wl_op hA55 rfl rfl (by decide) (fun ev h => by simp [go_sem, h.get 45 rfl, K9.cell, K12.cell]; try first | exact ⟨rfl, rfl⟩ | rfl) fun a56 hA56 => ?_
        refine wl_nil ?_
        refine n_then ?_
        have hA57 := hA56.keep [2, 6, 9, 10, 13, 14, 15, 28, 29, 30]
        simp only [argsE, keepE, lookS, Nat.reduceBEq, cond_true, cond_false, Nat.reduceAdd, gv_tt, gv_ff, Bool.true_and, Bool.false_and, Bool.true_or, Bool.false_or] at hA57
        clear hA42 hA47 hA48 hA49 hA50 hA51 hA52 hA53 hA54 hA55 hA56 a47 a48 a49 a50 a51 a52 a53 a54 a55
        refine wp_seq ?_
        refine wp_seq ?_
        refine wp_region_lit ?_
        refine wl_op hA57 rfl rfl (by decide) (fun ev h => by simp [go_sem, h.get 15 rfl, K9.cell, K12.cell]; try first | exact ⟨rfl, rfl⟩ | rfl) fun a58 hA58 => ?_
        refine wl_op hA58 rfl rfl (by decide) (fun ev h => by simp [go_sem, h.c, h.get 46 rfl, K9.cell, K12.cell]; try first | exact ⟨rfl, rfl⟩ | rfl) fun a59 hA59 => ?_
        refine wl_nil ?_
        refine n_then ?_
        have hA60 := hA59.keep [2, 6, 9, 10, 13, 14, 15, 28, 29, 30, 47]
        simp only [argsE, keepE, lookS, Nat.reduceBEq, cond_true, cond_false, Nat.reduceAdd, gv_tt, gv_ff, Bool.true_and, Bool.false_and, Bool.true_or, Bool.false_or] at hA60
        clear hA57 hA58 hA59 a56 a58
        -- cond
        rw [show ((q : Int) != 0) = !(q == 0) by unfold bne; rw [show ((q : Int) == 0) = (q == 0) by rw [Bool.eq_iff_iff]; simp]] at hA60
        refine wp_if hA60 47 _ rfl (fun hq3 => ?yS) (fun hq3 => ?nS)
        case yS =>
          have hq3 : (q == 0) = false := by simpa using hq3
          rw [hq3, cond_false] at hres
          refine wp_seq ?_
          refine wp_region_lit ?_
          refine wl_op hA60 rfl rfl (by decide) (fun ev h => by simp [go_sem, K9.cell, K12.cell]; try first | exact ⟨rfl, rfl⟩ | rfl) fun a61 hA61 => ?_
          refine wl_op hA61 rfl rfl (by decide) (fun ev h => by simp [go_sem, h.get 15 rfl, K9.cell, K12.cell]; try first | exact ⟨rfl, rfl⟩ | rfl) fun a62 hA62 => ?_
          -- stop store slot None
          refine wl_set [.string ⟨#[]⟩, .int .u32 0, .int .u32 0, .slice none 0 0] hA62 rfl rfl K6 (by rfl) (fun ev h => by simp [go_sem, h.get 6 rfl, h.get 48 rfl, K9.cell, K12.cell, setAll, K6.cell, K6.frozen]) fun w14 (K6 : Blk _ _ _ _) hs14 => ?_
          refine wl_op hA62 rfl rfl (by decide) (fun ev h => by simp [go_sem, h.c, K6.cell]; try first | exact ⟨rfl, rfl⟩ | rfl) fun a63 hA63 => ?_
          refine wl_op hA63 rfl rfl (by decide) (fun ev h => by simp [go_sem, h.get 49 rfl, K6.cell]; try first | exact ⟨rfl, rfl⟩ | rfl) fun a64 hA64 => ?_
          refine wl_nil ?_
          refine n_then ?_
          have hA65 := hA64.keep [6, 7, 8]
          simp only [argsE, keepE, lookS, Nat.reduceBEq, cond_true, cond_false, Nat.reduceAdd, gv_tt, gv_ff, Bool.true_and, Bool.false_and, Bool.true_or, Bool.false_or] at hA65
          clear hA60 hA61 hA62 hA63 hA64 a61 a62 a63
          refine wp_ret ?_
          refine r_then ?_
          refine r_block ?_
          refine r_then ?_
          refine r_then ?_
          refine r_block ?_
          refine r_then ?_
          refine bodyPost_ret (by simp [results, Tryd.results23, go_sem, hA65.env 6 _ rfl, hA65.env 7 _ rfl, hA65.env 8 _ rfl, K6.cell]; try first | exact ⟨rfl, rfl⟩ | rfl) hA65.defers ?_
          rw [← hres]
          exact ⟨_, _, rfl, GivesB.zero _ _, OwnU.nil _ _, hs14.below HB (by omega)⟩
        case nS =>
          have hq3 : (q == 0) = true := by simpa using hq3
          rw [hq3, cond_true] at hres
          have hne13 := own_ne hu K13 (by decide)
          have hne9 := own_ne hu K9 (by decide)
          have hne6 := own_ne hu K6 (by decide)
          have hbaseu : ∀ g, v10.ownBlock = some g → w7.heap.size ≤ g := fun g hg => (World.ownsRow.lt hu g hg).1
          have hrow9 : ∀ g, (Value.slice A9 l9.length c9).ownBlock = some g → ¬ v10.ownBlock = some g := fun g hg h => own_ne2 ho9.row hu (by decide) hg h rfl
          have hlt9 : ∀ g, (Value.slice A9 l9.length c9).ownBlock = some g → g < w13.heap.size := fun g hg => (World.ownsRow.lt ho9.row g hg).2
          have hoct9 : ∀ m ∈ l9, 0 < m.b.length → ∀ ad, m.a = some ad → ¬ v10.ownBlock = some ad.block := fun m hm hn ad ha h => by
            have h1 := hno9 m hm hn ad ha
            have h2 := hltu _ h
            omega
          refine wp_skip ?_
          refine n_then ?_
          refine wp_region_split 5 ?_
          simp only [List.take_succ_cons, List.take_zero, List.drop_succ_cons, List.drop_zero]
          refine wp_any_split_at hA60 [(.det ?dD0), (.det ?dD1), (.det ?dD2), (.used (fun v wy => ∃ g, v = .slice (some ⟨g, 0, none⟩) 1 1 ∧ Blk wy g 22 #[.int .u32 (u : Nat)])), (.held (fun v wy => OwnU w7.heap.size wy v (gs ++ [u])))] [⟨none, (some 4), [], fun _ => (fun wy => OwnU w7.heap.size wy v10 gs), fun _ _ _ _ h => h⟩] (fun wy => Apart (fun i => v10.ownBlock = some i) w13 wy) (TSp [(4, (fun _ _ => True))] Grows) (by kernel_rfl) rfl (by kernel_rfl) (by kernel_rfl) rfl (by kernel_rfl) (by kernel_rfl) (by kernel_rfl) (by kernel_rfl) (⟨rfl, rfl, rfl, Nat.le_refl _, fun _ _ _ => rfl⟩) (stab_sp [(4, (fun _ _ => True))] [true, true, true, false, false] [true, true, true, false, true] [] rfl rfl rfl (by kernel_rfl) ⟨trivial, trivial, trivial, (fun _ _ _ _ ⟨g, hx, hk⟩ hb => ⟨g, hx, hk.below hb hk.lt⟩), (fun _ _ _ _ hp hb => hp.below hb), trivial⟩ trivial) (List.forall_mem_cons.2 ⟨(fun hn => hu.below (Below.refl _ _).drew), (fun _ h => by cases h)⟩) (phase_sp [(4, (fun _ _ => True))] [(none, (some 4))] [] rfl (by kernel_rfl) (List.forall_mem_cons.2 ⟨fun _ => fun _ _ _ hp hb => hp.below hb, (fun _ h => by cases h)⟩) trivial) (List.forall_mem_cons.2 ⟨(fun a h => by first | (exact (no_1 h).elim) | (injection h with h; subst h; exact Nat.le_of_ble_eq_true rfl)), (fun _ h => by cases h)⟩) ⟨?oD0, ?oD1, ?oD2, ?oD3, ?oD4, trivial⟩ (by kernel_rfl) ?fD
          case oD0 =>
            intro ev wo hev hC hs hph
            have e13 := see_env hA60 hs 13 (by kernel_rfl) (by kernel_rfl) rfl
            have Kx := hC.blk K13 (fun h => hne13 _ h rfl)
            exact ob_det (wanted_none rfl) rfl (by kernel_rfl) hC (TSp.of rfl (Grows.refl _)) (by simp [go_sem, e13, Kx.cell, K9.cell, K12.cell]; try first | exact ⟨rfl, rfl⟩ | rfl)
          case oD1 =>
            intro ev wo hev hC hs hph
            have e10 := see_env hA60 hs 10 (by kernel_rfl) (by kernel_rfl) rfl
            exact ob_det (wanted_none rfl) rfl (by kernel_rfl) hC (TSp.of rfl (Grows.refl _)) (by simp [go_sem, e10]; try first | exact ⟨rfl, rfl⟩ | rfl)
          case oD2 =>
            intro ev wo hev hC hs hph
            have e14 := see_env hA60 hs 14 (by kernel_rfl) (by kernel_rfl) rfl
            exact ob_det (wanted_none rfl) rfl (by kernel_rfl) hC (TSp.of rfl (Grows.refl _)) (by simp [go_sem, e14]; try first | exact ⟨rfl, rfl⟩ | rfl)
          case oD3 =>
            intro ev wo hev hC hs hph
            have e52 := see_det hs 52 2 (by kernel_rfl) (by kernel_rfl) rfl
            have Kx := hC.blk K13 (fun h => hne13 _ h rfl)
            have hbn := (Below.refl wo.heap.size wo).alloc (Nat.le_refl _) (.cells #[.int .u32 (u : Nat)] 22)
            exact ob_yes (wanted_none rfl) (does_value (v := .slice (some ⟨wo.heap.size, 0, none⟩) 1 1) (w' := wo.alloc (.cells #[.int .u32 (u : Nat)] 22)) (by simp [go_sem, e52]) ⟨hC.below hbn, TSp.of rfl hbn, ⟨_, rfl, Blk.new wo _ _⟩, no_start (by kernel_rfl)⟩)
          case oD4 =>
            intro ev wo hev hC hs hph
            have e51 := see_det hs 51 1 (by kernel_rfl) (by kernel_rfl) rfl
            have u53 := see_used hs 53 3 (by kernel_rfl) (by kernel_rfl) rfl
            have Kx := hC.blk K13 (fun h => hne13 _ h rfl)
            have hO := (hph _ List.mem_cons_self (by kernel_rfl))
            obtain ⟨g, e53, hK⟩ := u53
            obtain ⟨r, w', hr, ho, hgr⟩ := run_appU (m := [u]) (c := 1) hO (u32_blk hK) (by simp; omega) (by have := hC.size; omega)
            exact ob_yes (wanted_none rfl) (does_value (exec_append rfl e51 e53 hr) ⟨hC.grown hgr (fun g hg => .inr hg), TSp.sp rfl trivial, ho, no_start (by kernel_rfl)⟩)
          intro sg wf hC hph
          intro x53 hx53
          intro x54 hx54 h54
          intro a66 hA66
          have hA67 := hA66.keep [2, 6, 9, 28, 29, 30, 50, 54]
          simp only [argsE, keepE, lookS, Nat.reduceBEq, cond_true, cond_false, Nat.reduceAdd, gv_tt, gv_ff, Bool.true_and, Bool.false_and, Bool.true_or, Bool.false_or] at hA67
          clear hA60 hA66
          have hz14 := hC.size
          have ho14 : OwnM w9.heap.size wf (.slice A9 l9.length c9) l9 :=
            ⟨own_keep ho9.row fun g hg => hC.block g (hlt9 g hg) (hrow9 g hg), fun m hm => hC.reads (ho9.octs m hm) (hoct9 m hm), ho9.off, ho9.uids, ho9.caps⟩
          replace K9 := hC.blk K9 (fun h => hne9 _ h rfl)
          replace K6 := hC.blk K6 (fun h => hne6 _ h rfl)
          replace HB := HB.trans (hC.toBelow (B := w.heap.size) (fun i hi => by have := hbaseu i hi; omega) (by omega))
          have hm9 := own_ne ho14.row K9 (by decide)
          have hoff9 : ∀ m ∈ l9, Off w6.heap.size m := fun m hm => off_blk (ho14.octs m hm) K9 rfl
          have hneu9 := own_ne h54 K9 (by decide)
          -- stop store slot None
          refine wl_set [.string b'.nm, .int .u32 (b'.e : Nat), .int .u32 (b'.nx : Nat), .slice A9 l9.length c9] hA67 rfl rfl K9 (by rfl) (fun ev h => by simp [go_sem, h.get 9 rfl, h.get 50 rfl, K9.cell, K12.cell, setAll, K9.cell, K9.frozen]) fun w15 (K9 : Blk _ _ _ _) hs15 => ?_
          replace K6 := hs15.blk K6 (by omega)
          replace HB := hs15.below HB (by omega)
          have hz15 := hs15.size
          refine wl_op hA67 rfl rfl (by decide) (fun ev h => by simp [go_sem, h.get 54 rfl, hwj]; try first | exact ⟨rfl, rfl⟩ | rfl) fun a68 hA68 => ?_
          refine wl_nil ?_
          refine n_block ?_
          refine n_then ?_
          have hA69 := hA68.keep [2, 6, 9, 10, 28, 29, 30]
          simp only [argsE, keepE, lookS, Nat.reduceBEq, cond_true, cond_false, Nat.reduceAdd, gv_tt, gv_ff, Bool.true_and, Bool.false_and, Bool.true_or, Bool.false_or] at hA69
          clear hA67 hA68 a66
          refine wp_region_lit ?_
          refine wl_op hA69 rfl rfl (by decide) (fun ev h => by simp [go_sem, h.c, h.get 30 rfl, hwj]; try first | exact ⟨rfl, rfl⟩ | rfl) fun a70 hA70 => ?_
          refine wl_op hA70 rfl rfl (by decide) (fun ev h => by simp [go_sem, h.get 55 rfl, hwj]; try first | exact ⟨rfl, rfl⟩ | rfl) fun a71 hA71 => ?_
          refine wl_nil ?_
          refine n_then ?_
          have hA72 := hA71.keep [2, 6, 9, 10, 28, 29, 30]
          simp only [argsE, keepE, lookS, Nat.reduceBEq, cond_true, cond_false, Nat.reduceAdd, gv_tt, gv_ff, Bool.true_and, Bool.false_and, Bool.true_or, Bool.false_or] at hA72
          clear hA69 hA70 hA71 a68 a70
          -- round
          rw [show ((j : Int) + 1) = ((j + 1 : Nat) : Int) by omega] at hA72
          exact ⟨kk - 1, by omega, j + 1, b', A9, c9, l9, gs ++ [u], x54, by omega, hA72, K9, (ho14.only hs15 hm9 hoff9).mono (by omega), hbl9, h54.keep fun g hg => hs15.block g (hneu9 g hg), K6, HB, by omega, hres, hnx.1, hnx.2.1, hnx.2.2, by simp; omega⟩
    case nL =>
      have hjn : j = n := by simp at hq; omega
      subst hjn
      rw [List.drop_of_length_le (by omega)] at hres
      have hres2 : (b, gs, 0) = res := hres
      have hne6 := own_ne ho.row K6 (by decide)
      have hneu6 := own_ne hu K6 (by decide)
      have hoff6 : ∀ m ∈ l', Off w2.heap.size m := fun m hm => off_blk (ho.octs m hm) K6 rfl
      refine wp_exit ?_
      refine x_then ?_
      refine x_then ?_
      refine x_block ?_
      refine n_then ?_
      have hA73 := hA32.keep [6, 9, 10]
      simp only [argsE, keepE, lookS, Nat.reduceBEq, cond_true, cond_false, Nat.reduceAdd, gv_tt, gv_ff, Bool.true_and, Bool.false_and, Bool.true_or, Bool.false_or] at hA73
      clear hA32
      refine wp_seq ?_
      refine wp_region_lit ?_
      refine wl_op hA73 rfl rfl (by decide) (fun ev h => by simp [go_sem, h.get 9 rfl, K9.cell]; try first | exact ⟨rfl, rfl⟩ | rfl) fun a74 hA74 => ?_
      refine wl_op hA74 rfl rfl (by decide) (fun ev h => by simp [go_sem, h.get 10 rfl, K9.cell]; try first | exact ⟨rfl, rfl⟩ | rfl) fun a75 hA75 => ?_
      -- stop store slot None
      refine wl_set [.string b.nm, .int .u32 (b.e : Nat), .int .u32 (b.nx : Nat), .slice A1 l'.length c1] hA75 rfl rfl K6 (by rfl) (fun ev h => by simp [go_sem, h.get 6 rfl, h.get 56 rfl, K9.cell, setAll, K6.cell, K6.frozen]) fun w14 (K6 : Blk _ _ _ _) hs14 => ?_
      refine wl_op hA75 rfl rfl (by decide) (fun ev h => by simp [go_sem, h.get 57 rfl, K6.cell]; try first | exact ⟨rfl, rfl⟩ | rfl) fun a76 hA76 => ?_
      refine wl_op hA76 rfl rfl (by decide) (fun ev h => by simp [go_sem, h.c, K6.cell]; try first | exact ⟨rfl, rfl⟩ | rfl) fun a77 hA77 => ?_
      refine wl_nil ?_
      refine n_then ?_
      have hA78 := hA77.keep [6, 7, 8]
      simp only [argsE, keepE, lookS, Nat.reduceBEq, cond_true, cond_false, Nat.reduceAdd, gv_tt, gv_ff, Bool.true_and, Bool.false_and, Bool.true_or, Bool.false_or] at hA78
      clear hA73 hA74 hA75 hA76 hA77 a74 a75 a76
      refine wp_ret ?_
      refine bodyPost_ret (by simp [results, Tryd.results23, go_sem, hA78.env 6 _ rfl, hA78.env 7 _ rfl, hA78.env 8 _ rfl, K6.cell]; try first | exact ⟨rfl, rfl⟩ | rfl) hA78.defers ?_
      rw [← hres2]
      exact ⟨_, _, rfl, ⟨_, l', rfl, (ho.only hs14 hne6 hoff6).mono (by omega), hbl⟩, (hu.keep fun g hg => hs14.block g (hneu6 g hg)).mono (by omega), hs14.below HB (by omega)⟩
end Go.Proofs.YtbbhblnhbgkcaaaDoor
