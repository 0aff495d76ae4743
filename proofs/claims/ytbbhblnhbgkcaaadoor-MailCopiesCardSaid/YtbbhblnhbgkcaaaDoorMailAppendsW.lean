/-
  Walk: the law MailAppends.
-/
import Derived.Test.YtbbhblnhbgkcaaaDoorMailRefAppend
import Derived.Test.YtbbhblnhbgkcaaaDoorMailRightW
import Derived.Test.YtbbhblnhbgkcaaaDoorMailArgs
namespace Go.Proofs.YtbbhblnhbgkcaaaDoor
open Go.RowKit
set_option linter.unusedSimpArgs false
set_option linter.unusedVariables false
theorem refAppV_len (nm : ByteArray) (e nx : Nat) (l : List MsgV) (m : MsgV) : (refAppV nm e nx l m).1.l.length ≤ 500 := by
  unfold refAppV
  cases h : decide (499 < l.length) with
  | true => exact Nat.zero_le _
  | false =>
    rw [cond_false]
    cases nx == 4294967295 with
    | true => exact Nat.zero_le _
    | false =>
      simp at h
      show (bare l ++ [_]).length ≤ 500
      rw [List.length_append, bare_len]
      simp; omega
theorem refAppV_nm (nm : ByteArray) (e nx : Nat) (l : List MsgV) (m : MsgV) : (refAppV nm e nx l m).1.nm.size ≤ nm.size := by
  unfold refAppV
  cases decide (499 < l.length) with
  | true => exact Nat.zero_le _
  | false =>
    rw [cond_false]
    cases nx == 4294967295 with
    | true => exact Nat.zero_le _
    | false => exact Nat.le_refl _
theorem lastU_append (l r : List MsgV) : ∀ j, j ≤ l.length → lastU (l ++ r) j = lastU l j
  | 0, _ => rfl
  | j + 1, h => by
    show (match (l ++ r)[j]? with | some y => y.uid | none => 0) = (match l[j]? with | some y => y.uid | none => 0)
    rw [List.getElem?_append_left (by omega)]
theorem boxRight_put {nm : ByteArray} {e nx : Nat} {l : List MsgV} {m : MsgV} (h : boxRight nm e nx l = true) (hf : fitsV m = true) (hb : m.b.length ≤ 20000) (hl : l.length ≤ 499) : boxRight nm e (nx + 1) (l ++ [⟨nx, m.date, m.flags, none, 0, m.b⟩]) = true := by
  have hm := fun x (hx : x ∈ l) => right_msg h hx
  unfold boxRight at h ⊢
  simp only [Bool.and_eq_true, decide_eq_true_eq] at h ⊢
  obtain ⟨⟨⟨⟨h1, h2⟩, h3⟩, h4⟩, h5⟩ := h
  refine ⟨⟨⟨⟨h1, h2⟩, by omega⟩, by simp; omega⟩, ?_⟩
  unfold msgsN
  rw [List.all_eq_true]
  intro j hj
  rw [List.mem_range] at hj
  simp at hj
  unfold msgAt
  rcases Nat.lt_or_ge j l.length with hjl | hjl
  · rw [List.getElem?_append_left hjl, List.getElem?_eq_getElem hjl]
    have h6 := msgs_at (List.getElem?_eq_getElem hjl) h5
    simp only
    unfold msgStep at h6 ⊢
    rw [lastU_append _ _ _ (by omega)]
    simp only [Bool.and_eq_true, decide_eq_true_eq] at h6 ⊢
    exact ⟨⟨⟨h6.1.1.1, by omega⟩, h6.1.2⟩, h6.2⟩
  · obtain rfl : j = l.length := by omega
    rw [List.getElem?_append_right (Nat.le_refl _), Nat.sub_self]
    simp only [List.getElem?_cons_zero]
    unfold msgStep
    rw [lastU_append _ _ _ (Nat.le_refl _)]
    simp only [Bool.and_eq_true, decide_eq_true_eq]
    refine ⟨⟨⟨?_, by omega⟩, hf⟩, hb⟩
    cases hll : l.length with
    | zero => show 0 < nx; omega
    | succ k =>
      rw [lastU_succ (List.getElem?_eq_getElem (by omega : k < l.length))]
      exact (hm _ (List.getElem_mem _)).1
theorem refAppV_right {nm : ByteArray} {e nx : Nat} {l l' : List MsgV} {m : MsgV} {b' : BoxV} {u k : Nat} (h : boxRight nm e nx l = true) (hf : fitsV m = true) (hb : m.b.length ≤ 20000) (hap : refAppV nm e nx l m = (b', u, k)) (hl : bare l' = b'.l) : (k = 0 → boxRight b'.nm b'.e b'.nx l' = true ∧ u = nx) := by
  intro hk
  unfold refAppV at hap
  cases h1 : decide (499 < l.length) with
  | true => rw [h1] at hap; injection hap with _ h2; injection h2 with _ h3; omega
  | false =>
    rw [h1, cond_false] at hap
    cases h2 : nx == 4294967295 with
    | true => rw [h2] at hap; injection hap with _ h2; injection h2 with _ h3; omega
    | false =>
      rw [h2, cond_false] at hap
      unfold putV at hap
      injection hap with e1 e2
      injection e2 with e2 e3
      subst e1
      simp at h1
      refine ⟨?_, e2.symm⟩
      rw [← boxRight_bare, hl]
      have := boxRight_put (l := bare l) (m := m) (by rw [boxRight_bare]; exact h) hf hb (by rw [bare_len]; omega)
      exact this
theorem appCond (q : Bool) (m : MsgV) : (!q || decide (m.date < 0) || decide (253402300799 < m.date) || decide (m.flags < 0) || decide (31 < m.flags)) = !(q && fitsV m) := by
  unfold fitsV fitsDF dateOk
  rw [show decide (m.date < 0) = !decide (0 ≤ m.date) by rw [Bool.eq_iff_iff]; simp, show decide (253402300799 < m.date) = !decide (m.date ≤ 253402300799) by rw [Bool.eq_iff_iff]; simp, show decide (m.flags < 0) = !decide (0 ≤ m.flags) by rw [Bool.eq_iff_iff]; simp, show decide (31 < m.flags) = !decide (m.flags ≤ 31) by rw [Bool.eq_iff_iff]; simp]
  generalize decide (0 ≤ m.date) = a
  generalize decide (m.date ≤ 253402300799) = b
  generalize decide (0 ≤ m.flags) = c
  generalize decide (m.flags ≤ 31) = d
  cases q <;> cases a <;> cases b <;> cases c <;> cases d <;> rfl
set_option maxRecDepth 100000 in
set_option maxHeartbeats 2000000 in
theorem appends_law (nm : ByteArray) (A : Option Addr) (c n e nx : Nat) (l : List MsgV) (m : MsgV) (w : World) (hm : MaxCell w) (hg : 1 < w.heap.size) (htab : Lib.TabIs Tryd.prog w "internal/strconv.uint64pow10" .u64 Lib.pow10Tab)
    (hs : nm.size ≤ 140737488355328) (hn : n ≤ 140737488355328) (hnx : nx < 4294967296) (hz : ∀ m ∈ l, m.b.length ≤ 140737488355328) (hms : Msgs w A n l) (hmo : MsgOk 140737488355328 w m) :
    Calls Tryd.prog 4 #[.agg (boxC nm e nx A n c), .agg #[.int .u32 (m.uid : Nat), .int .i64 m.date, .int .i64 m.flags, .slice m.a m.b.length m.c]] w fun ev w' => ev = .returned (.bool true) ∧ Below w.heap.size w w' := by
  have Ht := Lib.tabBelow_of_tabIs htab
  have hl := hms.len
  have hmr := hmo.octs
  have hcap := hmo.cap
  refine calls_at 105 Tryd.func4 rfl rfl (Nat.le_of_ble_eq_true rfl) ?_
  intro a hA
  simp only [argsE, keepE, lookS, Nat.reduceBEq, cond_true, cond_false, Nat.reduceAdd, gv_tt, gv_ff, Bool.true_and, Bool.false_and, Bool.true_or, Bool.false_or] at hA
  refine wp_seq ?_
  refine wp_region_lit ?_
  -- stop box slot 2
  refine wl_new hA rfl rfl (by decide) (fun ev h => by simp [go_sem, h.get 0 rfl]; try first | exact ⟨rfl, rfl⟩ | rfl) fun w1 a1 (K : Blk _ _ _ _) hzz0 hb0 hA1 => ?_
  replace hm := hm.below hg hb0; replace hg := Nat.lt_of_lt_of_le hg hb0.size
  replace hms := hms.below hb0
  replace hmr := (hmr.below hb0).more hb0.size
  refine wl_new hA1 rfl rfl (by decide) (fun ev h => by simp [go_sem, h.get 1 rfl]; try first | exact ⟨rfl, rfl⟩ | rfl) fun w2 a2 (K2 : Blk _ _ _ _) hzz2 hb2 hA2 => ?_
  replace hm := hm.below hg hb2; replace hg := Nat.lt_of_lt_of_le hg hb2.size
  replace hms := hms.below hb2
  replace hmr := (hmr.below hb2).more hb2.size
  replace K := K.below hb2 K.lt
  have HB := hb0.trans (hb2.mono hb0.size)
  unfold boxC at K
  refine wl_op hA2 rfl rfl (by decide) (fun ev h => by simp [go_sem, h.c, K.cell, K2.cell]; try first | exact ⟨rfl, rfl⟩ | rfl) fun a3 hA3 => ?_
  refine wl_nil ?_
  refine n_then ?_
  have hA4 := hA3.keep [2, 3]
  simp only [argsE, keepE, lookS, Nat.reduceBEq, cond_true, cond_false, Nat.reduceAdd, gv_tt, gv_ff, Bool.true_and, Bool.false_and, Bool.true_or, Bool.false_or] at hA4
  clear hA hA1 hA2 hA3 a1 a2
  refine wp_seq ?_
  refine wp_seq ?_
  refine wp_region_lit ?_
  -- stop call slot 11
  refine wl_call hA4 rfl rfl (by decide) (fun ev h => by simp [go_sem, K.cell, K2.cell, h.f]; try first | exact ⟨rfl, rfl⟩ | rfl) (awake_any _ hm hg (Ht _ HB)) ?_
  rintro e w3 ⟨rfl, hb3⟩
  refine ⟨_, rfl, fun a5 hA5 => ?_⟩
  replace hm := hm.below hg hb3; replace hg := Nat.lt_of_lt_of_le hg hb3.size
  replace hms := hms.below hb3
  replace hmr := (hmr.below hb3).more hb3.size
  replace K := K.below hb3 K.lt
  replace K2 := K2.below hb3 K2.lt
  replace HB := HB.trans (hb3.mono HB.size)
  refine wl_op hA5 rfl rfl (by decide) (fun ev h => by simp [go_sem, h.get 11 rfl, K.cell, K2.cell]; try first | exact ⟨rfl, rfl⟩ | rfl) fun a6 hA6 => ?_
  refine wl_op hA6 rfl rfl (by decide) (fun ev h => by simp [go_sem, h.get 12 rfl, K.cell, K2.cell]; try first | exact ⟨rfl, rfl⟩ | rfl) fun a7 hA7 => ?_
  refine wl_guard _ hA7 rfl rfl rfl rfl (by decide) (fun hq ev h => by simp [go_sem, (h.get 2 rfl), K.cell, K2.cell]; try first | exact ⟨rfl, rfl⟩ | rfl) fun a8 hA8 => ?_
  -- stop call slot 15
  refine wl_gcallv _ hA8 rfl rfl rfl rfl (by decide) (fun hq ev h => by simp [go_sem, h.c, ((h.get 14 rfl).trans (gw_t (beq_t hq))), K.cell, K2.cell, h.f]; try first | exact ⟨rfl, rfl⟩ | rfl) (fun hq => few_any nm A none c n e nx 0 0 l _ hs hn hz hms) fun a9 w4 hb4 hA9 => ?_
  replace hm := hm.below hg hb4; replace hg := Nat.lt_of_lt_of_le hg hb4.size
  replace hms := hms.below hb4
  replace hmr := (hmr.below hb4).more hb4.size
  replace K := K.below hb4 K.lt
  replace K2 := K2.below hb4 K2.lt
  replace HB := HB.trans (hb4.mono HB.size)
  refine wl_guard _ hA9 rfl rfl rfl rfl (by decide) (fun hq ev h => by simp [go_sem, ((h.get 15 rfl).trans (gw_t (beq_t hq))), K.cell, K2.cell]; try first | exact ⟨rfl, rfl⟩ | rfl) fun a10 hA10 => ?_
  refine wl_op hA10 rfl rfl (by decide) (fun ev h => by first | exact pick_and rfl (h.get 13 rfl) (h.c _) (h.get 16 rfl) | exact pick_or rfl (h.get 13 rfl) (h.c _) (h.get 16 rfl) | (simp [go_sem, h.c, h.get 13 rfl, h.get 16 rfl, K.cell, K2.cell, gv_or, gv_and]; try first | exact ⟨rfl, rfl⟩ | rfl)) fun a11 hA11 => ?_
  refine wl_op hA11 rfl rfl (by decide) (fun ev h => by simp [go_sem, h.get 17 rfl, K.cell, K2.cell]; try first | exact ⟨rfl, rfl⟩ | rfl) fun a12 hA12 => ?_
  refine wl_guard _ hA12 rfl rfl rfl rfl (by decide) (fun hq ev h => by simp [go_sem, (h.get 3 rfl), K.cell, K2.cell]; try first | exact ⟨rfl, rfl⟩ | rfl) fun a13 hA13 => ?_
  refine wl_guard _ hA13 rfl rfl rfl rfl (by decide) (fun hq ev h => by simp [go_sem, ((h.get 19 rfl).trans (gw_t (beq_t hq))), K.cell, K2.cell]; try first | exact ⟨rfl, rfl⟩ | rfl) fun a14 hA14 => ?_
  refine wl_guard _ hA14 rfl rfl rfl rfl (by decide) (fun hq ev h => by simp [go_sem, ((h.get 20 rfl).trans (gw_t (beq_t hq))), K.cell, K2.cell]; try first | exact ⟨rfl, rfl⟩ | rfl) fun a15 hA15 => ?_
  refine wl_guard _ hA15 rfl rfl rfl rfl (by decide) (fun hq ev h => by simp [go_sem, h.c, ((h.get 21 rfl).trans (gw_t (beq_t hq))), K.cell, K2.cell]; try first | exact ⟨rfl, rfl⟩ | rfl) fun a16 hA16 => ?_
  refine wl_op hA16 rfl rfl (by decide) (fun ev h => by first | exact pick_and rfl (h.get 18 rfl) (h.c _) (h.get 22 rfl) | exact pick_or rfl (h.get 18 rfl) (h.c _) (h.get 22 rfl) | (simp [go_sem, h.c, h.get 18 rfl, h.get 22 rfl, K.cell, K2.cell, gv_or, gv_and]; try first | exact ⟨rfl, rfl⟩ | rfl)) fun a17 hA17 => ?_
  refine wl_nil ?_
  refine n_then ?_
  have hA18 := hA17.keep [2, 3, 23]
  simp only [argsE, keepE, lookS, Nat.reduceBEq, cond_true, cond_false, Nat.reduceAdd, gv_tt, gv_ff, Bool.true_and, Bool.false_and, Bool.true_or, Bool.false_or] at hA18
  clear hA4 hA5 hA6 hA7 hA8 hA9 hA10 hA11 hA12 hA13 hA14 hA15 hA16 hA17 a3 a5 a6 a7 a8 a9 a10 a11 a12 a13 a14 a15 a16
  -- cond
  refine wp_if hA18 23 _ rfl (fun hq => ?yA) (fun hq => ?nA)
  case yA =>
    refine wp_seq ?_
    refine wp_region_lit ?_
    -- stop call slot 24
    refine wl_call hA18 rfl rfl (by decide) (fun ev h => by simp [go_sem, K.cell, K2.cell, h.f]; try first | exact ⟨rfl, rfl⟩ | rfl) (awake_any _ hm hg (Ht _ HB)) ?_
    rintro e w6 ⟨rfl, hb6⟩
    refine ⟨_, rfl, fun a19 hA19 => ?_⟩
    replace hm := hm.below hg hb6; replace hg := Nat.lt_of_lt_of_le hg hb6.size
    replace hms := hms.below hb6
    replace hmr := (hmr.below hb6).more hb6.size
    replace K := K.below hb6 K.lt
    replace K2 := K2.below hb6 K2.lt
    replace HB := HB.trans (hb6.mono HB.size)
    refine wl_op hA19 rfl rfl (by decide) (fun ev h => by simp [go_sem, h.get 24 rfl, K.cell, K2.cell]; try first | exact ⟨rfl, rfl⟩ | rfl) fun a20 hA20 => ?_
    refine wl_nil ?_
    refine n_then ?_
    have hA21 := hA20.keep [4]
    simp only [argsE, keepE, lookS, Nat.reduceBEq, cond_true, cond_false, Nat.reduceAdd, gv_tt, gv_ff, Bool.true_and, Bool.false_and, Bool.true_or, Bool.false_or] at hA21
    clear hA18 hA19 hA20 a19
    refine wp_ret ?_
    refine r_then ?_
    -- ret
    refine ret_1 hA21 4 rfl rfl ?_
    exact ⟨rfl, HB⟩
  case nA =>
    have hf1 : fewL nm l = true := by simp at hq; exact hq.1
    clear hq
    obtain ⟨b', u, k, hap⟩ : ∃ b' u k, appV nm e nx l m = (b', u, k) := ⟨_, _, _, rfl⟩
    have N := append_any nm A c n e nx l m _ hm hg (Ht _ HB) (by omega) (by omega) hnx hms hmr
    rw [hap] at N
    simp only at N
    unfold boxC at N
    refine wp_skip ?_
    refine n_then ?_
    refine wp_seq ?_
    refine wp_region_lit ?_
    refine wl_op hA18 rfl rfl (by decide) (fun ev h => by simp [go_sem, h.get 2 rfl, K.cell, K2.cell]; try first | exact ⟨rfl, rfl⟩ | rfl) fun a22 hA22 => ?_
    refine wl_op hA22 rfl rfl (by decide) (fun ev h => by simp [go_sem, h.get 3 rfl, K.cell, K2.cell]; try first | exact ⟨rfl, rfl⟩ | rfl) fun a23 hA23 => ?_
    -- stop call slot 28
    refine wl_call hA23 rfl rfl (by decide) (fun ev h => by simp [go_sem, h.get 26 rfl, h.get 27 rfl, K.cell, K2.cell, h.f]; try first | exact ⟨rfl, rfl⟩ | rfl) (N) ?_
    rintro e w5 ⟨r, rfl, ⟨v, l1, rfl, ho1, hbl1, _⟩, hb5⟩
    refine ⟨_, rfl, fun a24 hA24 => ?_⟩
    replace hm := hm.below hg hb5; replace hg := Nat.lt_of_lt_of_le hg hb5.size
    replace hms := hms.below hb5
    replace hmr := (hmr.below hb5).more hb5.size
    replace K := K.below hb5 K.lt
    replace K2 := K2.below hb5 K2.lt
    replace HB := HB.trans (hb5.mono HB.size)
    clear N
    obtain ⟨A1, c1, hv, hm1, _⟩ := ho1.msgs
    subst hv
    clear ho1
    refine wl_op hA24 rfl rfl (by decide) (fun ev h => by simp [go_sem, h.get 28 rfl, K.cell, K2.cell]; try first | exact ⟨rfl, rfl⟩ | rfl) fun a25 hA25 => ?_
    refine wl_op hA25 rfl rfl (by decide) (fun ev h => by simp [go_sem, h.get 25 rfl, K.cell, K2.cell]; try first | exact ⟨rfl, rfl⟩ | rfl) fun a26 hA26 => ?_
    refine wl_op hA26 rfl rfl (by decide) (fun ev h => by simp [go_sem, h.get 25 rfl, K.cell, K2.cell]; try first | exact ⟨rfl, rfl⟩ | rfl) fun a27 hA27 => ?_
    refine wl_op hA27 rfl rfl (by decide) (fun ev h => by simp [go_sem, h.get 25 rfl, K.cell, K2.cell]; try first | exact ⟨rfl, rfl⟩ | rfl) fun a28 hA28 => ?_
    -- stop alloc slot 5
    refine wl_local [.string b'.nm, .int .u32 (b'.e : Nat), .int .u32 (b'.nx : Nat), .slice A1 l1.length c1] hA28 rfl rfl (by decide) (fun ev h => by simp [go_sem, K.cell, K2.cell]; try first | exact ⟨rfl, rfl⟩ | rfl) rfl rfl (by rfl) (fun w1 g ev hb h => by simp [go_sem, h.get 5 rfl, h.get 29 rfl, K.cell, K2.cell, setAll, hb.cell, hb.frozen]) fun w6 a29 (K5 : Blk _ _ _ _) hzz6 hb6 hA29 => ?_
    replace hm := hm.below hg hb6; replace hg := Nat.lt_of_lt_of_le hg hb6.size
    replace hms := hms.below hb6
    replace hmr := (hmr.below hb6).more hb6.size
    replace K := K.below hb6 K.lt
    replace K2 := K2.below hb6 K2.lt
    replace HB := HB.trans (hb6.mono HB.size)
    replace hm1 := hm1.below hb6
    refine wl_op hA29 rfl rfl (by decide) (fun ev h => by simp [go_sem, h.get 30 rfl, K.cell, K2.cell]; try first | exact ⟨rfl, rfl⟩ | rfl) fun a30 hA30 => ?_
    refine wl_op hA30 rfl rfl (by decide) (fun ev h => by simp [go_sem, h.get 31 rfl, K.cell, K2.cell]; try first | exact ⟨rfl, rfl⟩ | rfl) fun a31 hA31 => ?_
    refine wl_nil ?_
    refine n_then ?_
    have hA32 := hA31.keep [2, 3, 5, 6, 7]
    simp only [argsE, keepE, lookS, Nat.reduceBEq, cond_true, cond_false, Nat.reduceAdd, gv_tt, gv_ff, Bool.true_and, Bool.false_and, Bool.true_or, Bool.false_or] at hA32
    clear hA18 hA22 hA23 hA24 hA25 hA26 hA27 hA28 hA29 hA30 hA31 a22 a23 a24 a25 a26 a27 a28 a29 a30
    refine wp_seq ?_
    refine wp_seq ?_
    refine wp_region_lit ?_
    refine wl_op hA32 rfl rfl (by decide) (fun ev h => by simp [go_sem, h.get 2 rfl, K.cell, K2.cell]; try first | exact ⟨rfl, rfl⟩ | rfl) fun a33 hA33 => ?_
    -- stop call slot 33
    -- stop call slot 33
    refine wl_call hA33 rfl rfl (by decide) (fun ev h => by simp [go_sem, h.get 32 rfl, K.cell, K2.cell, h.f]; try first | exact ⟨rfl, rfl⟩ | rfl) (refRight_any nm A c n e nx l _ (by omega) (by omega) hms) ?_
    rintro e w7 ⟨rfl, hb7⟩
    refine ⟨_, rfl, fun a34 hA34 => ?_⟩
    replace hm := hm.below hg hb7; replace hg := Nat.lt_of_lt_of_le hg hb7.size
    replace hms := hms.below hb7
    replace hmr := (hmr.below hb7).more hb7.size
    replace K := K.below hb7 K.lt
    replace K2 := K2.below hb7 K2.lt
    replace HB := HB.trans (hb7.mono HB.size)
    replace hm1 := hm1.below hb7
    replace K5 := K5.below hb7 K5.lt
    refine wl_op hA34 rfl rfl (by decide) (fun ev h => by simp [go_sem, h.get 33 rfl, K.cell, K2.cell]; try first | exact ⟨rfl, rfl⟩ | rfl) fun a35 hA35 => ?_
    refine wl_op hA35 rfl rfl (by decide) (fun ev h => by simp [go_sem, h.get 34 rfl, K.cell, K2.cell]; try first | exact ⟨rfl, rfl⟩ | rfl) fun a36 hA36 => ?_
    refine wl_guard _ hA36 rfl rfl rfl rfl (by decide) (fun hq ev h => by simp [go_sem, (h.get 3 rfl), K.cell, K2.cell]; try first | exact ⟨rfl, rfl⟩ | rfl) fun a37 hA37 => ?_
    refine wl_guard _ hA37 rfl rfl rfl rfl (by decide) (fun hq ev h => by simp [go_sem, ((h.get 36 rfl).trans (gw_t (beq_t hq))), K.cell, K2.cell]; try first | exact ⟨rfl, rfl⟩ | rfl) fun a38 hA38 => ?_
    refine wl_guard _ hA38 rfl rfl rfl rfl (by decide) (fun hq ev h => by simp [go_sem, h.c, ((h.get 37 rfl).trans (gw_t (beq_t hq))), K.cell, K2.cell]; try first | exact ⟨rfl, rfl⟩ | rfl) fun a39 hA39 => ?_
    refine wl_op hA39 rfl rfl (by decide) (fun ev h => by first | exact pick_and rfl (h.get 35 rfl) (h.c _) (h.get 38 rfl) | exact pick_or rfl (h.get 35 rfl) (h.c _) (h.get 38 rfl) | (simp [go_sem, h.c, h.get 35 rfl, h.get 38 rfl, K.cell, K2.cell, gv_or, gv_and]; try first | exact ⟨rfl, rfl⟩ | rfl)) fun a40 hA40 => ?_
    refine wl_op hA40 rfl rfl (by decide) (fun ev h => by simp [go_sem, h.get 39 rfl, K.cell, K2.cell]; try first | exact ⟨rfl, rfl⟩ | rfl) fun a41 hA41 => ?_
    refine wl_guard _ hA41 rfl rfl rfl rfl (by decide) (fun hq ev h => by simp [go_sem, (h.get 3 rfl), K.cell, K2.cell]; try first | exact ⟨rfl, rfl⟩ | rfl) fun a42 hA42 => ?_
    refine wl_guard _ hA42 rfl rfl rfl rfl (by decide) (fun hq ev h => by simp [go_sem, ((h.get 41 rfl).trans (gw_t (beq_t hq))), K.cell, K2.cell]; try first | exact ⟨rfl, rfl⟩ | rfl) fun a43 hA43 => ?_
    refine wl_guard _ hA43 rfl rfl rfl rfl (by decide) (fun hq ev h => by simp [go_sem, h.c, ((h.get 42 rfl).trans (gw_t (beq_t hq))), K.cell, K2.cell]; try first | exact ⟨rfl, rfl⟩ | rfl) fun a44 hA44 => ?_
    refine wl_op hA44 rfl rfl (by decide) (fun ev h => by first | exact pick_and rfl (h.get 40 rfl) (h.c _) (h.get 43 rfl) | exact pick_or rfl (h.get 40 rfl) (h.c _) (h.get 43 rfl) | (simp [go_sem, h.c, h.get 40 rfl, h.get 43 rfl, K.cell, K2.cell, gv_or, gv_and]; try first | exact ⟨rfl, rfl⟩ | rfl)) fun a45 hA45 => ?_
    refine wl_op hA45 rfl rfl (by decide) (fun ev h => by simp [go_sem, h.get 44 rfl, K.cell, K2.cell]; try first | exact ⟨rfl, rfl⟩ | rfl) fun a46 hA46 => ?_
    refine wl_guard _ hA46 rfl rfl rfl rfl (by decide) (fun hq ev h => by simp [go_sem, (h.get 3 rfl), K.cell, K2.cell]; try first | exact ⟨rfl, rfl⟩ | rfl) fun a47 hA47 => ?_
    refine wl_guard _ hA47 rfl rfl rfl rfl (by decide) (fun hq ev h => by simp [go_sem, ((h.get 46 rfl).trans (gw_t (beq_t hq))), K.cell, K2.cell]; try first | exact ⟨rfl, rfl⟩ | rfl) fun a48 hA48 => ?_
    refine wl_guard _ hA48 rfl rfl rfl rfl (by decide) (fun hq ev h => by simp [go_sem, h.c, ((h.get 47 rfl).trans (gw_t (beq_t hq))), K.cell, K2.cell]; try first | exact ⟨rfl, rfl⟩ | rfl) fun a49 hA49 => ?_
    refine wl_op hA49 rfl rfl (by decide) (fun ev h => by first | exact pick_and rfl (h.get 45 rfl) (h.c _) (h.get 48 rfl) | exact pick_or rfl (h.get 45 rfl) (h.c _) (h.get 48 rfl) | (simp [go_sem, h.c, h.get 45 rfl, h.get 48 rfl, K.cell, K2.cell, gv_or, gv_and]; try first | exact ⟨rfl, rfl⟩ | rfl)) fun a50 hA50 => ?_
    refine wl_op hA50 rfl rfl (by decide) (fun ev h => by simp [go_sem, h.get 49 rfl, K.cell, K2.cell]; try first | exact ⟨rfl, rfl⟩ | rfl) fun a51 hA51 => ?_
    refine wl_guard _ hA51 rfl rfl rfl rfl (by decide) (fun hq ev h => by simp [go_sem, (h.get 3 rfl), K.cell, K2.cell]; try first | exact ⟨rfl, rfl⟩ | rfl) fun a52 hA52 => ?_
    refine wl_guard _ hA52 rfl rfl rfl rfl (by decide) (fun hq ev h => by simp [go_sem, ((h.get 51 rfl).trans (gw_t (beq_t hq))), K.cell, K2.cell]; try first | exact ⟨rfl, rfl⟩ | rfl) fun a53 hA53 => ?_
    refine wl_guard _ hA53 rfl rfl rfl rfl (by decide) (fun hq ev h => by simp [go_sem, h.c, ((h.get 52 rfl).trans (gw_t (beq_t hq))), K.cell, K2.cell]; try first | exact ⟨rfl, rfl⟩ | rfl) fun a54 hA54 => ?_
    refine wl_op hA54 rfl rfl (by decide) (fun ev h => by first | exact pick_and rfl (h.get 50 rfl) (h.c _) (h.get 53 rfl) | exact pick_or rfl (h.get 50 rfl) (h.c _) (h.get 53 rfl) | (simp [go_sem, h.c, h.get 50 rfl, h.get 53 rfl, K.cell, K2.cell, gv_or, gv_and]; try first | exact ⟨rfl, rfl⟩ | rfl)) fun a55 hA55 => ?_
    refine wl_nil ?_
    refine n_then ?_
    have hA56 := hA55.keep [2, 3, 5, 6, 7, 54]
    simp only [argsE, keepE, lookS, Nat.reduceBEq, cond_true, cond_false, Nat.reduceAdd, gv_tt, gv_ff, Bool.true_and, Bool.false_and, Bool.true_or, Bool.false_or] at hA56
    clear hA32 hA33 hA34 hA35 hA36 hA37 hA38 hA39 hA40 hA41 hA42 hA43 hA44 hA45 hA46 hA47 hA48 hA49 hA50 hA51 hA52 hA53 hA54 hA55 a31 a33 a34 a35 a36 a37 a38 a39 a40 a41 a42 a43 a44 a45 a46 a47 a48 a49 a50 a51 a52 a53 a54
    -- cond
    rw [appCond] at hA56
    refine wp_if hA56 54 _ rfl (fun hq => ?yB) (fun hq => ?nB)
    case yB =>
      have hap2 : appV nm e nx l m = (zeroB, 0, 1) := by unfold appV; rw [hq]; rfl
      rw [hap2] at hap
      injection hap with _ e2
      injection e2 with e2 e3
      subst e2 e3
      refine wp_seq ?_
      refine wp_region_lit ?_
      refine wl_op hA56 rfl rfl (by decide) (fun ev h => by simp [go_sem, h.get 7 rfl, K.cell, K2.cell]; try first | exact ⟨rfl, rfl⟩ | rfl) fun a57 hA57 => ?_
      refine wl_op hA57 rfl rfl (by decide) (fun ev h => by simp [go_sem, h.c, h.get 55 rfl, K.cell, K2.cell]; try first | exact ⟨rfl, rfl⟩ | rfl) fun a58 hA58 => ?_
      refine wl_op hA58 rfl rfl (by decide) (fun ev h => by simp [go_sem, h.get 56 rfl, K.cell, K2.cell]; try first | exact ⟨rfl, rfl⟩ | rfl) fun a59 hA59 => ?_
      refine wl_guard _ hA59 rfl rfl rfl rfl (by decide) (fun hq ev h => by simp [go_sem, (h.get 6 rfl), K.cell, K2.cell]; try first | exact ⟨rfl, rfl⟩ | rfl) fun a60 hA60 => ?_
      refine wl_guard _ hA60 rfl rfl rfl rfl (by decide) (fun hq ev h => by simp [go_sem, h.c, ((h.get 58 rfl).trans (gw_t (beq_t hq))), K.cell, K2.cell]; try first | exact ⟨rfl, rfl⟩ | rfl) fun a61 hA61 => ?_
      refine wl_op hA61 rfl rfl (by decide) (fun ev h => by first | exact pick_and rfl (h.get 57 rfl) (h.get 59 rfl) (h.c _) | exact pick_or rfl (h.get 57 rfl) (h.get 59 rfl) (h.c _) | (simp [go_sem, h.c, h.get 57 rfl, h.get 59 rfl, K.cell, K2.cell, gv_or, gv_and]; try first | exact ⟨rfl, rfl⟩ | rfl)) fun a62 hA62 => ?_
      refine wl_op hA62 rfl rfl (by decide) (fun ev h => by simp [go_sem, h.get 60 rfl, K.cell, K2.cell]; try first | exact ⟨rfl, rfl⟩ | rfl) fun a63 hA63 => ?_
      refine wl_nil ?_
      refine n_then ?_
      have hA64 := hA63.keep [4]
      simp only [argsE, keepE, lookS, Nat.reduceBEq, cond_true, cond_false, Nat.reduceAdd, gv_tt, gv_ff, Bool.true_and, Bool.false_and, Bool.true_or, Bool.false_or] at hA64
      clear hA56 hA57 hA58 hA59 hA60 hA61 hA62 hA63 a57 a58 a59 a60 a61 a62
      refine wp_ret ?_
      refine r_then ?_
      refine ret_1 hA64 4 rfl rfl ?_
      exact ⟨rfl, HB⟩
    case nB =>
      have hri : boxRight nm e nx l = true := by simp at hq; exact hq.1
      have hfi : fitsV m = true := by simp at hq; exact hq.2
      have hap2 : appV nm e nx l m = bif decide (20000 < m.b.length) then (zeroB, 0, 3) else refAppV nm e nx l m := by unfold appV; rw [hq]; rfl
      clear hq
      refine wp_skip ?_
      refine n_then ?_
      refine wp_seq ?_
      refine wp_seq ?_
      refine wp_region_lit ?_
      refine wl_op hA56 rfl rfl (by decide) (fun ev h => by simp [go_sem, h.get 3 rfl, K.cell, K2.cell]; try first | exact ⟨rfl, rfl⟩ | rfl) fun a65 hA65 => ?_
      refine wl_op hA65 rfl rfl (by decide) (fun ev h => by simp [go_sem, h.get 61 rfl, K.cell, K2.cell]; try first | exact ⟨rfl, rfl⟩ | rfl) fun a66 hA66 => ?_
      refine wl_op hA66 rfl rfl (by decide) (fun ev h => by simp [go_sem, h.get 62 rfl, K.cell, K2.cell]; try first | exact ⟨rfl, rfl⟩ | rfl) fun a67 hA67 => ?_
      refine wl_op hA67 rfl rfl (by decide) (fun ev h => by simp [go_sem, h.c, h.get 63 rfl, K.cell, K2.cell]; try first | exact ⟨rfl, rfl⟩ | rfl) fun a68 hA68 => ?_
      refine wl_nil ?_
      refine n_then ?_
      have hA69 := hA68.keep [2, 3, 5, 6, 7, 64]
      simp only [argsE, keepE, lookS, Nat.reduceBEq, cond_true, cond_false, Nat.reduceAdd, gv_tt, gv_ff, Bool.true_and, Bool.false_and, Bool.true_or, Bool.false_or] at hA69
      clear hA56 hA65 hA66 hA67 hA68 a65 a66 a67
      -- cond
      rw [nat_lt20000] at hA69
      refine wp_if hA69 64 _ rfl (fun hq => ?yC) (fun hq => ?nC)
      case yC =>
        rw [hap2, hq, cond_true] at hap
        injection hap with _ e2
        injection e2 with e2 e3
        subst e2 e3
        refine wp_seq ?_
        refine wp_region_lit ?_
        refine wl_op hA69 rfl rfl (by decide) (fun ev h => by simp [go_sem, h.get 7 rfl, K.cell, K2.cell]; try first | exact ⟨rfl, rfl⟩ | rfl) fun a70 hA70 => ?_
        refine wl_op hA70 rfl rfl (by decide) (fun ev h => by simp [go_sem, h.c, h.get 65 rfl, K.cell, K2.cell]; try first | exact ⟨rfl, rfl⟩ | rfl) fun a71 hA71 => ?_
        refine wl_op hA71 rfl rfl (by decide) (fun ev h => by simp [go_sem, h.get 66 rfl, K.cell, K2.cell]; try first | exact ⟨rfl, rfl⟩ | rfl) fun a72 hA72 => ?_
        refine wl_guard _ hA72 rfl rfl rfl rfl (by decide) (fun hq ev h => by simp [go_sem, (h.get 6 rfl), K.cell, K2.cell]; try first | exact ⟨rfl, rfl⟩ | rfl) fun a73 hA73 => ?_
        refine wl_guard _ hA73 rfl rfl rfl rfl (by decide) (fun hq ev h => by simp [go_sem, h.c, ((h.get 68 rfl).trans (gw_t (beq_t hq))), K.cell, K2.cell]; try first | exact ⟨rfl, rfl⟩ | rfl) fun a74 hA74 => ?_
        refine wl_op hA74 rfl rfl (by decide) (fun ev h => by first | exact pick_and rfl (h.get 67 rfl) (h.get 69 rfl) (h.c _) | exact pick_or rfl (h.get 67 rfl) (h.get 69 rfl) (h.c _) | (simp [go_sem, h.c, h.get 67 rfl, h.get 69 rfl, K.cell, K2.cell, gv_or, gv_and]; try first | exact ⟨rfl, rfl⟩ | rfl)) fun a75 hA75 => ?_
        refine wl_op hA75 rfl rfl (by decide) (fun ev h => by simp [go_sem, h.get 70 rfl, K.cell, K2.cell]; try first | exact ⟨rfl, rfl⟩ | rfl) fun a76 hA76 => ?_
        refine wl_nil ?_
        refine n_then ?_
        have hA77 := hA76.keep [4]
        simp only [argsE, keepE, lookS, Nat.reduceBEq, cond_true, cond_false, Nat.reduceAdd, gv_tt, gv_ff, Bool.true_and, Bool.false_and, Bool.true_or, Bool.false_or] at hA77
        clear hA69 hA70 hA71 hA72 hA73 hA74 hA75 hA76 a70 a71 a72 a73 a74 a75
        refine wp_ret ?_
        refine r_then ?_
        refine ret_1 hA77 4 rfl rfl ?_
        exact ⟨rfl, HB⟩
      case nC =>
        rw [hap2, hq, cond_false] at hap
        have hml : m.b.length ≤ 20000 := by simp at hq; omega
        clear hq hap2
        have N := refAppend_any nm A c n e nx l m _ hn hnx hms hmr hcap
        have hR := refAppV_right hri hfi hml hap hbl1
        have hlen := refAppV_len nm e nx l m
        have hsz := refAppV_nm nm e nx l m
        rw [hap] at N hlen hsz
        simp only at N hlen hsz
        unfold boxC at N
        refine wp_skip ?_
        refine n_then ?_
        refine wp_seq ?_
        refine wp_region_lit ?_
        refine wl_op hA69 rfl rfl (by decide) (fun ev h => by simp [go_sem, h.get 2 rfl, K.cell, K2.cell]; try first | exact ⟨rfl, rfl⟩ | rfl) fun a78 hA78 => ?_
        refine wl_op hA78 rfl rfl (by decide) (fun ev h => by simp [go_sem, h.get 3 rfl, K.cell, K2.cell]; try first | exact ⟨rfl, rfl⟩ | rfl) fun a79 hA79 => ?_
        -- stop call slot 74
        refine wl_call hA79 rfl rfl (by decide) (fun ev h => by simp [go_sem, h.get 72 rfl, h.get 73 rfl, K.cell, K2.cell, h.f]; try first | exact ⟨rfl, rfl⟩ | rfl) (N) ?_
        rintro e w8 ⟨r, rfl, ⟨v, l2, rfl, ho2, hbl2, _⟩, hb8⟩
        refine ⟨_, rfl, fun a80 hA80 => ?_⟩
        replace hm := hm.below hg hb8; replace hg := Nat.lt_of_lt_of_le hg hb8.size
        replace hms := hms.below hb8
        replace hmr := (hmr.below hb8).more hb8.size
        replace K := K.below hb8 K.lt
        replace K2 := K2.below hb8 K2.lt
        replace HB := HB.trans (hb8.mono HB.size)
        replace hm1 := hm1.below hb8
        replace K5 := K5.below hb8 K5.lt
        clear N
        obtain ⟨A2, c2, hv, hm2, _⟩ := ho2.msgs
        subst hv
        clear ho2
        refine wl_op hA80 rfl rfl (by decide) (fun ev h => by simp [go_sem, h.get 74 rfl, K.cell, K2.cell]; try first | exact ⟨rfl, rfl⟩ | rfl) fun a81 hA81 => ?_
        refine wl_op hA81 rfl rfl (by decide) (fun ev h => by simp [go_sem, h.get 71 rfl, K.cell, K2.cell]; try first | exact ⟨rfl, rfl⟩ | rfl) fun a82 hA82 => ?_
        refine wl_op hA82 rfl rfl (by decide) (fun ev h => by simp [go_sem, h.get 71 rfl, K.cell, K2.cell]; try first | exact ⟨rfl, rfl⟩ | rfl) fun a83 hA83 => ?_
        refine wl_op hA83 rfl rfl (by decide) (fun ev h => by simp [go_sem, h.get 71 rfl, K.cell, K2.cell]; try first | exact ⟨rfl, rfl⟩ | rfl) fun a84 hA84 => ?_
        -- stop alloc slot 8
        refine wl_local [.string b'.nm, .int .u32 (b'.e : Nat), .int .u32 (b'.nx : Nat), .slice A2 l2.length c2] hA84 rfl rfl (by decide) (fun ev h => by simp [go_sem, K.cell, K2.cell]; try first | exact ⟨rfl, rfl⟩ | rfl) rfl rfl (by rfl) (fun w1 g ev hb h => by simp [go_sem, h.get 8 rfl, h.get 75 rfl, K.cell, K2.cell, setAll, hb.cell, hb.frozen]) fun w9 a85 (K8 : Blk _ _ _ _) hzz9 hb9 hA85 => ?_
        replace hms := hms.below hb9
        replace K := K.below hb9 K.lt
        replace K2 := K2.below hb9 K2.lt
        replace HB := HB.trans (hb9.mono HB.size)
        replace hm1 := hm1.below hb9
        replace K5 := K5.below hb9 K5.lt
        replace hm2 := hm2.below hb9
        have hl1 : l1.length ≤ 500 := by rw [← bare_len, hbl1]; exact hlen
        have hl2 : l2.length ≤ 500 := by rw [← bare_len, hbl2]; exact hlen
        refine wl_op hA85 rfl rfl (by decide) (fun ev h => by simp [go_sem, h.get 76 rfl, K.cell, K2.cell, K5.cell, K8.cell]; try first | exact ⟨rfl, rfl⟩ | rfl) fun a86 hA86 => ?_
        refine wl_op hA86 rfl rfl (by decide) (fun ev h => by simp [go_sem, h.get 77 rfl, K.cell, K2.cell, K5.cell, K8.cell]; try first | exact ⟨rfl, rfl⟩ | rfl) fun a87 hA87 => ?_
        refine wl_nil ?_
        refine n_then ?_
        have hA88 := hA87.keep [2, 5, 6, 7, 8, 9, 10]
        simp only [argsE, keepE, lookS, Nat.reduceBEq, cond_true, cond_false, Nat.reduceAdd, gv_tt, gv_ff, Bool.true_and, Bool.false_and, Bool.true_or, Bool.false_or] at hA88
        clear hA69 hA78 hA79 hA80 hA81 hA82 hA83 hA84 hA85 hA86 hA87 a78 a79 a80 a81 a82 a83 a84 a85 a86
        refine wp_seq ?_
        refine wp_region_lit ?_
        refine wl_op hA88 rfl rfl (by decide) (fun ev h => by simp [go_sem, h.get 7 rfl, K.cell, K2.cell, K5.cell, K8.cell]; try first | exact ⟨rfl, rfl⟩ | rfl) fun a89 hA89 => ?_
        refine wl_op hA89 rfl rfl (by decide) (fun ev h => by simp [go_sem, h.get 10 rfl, K.cell, K2.cell, K5.cell, K8.cell]; try first | exact ⟨rfl, rfl⟩ | rfl) fun a90 hA90 => ?_
        refine wl_op hA90 rfl rfl (by decide) (fun ev h => by simp [go_sem, h.get 78 rfl, h.get 79 rfl, K.cell, K2.cell, K5.cell, K8.cell]; try first | exact ⟨rfl, rfl⟩ | rfl) fun a91 hA91 => ?_
        refine wl_op hA91 rfl rfl (by decide) (fun ev h => by simp [go_sem, h.get 80 rfl, K.cell, K2.cell, K5.cell, K8.cell]; try first | exact ⟨rfl, rfl⟩ | rfl) fun a92 hA92 => ?_
        refine wl_guard _ hA92 rfl rfl rfl rfl (by decide) (fun hq ev h => by simp [go_sem, (h.get 6 rfl), K.cell, K2.cell, K5.cell, K8.cell]; try first | exact ⟨rfl, rfl⟩ | rfl) fun a93 hA93 => ?_
        refine wl_guard _ hA93 rfl rfl rfl rfl (by decide) (fun hq ev h => by simp [go_sem, (h.get 9 rfl), K.cell, K2.cell, K5.cell, K8.cell]; try first | exact ⟨rfl, rfl⟩ | rfl) fun a94 hA94 => ?_
        refine wl_guard _ hA94 rfl rfl rfl rfl (by decide) (fun hq ev h => by simp [go_sem, ((h.get 82 rfl).trans (gw_t (beq_t hq))), ((h.get 83 rfl).trans (gw_t (beq_t hq))), K.cell, K2.cell, K5.cell, K8.cell]; try first | exact ⟨rfl, rfl⟩ | rfl) fun a95 hA95 => ?_
        refine wl_op hA95 rfl rfl (by decide) (fun ev h => by first | exact pick_and rfl (h.get 81 rfl) (h.get 84 rfl) (h.c _) | exact pick_or rfl (h.get 81 rfl) (h.get 84 rfl) (h.c _) | (simp [go_sem, h.c, h.get 81 rfl, h.get 84 rfl, K.cell, K2.cell, K5.cell, K8.cell, gv_or, gv_and]; try first | exact ⟨rfl, rfl⟩ | rfl)) fun a96 hA96 => ?_
        refine wl_op hA96 rfl rfl (by decide) (fun ev h => by simp [go_sem, h.get 85 rfl, K.cell, K2.cell, K5.cell, K8.cell]; try first | exact ⟨rfl, rfl⟩ | rfl) fun a97 hA97 => ?_
        refine wl_guard _ hA97 rfl rfl rfl rfl (by decide) (fun hq ev h => by simp [go_sem, (h.get 5 rfl), K.cell, K2.cell, K5.cell, K8.cell]; try first | exact ⟨rfl, rfl⟩ | rfl) fun a98 hA98 => ?_
        refine wl_guard _ hA98 rfl rfl rfl rfl (by decide) (fun hq ev h => by simp [go_sem, (h.get 8 rfl), K.cell, K2.cell, K5.cell, K8.cell]; try first | exact ⟨rfl, rfl⟩ | rfl) fun a99 hA99 => ?_
        -- stop call slot 89
        refine wl_gcallv _ hA99 rfl rfl rfl rfl (by decide) (fun hq ev h => by simp [go_sem, ((h.get 87 rfl).trans (gw_t (beq_t hq))), ((h.get 88 rfl).trans (gw_t (beq_t hq))), K.cell, K2.cell, K5.cell, K8.cell, h.f]; try first | exact ⟨rfl, rfl⟩ | rfl) (fun hq => refSameBox_any b'.nm b'.nm A1 A2 c1 c2 l1.length l2.length b'.e b'.e b'.nx b'.nx l1 l2 _ (by omega) hm1 hm2) fun a100 w10 hb10 hA100 => ?_
        replace hms := hms.below hb10
        replace K := K.below hb10 K.lt
        replace K2 := K2.below hb10 K2.lt
        replace HB := HB.trans (hb10.mono HB.size)
        replace hm1 := hm1.below hb10
        replace K5 := K5.below hb10 K5.lt
        replace hm2 := hm2.below hb10
        replace K8 := K8.below hb10 K8.lt
        refine wl_op hA100 rfl rfl (by decide) (fun ev h => by first | exact pick_and rfl (h.get 86 rfl) (h.get 89 rfl) (h.c _) | exact pick_or rfl (h.get 86 rfl) (h.get 89 rfl) (h.c _) | (simp [go_sem, h.c, h.get 86 rfl, h.get 89 rfl, K.cell, K2.cell, K5.cell, K8.cell, gv_or, gv_and]; try first | exact ⟨rfl, rfl⟩ | rfl)) fun a101 hA101 => ?_
        refine wl_op hA101 rfl rfl (by decide) (fun ev h => by simp [go_sem, h.get 90 rfl, K.cell, K2.cell, K5.cell, K8.cell]; try first | exact ⟨rfl, rfl⟩ | rfl) fun a102 hA102 => ?_
        refine wl_guard _ hA102 rfl rfl rfl rfl (by decide) (fun hq ev h => by simp [go_sem, (h.get 7 rfl), K.cell, K2.cell, K5.cell, K8.cell]; try first | exact ⟨rfl, rfl⟩ | rfl) fun a103 hA103 => ?_
        refine wl_guard _ hA103 rfl rfl rfl rfl (by decide) (fun hq ev h => by simp [go_sem, h.c, ((h.get 92 rfl).trans (gw_t (beq_t hq))), K.cell, K2.cell, K5.cell, K8.cell]; try first | exact ⟨rfl, rfl⟩ | rfl) fun a104 hA104 => ?_
        refine wl_guard _ hA104 rfl rfl rfl rfl (by decide) (fun hq ev h => by simp [go_sem, ((h.get 93 rfl).trans (gw_t (beq_t hq))), K.cell, K2.cell, K5.cell, K8.cell]; try first | exact ⟨rfl, rfl⟩ | rfl) fun a105 hA105 => ?_
        refine wl_guard2 _ _ hA105 rfl rfl rfl rfl (by decide) (fun hq hr ev h => by simp [go_sem, (h.get 5 rfl), K.cell, K2.cell, K5.cell, K8.cell]; try first | exact ⟨rfl, rfl⟩ | rfl) fun a106 hA106 => ?_
        -- stop call slot 96
        refine wl_gcallv2 _ _ hA106 rfl rfl rfl rfl (by decide) (fun hq hr ev h => by simp [go_sem, ((h.get 95 rfl).trans (gw_t (and_beq hq hr))), K.cell, K2.cell, K5.cell, K8.cell, h.f]; try first | exact ⟨rfl, rfl⟩ | rfl) (fun hq hr => refRight_any b'.nm A1 c1 l1.length b'.e b'.nx l1 _ (by omega) (by omega) hm1) fun a107 w11 hb11 hA107 => ?_
        replace hms := hms.below hb11
        replace K := K.below hb11 K.lt
        replace K2 := K2.below hb11 K2.lt
        replace HB := HB.trans (hb11.mono HB.size)
        replace hm1 := hm1.below hb11
        replace K5 := K5.below hb11 K5.lt
        replace hm2 := hm2.below hb11
        replace K8 := K8.below hb11 K8.lt
        refine wl_guard2 _ _ hA107 rfl rfl rfl rfl (by decide) (fun hq hr ev h => by simp [go_sem, ((h.get 96 rfl).trans (gw_t (and_beq hq hr))), K.cell, K2.cell, K5.cell, K8.cell]; try first | exact ⟨rfl, rfl⟩ | rfl) fun a108 hA108 => ?_
        refine wl_guard2 _ _ hA108 rfl rfl rfl rfl (by decide) (fun hq hr ev h => by simp [go_sem, (h.get 6 rfl), K.cell, K2.cell, K5.cell, K8.cell]; try first | exact ⟨rfl, rfl⟩ | rfl) fun a109 hA109 => ?_
        refine wl_guard2 _ _ hA109 rfl rfl rfl rfl (by decide) (fun hq hr ev h => by simp [go_sem, (h.get 2 rfl), K.cell, K2.cell, K5.cell, K8.cell]; try first | exact ⟨rfl, rfl⟩ | rfl) fun a110 hA110 => ?_
        refine wl_guard2 _ _ hA110 rfl rfl rfl rfl (by decide) (fun hq hr ev h => by simp [go_sem, ((h.get 99 rfl).trans (gw_t (and_beq hq hr))), K.cell, K2.cell, K5.cell, K8.cell]; try first | exact ⟨rfl, rfl⟩ | rfl) fun a111 hA111 => ?_
        refine wl_guard2 _ _ hA111 rfl rfl rfl rfl (by decide) (fun hq hr ev h => by simp [go_sem, ((h.get 98 rfl).trans (gw_t (and_beq hq hr))), ((h.get 100 rfl).trans (gw_t (and_beq hq hr))), K.cell, K2.cell, K5.cell, K8.cell]; try first | exact ⟨rfl, rfl⟩ | rfl) fun a112 hA112 => ?_
        refine wl_guard2 _ _ hA112 rfl rfl rfl rfl (by decide) (fun hq hr ev h => by first | exact pick_and rfl (((h.get 97 rfl).trans (gw_t (and_beq hq hr)))) (((h.get 101 rfl).trans (gw_a (and_beq hq hr)))) (h.c _) | exact pick_or rfl (((h.get 97 rfl).trans (gw_t (and_beq hq hr)))) (((h.get 101 rfl).trans (gw_a (and_beq hq hr)))) (h.c _) | (simp [go_sem, h.c, ((h.get 97 rfl).trans (gw_t (and_beq hq hr))), ((h.get 101 rfl).trans (gw_a (and_beq hq hr))), K.cell, K2.cell, K5.cell, K8.cell, gv_or, gv_and]; try first | exact ⟨rfl, rfl⟩ | rfl)) fun a113 hA113 => ?_
        refine wl_guard _ hA113 rfl rfl rfl rfl (by decide) (fun hq ev h => by first | exact pick_and rfl (((h.get 94 rfl).trans (gw_t (beq_t hq)))) (h.c _) (((h.get 102 rfl).trans (gw_a (beq_t hq)))) | exact pick_or rfl (((h.get 94 rfl).trans (gw_t (beq_t hq)))) (h.c _) (((h.get 102 rfl).trans (gw_a (beq_t hq)))) | (simp [go_sem, h.c, ((h.get 94 rfl).trans (gw_t (beq_t hq))), ((h.get 102 rfl).trans (gw_a (beq_t hq))), K.cell, K2.cell, K5.cell, K8.cell, gv_or, gv_and]; try first | exact ⟨rfl, rfl⟩ | rfl)) fun a114 hA114 => ?_
        refine wl_op hA114 rfl rfl (by decide) (fun ev h => by first | exact pick_and rfl (h.get 91 rfl) (h.get 103 rfl) (h.c _) | exact pick_or rfl (h.get 91 rfl) (h.get 103 rfl) (h.c _) | (simp [go_sem, h.c, h.get 91 rfl, h.get 103 rfl, K.cell, K2.cell, K5.cell, K8.cell, gv_or, gv_and]; try first | exact ⟨rfl, rfl⟩ | rfl)) fun a115 hA115 => ?_
        refine wl_op hA115 rfl rfl (by decide) (fun ev h => by simp [go_sem, h.get 104 rfl, K.cell, K2.cell, K5.cell, K8.cell]; try first | exact ⟨rfl, rfl⟩ | rfl) fun a116 hA116 => ?_
        refine wl_nil ?_
        refine n_then ?_
        have hA117 := hA116.keep [4]
        simp only [argsE, keepE, lookS, Nat.reduceBEq, cond_true, cond_false, Nat.reduceAdd, gv_tt, gv_ff, Bool.true_and, Bool.false_and, Bool.true_or, Bool.false_or] at hA117
        clear hA88 hA89 hA90 hA91 hA92 hA93 hA94 hA95 hA96 hA97 hA98 hA99 hA100 hA101 hA102 hA103 hA104 hA105 hA106 hA107 hA108 hA109 hA110 hA111 hA112 hA113 hA114 hA115 hA116 a87 a89 a90 a91 a92 a93 a94 a95 a96 a97 a98 a99 a100 a101 a102 a103 a104 a105 a106 a107 a108 a109 a110 a111 a112 a113 a114 a115
        refine wp_ret ?_
        -- ret
        refine ret_1 hA117 4 rfl rfl ?_
        refine ⟨ret_bool ?_, HB⟩
        rw [boxSame_of (hbl1.trans hbl2.symm), Bool.true_and]
        cases hk : ((k : Int) != 0) with
        | true => rfl
        | false =>
          have hk0 : k = 0 := by simp at hk; exact hk
          obtain ⟨h1, h2⟩ := hR hk0
          rw [h1, h2]
          simp
end Go.Proofs.YtbbhblnhbgkcaaaDoor
