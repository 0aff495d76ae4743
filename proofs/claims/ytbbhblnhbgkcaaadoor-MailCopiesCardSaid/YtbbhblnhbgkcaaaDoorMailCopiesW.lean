/-
  Walk: the law MailCopies.
-/
import Derived.Test.YtbbhblnhbgkcaaaDoorMailRefCopy
import Derived.Test.YtbbhblnhbgkcaaaDoorMailRightW
import Derived.Test.YtbbhblnhbgkcaaaDoorMailArgs
namespace Go.Proofs.YtbbhblnhbgkcaaaDoor
open Go.RowKit
set_option linter.unusedSimpArgs false
set_option linter.unusedVariables false
theorem apR_ok {b : BoxV} {x : MsgV} (h : (apR b x).2.2 = 0) : (apR b x).2.1 = b.nx ∧ (apR b x).1.nx = b.nx + 1 ∧ bare (apR b x).1.l = (apR b x).1.l := by
  unfold apR refAppV at *
  cases h1 : decide (499 < b.l.length) with
  | true => rw [h1] at h; cases h
  | false =>
    rw [h1, cond_false] at h
    rw [cond_false]
    cases h2 : b.nx == 4294967295 with
    | true => rw [h2] at h; cases h
    | false =>
      rw [cond_false]
      unfold putV
      refine ⟨rfl, rfl, ?_⟩
      show bare (bare b.l ++ [_]) = _
      unfold bare
      rw [List.map_append, List.map_map]
      rfl
theorem apM_eq {b : BoxV} {x : MsgV} (h : boxRight b.nm b.e b.nx b.l = true) (hf : fitsV x = true) (hx : x.b.length ≤ 20000) : apM b x = apR b x := by
  unfold apM appV apR
  rw [h, hf, show decide (20000 < x.b.length) = false by simp; omega]
  rfl
theorem cp_eq (us : List Nat) : ∀ (L : List MsgV), (∀ x ∈ L, fitsV x = true ∧ x.b.length ≤ 20000) → ∀ (b : BoxV) (g : List Nat), boxRight b.nm b.e b.nx b.l = true → cpV apM us L b g = cpV apR us L b g
  | [], _, _, _, _ => rfl
  | x :: r, hL, b, g, h => by
    obtain ⟨hf, hb⟩ := hL x List.mem_cons_self
    have hr := fun y hy => hL y (List.mem_cons_of_mem x hy)
    unfold cpV
    rw [apM_eq h hf hb]
    cases inU us x.uid with
    | false => exact cp_eq us r hr b g h
    | true =>
      rw [cond_true, cond_true]
      cases hq : (apR b x).2.2 == 0 with
      | false => rfl
      | true =>
        rw [cond_true, cond_true]
        have hq0 : (apR b x).2.2 = 0 := by simpa using hq
        have h3 := apR_ok hq0
        refine cp_eq us r hr _ _ ?_
        exact (refAppV_right (l' := (apR b x).1.l) (b' := (apR b x).1) (u := (apR b x).2.1) (k := (apR b x).2.2) h hf hb rfl h3.2.2 hq0).1
theorem cp_ge (us : List Nat) : ∀ (L : List MsgV) (b : BoxV) (g : List Nat) (v : Nat), v ∈ (cpV apR us L b g).2.1 → v ∈ g ∨ b.nx ≤ v
  | [], _, _, _, h => .inl h
  | x :: r, b, g, v, h => by
    unfold cpV at h
    cases hi : inU us x.uid with
    | false => rw [hi] at h; exact cp_ge us r b g v h
    | true =>
      rw [hi, cond_true] at h
      cases hq : (apR b x).2.2 == 0 with
      | false => rw [hq] at h; cases h
      | true =>
        rw [hq, cond_true] at h
        have h3 := apR_ok (show (apR b x).2.2 = 0 by simpa using hq)
        rcases cp_ge us r _ _ v h with h4 | h4
        · rcases List.mem_append.1 h4 with h4 | h4
          · exact .inl h4
          · rw [List.mem_singleton.1 h4, h3.1]; exact .inr (Nat.le_refl _)
        · exact .inr (by rw [h3.2.1] at h4; omega)
theorem cp_len (us : List Nat) : ∀ (L : List MsgV) (b : BoxV) (g : List Nat), (cpV apR us L b g).2.1.length ≤ g.length + L.length
  | [], _, _ => Nat.le_refl _
  | x :: r, b, g => by
    unfold cpV
    cases inU us x.uid with
    | false =>
      have := cp_len us r b g
      rw [cond_false]
      simp at this ⊢
      omega
    | true =>
      rw [cond_true]
      cases (apR b x).2.2 == 0 with
      | false => exact Nat.zero_le _
      | true =>
        have := cp_len us r (apR b x).1 (g ++ [(apR b x).2.1])
        rw [cond_true]
        simp at this ⊢
        omega
theorem cp_boxlen (us : List Nat) : ∀ (L : List MsgV) (b : BoxV) (g : List Nat), (cpV apR us L b g).1.l.length ≤ 500 ∨ (cpV apR us L b g).1.l.length ≤ b.l.length
  | [], _, _ => .inr (Nat.le_refl _)
  | x :: r, b, g => by
    unfold cpV
    cases inU us x.uid with
    | false => exact cp_boxlen us r b g
    | true =>
      rw [cond_true]
      cases (apR b x).2.2 == 0 with
      | false => exact .inl (Nat.zero_le _)
      | true =>
        rw [cond_true]
        have h1 : (apR b x).1.l.length ≤ 500 := refAppV_len b.nm b.e b.nx b.l x
        rcases cp_boxlen us r (apR b x).1 (g ++ [(apR b x).2.1]) with h | h
        · exact .inl h
        · exact .inl (by omega)
set_option maxRecDepth 100000 in
set_option maxHeartbeats 2000000 in
theorem copies_law (n1 n2 : ByteArray) (A A2 Au : Option Addr) (c c2 cu n m e1 e2 x1 x2 k : Nat) (l l2 : List MsgV) (us : List Nat) (w : World) (hm : MaxCell w) (hg : 1 < w.heap.size) (htab : Lib.TabIs Tryd.prog w "internal/strconv.uint64pow10" .u64 Lib.pow10Tab)
    (hs1 : n1.size ≤ 140737488355328) (hs2 : n2.size ≤ 140737488355328) (hn : n ≤ 140737488355328) (hm2 : m ≤ 140737488355328) (hx2 : x2 < 4294967296) (hz1 : ∀ m ∈ l, m.b.length ≤ 140737488355328) (hz2 : ∀ m ∈ l2, m.b.length ≤ 140737488355328) (hms : Msgs w A n l) (hms2 : Msgs w A2 m l2) (hk : k ≤ 140737488355328) (hus : us.length = k) (hur : Reads w w.heap.size 1 Au k (u32s us)) :
    Calls Tryd.prog 7 #[.agg (boxC n1 e1 x1 A n c), .agg (boxC n2 e2 x2 A2 m c2), .slice Au k cu] w fun ev w' => ev = .returned (.bool true) ∧ Below w.heap.size w w' := by
  have Ht := Lib.tabBelow_of_tabIs htab
  have hl := hms.len
  have hl2 := hms2.len
  refine calls_at 99 Tryd.func7 rfl rfl (Nat.le_of_ble_eq_true rfl) ?_
  intro a hA
  simp only [argsE, keepE, lookS, Nat.reduceBEq, cond_true, cond_false, Nat.reduceAdd, gv_tt, gv_ff, Bool.true_and, Bool.false_and, Bool.true_or, Bool.false_or] at hA
  refine wp_seq ?_
  refine wp_region_lit ?_
  -- stop box slot 3
  refine wl_new hA rfl rfl (by decide) (fun ev h => by simp [go_sem, h.get 0 rfl]; try first | exact ⟨rfl, rfl⟩ | rfl) fun w1 a1 (K3 : Blk _ _ _ _) hzz1 hb1 hA1 => ?_
  replace hm := hm.below hg hb1; replace hg := Nat.lt_of_lt_of_le hg hb1.size
  replace hms := hms.below hb1
  replace hms2 := hms2.below hb1
  replace hur := (hur.below hb1).more hb1.size
  refine wl_new hA1 rfl rfl (by decide) (fun ev h => by simp [go_sem, h.get 1 rfl]; try first | exact ⟨rfl, rfl⟩ | rfl) fun w2 a2 (K4 : Blk _ _ _ _) hzz2 hb2 hA2 => ?_
  replace hm := hm.below hg hb2; replace hg := Nat.lt_of_lt_of_le hg hb2.size
  replace hms := hms.below hb2
  replace hms2 := hms2.below hb2
  replace hur := (hur.below hb2).more hb2.size
  replace K3 := K3.below hb2 K3.lt
  have HB := hb1.trans (hb2.mono hb1.size)
  unfold boxC at K3 K4
  refine wl_op hA2 rfl rfl (by decide) (fun ev h => by simp [go_sem, h.c, K3.cell, K4.cell]; try first | exact ⟨rfl, rfl⟩ | rfl) fun a3 hA3 => ?_
  refine wl_nil ?_
  refine n_then ?_
  have hA4 := hA3.keep [2, 3, 4]
  simp only [argsE, keepE, lookS, Nat.reduceBEq, cond_true, cond_false, Nat.reduceAdd, gv_tt, gv_ff, Bool.true_and, Bool.false_and, Bool.true_or, Bool.false_or] at hA4
  clear hA hA1 hA2 hA3 a1 a2
  refine wp_seq ?_
  refine wp_seq ?_
  refine wp_region_lit ?_
  -- stop call slot 14
  refine wl_call hA4 rfl rfl (by decide) (fun ev h => by simp [go_sem, K3.cell, K4.cell, h.f]; try first | exact ⟨rfl, rfl⟩ | rfl) (awake_any _ hm hg (Ht _ HB)) ?_
  rintro e w3 ⟨rfl, hb3⟩
  refine ⟨_, rfl, fun a5 hA5 => ?_⟩
  replace hm := hm.below hg hb3; replace hg := Nat.lt_of_lt_of_le hg hb3.size
  replace hms := hms.below hb3
  replace hms2 := hms2.below hb3
  replace hur := (hur.below hb3).more hb3.size
  replace K3 := K3.below hb3 K3.lt
  replace K4 := K4.below hb3 K4.lt
  replace HB := HB.trans (hb3.mono HB.size)
  refine wl_op hA5 rfl rfl (by decide) (fun ev h => by simp [go_sem, h.get 14 rfl, K3.cell, K4.cell]; try first | exact ⟨rfl, rfl⟩ | rfl) fun a6 hA6 => ?_
  refine wl_op hA6 rfl rfl (by decide) (fun ev h => by simp [go_sem, h.get 15 rfl, K3.cell, K4.cell]; try first | exact ⟨rfl, rfl⟩ | rfl) fun a7 hA7 => ?_
  refine wl_guard _ hA7 rfl rfl rfl rfl (by decide) (fun hq ev h => by simp [go_sem, (h.get 3 rfl), K3.cell, K4.cell]; try first | exact ⟨rfl, rfl⟩ | rfl) fun a8 hA8 => ?_
  refine wl_guard _ hA8 rfl rfl rfl rfl (by decide) (fun hq ev h => by simp [go_sem, (h.get 2 rfl), K3.cell, K4.cell]; try first | exact ⟨rfl, rfl⟩ | rfl) fun a9 hA9 => ?_
  -- stop call slot 19
  refine wl_gcallv _ hA9 rfl rfl rfl rfl (by decide) (fun hq ev h => by simp [go_sem, ((h.get 17 rfl).trans (gw_t (beq_t hq))), ((h.get 18 rfl).trans (gw_t (beq_t hq))), K3.cell, K4.cell, h.f]; try first | exact ⟨rfl, rfl⟩ | rfl) (fun hq => few_any n1 A Au c n e1 x1 k cu l _ hs1 hn hz1 hms) fun a10 w4 hb4 hA10 => ?_
  replace hm := hm.below hg hb4; replace hg := Nat.lt_of_lt_of_le hg hb4.size
  replace hms := hms.below hb4
  replace hms2 := hms2.below hb4
  replace hur := (hur.below hb4).more hb4.size
  replace K3 := K3.below hb4 K3.lt
  replace K4 := K4.below hb4 K4.lt
  replace HB := HB.trans (hb4.mono HB.size)
  refine wl_guard _ hA10 rfl rfl rfl rfl (by decide) (fun hq ev h => by simp [go_sem, ((h.get 19 rfl).trans (gw_t (beq_t hq))), K3.cell, K4.cell]; try first | exact ⟨rfl, rfl⟩ | rfl) fun a11 hA11 => ?_
  refine wl_op hA11 rfl rfl (by decide) (fun ev h => by first | exact pick_and rfl (h.get 16 rfl) (h.c _) (h.get 20 rfl) | exact pick_or rfl (h.get 16 rfl) (h.c _) (h.get 20 rfl) | (simp [go_sem, h.c, h.get 16 rfl, h.get 20 rfl, K3.cell, K4.cell, gv_or, gv_and]; try first | exact ⟨rfl, rfl⟩ | rfl)) fun a12 hA12 => ?_
  refine wl_op hA12 rfl rfl (by decide) (fun ev h => by simp [go_sem, h.get 21 rfl, K3.cell, K4.cell]; try first | exact ⟨rfl, rfl⟩ | rfl) fun a13 hA13 => ?_
  refine wl_guard _ hA13 rfl rfl rfl rfl (by decide) (fun hq ev h => by simp [go_sem, (h.get 4 rfl), K3.cell, K4.cell]; try first | exact ⟨rfl, rfl⟩ | rfl) fun a14 hA14 => ?_
  -- stop call slot 24
  refine wl_gcallv _ hA14 rfl rfl rfl rfl (by decide) (fun hq ev h => by simp [go_sem, h.c, ((h.get 23 rfl).trans (gw_t (beq_t hq))), K3.cell, K4.cell, h.f]; try first | exact ⟨rfl, rfl⟩ | rfl) (fun hq => few_any n2 A2 none c2 m e2 x2 0 0 l2 _ hs2 hm2 hz2 hms2) fun a15 w5 hb5 hA15 => ?_
  replace hm := hm.below hg hb5; replace hg := Nat.lt_of_lt_of_le hg hb5.size
  replace hms := hms.below hb5
  replace hms2 := hms2.below hb5
  replace hur := (hur.below hb5).more hb5.size
  replace K3 := K3.below hb5 K3.lt
  replace K4 := K4.below hb5 K4.lt
  replace HB := HB.trans (hb5.mono HB.size)
  refine wl_guard _ hA15 rfl rfl rfl rfl (by decide) (fun hq ev h => by simp [go_sem, ((h.get 24 rfl).trans (gw_t (beq_t hq))), K3.cell, K4.cell]; try first | exact ⟨rfl, rfl⟩ | rfl) fun a16 hA16 => ?_
  refine wl_op hA16 rfl rfl (by decide) (fun ev h => by first | exact pick_and rfl (h.get 22 rfl) (h.c _) (h.get 25 rfl) | exact pick_or rfl (h.get 22 rfl) (h.c _) (h.get 25 rfl) | (simp [go_sem, h.c, h.get 22 rfl, h.get 25 rfl, K3.cell, K4.cell, gv_or, gv_and]; try first | exact ⟨rfl, rfl⟩ | rfl)) fun a17 hA17 => ?_
  refine wl_nil ?_
  refine n_then ?_
  have hA18 := hA17.keep [2, 3, 4, 26]
  simp only [argsE, keepE, lookS, Nat.reduceBEq, cond_true, cond_false, Nat.reduceAdd, gv_tt, gv_ff, Bool.true_and, Bool.false_and, Bool.true_or, Bool.false_or] at hA18
  clear hA4 hA5 hA6 hA7 hA8 hA9 hA10 hA11 hA12 hA13 hA14 hA15 hA16 hA17 a3 a5 a6 a7 a8 a9 a10 a11 a12 a13 a14 a15 a16
  -- cond
  refine wp_if hA18 26 _ rfl (fun hq => ?yA) (fun hq => ?nA)
  case yA =>
    refine wp_seq ?_
    refine wp_region_lit ?_
    -- stop call slot 27
    refine wl_call hA18 rfl rfl (by decide) (fun ev h => by simp [go_sem, K3.cell, K4.cell, h.f]; try first | exact ⟨rfl, rfl⟩ | rfl) (awake_any _ hm hg (Ht _ HB)) ?_
    rintro e w6 ⟨rfl, hb6⟩
    refine ⟨_, rfl, fun a19 hA19 => ?_⟩
    replace hm := hm.below hg hb6; replace hg := Nat.lt_of_lt_of_le hg hb6.size
    replace hms := hms.below hb6
    replace hms2 := hms2.below hb6
    replace hur := (hur.below hb6).more hb6.size
    replace K3 := K3.below hb6 K3.lt
    replace K4 := K4.below hb6 K4.lt
    replace HB := HB.trans (hb6.mono HB.size)
    refine wl_op hA19 rfl rfl (by decide) (fun ev h => by simp [go_sem, h.get 27 rfl, K3.cell, K4.cell]; try first | exact ⟨rfl, rfl⟩ | rfl) fun a20 hA20 => ?_
    refine wl_nil ?_
    refine n_then ?_
    have hA21 := hA20.keep [6]
    simp only [argsE, keepE, lookS, Nat.reduceBEq, cond_true, cond_false, Nat.reduceAdd, gv_tt, gv_ff, Bool.true_and, Bool.false_and, Bool.true_or, Bool.false_or] at hA21
    clear hA18 hA19 hA20 a19
    refine wp_ret ?_
    refine r_then ?_
    -- ret
    refine ret_1 hA21 6 rfl rfl ?_
    exact ⟨rfl, HB⟩
  case nA =>
    have hf1 : fewL n1 l = true := by simp at hq; exact hq.1.1
    have hf2 : fewL n2 l2 = true := by simp at hq; exact hq.2
    have hn6 : n ≤ 60000 := by
      unfold fewL at hf1
      have := wt_len l
      simp at hf1
      omega
    have hm6 : m ≤ 60000 := by
      unfold fewL at hf2
      have := wt_len l2
      simp at hf2
      omega
    clear hq
    obtain ⟨b', gs, u, hap⟩ : ∃ b' gs u, copyV n1 e1 x1 l n2 e2 x2 l2 us = (b', gs, u) := ⟨_, _, _, rfl⟩
    have N := copy_any n1 n2 A A2 Au c c2 cu n m e1 e2 x1 x2 k l l2 us _ hm hg (Ht _ HB) hs1 hs2 hn hm2 hx2 hms hms2 hk hus hur
    rw [hap] at N
    simp only at N
    unfold boxC at N
    refine wp_skip ?_
    refine n_then ?_
    refine wp_seq ?_
    refine wp_region_lit ?_
    refine wl_op hA18 rfl rfl (by decide) (fun ev h => by simp [go_sem, h.get 3 rfl, K3.cell, K4.cell]; try first | exact ⟨rfl, rfl⟩ | rfl) fun a22 hA22 => ?_
    refine wl_op hA22 rfl rfl (by decide) (fun ev h => by simp [go_sem, h.get 4 rfl, K3.cell, K4.cell]; try first | exact ⟨rfl, rfl⟩ | rfl) fun a23 hA23 => ?_
    refine wl_op hA23 rfl rfl (by decide) (fun ev h => by simp [go_sem, h.get 2 rfl, K3.cell, K4.cell]; try first | exact ⟨rfl, rfl⟩ | rfl) fun a24 hA24 => ?_
    -- stop call slot 32
    refine wl_call hA24 rfl rfl (by decide) (fun ev h => by simp [go_sem, h.get 29 rfl, h.get 30 rfl, h.get 31 rfl, K3.cell, K4.cell, h.f]; try first | exact ⟨rfl, rfl⟩ | rfl) (N) ?_
    rintro e w6 ⟨r, vg, rfl, ⟨v, l7, rfl, ho7, hbl7⟩, hu7, hb6⟩
    refine ⟨_, rfl, fun a25 hA25 => ?_⟩
    replace hm := hm.below hg hb6; replace hg := Nat.lt_of_lt_of_le hg hb6.size
    replace hms := hms.below hb6
    replace hms2 := hms2.below hb6
    replace hur := (hur.below hb6).more hb6.size
    replace K3 := K3.below hb6 K3.lt
    replace K4 := K4.below hb6 K4.lt
    replace HB := HB.trans (hb6.mono HB.size)
    clear N
    obtain ⟨A7, c7, hv, hm7, _⟩ := ho7.msgs
    subst hv
    obtain ⟨Ag, cg, hvg, hrg⟩ := hu7.reads
    subst hvg
    clear ho7 hu7
    refine wl_op hA25 rfl rfl (by decide) (fun ev h => by simp [go_sem, h.get 32 rfl, K3.cell, K4.cell]; try first | exact ⟨rfl, rfl⟩ | rfl) fun a26 hA26 => ?_
    refine wl_op hA26 rfl rfl (by decide) (fun ev h => by simp [go_sem, h.get 28 rfl, K3.cell, K4.cell]; try first | exact ⟨rfl, rfl⟩ | rfl) fun a27 hA27 => ?_
    refine wl_op hA27 rfl rfl (by decide) (fun ev h => by simp [go_sem, h.get 28 rfl, K3.cell, K4.cell]; try first | exact ⟨rfl, rfl⟩ | rfl) fun a28 hA28 => ?_
    refine wl_op hA28 rfl rfl (by decide) (fun ev h => by simp [go_sem, h.get 28 rfl, K3.cell, K4.cell]; try first | exact ⟨rfl, rfl⟩ | rfl) fun a29 hA29 => ?_
    -- stop alloc slot 7
    refine wl_local [.string b'.nm, .int .u32 (b'.e : Nat), .int .u32 (b'.nx : Nat), .slice A7 l7.length c7] hA29 rfl rfl (by decide) (fun ev h => by simp [go_sem, K3.cell, K4.cell]; try first | exact ⟨rfl, rfl⟩ | rfl) rfl rfl (by rfl) (fun w1 g ev hb h => by simp [go_sem, h.get 7 rfl, h.get 33 rfl, K3.cell, K4.cell, setAll, hb.cell, hb.frozen]) fun w7 a30 (K7 : Blk _ _ _ _) hzz7 hb7 hA30 => ?_
    replace hms := hms.below hb7
    replace hms2 := hms2.below hb7
    replace hur := (hur.below hb7).more hb7.size
    replace K3 := K3.below hb7 K3.lt
    replace K4 := K4.below hb7 K4.lt
    replace HB := HB.trans (hb7.mono HB.size)
    replace hm7 := hm7.below hb7
    replace hrg := (hrg.below hb7).more hb7.size
    refine wl_op hA30 rfl rfl (by decide) (fun ev h => by simp [go_sem, h.get 34 rfl, K3.cell, K4.cell]; try first | exact ⟨rfl, rfl⟩ | rfl) fun a31 hA31 => ?_
    refine wl_op hA31 rfl rfl (by decide) (fun ev h => by simp [go_sem, h.get 35 rfl, K3.cell, K4.cell]; try first | exact ⟨rfl, rfl⟩ | rfl) fun a32 hA32 => ?_
    refine wl_nil ?_
    refine n_then ?_
    have hA33 := hA32.keep [2, 3, 4, 7, 8, 9]
    simp only [argsE, keepE, lookS, Nat.reduceBEq, cond_true, cond_false, Nat.reduceAdd, gv_tt, gv_ff, Bool.true_and, Bool.false_and, Bool.true_or, Bool.false_or] at hA33
    clear hA18 hA22 hA23 hA24 hA25 hA26 hA27 hA28 hA29 hA30 hA31 hA32 a22 a23 a24 a25 a26 a27 a28 a29 a30 a31
    refine wp_seq ?_
    refine wp_seq ?_
    refine wp_region_lit ?_
    refine wl_op hA33 rfl rfl (by decide) (fun ev h => by simp [go_sem, h.get 3 rfl, K3.cell, K4.cell]; try first | exact ⟨rfl, rfl⟩ | rfl) fun a34 hA34 => ?_
    -- stop call slot 37
    refine wl_call hA34 rfl rfl (by decide) (fun ev h => by simp [go_sem, h.get 36 rfl, K3.cell, K4.cell, h.f]; try first | exact ⟨rfl, rfl⟩ | rfl) (refRight_any n1 A c n e1 x1 l _ (by omega) (by omega) hms) ?_
    rintro e w8 ⟨rfl, hb8⟩
    refine ⟨_, rfl, fun a35 hA35 => ?_⟩
    replace hms := hms.below hb8
    replace hms2 := hms2.below hb8
    replace hur := (hur.below hb8).more hb8.size
    replace K3 := K3.below hb8 K3.lt
    replace K4 := K4.below hb8 K4.lt
    replace HB := HB.trans (hb8.mono HB.size)
    replace hm7 := hm7.below hb8
    replace hrg := (hrg.below hb8).more hb8.size
    replace K7 := K7.below hb8 K7.lt
    refine wl_op hA35 rfl rfl (by decide) (fun ev h => by simp [go_sem, h.get 37 rfl, K3.cell, K4.cell]; try first | exact ⟨rfl, rfl⟩ | rfl) fun a36 hA36 => ?_
    refine wl_op hA36 rfl rfl (by decide) (fun ev h => by simp [go_sem, h.get 38 rfl, K3.cell, K4.cell]; try first | exact ⟨rfl, rfl⟩ | rfl) fun a37 hA37 => ?_
    refine wl_guard _ hA37 rfl rfl rfl rfl (by decide) (fun hq ev h => by simp [go_sem, (h.get 4 rfl), K3.cell, K4.cell]; try first | exact ⟨rfl, rfl⟩ | rfl) fun a38 hA38 => ?_
    -- stop call slot 41
    refine wl_gcallv _ hA38 rfl rfl rfl rfl (by decide) (fun hq ev h => by simp [go_sem, ((h.get 40 rfl).trans (gw_t (beq_t hq))), K3.cell, K4.cell, h.f]; try first | exact ⟨rfl, rfl⟩ | rfl) (fun hq => refRight_any n2 A2 c2 m e2 x2 l2 _ (by omega) (by omega) hms2) fun a39 w9 hb9 hA39 => ?_
    replace hms := hms.below hb9
    replace hms2 := hms2.below hb9
    replace hur := (hur.below hb9).more hb9.size
    replace K3 := K3.below hb9 K3.lt
    replace K4 := K4.below hb9 K4.lt
    replace HB := HB.trans (hb9.mono HB.size)
    replace hm7 := hm7.below hb9
    replace hrg := (hrg.below hb9).more hb9.size
    replace K7 := K7.below hb9 K7.lt
    refine wl_guard _ hA39 rfl rfl rfl rfl (by decide) (fun hq ev h => by simp [go_sem, ((h.get 41 rfl).trans (gw_t (beq_t hq))), K3.cell, K4.cell]; try first | exact ⟨rfl, rfl⟩ | rfl) fun a40 hA40 => ?_
    refine wl_op hA40 rfl rfl (by decide) (fun ev h => by first | exact pick_and rfl (h.get 39 rfl) (h.c _) (h.get 42 rfl) | exact pick_or rfl (h.get 39 rfl) (h.c _) (h.get 42 rfl) | (simp [go_sem, h.c, h.get 39 rfl, h.get 42 rfl, K3.cell, K4.cell, gv_or, gv_and]; try first | exact ⟨rfl, rfl⟩ | rfl)) fun a41 hA41 => ?_
    refine wl_nil ?_
    refine n_then ?_
    have hA42 := hA41.keep [2, 3, 4, 7, 8, 9, 43]
    simp only [argsE, keepE, lookS, Nat.reduceBEq, cond_true, cond_false, Nat.reduceAdd, gv_tt, gv_ff, Bool.true_and, Bool.false_and, Bool.true_or, Bool.false_or] at hA42
    clear hA33 hA34 hA35 hA36 hA37 hA38 hA39 hA40 hA41 a32 a34 a35 a36 a37 a38 a39 a40
    -- cond
    rw [show (!boxRight n1 e1 x1 l || !boxRight n2 e2 x2 l2) = !(boxRight n1 e1 x1 l && boxRight n2 e2 x2 l2) by rw [Bool.not_and]] at hA42
    refine wp_if hA42 43 _ rfl (fun hq => ?yB) (fun hq => ?nB)
    case yB =>
      have hap2 : copyV n1 e1 x1 l n2 e2 x2 l2 us = (zeroB, [], 1) := by unfold copyV; rw [hq]; rfl
      rw [hap2] at hap
      injection hap with _ e2
      injection e2 with e2 e3
      subst e2 e3
      refine wp_seq ?_
      refine wp_region_lit ?_
      refine wl_op hA42 rfl rfl (by decide) (fun ev h => by simp [go_sem, h.get 9 rfl, K3.cell, K4.cell]; try first | exact ⟨rfl, rfl⟩ | rfl) fun a43 hA43 => ?_
      refine wl_op hA43 rfl rfl (by decide) (fun ev h => by simp [go_sem, h.c, h.get 44 rfl, K3.cell, K4.cell]; try first | exact ⟨rfl, rfl⟩ | rfl) fun a44 hA44 => ?_
      refine wl_op hA44 rfl rfl (by decide) (fun ev h => by simp [go_sem, h.get 45 rfl, K3.cell, K4.cell]; try first | exact ⟨rfl, rfl⟩ | rfl) fun a45 hA45 => ?_
      refine wl_guard _ hA45 rfl rfl rfl rfl (by decide) (fun hq ev h => by simp [go_sem, (h.get 8 rfl), K3.cell, K4.cell]; try first | exact ⟨rfl, rfl⟩ | rfl) fun a46 hA46 => ?_
      refine wl_guard _ hA46 rfl rfl rfl rfl (by decide) (fun hq ev h => by simp [go_sem, ((h.get 47 rfl).trans (gw_t (beq_t hq))), K3.cell, K4.cell]; try first | exact ⟨rfl, rfl⟩ | rfl) fun a47 hA47 => ?_
      refine wl_guard _ hA47 rfl rfl rfl rfl (by decide) (fun hq ev h => by simp [go_sem, h.c, ((h.get 48 rfl).trans (gw_t (beq_t hq))), K3.cell, K4.cell]; try first | exact ⟨rfl, rfl⟩ | rfl) fun a48 hA48 => ?_
      refine wl_op hA48 rfl rfl (by decide) (fun ev h => by first | exact pick_and rfl (h.get 46 rfl) (h.get 49 rfl) (h.c _) | exact pick_or rfl (h.get 46 rfl) (h.get 49 rfl) (h.c _) | (simp [go_sem, h.c, h.get 46 rfl, h.get 49 rfl, K3.cell, K4.cell, gv_or, gv_and]; try first | exact ⟨rfl, rfl⟩ | rfl)) fun a49 hA49 => ?_
      refine wl_op hA49 rfl rfl (by decide) (fun ev h => by simp [go_sem, h.get 50 rfl, K3.cell, K4.cell]; try first | exact ⟨rfl, rfl⟩ | rfl) fun a50 hA50 => ?_
      refine wl_nil ?_
      refine n_then ?_
      have hA51 := hA50.keep [6]
      simp only [argsE, keepE, lookS, Nat.reduceBEq, cond_true, cond_false, Nat.reduceAdd, gv_tt, gv_ff, Bool.true_and, Bool.false_and, Bool.true_or, Bool.false_or] at hA51
      clear hA42 hA43 hA44 hA45 hA46 hA47 hA48 hA49 hA50 a43 a44 a45 a46 a47 a48 a49
      refine wp_ret ?_
      refine r_then ?_
      refine ret_1 hA51 6 rfl rfl ?_
      exact ⟨rfl, HB⟩
    case nB =>
      have hap2 : copyV n1 e1 x1 l n2 e2 x2 l2 us = cpV apM us (bare l) ⟨n2, e2, x2, bare l2⟩ [] := by unfold copyV; rw [hq]; rfl
      have hr1 : boxRight n1 e1 x1 l = true := by simp at hq; exact hq.1
      have hr2 : boxRight n2 e2 x2 l2 = true := by simp at hq; exact hq.2
      clear hq
      rw [hap2, cp_eq us (bare l) (fun y hy => by
        obtain ⟨x, hx, rfl⟩ := List.mem_map.1 hy
        exact ⟨(right_msg hr1 hx).2.1, (right_msg hr1 hx).2.2⟩) ⟨n2, e2, x2, bare l2⟩ [] (by rw [boxRight_bare]; exact hr2)] at hap
      have N := refCopy_any n1 n2 A A2 Au c c2 cu n m e1 e2 x1 x2 k l l2 us _ (by omega) (by omega) hx2 hms hms2 hk hus hur
      have hge := cp_ge us (bare l) ⟨n2, e2, x2, bare l2⟩ []
      have hgl := cp_len us (bare l) ⟨n2, e2, x2, bare l2⟩ []
      have hbl := cp_boxlen us (bare l) ⟨n2, e2, x2, bare l2⟩ []
      rw [hap] at N hge hgl hbl
      simp only at N hge hgl hbl
      rw [bare_len] at hgl hbl
      rw [List.length_nil] at hgl
      unfold boxC at N
      refine wp_skip ?_
      refine n_then ?_
      refine wp_seq ?_
      refine wp_region_lit ?_
      refine wl_op hA42 rfl rfl (by decide) (fun ev h => by simp [go_sem, h.get 3 rfl, K3.cell, K4.cell]; try first | exact ⟨rfl, rfl⟩ | rfl) fun a52 hA52 => ?_
      refine wl_op hA52 rfl rfl (by decide) (fun ev h => by simp [go_sem, h.get 4 rfl, K3.cell, K4.cell]; try first | exact ⟨rfl, rfl⟩ | rfl) fun a53 hA53 => ?_
      refine wl_op hA53 rfl rfl (by decide) (fun ev h => by simp [go_sem, h.get 2 rfl, K3.cell, K4.cell]; try first | exact ⟨rfl, rfl⟩ | rfl) fun a54 hA54 => ?_
      -- stop call slot 55
      refine wl_call hA54 rfl rfl (by decide) (fun ev h => by simp [go_sem, h.get 52 rfl, h.get 53 rfl, h.get 54 rfl, K3.cell, K4.cell, h.f]; try first | exact ⟨rfl, rfl⟩ | rfl) (N) ?_
      rintro e w10 ⟨r, vg, rfl, ⟨A9, c9, l9, rfl, hm9, hbl9⟩, hu9, hb10⟩
      refine ⟨_, rfl, fun a55 hA55 => ?_⟩
      replace hms := hms.below hb10
      replace hms2 := hms2.below hb10
      replace hur := (hur.below hb10).more hb10.size
      replace K3 := K3.below hb10 K3.lt
      replace K4 := K4.below hb10 K4.lt
      replace HB := HB.trans (hb10.mono HB.size)
      replace hm7 := hm7.below hb10
      replace hrg := (hrg.below hb10).more hb10.size
      replace K7 := K7.below hb10 K7.lt
      clear N
      obtain ⟨Ah, ch, hvg, hrh⟩ := hu9.reads
      subst hvg
      clear hu9
      refine wl_op hA55 rfl rfl (by decide) (fun ev h => by simp [go_sem, h.get 55 rfl, K3.cell, K4.cell]; try first | exact ⟨rfl, rfl⟩ | rfl) fun a56 hA56 => ?_
      refine wl_op hA56 rfl rfl (by decide) (fun ev h => by simp [go_sem, h.get 51 rfl, K3.cell, K4.cell]; try first | exact ⟨rfl, rfl⟩ | rfl) fun a57 hA57 => ?_
      refine wl_op hA57 rfl rfl (by decide) (fun ev h => by simp [go_sem, h.get 51 rfl, K3.cell, K4.cell]; try first | exact ⟨rfl, rfl⟩ | rfl) fun a58 hA58 => ?_
      refine wl_op hA58 rfl rfl (by decide) (fun ev h => by simp [go_sem, h.get 51 rfl, K3.cell, K4.cell]; try first | exact ⟨rfl, rfl⟩ | rfl) fun a59 hA59 => ?_
      -- stop alloc slot 10
      refine wl_local [.string b'.nm, .int .u32 (b'.e : Nat), .int .u32 (b'.nx : Nat), .slice A9 l9.length c9] hA59 rfl rfl (by decide) (fun ev h => by simp [go_sem, K3.cell, K4.cell]; try first | exact ⟨rfl, rfl⟩ | rfl) rfl rfl (by rfl) (fun w1 g ev hb h => by simp [go_sem, h.get 10 rfl, h.get 56 rfl, K3.cell, K4.cell, setAll, hb.cell, hb.frozen]) fun w11 a60 (K10 : Blk _ _ _ _) hzz11 hb11 hA60 => ?_
      replace K3 := K3.below hb11 K3.lt
      replace K4 := K4.below hb11 K4.lt
      replace HB := HB.trans (hb11.mono HB.size)
      replace hm7 := hm7.below hb11
      replace hrg := (hrg.below hb11).more hb11.size
      replace K7 := K7.below hb11 K7.lt
      replace hm9 := hm9.below hb11
      replace hrh := (hrh.below hb11).more hb11.size
      have hl7 : l7.length ≤ 100000000 := by
        rw [← bare_len, hbl7]
        rcases hbl with h | h <;> omega
      refine wl_op hA60 rfl rfl (by decide) (fun ev h => by simp [go_sem, h.get 57 rfl, K4.cell, K7.cell, K10.cell]; try first | exact ⟨rfl, rfl⟩ | rfl) fun a61 hA61 => ?_
      refine wl_op hA61 rfl rfl (by decide) (fun ev h => by simp [go_sem, h.get 58 rfl, K4.cell, K7.cell, K10.cell]; try first | exact ⟨rfl, rfl⟩ | rfl) fun a62 hA62 => ?_
      refine wl_nil ?_
      refine n_then ?_
      have hA63 := hA62.keep [4, 7, 8, 9, 10, 11, 12]
      simp only [argsE, keepE, lookS, Nat.reduceBEq, cond_true, cond_false, Nat.reduceAdd, gv_tt, gv_ff, Bool.true_and, Bool.false_and, Bool.true_or, Bool.false_or] at hA63
      clear hA42 hA52 hA53 hA54 hA55 hA56 hA57 hA58 hA59 hA60 hA61 hA62 a52 a53 a54 a55 a56 a57 a58 a59 a60 a61
      refine wp_seq ?_
      refine wp_seq ?_
      refine wp_region_lit ?_
      refine wl_op hA63 rfl rfl (by decide) (fun ev h => by simp [go_sem, h.get 9 rfl, K4.cell, K7.cell, K10.cell]; try first | exact ⟨rfl, rfl⟩ | rfl) fun a64 hA64 => ?_
      refine wl_op hA64 rfl rfl (by decide) (fun ev h => by simp [go_sem, h.get 12 rfl, K4.cell, K7.cell, K10.cell]; try first | exact ⟨rfl, rfl⟩ | rfl) fun a65 hA65 => ?_
      refine wl_op hA65 rfl rfl (by decide) (fun ev h => by simp [go_sem, h.get 59 rfl, h.get 60 rfl, K4.cell, K7.cell, K10.cell]; try first | exact ⟨rfl, rfl⟩ | rfl) fun a66 hA66 => ?_
      refine wl_op hA66 rfl rfl (by decide) (fun ev h => by simp [go_sem, h.get 61 rfl, K4.cell, K7.cell, K10.cell]; try first | exact ⟨rfl, rfl⟩ | rfl) fun a67 hA67 => ?_
      refine wl_guard _ hA67 rfl rfl rfl rfl (by decide) (fun hq ev h => by simp [go_sem, (h.get 8 rfl), K4.cell, K7.cell, K10.cell]; try first | exact ⟨rfl, rfl⟩ | rfl) fun a68 hA68 => ?_
      refine wl_guard _ hA68 rfl rfl rfl rfl (by decide) (fun hq ev h => by simp [go_sem, ((h.get 63 rfl).trans (gw_t (beq_t hq))), K4.cell, K7.cell, K10.cell]; try first | exact ⟨rfl, rfl⟩ | rfl) fun a69 hA69 => ?_
      refine wl_guard _ hA69 rfl rfl rfl rfl (by decide) (fun hq ev h => by simp [go_sem, (h.get 11 rfl), K4.cell, K7.cell, K10.cell]; try first | exact ⟨rfl, rfl⟩ | rfl) fun a70 hA70 => ?_
      refine wl_guard _ hA70 rfl rfl rfl rfl (by decide) (fun hq ev h => by simp [go_sem, ((h.get 65 rfl).trans (gw_t (beq_t hq))), K4.cell, K7.cell, K10.cell]; try first | exact ⟨rfl, rfl⟩ | rfl) fun a71 hA71 => ?_
      refine wl_guard _ hA71 rfl rfl rfl rfl (by decide) (fun hq ev h => by simp [go_sem, ((h.get 64 rfl).trans (gw_t (beq_t hq))), ((h.get 66 rfl).trans (gw_t (beq_t hq))), K4.cell, K7.cell, K10.cell]; try first | exact ⟨rfl, rfl⟩ | rfl) fun a72 hA72 => ?_
      refine wl_op hA72 rfl rfl (by decide) (fun ev h => by first | exact pick_and rfl (h.get 62 rfl) (h.c _) (h.get 67 rfl) | exact pick_or rfl (h.get 62 rfl) (h.c _) (h.get 67 rfl) | (simp [go_sem, h.c, h.get 62 rfl, h.get 67 rfl, K4.cell, K7.cell, K10.cell, gv_or, gv_and]; try first | exact ⟨rfl, rfl⟩ | rfl)) fun a73 hA73 => ?_
      refine wl_op hA73 rfl rfl (by decide) (fun ev h => by simp [go_sem, h.get 68 rfl, K4.cell, K7.cell, K10.cell]; try first | exact ⟨rfl, rfl⟩ | rfl) fun a74 hA74 => ?_
      refine wl_guard _ hA74 rfl rfl rfl rfl (by decide) (fun hq ev h => by simp [go_sem, (h.get 7 rfl), K4.cell, K7.cell, K10.cell]; try first | exact ⟨rfl, rfl⟩ | rfl) fun a75 hA75 => ?_
      refine wl_guard _ hA75 rfl rfl rfl rfl (by decide) (fun hq ev h => by simp [go_sem, (h.get 10 rfl), K4.cell, K7.cell, K10.cell]; try first | exact ⟨rfl, rfl⟩ | rfl) fun a76 hA76 => ?_
      -- stop call slot 72
      refine wl_gcallv _ hA76 rfl rfl rfl rfl (by decide) (fun hq ev h => by simp [go_sem, ((h.get 70 rfl).trans (gw_t (beq_t hq))), ((h.get 71 rfl).trans (gw_t (beq_t hq))), K4.cell, K7.cell, K10.cell, h.f]; try first | exact ⟨rfl, rfl⟩ | rfl) (fun hq => refSameBox_any b'.nm b'.nm A7 A9 c7 c9 l7.length l9.length b'.e b'.e b'.nx b'.nx l7 l9 _ (by omega) hm7 hm9) fun a77 w12 hb12 hA77 => ?_
      replace K4 := K4.below hb12 K4.lt
      replace HB := HB.trans (hb12.mono HB.size)
      replace hrg := (hrg.below hb12).more hb12.size
      replace hrh := (hrh.below hb12).more hb12.size
      refine wl_guard _ hA77 rfl rfl rfl rfl (by decide) (fun hq ev h => by simp [go_sem, ((h.get 72 rfl).trans (gw_t (beq_t hq))), K4.cell, K7.cell, K10.cell]; try first | exact ⟨rfl, rfl⟩ | rfl) fun a78 hA78 => ?_
      refine wl_op hA78 rfl rfl (by decide) (fun ev h => by first | exact pick_and rfl (h.get 69 rfl) (h.c _) (h.get 73 rfl) | exact pick_or rfl (h.get 69 rfl) (h.c _) (h.get 73 rfl) | (simp [go_sem, h.c, h.get 69 rfl, h.get 73 rfl, K4.cell, K7.cell, K10.cell, gv_or, gv_and]; try first | exact ⟨rfl, rfl⟩ | rfl)) fun a79 hA79 => ?_
      refine wl_nil ?_
      refine n_then ?_
      have hA80 := hA79.keep [4, 8, 11, 74]
      simp only [argsE, keepE, lookS, Nat.reduceBEq, cond_true, cond_false, Nat.reduceAdd, gv_tt, gv_ff, Bool.true_and, Bool.false_and, Bool.true_or, Bool.false_or] at hA80
      clear hA63 hA64 hA65 hA66 hA67 hA68 hA69 hA70 hA71 hA72 hA73 hA74 hA75 hA76 hA77 hA78 hA79 a62 a64 a65 a66 a67 a68 a69 a70 a71 a72 a73 a74 a75 a76 a77 a78
      -- cond
      rw [boxSame_of (hbl7.trans hbl9.symm)] at hA80
      refine wp_if hA80 74 _ rfl (fun hq => ?yC) (fun hq => ?nC)
      case yC =>
        exfalso
        simp at hq
      case nC =>
        clear hq
        refine wp_skip ?_
        refine n_then ?_
        refine wp_seq ?_
        refine wp_seq ?_
        refine wp_region_lit ?_
        refine wl_op hA80 rfl rfl (by decide) (fun ev h => by simp [go_sem, h.get 8 rfl, K4.cell, K7.cell, K10.cell]; try first | exact ⟨rfl, rfl⟩ | rfl) fun a81 hA81 => ?_
        refine wl_op hA81 rfl rfl (by decide) (fun ev h => by simp [go_sem, h.get 75 rfl, K4.cell, K7.cell, K10.cell]; try first | exact ⟨rfl, rfl⟩ | rfl) fun a82 hA82 => ?_
        refine wl_op hA82 rfl rfl (by decide) (fun ev h => by simp [go_sem, h.c, K4.cell, K7.cell, K10.cell]; try first | exact ⟨rfl, rfl⟩ | rfl) fun a83 hA83 => ?_
        refine wl_nil ?_
        refine n_then ?_
        have hA84 := hA83.keep [4, 8, 11, 76, 77]
        simp only [argsE, keepE, lookS, Nat.reduceBEq, cond_true, cond_false, Nat.reduceAdd, gv_tt, gv_ff, Bool.true_and, Bool.false_and, Bool.true_or, Bool.false_or] at hA84
        clear hA80 hA81 hA82 hA83 a81 a82
        refine wp_block ?_
        -- loop
        refine wp_loop_at (fun kk a wx => ∃ (j : Nat), j + kk = gs.length ∧ At 99 [(4, .pointer (some ⟨w1.heap.size, 0, none⟩)), (8, .slice Ag gs.length cg), (11, .slice Ah gs.length ch), (76, .int .i64 (gs.length : Nat)), (77, .int .i64 (j : Nat))] a ∧ Below w12.heap.size w12 wx) (gs.length) ?_ ?_
        · exact ⟨0, by omega, hA84, Below.refl _ _⟩
        rintro kk a wx ⟨j, hjk, hA, HX⟩
        refine wp_seq ?_
        refine wp_region_lit ?_
        refine wl_op hA rfl rfl (by decide) (fun ev h => by simp [go_sem, h.get 77 rfl, h.get 76 rfl]; try first | exact ⟨rfl, rfl⟩ | rfl) fun a85 hA85 => ?_
        refine wl_nil ?_
        refine n_then ?_
        have hA86 := hA85.keep [4, 8, 11, 76, 77, 78]
        simp only [argsE, keepE, lookS, Nat.reduceBEq, cond_true, cond_false, Nat.reduceAdd, gv_tt, gv_ff, Bool.true_and, Bool.false_and, Bool.true_or, Bool.false_or] at hA86
        clear hA hA85
        refine wp_seq ?_
        -- cond
        refine wp_if hA86 78 _ rfl (fun hq => ?yL) (fun hq => ?nL)
        case yL =>
          have hlt : j < gs.length := by simp at hq; omega
          obtain ⟨x, hx⟩ : ∃ x, gs[j]? = some x := ⟨_, List.getElem?_eq_getElem (by omega)⟩
          have hxg : x2 ≤ x := by
            rcases hge x (List.mem_of_getElem? hx) with h | h
            · cases h
            · exact h
          obtain ⟨ad, rfl, had, z0⟩ := u32s_at hrg rfl hx
          obtain ⟨ad2, rfl, had2, y0⟩ := u32s_at hrh rfl hx
          have jj0 : (0 : Int) ≤ (j : Int) := by omega
          have jj1 : (j : Int) < (gs.length : Int) := by omega
          have hwj : IntKind.i64.wrap ((j : Int) + 1) = (j : Int) + 1 := IntWalk.i64_in _ (by omega)
          refine wp_skip ?_
          refine n_then ?_
          refine wp_seq ?_
          refine wp_block ?_
          refine wp_seq ?_
          refine wp_region_lit ?_
          refine wl_op hA86 rfl rfl (by decide) (fun ev h => by simp [go_sem, h.get 77 rfl]; try first | exact ⟨rfl, rfl⟩ | rfl) fun a87 hA87 => ?_
          refine wl_op hA87 rfl rfl (by decide) (fun ev h => by simp [go_sem, h.get 79 rfl]; try first | exact ⟨rfl, rfl⟩ | rfl) fun a88 hA88 => ?_
          refine wl_nil ?_
          refine n_then ?_
          have hA89 := hA88.keep [4, 8, 11, 13, 76, 77]
          simp only [argsE, keepE, lookS, Nat.reduceBEq, cond_true, cond_false, Nat.reduceAdd, gv_tt, gv_ff, Bool.true_and, Bool.false_and, Bool.true_or, Bool.false_or] at hA89
          clear hA86 hA87 hA88 a87
          refine wp_seq ?_
          -- any
          refine wp_any_at hA89 [(.det ?dD0), (.det ?dD1), (.det ?dD2), (.det ?dD3), (.det ?dD4), (.det ?dD5), (.det ?dD6), (.det ?dD7), (.det ?dD8), (.det ?dD9), (.det ?dD10), (.det ?dD11), (.det ?dD12), (.det ?dD13), (.det ?dD14), (.det ?dD15), (.det ?dD16), (.det ?dD17)] [] (fun wy => Below w12.heap.size w12 wy) (TSp [] Grows) (by kernel_rfl) rfl (by kernel_rfl) (by kernel_rfl) rfl (HX.drew) (stab_sp [] [true, true, true, true, true, true, true, true, true, true, true, true, true, true, true, true, true, true] [true, true, true, true, true, true, true, true, true, true, true, true, true, true, true, true, true, true] [] rfl rfl rfl (by kernel_rfl) ⟨trivial, trivial, trivial, trivial, trivial, trivial, trivial, trivial, trivial, trivial, trivial, trivial, trivial, trivial, trivial, trivial, trivial, trivial, trivial⟩ trivial) (fun _ h => by cases h) (fun _ _ _ _ _ h => by cases h) (fun _ h => by cases h) ⟨?oD0, ?oD1, ?oD2, ?oD3, ?oD4, ?oD5, ?oD6, ?oD7, ?oD8, ?oD9, ?oD10, ?oD11, ?oD12, ?oD13, ?oD14, ?oD15, ?oD16, ?oD17, trivial⟩ (by kernel_rfl) ?fD
          case oD0 =>
            intro ev wo hev hC hs hph
            have e8 := see_env hA89 hs 8 (by kernel_rfl) (by kernel_rfl) rfl
            exact ob_det (wanted_none rfl) rfl (by kernel_rfl) hC (TSp.of rfl (Grows.refl _)) (by simp [go_sem, e8]; try first | exact ⟨rfl, rfl⟩ | rfl)
          case oD1 =>
            intro ev wo hev hC hs hph
            have e13 := see_env hA89 hs 13 (by kernel_rfl) (by kernel_rfl) rfl
            exact ob_det (wanted_none rfl) rfl (by kernel_rfl) hC (TSp.of rfl (Grows.refl _)) (by simp [go_sem, e13]; try first | exact ⟨rfl, rfl⟩ | rfl)
          case oD2 =>
            intro ev wo hev hC hs hph
            have e80 := see_det hs 80 0 (by kernel_rfl) (by kernel_rfl) rfl
            have e81 := see_det hs 81 1 (by kernel_rfl) (by kernel_rfl) rfl
            have z := (hC.cell (p := ad.add j) (by rw [block_of_add]; exact had)).trans z0
            have y := (hC.cell (p := ad2.add j) (by rw [block_of_add]; exact had2)).trans y0
            have Kx := K4.below hC K4.lt
            exact ob_det (wanted_none rfl) rfl (by kernel_rfl) hC (TSp.of rfl (Grows.refl _)) (by simp [go_sem, e80, e81, jj0, jj1]; try first | exact ⟨rfl, rfl⟩ | rfl)
          case oD3 =>
            intro ev wo hev hC hs hph
            have e82 := see_det hs 82 2 (by kernel_rfl) (by kernel_rfl) rfl
            have z := (hC.cell (p := ad.add j) (by rw [block_of_add]; exact had)).trans z0
            have y := (hC.cell (p := ad2.add j) (by rw [block_of_add]; exact had2)).trans y0
            have Kx := K4.below hC K4.lt
            exact ob_det (wanted_none rfl) rfl (by kernel_rfl) hC (TSp.of rfl (Grows.refl _)) (by simp [go_sem, e82, z, y, Kx.cell]; try first | exact ⟨rfl, rfl⟩ | rfl)
          case oD4 =>
            intro ev wo hev hC hs hph
            have e11 := see_env hA89 hs 11 (by kernel_rfl) (by kernel_rfl) rfl
            exact ob_det (wanted_none rfl) rfl (by kernel_rfl) hC (TSp.of rfl (Grows.refl _)) (by simp [go_sem, e11]; try first | exact ⟨rfl, rfl⟩ | rfl)
          case oD5 =>
            intro ev wo hev hC hs hph
            have e13 := see_env hA89 hs 13 (by kernel_rfl) (by kernel_rfl) rfl
            exact ob_det (wanted_none rfl) rfl (by kernel_rfl) hC (TSp.of rfl (Grows.refl _)) (by simp [go_sem, e13]; try first | exact ⟨rfl, rfl⟩ | rfl)
          case oD6 =>
            intro ev wo hev hC hs hph
            have e84 := see_det hs 84 4 (by kernel_rfl) (by kernel_rfl) rfl
            have e85 := see_det hs 85 5 (by kernel_rfl) (by kernel_rfl) rfl
            have z := (hC.cell (p := ad.add j) (by rw [block_of_add]; exact had)).trans z0
            have y := (hC.cell (p := ad2.add j) (by rw [block_of_add]; exact had2)).trans y0
            have Kx := K4.below hC K4.lt
            exact ob_det (wanted_none rfl) rfl (by kernel_rfl) hC (TSp.of rfl (Grows.refl _)) (by simp [go_sem, e84, e85, jj0, jj1]; try first | exact ⟨rfl, rfl⟩ | rfl)
          case oD7 =>
            intro ev wo hev hC hs hph
            have e86 := see_det hs 86 6 (by kernel_rfl) (by kernel_rfl) rfl
            have z := (hC.cell (p := ad.add j) (by rw [block_of_add]; exact had)).trans z0
            have y := (hC.cell (p := ad2.add j) (by rw [block_of_add]; exact had2)).trans y0
            have Kx := K4.below hC K4.lt
            exact ob_det (wanted_none rfl) rfl (by kernel_rfl) hC (TSp.of rfl (Grows.refl _)) (by simp [go_sem, e86, z, y, Kx.cell]; try first | exact ⟨rfl, rfl⟩ | rfl)
          case oD8 =>
            intro ev wo hev hC hs hph
            have e83 := see_det hs 83 3 (by kernel_rfl) (by kernel_rfl) rfl
            have e87 := see_det hs 87 7 (by kernel_rfl) (by kernel_rfl) rfl
            exact ob_det (wanted_none rfl) rfl (by kernel_rfl) hC (TSp.of rfl (Grows.refl _)) (by simp [go_sem, e83, e87]; try first | exact ⟨rfl, rfl⟩ | rfl)
          case oD9 =>
            intro ev wo hev hC hs hph
            have e88 := see_det hs 88 8 (by kernel_rfl) (by kernel_rfl) rfl
            exact ob_det (wanted_none rfl) rfl (by kernel_rfl) hC (TSp.of rfl (Grows.refl _)) (by simp [go_sem, e88]; try first | exact ⟨rfl, rfl⟩ | rfl)
          case oD10 =>
            intro ev wo hev hC hs hph
            have e8 := see_env hA89 hs 8 (by kernel_rfl) (by kernel_rfl) rfl
            have e89 := see_det hs 89 9 (by kernel_rfl) (by kernel_rfl) rfl
            exact ob_gv _ rfl rfl e89 rfl (by kernel_rfl) hC (TSp.of rfl (Grows.refl _)) (fun hq => by simp [go_sem, e8, e89]; try first | exact ⟨rfl, rfl⟩ | rfl) (by rfl)
          case oD11 =>
            intro ev wo hev hC hs hph
            have e13 := see_env hA89 hs 13 (by kernel_rfl) (by kernel_rfl) rfl
            have e89 := see_det hs 89 9 (by kernel_rfl) (by kernel_rfl) rfl
            exact ob_gv _ rfl rfl e89 rfl (by kernel_rfl) hC (TSp.of rfl (Grows.refl _)) (fun hq => by simp [go_sem, e13, e89]; try first | exact ⟨rfl, rfl⟩ | rfl) (by rfl)
          case oD12 =>
            intro ev wo hev hC hs hph
            have e90 := see_det hs 90 10 (by kernel_rfl) (by kernel_rfl) rfl
            have e91 := see_det hs 91 11 (by kernel_rfl) (by kernel_rfl) rfl
            have e89 := see_det hs 89 9 (by kernel_rfl) (by kernel_rfl) rfl
            have z := (hC.cell (p := ad.add j) (by rw [block_of_add]; exact had)).trans z0
            have y := (hC.cell (p := ad2.add j) (by rw [block_of_add]; exact had2)).trans y0
            have Kx := K4.below hC K4.lt
            exact ob_gv _ rfl rfl e89 rfl (by kernel_rfl) hC (TSp.of rfl (Grows.refl _)) (fun hq => by simp [go_sem, (e90.trans (gw_t (beq_t hq))), (e91.trans (gw_t (beq_t hq))), e89, jj0, jj1]; try first | exact ⟨rfl, rfl⟩ | rfl) (by rfl)
          case oD13 =>
            intro ev wo hev hC hs hph
            have e92 := see_det hs 92 12 (by kernel_rfl) (by kernel_rfl) rfl
            have e89 := see_det hs 89 9 (by kernel_rfl) (by kernel_rfl) rfl
            have z := (hC.cell (p := ad.add j) (by rw [block_of_add]; exact had)).trans z0
            have y := (hC.cell (p := ad2.add j) (by rw [block_of_add]; exact had2)).trans y0
            have Kx := K4.below hC K4.lt
            exact ob_gv _ rfl rfl e89 rfl (by kernel_rfl) hC (TSp.of rfl (Grows.refl _)) (fun hq => by simp [go_sem, (e92.trans (gw_t (beq_t hq))), e89, z, y, Kx.cell]; try first | exact ⟨rfl, rfl⟩ | rfl) (by rfl)
          case oD14 =>
            intro ev wo hev hC hs hph
            have e4 := see_env hA89 hs 4 (by kernel_rfl) (by kernel_rfl) rfl
            have e89 := see_det hs 89 9 (by kernel_rfl) (by kernel_rfl) rfl
            exact ob_gv _ rfl rfl e89 rfl (by kernel_rfl) hC (TSp.of rfl (Grows.refl _)) (fun hq => by simp [go_sem, e4, e89]; try first | exact ⟨rfl, rfl⟩ | rfl) (by rfl)
          case oD15 =>
            intro ev wo hev hC hs hph
            have e94 := see_det hs 94 14 (by kernel_rfl) (by kernel_rfl) rfl
            have e89 := see_det hs 89 9 (by kernel_rfl) (by kernel_rfl) rfl
            have z := (hC.cell (p := ad.add j) (by rw [block_of_add]; exact had)).trans z0
            have y := (hC.cell (p := ad2.add j) (by rw [block_of_add]; exact had2)).trans y0
            have Kx := K4.below hC K4.lt
            exact ob_gv _ rfl rfl e89 rfl (by kernel_rfl) hC (TSp.of rfl (Grows.refl _)) (fun hq => by simp [go_sem, (e94.trans (gw_t (beq_t hq))), e89, z, y, Kx.cell]; try first | exact ⟨rfl, rfl⟩ | rfl) (by rfl)
          case oD16 =>
            intro ev wo hev hC hs hph
            have e93 := see_det hs 93 13 (by kernel_rfl) (by kernel_rfl) rfl
            have e95 := see_det hs 95 15 (by kernel_rfl) (by kernel_rfl) rfl
            have e89 := see_det hs 89 9 (by kernel_rfl) (by kernel_rfl) rfl
            exact ob_gv _ rfl rfl e89 rfl (by kernel_rfl) hC (TSp.of rfl (Grows.refl _)) (fun hq => by simp [go_sem, (e93.trans (gw_t (beq_t hq))), (e95.trans (gw_t (beq_t hq))), e89]; try first | exact ⟨rfl, rfl⟩ | rfl) (by rfl)
          case oD17 =>
            intro ev wo hev hC hs hph
            have e89 := see_det hs 89 9 (by kernel_rfl) (by kernel_rfl) rfl
            have e96 := see_det hs 96 16 (by kernel_rfl) (by kernel_rfl) rfl
            exact ob_det (wanted_none rfl) rfl (by kernel_rfl) hC (TSp.of rfl (Grows.refl _)) (by first | (refine (pick_and ?_ (e89) (hev.const _) (e96)); rfl) | (rw [pick_and _ (e89) (hev.const _) (e96)]; rfl) | (refine (pick_or ?_ (e89) (hev.const _) (e96)); rfl) | (rw [pick_or _ (e89) (hev.const _) (e96)]; rfl) | (simp [go_sem, e89, e96, hev.const]; try first | exact ⟨rfl, rfl⟩ | rfl))
          intro sg wf hC hph
          intro a90 hA90
          refine n_then ?_
          have hA91 := hA90.keep [4, 8, 11, 76, 77, 97]
          simp only [argsE, keepE, lookS, Nat.reduceBEq, cond_true, cond_false, Nat.reduceAdd, gv_tt, gv_ff, Bool.true_and, Bool.false_and, Bool.true_or, Bool.false_or] at hA91
          clear hA89 hA90 a88
          refine wp_if hA91 97 _ rfl (fun hq2 => ?yR) (fun hq2 => ?nR)
          case yR =>
            exfalso
            simp at hq2
            omega
          case nR =>
            refine wp_skip ?_
            refine n_block ?_
            refine n_then ?_
            refine wp_region_lit ?_
            refine wl_op hA91 rfl rfl (by decide) (fun ev h => by simp [go_sem, h.c, h.get 77 rfl, hwj]; try first | exact ⟨rfl, rfl⟩ | rfl) fun a92 hA92 => ?_
            refine wl_op hA92 rfl rfl (by decide) (fun ev h => by simp [go_sem, h.get 98 rfl, hwj]; try first | exact ⟨rfl, rfl⟩ | rfl) fun a93 hA93 => ?_
            refine wl_nil ?_
            refine n_then ?_
            have hA94 := hA93.keep [4, 8, 11, 76, 77]
            simp only [argsE, keepE, lookS, Nat.reduceBEq, cond_true, cond_false, Nat.reduceAdd, gv_tt, gv_ff, Bool.true_and, Bool.false_and, Bool.true_or, Bool.false_or] at hA94
            clear hA91 hA92 hA93 a92
            -- round
            rw [show ((j : Int) + 1) = ((j + 1 : Nat) : Int) by omega] at hA94
            exact ⟨kk - 1, by omega, j + 1, by omega, hA94, hC⟩
        case nL =>
          refine wp_exit ?_
          refine x_then ?_
          refine x_then ?_
          refine x_block ?_
          refine n_then ?_
          have hA95 := hA86.keep []
          simp only [argsE, keepE, lookS, Nat.reduceBEq, cond_true, cond_false, Nat.reduceAdd, gv_tt, gv_ff, Bool.true_and, Bool.false_and, Bool.true_or, Bool.false_or] at hA95
          clear hA86
          refine wp_seq ?_
          refine wp_region_lit ?_
          refine wl_op hA95 rfl rfl (by decide) (fun ev h => by simp [go_sem, h.c]; try first | exact ⟨rfl, rfl⟩ | rfl) fun a96 hA96 => ?_
          refine wl_nil ?_
          refine n_then ?_
          have hA97 := hA96.keep [6]
          simp only [argsE, keepE, lookS, Nat.reduceBEq, cond_true, cond_false, Nat.reduceAdd, gv_tt, gv_ff, Bool.true_and, Bool.false_and, Bool.true_or, Bool.false_or] at hA97
          clear hA95 hA96
          refine wp_ret ?_
          refine ret_1 hA97 6 rfl rfl ?_
          exact ⟨rfl, HB.trans (HX.mono HB.size)⟩
end Go.Proofs.YtbbhblnhbgkcaaaDoor
