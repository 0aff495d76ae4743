/-
  Walk: the law MailExpunges.
-/
import Derived.Test.YtbbhblnhbgkcaaaDoorMailRefExp
import Derived.Test.YtbbhblnhbgkcaaaDoorMailRightW
import Derived.Test.YtbbhblnhbgkcaaaDoorMailArgs
namespace Go.Proofs.YtbbhblnhbgkcaaaDoor
open Go.RowKit
set_option linter.unusedSimpArgs false
set_option linter.unusedVariables false
set_option maxRecDepth 100000 in
set_option maxHeartbeats 2000000 in
theorem expunges_law (nm : ByteArray) (A A2 : Option Addr) (c n e nx c2 k : Nat) (l : List MsgV) (us : List Nat) (all : Bool) (w : World) (hm : MaxCell w) (hg : 1 < w.heap.size) (htab : Lib.TabIs Tryd.prog w "internal/strconv.uint64pow10" .u64 Lib.pow10Tab)
    (hs : nm.size ≤ 140737488355328) (hn : n ≤ 140737488355328) (hz : ∀ m ∈ l, m.b.length ≤ 140737488355328) (hms : Msgs w A n l) (hk : k ≤ 140737488355328) (hus : us.length = k) (hur : Reads w w.heap.size 1 A2 k (u32s us)) :
    Calls Tryd.prog 6 #[.agg (boxC nm e nx A n c), .slice A2 k c2, .bool all] w fun ev w' => ev = .returned (.bool true) ∧ Below w.heap.size w w' := by
  have Ht := Lib.tabBelow_of_tabIs htab
  have hl := hms.len
  refine calls_at 81 Tryd.func6 rfl rfl (Nat.le_of_ble_eq_true rfl) ?_
  intro a hA
  simp only [argsE, keepE, lookS, Nat.reduceBEq, cond_true, cond_false, Nat.reduceAdd, gv_tt, gv_ff, Bool.true_and, Bool.false_and, Bool.true_or, Bool.false_or] at hA
  refine wp_seq ?_
  refine wp_region_lit ?_
  -- stop box slot 3
  refine wl_new hA rfl rfl (by decide) (fun ev h => by simp [go_sem, h.get 0 rfl]; try first | exact ⟨rfl, rfl⟩ | rfl) fun w1 a1 (K : Blk _ _ _ _) hzz0 hb0 hA1 => ?_
  replace hm := hm.below hg hb0; replace hg := Nat.lt_of_lt_of_le hg hb0.size
  replace hms := hms.below hb0
  replace hur := (hur.below hb0).more hb0.size
  have HB := hb0
  unfold boxC at K
  refine wl_op hA1 rfl rfl (by decide) (fun ev h => by simp [go_sem, h.c, K.cell]; try first | exact ⟨rfl, rfl⟩ | rfl) fun a2 hA2 => ?_
  refine wl_nil ?_
  refine n_then ?_
  have hA3 := hA2.keep [1, 2, 3]
  simp only [argsE, keepE, lookS, Nat.reduceBEq, cond_true, cond_false, Nat.reduceAdd, gv_tt, gv_ff, Bool.true_and, Bool.false_and, Bool.true_or, Bool.false_or] at hA3
  clear hA hA1 hA2 a1
  refine wp_seq ?_
  refine wp_seq ?_
  refine wp_region_lit ?_
  -- stop call slot 13
  refine wl_call hA3 rfl rfl (by decide) (fun ev h => by simp [go_sem, K.cell, h.f]; try first | exact ⟨rfl, rfl⟩ | rfl) (awake_any _ hm hg (Ht _ HB)) ?_
  rintro e w3 ⟨rfl, hb3⟩
  refine ⟨_, rfl, fun a4 hA4 => ?_⟩
  replace hm := hm.below hg hb3; replace hg := Nat.lt_of_lt_of_le hg hb3.size
  replace hms := hms.below hb3
  replace hur := (hur.below hb3).more hb3.size
  replace K := K.below hb3 K.lt
  replace HB := HB.trans (hb3.mono HB.size)
  refine wl_op hA4 rfl rfl (by decide) (fun ev h => by simp [go_sem, h.get 13 rfl, K.cell]; try first | exact ⟨rfl, rfl⟩ | rfl) fun a5 hA5 => ?_
  refine wl_op hA5 rfl rfl (by decide) (fun ev h => by simp [go_sem, h.get 14 rfl, K.cell]; try first | exact ⟨rfl, rfl⟩ | rfl) fun a6 hA6 => ?_
  refine wl_guard _ hA6 rfl rfl rfl rfl (by decide) (fun hq ev h => by simp [go_sem, (h.get 3 rfl), K.cell]; try first | exact ⟨rfl, rfl⟩ | rfl) fun a7 hA7 => ?_
  refine wl_guard _ hA7 rfl rfl rfl rfl (by decide) (fun hq ev h => by simp [go_sem, (h.get 1 rfl), K.cell]; try first | exact ⟨rfl, rfl⟩ | rfl) fun a8 hA8 => ?_
  -- stop call slot 18
  refine wl_gcallv _ hA8 rfl rfl rfl rfl (by decide) (fun hq ev h => by simp [go_sem, ((h.get 16 rfl).trans (gw_t (beq_t hq))), ((h.get 17 rfl).trans (gw_t (beq_t hq))), K.cell, h.f]; try first | exact ⟨rfl, rfl⟩ | rfl) (fun hq => few_any nm A A2 c n e nx k c2 l _ hs hn hz hms) fun a9 w4 hb4 hA9 => ?_
  replace hm := hm.below hg hb4; replace hg := Nat.lt_of_lt_of_le hg hb4.size
  replace hms := hms.below hb4
  replace hur := (hur.below hb4).more hb4.size
  replace K := K.below hb4 K.lt
  replace HB := HB.trans (hb4.mono HB.size)
  refine wl_guard _ hA9 rfl rfl rfl rfl (by decide) (fun hq ev h => by simp [go_sem, ((h.get 18 rfl).trans (gw_t (beq_t hq))), K.cell]; try first | exact ⟨rfl, rfl⟩ | rfl) fun a10 hA10 => ?_
  refine wl_op hA10 rfl rfl (by decide) (fun ev h => by first | exact pick_and rfl (h.get 15 rfl) (h.c _) (h.get 19 rfl) | exact pick_or rfl (h.get 15 rfl) (h.c _) (h.get 19 rfl) | (simp [go_sem, h.c, h.get 15 rfl, h.get 19 rfl, K.cell, gv_or, gv_and]; try first | exact ⟨rfl, rfl⟩ | rfl)) fun a11 hA11 => ?_
  refine wl_nil ?_
  refine n_then ?_
  have hA12 := hA11.keep [1, 2, 3, 20]
  simp only [argsE, keepE, lookS, Nat.reduceBEq, cond_true, cond_false, Nat.reduceAdd, gv_tt, gv_ff, Bool.true_and, Bool.false_and, Bool.true_or, Bool.false_or] at hA12
  clear hA3 hA4 hA5 hA6 hA7 hA8 hA9 hA10 hA11 a2 a4 a5 a6 a7 a8 a9 a10
  -- cond
  refine wp_if hA12 20 _ rfl (fun hq => ?yA) (fun hq => ?nA)
  case yA =>
    refine wp_seq ?_
    refine wp_region_lit ?_
    -- stop call slot 21
    refine wl_call hA12 rfl rfl (by decide) (fun ev h => by simp [go_sem, K.cell, h.f]; try first | exact ⟨rfl, rfl⟩ | rfl) (awake_any _ hm hg (Ht _ HB)) ?_
    rintro e w6 ⟨rfl, hb6⟩
    refine ⟨_, rfl, fun a13 hA13 => ?_⟩
    replace hm := hm.below hg hb6; replace hg := Nat.lt_of_lt_of_le hg hb6.size
    replace hms := hms.below hb6
    replace hur := (hur.below hb6).more hb6.size
    replace K := K.below hb6 K.lt
    replace HB := HB.trans (hb6.mono HB.size)
    refine wl_op hA13 rfl rfl (by decide) (fun ev h => by simp [go_sem, h.get 21 rfl, K.cell]; try first | exact ⟨rfl, rfl⟩ | rfl) fun a14 hA14 => ?_
    refine wl_nil ?_
    refine n_then ?_
    have hA15 := hA14.keep [6]
    simp only [argsE, keepE, lookS, Nat.reduceBEq, cond_true, cond_false, Nat.reduceAdd, gv_tt, gv_ff, Bool.true_and, Bool.false_and, Bool.true_or, Bool.false_or] at hA15
    clear hA12 hA13 hA14 a13
    refine wp_ret ?_
    refine r_then ?_
    -- ret
    refine ret_1 hA15 6 rfl rfl ?_
    exact ⟨rfl, HB⟩
  case nA =>
    have hf1 : fewL nm l = true := by simp at hq; exact hq.1
    have hn6 : n ≤ 60000 := by
      unfold fewL at hf1
      have := wt_len l
      simp at hf1
      omega
    clear hq
    obtain ⟨b', gs, u, hap⟩ : ∃ b' gs u, exV nm e nx l us all = (b', gs, u) := ⟨_, _, _, rfl⟩
    have N := exp_any nm A A2 c n e nx c2 k l us all _ hm hg (Ht _ HB) (by omega) hn hms hk hus hur
    rw [hap] at N
    simp only at N
    unfold boxC at N
    refine wp_skip ?_
    refine n_then ?_
    refine wp_seq ?_
    refine wp_region_lit ?_
    refine wl_op hA12 rfl rfl (by decide) (fun ev h => by simp [go_sem, h.get 3 rfl, K.cell]; try first | exact ⟨rfl, rfl⟩ | rfl) fun a16 hA16 => ?_
    refine wl_op hA16 rfl rfl (by decide) (fun ev h => by simp [go_sem, h.get 1 rfl, K.cell]; try first | exact ⟨rfl, rfl⟩ | rfl) fun a17 hA17 => ?_
    refine wl_op hA17 rfl rfl (by decide) (fun ev h => by simp [go_sem, h.get 2 rfl, K.cell]; try first | exact ⟨rfl, rfl⟩ | rfl) fun a18 hA18 => ?_
    -- stop call slot 26
    refine wl_call hA18 rfl rfl (by decide) (fun ev h => by simp [go_sem, h.get 23 rfl, h.get 24 rfl, h.get 25 rfl, K.cell, h.f]; try first | exact ⟨rfl, rfl⟩ | rfl) (N) ?_
    rintro e w5 ⟨r, vg, rfl, ⟨v, l1, rfl, ho1, hbl1⟩, hu1, hb5⟩
    refine ⟨_, rfl, fun a19 hA19 => ?_⟩
    replace hm := hm.below hg hb5; replace hg := Nat.lt_of_lt_of_le hg hb5.size
    replace hms := hms.below hb5
    replace hur := (hur.below hb5).more hb5.size
    replace K := K.below hb5 K.lt
    replace HB := HB.trans (hb5.mono HB.size)
    clear N
    obtain ⟨A1, c1, hv, hm1, _⟩ := ho1.msgs
    subst hv
    obtain ⟨Ag, cg, hvg, hrg⟩ := hu1.reads
    subst hvg
    clear ho1 hu1
    refine wl_op hA19 rfl rfl (by decide) (fun ev h => by simp [go_sem, h.get 26 rfl, K.cell]; try first | exact ⟨rfl, rfl⟩ | rfl) fun a20 hA20 => ?_
    refine wl_op hA20 rfl rfl (by decide) (fun ev h => by simp [go_sem, h.get 22 rfl, K.cell]; try first | exact ⟨rfl, rfl⟩ | rfl) fun a21 hA21 => ?_
    refine wl_op hA21 rfl rfl (by decide) (fun ev h => by simp [go_sem, h.get 22 rfl, K.cell]; try first | exact ⟨rfl, rfl⟩ | rfl) fun a22 hA22 => ?_
    refine wl_op hA22 rfl rfl (by decide) (fun ev h => by simp [go_sem, h.get 22 rfl, K.cell]; try first | exact ⟨rfl, rfl⟩ | rfl) fun a23 hA23 => ?_
    -- stop alloc slot 7
    refine wl_local [.string b'.nm, .int .u32 (b'.e : Nat), .int .u32 (b'.nx : Nat), .slice A1 l1.length c1] hA23 rfl rfl (by decide) (fun ev h => by simp [go_sem, K.cell]; try first | exact ⟨rfl, rfl⟩ | rfl) rfl rfl (by rfl) (fun w1 g ev hb h => by simp [go_sem, h.get 7 rfl, h.get 27 rfl, K.cell, setAll, hb.cell, hb.frozen]) fun w6 a24 (K7 : Blk _ _ _ _) hzz6 hb6 hA24 => ?_
    replace hms := hms.below hb6
    replace hur := (hur.below hb6).more hb6.size
    replace K := K.below hb6 K.lt
    replace HB := HB.trans (hb6.mono HB.size)
    replace hm1 := hm1.below hb6
    replace hrg := (hrg.below hb6).more hb6.size
    refine wl_op hA24 rfl rfl (by decide) (fun ev h => by simp [go_sem, h.get 28 rfl, K.cell]; try first | exact ⟨rfl, rfl⟩ | rfl) fun a25 hA25 => ?_
    refine wl_op hA25 rfl rfl (by decide) (fun ev h => by simp [go_sem, h.get 29 rfl, K.cell]; try first | exact ⟨rfl, rfl⟩ | rfl) fun a26 hA26 => ?_
    refine wl_nil ?_
    refine n_then ?_
    have hA27 := hA26.keep [1, 2, 3, 7, 8, 9]
    simp only [argsE, keepE, lookS, Nat.reduceBEq, cond_true, cond_false, Nat.reduceAdd, gv_tt, gv_ff, Bool.true_and, Bool.false_and, Bool.true_or, Bool.false_or] at hA27
    clear hA12 hA16 hA17 hA18 hA19 hA20 hA21 hA22 hA23 hA24 hA25 hA26 a16 a17 a18 a19 a20 a21 a22 a23 a24 a25
    refine wp_seq ?_
    refine wp_seq ?_
    refine wp_region_lit ?_
    refine wl_op hA27 rfl rfl (by decide) (fun ev h => by simp [go_sem, h.get 3 rfl, K.cell]; try first | exact ⟨rfl, rfl⟩ | rfl) fun a28 hA28 => ?_
    -- stop call slot 31
    refine wl_call hA28 rfl rfl (by decide) (fun ev h => by simp [go_sem, h.get 30 rfl, K.cell, h.f]; try first | exact ⟨rfl, rfl⟩ | rfl) (refRight_any nm A c n e nx l _ (by omega) (by omega) hms) ?_
    rintro e w7 ⟨rfl, hb7⟩
    refine ⟨_, rfl, fun a29 hA29 => ?_⟩
    replace hms := hms.below hb7
    replace hur := (hur.below hb7).more hb7.size
    replace K := K.below hb7 K.lt
    replace HB := HB.trans (hb7.mono HB.size)
    replace hm1 := hm1.below hb7
    replace hrg := (hrg.below hb7).more hb7.size
    replace K7 := K7.below hb7 K7.lt
    refine wl_op hA29 rfl rfl (by decide) (fun ev h => by simp [go_sem, h.get 31 rfl, K.cell]; try first | exact ⟨rfl, rfl⟩ | rfl) fun a30 hA30 => ?_
    refine wl_nil ?_
    refine n_then ?_
    have hA31 := hA30.keep [1, 2, 3, 7, 8, 9, 32]
    simp only [argsE, keepE, lookS, Nat.reduceBEq, cond_true, cond_false, Nat.reduceAdd, gv_tt, gv_ff, Bool.true_and, Bool.false_and, Bool.true_or, Bool.false_or] at hA31
    clear hA27 hA28 hA29 hA30 a26 a28 a29
    -- cond
    refine wp_if hA31 32 _ rfl (fun hq => ?yB) (fun hq => ?nB)
    case yB =>
      have hap2 : exV nm e nx l us all = (zeroB, [], 1) := by unfold exV; rw [hq]; rfl
      rw [hap2] at hap
      injection hap with _ e2
      injection e2 with e2 e3
      subst e2 e3
      refine wp_seq ?_
      refine wp_region_lit ?_
      refine wl_op hA31 rfl rfl (by decide) (fun ev h => by simp [go_sem, h.get 9 rfl, K.cell]; try first | exact ⟨rfl, rfl⟩ | rfl) fun a32 hA32 => ?_
      refine wl_op hA32 rfl rfl (by decide) (fun ev h => by simp [go_sem, h.c, h.get 33 rfl, K.cell]; try first | exact ⟨rfl, rfl⟩ | rfl) fun a33 hA33 => ?_
      refine wl_op hA33 rfl rfl (by decide) (fun ev h => by simp [go_sem, h.get 34 rfl, K.cell]; try first | exact ⟨rfl, rfl⟩ | rfl) fun a34 hA34 => ?_
      refine wl_guard _ hA34 rfl rfl rfl rfl (by decide) (fun hq ev h => by simp [go_sem, (h.get 8 rfl), K.cell]; try first | exact ⟨rfl, rfl⟩ | rfl) fun a35 hA35 => ?_
      refine wl_guard _ hA35 rfl rfl rfl rfl (by decide) (fun hq ev h => by simp [go_sem, ((h.get 36 rfl).trans (gw_t (beq_t hq))), K.cell]; try first | exact ⟨rfl, rfl⟩ | rfl) fun a36 hA36 => ?_
      refine wl_guard _ hA36 rfl rfl rfl rfl (by decide) (fun hq ev h => by simp [go_sem, h.c, ((h.get 37 rfl).trans (gw_t (beq_t hq))), K.cell]; try first | exact ⟨rfl, rfl⟩ | rfl) fun a37 hA37 => ?_
      refine wl_op hA37 rfl rfl (by decide) (fun ev h => by first | exact pick_and rfl (h.get 35 rfl) (h.get 38 rfl) (h.c _) | exact pick_or rfl (h.get 35 rfl) (h.get 38 rfl) (h.c _) | (simp [go_sem, h.c, h.get 35 rfl, h.get 38 rfl, K.cell, gv_or, gv_and]; try first | exact ⟨rfl, rfl⟩ | rfl)) fun a38 hA38 => ?_
      refine wl_op hA38 rfl rfl (by decide) (fun ev h => by simp [go_sem, h.get 39 rfl, K.cell]; try first | exact ⟨rfl, rfl⟩ | rfl) fun a39 hA39 => ?_
      refine wl_nil ?_
      refine n_then ?_
      have hA40 := hA39.keep [6]
      simp only [argsE, keepE, lookS, Nat.reduceBEq, cond_true, cond_false, Nat.reduceAdd, gv_tt, gv_ff, Bool.true_and, Bool.false_and, Bool.true_or, Bool.false_or] at hA40
      clear hA31 hA32 hA33 hA34 hA35 hA36 hA37 hA38 hA39 a32 a33 a34 a35 a36 a37 a38
      refine wp_ret ?_
      refine r_then ?_
      refine ret_1 hA40 6 rfl rfl ?_
      exact ⟨rfl, HB⟩
    case nB =>
      have hap2 : exV nm e nx l us all = (expV nm e nx l us all, goneL (goesV all us) (bare l), 0) := by unfold exV; rw [hq]; rfl
      have hri : boxRight nm e nx l = true := by simpa using hq
      rw [hap2] at hap
      injection hap with e1 e2
      injection e2 with e2 e3
      rw [goneL_bare] at e2
      subst e1 e2 e3
      have hl1 : l1.length ≤ n := by
        rw [← bare_len, hbl1, ← hl, ← bare_len l]
        exact leftL_len _ _
      clear hq
      have N := refExp_any nm A A2 c n e nx c2 k l us all _ (by omega) hms hk hus hur
      obtain ⟨b2, hb2⟩ : ∃ b2, expV nm e nx l us all = b2 := ⟨_, rfl⟩
      rw [hb2] at N
      refine wp_skip ?_
      refine n_then ?_
      refine wp_seq ?_
      refine wp_region_lit ?_
      refine wl_op hA31 rfl rfl (by decide) (fun ev h => by simp [go_sem, h.get 3 rfl, K.cell]; try first | exact ⟨rfl, rfl⟩ | rfl) fun a41 hA41 => ?_
      refine wl_op hA41 rfl rfl (by decide) (fun ev h => by simp [go_sem, h.get 1 rfl, K.cell]; try first | exact ⟨rfl, rfl⟩ | rfl) fun a42 hA42 => ?_
      refine wl_op hA42 rfl rfl (by decide) (fun ev h => by simp [go_sem, h.get 2 rfl, K.cell]; try first | exact ⟨rfl, rfl⟩ | rfl) fun a43 hA43 => ?_
      -- stop call slot 44
      refine wl_call hA43 rfl rfl (by decide) (fun ev h => by simp [go_sem, h.get 41 rfl, h.get 42 rfl, h.get 43 rfl, K.cell, h.f]; try first | exact ⟨rfl, rfl⟩ | rfl) (N) ?_
      rintro e w8 ⟨r, vg, rfl, ⟨v, l2, rfl, ho2, hbl2⟩, hu2, hb8⟩
      refine ⟨_, rfl, fun a44 hA44 => ?_⟩
      replace hms := hms.below hb8
      replace hur := (hur.below hb8).more hb8.size
      replace K := K.below hb8 K.lt
      replace HB := HB.trans (hb8.mono HB.size)
      replace hm1 := hm1.below hb8
      replace hrg := (hrg.below hb8).more hb8.size
      replace K7 := K7.below hb8 K7.lt
      obtain ⟨A3, c3, hv, hm2, _⟩ := ho2.msgs
      subst hv
      obtain ⟨Ah, ch, hvg, hrh⟩ := hu2.reads
      subst hvg
      clear ho2 hu2
      refine wl_op hA44 rfl rfl (by decide) (fun ev h => by simp [go_sem, h.get 44 rfl, K.cell]; try first | exact ⟨rfl, rfl⟩ | rfl) fun a45 hA45 => ?_
      refine wl_op hA45 rfl rfl (by decide) (fun ev h => by simp [go_sem, h.get 40 rfl, K.cell]; try first | exact ⟨rfl, rfl⟩ | rfl) fun a46 hA46 => ?_
      refine wl_op hA46 rfl rfl (by decide) (fun ev h => by simp [go_sem, h.get 40 rfl, K.cell]; try first | exact ⟨rfl, rfl⟩ | rfl) fun a47 hA47 => ?_
      -- stop alloc slot 10
      refine wl_local [.string b2.nm, .int .u32 (b2.e : Nat), .int .u32 (b2.nx : Nat), .slice A3 l2.length c3] hA47 rfl rfl (by decide) (fun ev h => by simp [go_sem, K.cell]; try first | exact ⟨rfl, rfl⟩ | rfl) rfl rfl (by rfl) (fun w1 g ev hb h => by simp [go_sem, h.get 10 rfl, h.get 45 rfl, K.cell, setAll, hb.cell, hb.frozen]) fun w9 a48 (K10 : Blk _ _ _ _) hzz9 hb9 hA48 => ?_
      replace K := K.below hb9 K.lt
      replace HB := HB.trans (hb9.mono HB.size)
      replace hm1 := hm1.below hb9
      replace hrg := (hrg.below hb9).more hb9.size
      replace K7 := K7.below hb9 K7.lt
      replace hm2 := hm2.below hb9
      replace hrh := (hrh.below hb9).more hb9.size
      subst hb2
      unfold expV at K7 K10
      have hgl := goneL_len (goesV all us) l
      obtain ⟨gs, hgs⟩ : ∃ gs, goneL (goesV all us) l = gs := ⟨_, rfl⟩
      rw [hgs] at hrg hrh hgl hA48
      refine wl_op hA48 rfl rfl (by decide) (fun ev h => by simp [go_sem, h.get 46 rfl, K.cell, K7.cell, K10.cell]; try first | exact ⟨rfl, rfl⟩ | rfl) fun a49 hA49 => ?_
      refine wl_nil ?_
      refine n_then ?_
      have hA50 := hA49.keep [3, 7, 8, 9, 10, 11]
      simp only [argsE, keepE, lookS, Nat.reduceBEq, cond_true, cond_false, Nat.reduceAdd, gv_tt, gv_ff, Bool.true_and, Bool.false_and, Bool.true_or, Bool.false_or] at hA50
      clear hA31 hA41 hA42 hA43 hA44 hA45 hA46 hA47 hA48 hA49 a41 a42 a43 a44 a45 a46 a47 a48
      refine wp_seq ?_
      refine wp_seq ?_
      refine wp_region_lit ?_
      refine wl_op hA50 rfl rfl (by decide) (fun ev h => by simp [go_sem, h.get 9 rfl, K.cell, K7.cell, K10.cell]; try first | exact ⟨rfl, rfl⟩ | rfl) fun a51 hA51 => ?_
      refine wl_op hA51 rfl rfl (by decide) (fun ev h => by simp [go_sem, h.c, h.get 47 rfl, K.cell, K7.cell, K10.cell]; try first | exact ⟨rfl, rfl⟩ | rfl) fun a52 hA52 => ?_
      refine wl_op hA52 rfl rfl (by decide) (fun ev h => by simp [go_sem, h.get 48 rfl, K.cell, K7.cell, K10.cell]; try first | exact ⟨rfl, rfl⟩ | rfl) fun a53 hA53 => ?_
      refine wl_guard _ hA53 rfl rfl rfl rfl (by decide) (fun hq ev h => by simp [go_sem, (h.get 8 rfl), K.cell, K7.cell, K10.cell]; try first | exact ⟨rfl, rfl⟩ | rfl) fun a54 hA54 => ?_
      refine wl_guard _ hA54 rfl rfl rfl rfl (by decide) (fun hq ev h => by simp [go_sem, ((h.get 50 rfl).trans (gw_t (beq_t hq))), K.cell, K7.cell, K10.cell]; try first | exact ⟨rfl, rfl⟩ | rfl) fun a55 hA55 => ?_
      refine wl_guard _ hA55 rfl rfl rfl rfl (by decide) (fun hq ev h => by simp [go_sem, (h.get 11 rfl), K.cell, K7.cell, K10.cell]; try first | exact ⟨rfl, rfl⟩ | rfl) fun a56 hA56 => ?_
      refine wl_guard _ hA56 rfl rfl rfl rfl (by decide) (fun hq ev h => by simp [go_sem, ((h.get 52 rfl).trans (gw_t (beq_t hq))), K.cell, K7.cell, K10.cell]; try first | exact ⟨rfl, rfl⟩ | rfl) fun a57 hA57 => ?_
      refine wl_guard _ hA57 rfl rfl rfl rfl (by decide) (fun hq ev h => by simp [go_sem, ((h.get 51 rfl).trans (gw_t (beq_t hq))), ((h.get 53 rfl).trans (gw_t (beq_t hq))), K.cell, K7.cell, K10.cell]; try first | exact ⟨rfl, rfl⟩ | rfl) fun a58 hA58 => ?_
      refine wl_op hA58 rfl rfl (by decide) (fun ev h => by first | exact pick_and rfl (h.get 49 rfl) (h.c _) (h.get 54 rfl) | exact pick_or rfl (h.get 49 rfl) (h.c _) (h.get 54 rfl) | (simp [go_sem, h.c, h.get 49 rfl, h.get 54 rfl, K.cell, K7.cell, K10.cell, gv_or, gv_and]; try first | exact ⟨rfl, rfl⟩ | rfl)) fun a59 hA59 => ?_
      refine wl_op hA59 rfl rfl (by decide) (fun ev h => by simp [go_sem, h.get 55 rfl, K.cell, K7.cell, K10.cell]; try first | exact ⟨rfl, rfl⟩ | rfl) fun a60 hA60 => ?_
      refine wl_guard _ hA60 rfl rfl rfl rfl (by decide) (fun hq ev h => by simp [go_sem, (h.get 7 rfl), K.cell, K7.cell, K10.cell]; try first | exact ⟨rfl, rfl⟩ | rfl) fun a61 hA61 => ?_
      refine wl_guard _ hA61 rfl rfl rfl rfl (by decide) (fun hq ev h => by simp [go_sem, ((h.get 57 rfl).trans (gw_t (beq_t hq))), K.cell, K7.cell, K10.cell]; try first | exact ⟨rfl, rfl⟩ | rfl) fun a62 hA62 => ?_
      refine wl_guard _ hA62 rfl rfl rfl rfl (by decide) (fun hq ev h => by simp [go_sem, (h.get 3 rfl), K.cell, K7.cell, K10.cell]; try first | exact ⟨rfl, rfl⟩ | rfl) fun a63 hA63 => ?_
      refine wl_guard _ hA63 rfl rfl rfl rfl (by decide) (fun hq ev h => by simp [go_sem, ((h.get 59 rfl).trans (gw_t (beq_t hq))), K.cell, K7.cell, K10.cell]; try first | exact ⟨rfl, rfl⟩ | rfl) fun a64 hA64 => ?_
      refine wl_guard _ hA64 rfl rfl rfl rfl (by decide) (fun hq ev h => by simp [go_sem, ((h.get 58 rfl).trans (gw_t (beq_t hq))), ((h.get 60 rfl).trans (gw_t (beq_t hq))), K.cell, K7.cell, K10.cell]; try first | exact ⟨rfl, rfl⟩ | rfl) fun a65 hA65 => ?_
      refine wl_op hA65 rfl rfl (by decide) (fun ev h => by first | exact pick_and rfl (h.get 56 rfl) (h.c _) (h.get 61 rfl) | exact pick_or rfl (h.get 56 rfl) (h.c _) (h.get 61 rfl) | (simp [go_sem, h.c, h.get 56 rfl, h.get 61 rfl, K.cell, K7.cell, K10.cell, gv_or, gv_and]; try first | exact ⟨rfl, rfl⟩ | rfl)) fun a66 hA66 => ?_
      refine wl_nil ?_
      refine n_then ?_
      have hA67 := hA66.keep [7, 8, 10, 11, 62]
      simp only [argsE, keepE, lookS, Nat.reduceBEq, cond_true, cond_false, Nat.reduceAdd, gv_tt, gv_ff, Bool.true_and, Bool.false_and, Bool.true_or, Bool.false_or] at hA67
      clear hA50 hA51 hA52 hA53 hA54 hA55 hA56 hA57 hA58 hA59 hA60 hA61 hA62 hA63 hA64 hA65 hA66 a49 a51 a52 a53 a54 a55 a56 a57 a58 a59 a60 a61 a62 a63 a64 a65
      -- cond
      refine wp_if hA67 62 _ rfl (fun hq => ?yC) (fun hq => ?nC)
      case yC =>
        exfalso
        simp at hq
      case nC =>
        clear hq
        refine wp_skip ?_
        refine n_then ?_
        refine wp_seq ?_
        refine wp_seq ?_
        refine wp_region_lit ?_
        refine wl_op hA67 rfl rfl (by decide) (fun ev h => by simp [go_sem, h.get 8 rfl, K.cell, K7.cell, K10.cell]; try first | exact ⟨rfl, rfl⟩ | rfl) fun a68 hA68 => ?_
        refine wl_op hA68 rfl rfl (by decide) (fun ev h => by simp [go_sem, h.get 63 rfl, K.cell, K7.cell, K10.cell]; try first | exact ⟨rfl, rfl⟩ | rfl) fun a69 hA69 => ?_
        refine wl_op hA69 rfl rfl (by decide) (fun ev h => by simp [go_sem, h.c, K.cell, K7.cell, K10.cell]; try first | exact ⟨rfl, rfl⟩ | rfl) fun a70 hA70 => ?_
        refine wl_nil ?_
        refine n_then ?_
        have hA71 := hA70.keep [7, 8, 10, 11, 64, 65]
        simp only [argsE, keepE, lookS, Nat.reduceBEq, cond_true, cond_false, Nat.reduceAdd, gv_tt, gv_ff, Bool.true_and, Bool.false_and, Bool.true_or, Bool.false_or] at hA71
        clear hA67 hA68 hA69 hA70 a68 a69
        refine wp_block ?_
        -- loop
        refine wp_loop_at (fun kk a wx => ∃ (j : Nat), j + kk = gs.length ∧ At 81 [(7, .pointer (some ⟨w5.heap.size, 0, none⟩)), (8, .slice Ag gs.length cg), (10, .pointer (some ⟨w8.heap.size, 0, none⟩)), (11, .slice Ah gs.length ch), (64, .int .i64 (gs.length : Nat)), (65, .int .i64 (j : Nat))] a ∧ Below w9.heap.size w9 wx) (gs.length) ?_ ?_
        · exact ⟨0, by omega, hA71, Below.refl _ _⟩
        rintro kk a wx ⟨j, hjk, hA, HX⟩
        refine wp_seq ?_
        refine wp_region_lit ?_
        refine wl_op hA rfl rfl (by decide) (fun ev h => by simp [go_sem, h.get 65 rfl, h.get 64 rfl]; try first | exact ⟨rfl, rfl⟩ | rfl) fun a72 hA72 => ?_
        refine wl_nil ?_
        refine n_then ?_
        have hA73 := hA72.keep [7, 8, 10, 11, 64, 65, 66]
        simp only [argsE, keepE, lookS, Nat.reduceBEq, cond_true, cond_false, Nat.reduceAdd, gv_tt, gv_ff, Bool.true_and, Bool.false_and, Bool.true_or, Bool.false_or] at hA73
        clear hA hA72
        refine wp_seq ?_
        -- cond
        refine wp_if hA73 66 _ rfl (fun hq => ?yL) (fun hq => ?nL)
        case yL =>
          have hlt : j < gs.length := by simp at hq; omega
          obtain ⟨x, hx⟩ : ∃ x, gs[j]? = some x := ⟨_, List.getElem?_eq_getElem (by omega)⟩
          obtain ⟨ad, rfl, had, z0⟩ := u32s_at hrg rfl hx
          obtain ⟨ad2, rfl, had2, y0⟩ := u32s_at hrh rfl hx
          have jj0 : (0 : Int) ≤ (j : Int) := by omega
          have jj1 : (j : Int) < (gs.length : Int) := by omega
          have hwj : IntKind.i64.wrap ((j : Int) + 1) = (j : Int) + 1 := IntWalk.i64_in _ (by omega)
          refine wp_skip ?_
          refine n_then ?_
          refine wp_seq ?_
          refine wp_block ?_
          refine wp_seq ?_
          refine wp_region_lit ?_
          refine wl_op hA73 rfl rfl (by decide) (fun ev h => by simp [go_sem, h.get 65 rfl]; try first | exact ⟨rfl, rfl⟩ | rfl) fun a74 hA74 => ?_
          refine wl_op hA74 rfl rfl (by decide) (fun ev h => by simp [go_sem, h.get 67 rfl]; try first | exact ⟨rfl, rfl⟩ | rfl) fun a75 hA75 => ?_
          refine wl_nil ?_
          refine n_then ?_
          have hA76 := hA75.keep [7, 8, 10, 11, 12, 64, 65]
          simp only [argsE, keepE, lookS, Nat.reduceBEq, cond_true, cond_false, Nat.reduceAdd, gv_tt, gv_ff, Bool.true_and, Bool.false_and, Bool.true_or, Bool.false_or] at hA76
          clear hA73 hA74 hA75 a74
          refine wp_seq ?_
          -- any
          refine wp_any_at hA76 [(.det ?dD0), (.det ?dD1), (.det ?dD2), (.det ?dD3), (.det ?dD4), (.det ?dD5), (.det ?dD6), (.det ?dD7), (.det ?dD8)] [] (fun wy => Below w9.heap.size w9 wy) (TSp [] Grows) (by kernel_rfl) rfl (by kernel_rfl) (by kernel_rfl) rfl (HX.drew) (stab_sp [] [true, true, true, true, true, true, true, true, true] [true, true, true, true, true, true, true, true, true] [] rfl rfl rfl (by kernel_rfl) ⟨trivial, trivial, trivial, trivial, trivial, trivial, trivial, trivial, trivial, trivial⟩ trivial) (fun _ h => by cases h) (fun _ _ _ _ h => by cases h) (fun _ h => by cases h) ⟨?oD0, ?oD1, ?oD2, ?oD3, ?oD4, ?oD5, ?oD6, ?oD7, ?oD8, trivial⟩ ?fD
          case oD0 =>
            intro ev wo hev hC hs hph
            have e8 := see_env hA76 hs 8 (by kernel_rfl) (by kernel_rfl) rfl
            exact ob_det (wanted_none rfl) rfl (by kernel_rfl) hC (TSp.of rfl (Grows.refl _)) (by simp [go_sem, e8]; try first | exact ⟨rfl, rfl⟩ | rfl)
          case oD1 =>
            intro ev wo hev hC hs hph
            have e12 := see_env hA76 hs 12 (by kernel_rfl) (by kernel_rfl) rfl
            exact ob_det (wanted_none rfl) rfl (by kernel_rfl) hC (TSp.of rfl (Grows.refl _)) (by simp [go_sem, e12]; try first | exact ⟨rfl, rfl⟩ | rfl)
          case oD2 =>
            intro ev wo hev hC hs hph
            have e68 := see_det hs 68 0 (by kernel_rfl) (by kernel_rfl) rfl
            have e69 := see_det hs 69 1 (by kernel_rfl) (by kernel_rfl) rfl
            have z := (hC.cell (p := ad.add j) (by rw [block_of_add]; exact had)).trans z0
            have y := (hC.cell (p := ad2.add j) (by rw [block_of_add]; exact had2)).trans y0
            exact ob_det (wanted_none rfl) rfl (by kernel_rfl) hC (TSp.of rfl (Grows.refl _)) (by simp [go_sem, e68, e69, jj0, jj1]; try first | exact ⟨rfl, rfl⟩ | rfl)
          case oD3 =>
            intro ev wo hev hC hs hph
            have e70 := see_det hs 70 2 (by kernel_rfl) (by kernel_rfl) rfl
            have z := (hC.cell (p := ad.add j) (by rw [block_of_add]; exact had)).trans z0
            have y := (hC.cell (p := ad2.add j) (by rw [block_of_add]; exact had2)).trans y0
            exact ob_det (wanted_none rfl) rfl (by kernel_rfl) hC (TSp.of rfl (Grows.refl _)) (by simp [go_sem, e70, z, y]; try first | exact ⟨rfl, rfl⟩ | rfl)
          case oD4 =>
            intro ev wo hev hC hs hph
            have e11 := see_env hA76 hs 11 (by kernel_rfl) (by kernel_rfl) rfl
            exact ob_det (wanted_none rfl) rfl (by kernel_rfl) hC (TSp.of rfl (Grows.refl _)) (by simp [go_sem, e11]; try first | exact ⟨rfl, rfl⟩ | rfl)
          case oD5 =>
            intro ev wo hev hC hs hph
            have e12 := see_env hA76 hs 12 (by kernel_rfl) (by kernel_rfl) rfl
            exact ob_det (wanted_none rfl) rfl (by kernel_rfl) hC (TSp.of rfl (Grows.refl _)) (by simp [go_sem, e12]; try first | exact ⟨rfl, rfl⟩ | rfl)
          case oD6 =>
            intro ev wo hev hC hs hph
            have e72 := see_det hs 72 4 (by kernel_rfl) (by kernel_rfl) rfl
            have e73 := see_det hs 73 5 (by kernel_rfl) (by kernel_rfl) rfl
            have z := (hC.cell (p := ad.add j) (by rw [block_of_add]; exact had)).trans z0
            have y := (hC.cell (p := ad2.add j) (by rw [block_of_add]; exact had2)).trans y0
            exact ob_det (wanted_none rfl) rfl (by kernel_rfl) hC (TSp.of rfl (Grows.refl _)) (by simp [go_sem, e72, e73, jj0, jj1]; try first | exact ⟨rfl, rfl⟩ | rfl)
          case oD7 =>
            intro ev wo hev hC hs hph
            have e74 := see_det hs 74 6 (by kernel_rfl) (by kernel_rfl) rfl
            have z := (hC.cell (p := ad.add j) (by rw [block_of_add]; exact had)).trans z0
            have y := (hC.cell (p := ad2.add j) (by rw [block_of_add]; exact had2)).trans y0
            exact ob_det (wanted_none rfl) rfl (by kernel_rfl) hC (TSp.of rfl (Grows.refl _)) (by simp [go_sem, e74, z, y]; try first | exact ⟨rfl, rfl⟩ | rfl)
          case oD8 =>
            intro ev wo hev hC hs hph
            have e71 := see_det hs 71 3 (by kernel_rfl) (by kernel_rfl) rfl
            have e75 := see_det hs 75 7 (by kernel_rfl) (by kernel_rfl) rfl
            exact ob_det (wanted_none rfl) rfl (by kernel_rfl) hC (TSp.of rfl (Grows.refl _)) (by simp [go_sem, e71, e75]; try first | exact ⟨rfl, rfl⟩ | rfl)
          intro wf hC hph
          intro a77 hA77
          refine n_then ?_
          have hA78 := hA77.keep [7, 8, 10, 11, 64, 65, 76]
          simp only [argsE, keepE, lookS, Nat.reduceBEq, cond_true, cond_false, Nat.reduceAdd, gv_tt, gv_ff, Bool.true_and, Bool.false_and, Bool.true_or, Bool.false_or] at hA78
          clear hA76 hA77 a75
          refine wp_if hA78 76 _ rfl (fun hq2 => ?yR) (fun hq2 => ?nR)
          case yR =>
            exfalso
            simp at hq2
          case nR =>
            refine wp_skip ?_
            refine n_block ?_
            refine n_then ?_
            refine wp_region_lit ?_
            refine wl_op hA78 rfl rfl (by decide) (fun ev h => by simp [go_sem, h.c, h.get 65 rfl, hwj]; try first | exact ⟨rfl, rfl⟩ | rfl) fun a79 hA79 => ?_
            refine wl_op hA79 rfl rfl (by decide) (fun ev h => by simp [go_sem, h.get 77 rfl, hwj]; try first | exact ⟨rfl, rfl⟩ | rfl) fun a80 hA80 => ?_
            refine wl_nil ?_
            refine n_then ?_
            have hA81 := hA80.keep [7, 8, 10, 11, 64, 65]
            simp only [argsE, keepE, lookS, Nat.reduceBEq, cond_true, cond_false, Nat.reduceAdd, gv_tt, gv_ff, Bool.true_and, Bool.false_and, Bool.true_or, Bool.false_or] at hA81
            clear hA78 hA79 hA80 a79
            -- round
            rw [show ((j : Int) + 1) = ((j + 1 : Nat) : Int) by omega] at hA81
            exact ⟨kk - 1, by omega, j + 1, by omega, hA81, hC⟩
        case nL =>
          refine wp_exit ?_
          refine x_then ?_
          refine x_then ?_
          refine x_block ?_
          refine n_then ?_
          have hA82 := hA73.keep [7, 10]
          simp only [argsE, keepE, lookS, Nat.reduceBEq, cond_true, cond_false, Nat.reduceAdd, gv_tt, gv_ff, Bool.true_and, Bool.false_and, Bool.true_or, Bool.false_or] at hA82
          clear hA73
          refine wp_seq ?_
          refine wp_region_lit ?_
          refine wl_op hA82 rfl rfl (by decide) (fun ev h => by simp [go_sem, h.get 7 rfl, (K7.below HX K7.lt).cell, (K10.below HX K10.lt).cell]; try first | exact ⟨rfl, rfl⟩ | rfl) fun a83 hA83 => ?_
          refine wl_op hA83 rfl rfl (by decide) (fun ev h => by simp [go_sem, h.get 10 rfl, (K7.below HX K7.lt).cell, (K10.below HX K10.lt).cell]; try first | exact ⟨rfl, rfl⟩ | rfl) fun a84 hA84 => ?_
          -- stop call slot 80
          refine wl_call hA84 rfl rfl (by decide) (fun ev h => by simp [go_sem, h.get 78 rfl, h.get 79 rfl, (K7.below HX K7.lt).cell, (K10.below HX K10.lt).cell, h.f]; try first | exact ⟨rfl, rfl⟩ | rfl) (refSameBox_any nm nm A1 A3 c1 c3 l1.length l2.length e e nx nx l1 l2 _ (by omega) (hm1.below HX) (hm2.below HX)) ?_
          rintro e w11 ⟨rfl, hb11⟩
          refine ⟨_, rfl, fun a85 hA85 => ?_⟩
          refine wl_op hA85 rfl rfl (by decide) (fun ev h => by simp [go_sem, h.get 80 rfl, (K7.below HX K7.lt).cell, (K10.below HX K10.lt).cell]; try first | exact ⟨rfl, rfl⟩ | rfl) fun a86 hA86 => ?_
          refine wl_nil ?_
          refine n_then ?_
          have hA87 := hA86.keep [6]
          simp only [argsE, keepE, lookS, Nat.reduceBEq, cond_true, cond_false, Nat.reduceAdd, gv_tt, gv_ff, Bool.true_and, Bool.false_and, Bool.true_or, Bool.false_or] at hA87
          clear hA82 hA83 hA84 hA85 hA86 a83 a84 a85
          refine wp_ret ?_
          -- ret
          refine ret_1 hA87 6 rfl rfl ?_
          exact ⟨ret_bool (boxSame_of (hbl1.trans hbl2.symm)), (HB.trans (HX.mono HB.size)).trans (hb11.mono (Nat.le_trans HB.size HX.size))⟩
end Go.Proofs.YtbbhblnhbgkcaaaDoor
