/-
  Walk: the law MailStores.
-/
import Derived.Test.YtbbhblnhbgkcaaaDoorMailRefStore
import Derived.Test.YtbbhblnhbgkcaaaDoorMailRightW
import Derived.Test.YtbbhblnhbgkcaaaDoorMailArgs
namespace Go.Proofs.YtbbhblnhbgkcaaaDoor
open Go.RowKit
set_option linter.unusedSimpArgs false
set_option linter.unusedVariables false
theorem lastU_chg (us : List Nat) (by_ how : Int) (l : List MsgV) : ∀ j, lastU (l.map (chg us by_ how)) j = lastU l j
  | 0 => rfl
  | j + 1 => by
    show (match (l.map (chg us by_ how))[j]? with | some y => y.uid | none => 0) = (match l[j]? with | some y => y.uid | none => 0)
    rw [List.getElem?_map]
    cases l[j]? with
    | none => rfl
    | some m => exact chg_uid us by_ how m
theorem fits_chg (us : List Nat) (by_ how : Int) (m : MsgV) (h : fitsV m = true) : fitsV (chg us by_ how m) = true := by
  unfold chg
  cases inU us m.uid with
  | false => exact h
  | true =>
    rw [cond_true]
    have h2 := chSum_lt m.flags by_ how 5
    unfold fitsV fitsDF at h ⊢
    simp only [Bool.and_eq_true, decide_eq_true_eq] at h ⊢
    unfold changeV
    exact ⟨⟨h.1.1, by omega⟩, by omega⟩
theorem boxRight_store {nm : ByteArray} {e nx : Nat} {l l1 : List MsgV} {us : List Nat} {by_ how : Int} (h : boxRight nm e nx l = true) (hl : bare l1 = (bare l).map (chg us by_ how)) : boxRight nm e nx l1 = true := by
  rw [← boxRight_bare, hl]
  rw [← boxRight_bare] at h
  generalize bare l = l at *
  unfold boxRight at h ⊢
  simp only [Bool.and_eq_true, decide_eq_true_eq, List.length_map] at h ⊢
  refine ⟨h.1, ?_⟩
  unfold msgsN
  rw [List.all_eq_true]
  intro j hj
  rw [List.mem_range] at hj
  unfold msgAt
  rw [List.getElem?_map, List.getElem?_eq_getElem hj]
  have h6 := msgs_at (List.getElem?_eq_getElem hj) h.2
  show msgStep nx (l.map (chg us by_ how)) j (chg us by_ how l[j]) = true
  unfold msgStep at h6 ⊢
  rw [lastU_chg, chg_uid, chg_b]
  simp only [Bool.and_eq_true] at h6 ⊢
  exact ⟨⟨h6.1.1, fits_chg us by_ how _ h6.1.2⟩, h6.2⟩
set_option maxRecDepth 100000 in
set_option maxHeartbeats 2000000 in
theorem stores_law (nm : ByteArray) (A A2 : Option Addr) (c n e nx c2 k : Nat) (l : List MsgV) (us : List Nat) (by_ how : Int) (w : World) (hm : MaxCell w) (hg : 1 < w.heap.size) (htab : Lib.TabIs Tryd.prog w "internal/strconv.uint64pow10" .u64 Lib.pow10Tab)
    (hs : nm.size ≤ 140737488355328) (hn : n ≤ 140737488355328) (hz : ∀ m ∈ l, m.b.length ≤ 140737488355328) (hms : Msgs w A n l) (hk : k ≤ 140737488355328) (hus : us.length = k) (hur : Reads w w.heap.size 1 A2 k (u32s us)) :
    Calls Tryd.prog 5 #[.agg (boxC nm e nx A n c), .slice A2 k c2, .int .i64 by_, .int .i64 how] w fun ev w' => ev = .returned (.bool true) ∧ Below w.heap.size w w' := by
  have Ht := Lib.tabBelow_of_tabIs htab
  have hl := hms.len
  refine calls_at 48 Tryd.func5 rfl rfl (Nat.le_of_ble_eq_true rfl) ?_
  intro a hA
  simp only [argsE, keepE, lookS, Nat.reduceBEq, cond_true, cond_false, Nat.reduceAdd, gv_tt, gv_ff, Bool.true_and, Bool.false_and, Bool.true_or, Bool.false_or] at hA
  refine wp_seq ?_
  refine wp_region_lit ?_
  -- stop box slot 4
  refine wl_new hA rfl rfl (by decide) (fun ev h => by simp [go_sem, h.get 0 rfl]; try first | exact ⟨rfl, rfl⟩ | rfl) fun w1 a1 (K : Blk _ _ _ _) hzz0 hb0 hA1 => ?_
  replace hm := hm.below hg hb0; replace hg := Nat.lt_of_lt_of_le hg hb0.size
  replace hms := hms.below hb0
  replace hur := (hur.below hb0).more hb0.size
  have HB := hb0
  unfold boxC at K
  refine wl_op hA1 rfl rfl (by decide) (fun ev h => by simp [go_sem, h.c, K.cell]; try first | exact ⟨rfl, rfl⟩ | rfl) fun a2 hA2 => ?_
  refine wl_nil ?_
  refine n_then ?_
  have hA3 := hA2.keep [1, 2, 3, 4]
  simp only [argsE, keepE, lookS, Nat.reduceBEq, cond_true, cond_false, Nat.reduceAdd, gv_tt, gv_ff, Bool.true_and, Bool.false_and, Bool.true_or, Bool.false_or] at hA3
  clear hA hA1 hA2 a1
  refine wp_seq ?_
  refine wp_seq ?_
  refine wp_region_lit ?_
  -- stop call slot 11
  refine wl_call hA3 rfl rfl (by decide) (fun ev h => by simp [go_sem, K.cell, h.f]; try first | exact ⟨rfl, rfl⟩ | rfl) (awake_any _ hm hg (Ht _ HB)) ?_
  rintro e w3 ⟨rfl, hb3⟩
  refine ⟨_, rfl, fun a4 hA4 => ?_⟩
  replace hm := hm.below hg hb3; replace hg := Nat.lt_of_lt_of_le hg hb3.size
  replace hms := hms.below hb3
  replace hur := (hur.below hb3).more hb3.size
  replace K := K.below hb3 K.lt
  replace HB := HB.trans (hb3.mono HB.size)
  refine wl_op hA4 rfl rfl (by decide) (fun ev h => by simp [go_sem, h.get 11 rfl, K.cell]; try first | exact ⟨rfl, rfl⟩ | rfl) fun a5 hA5 => ?_
  refine wl_op hA5 rfl rfl (by decide) (fun ev h => by simp [go_sem, h.get 12 rfl, K.cell]; try first | exact ⟨rfl, rfl⟩ | rfl) fun a6 hA6 => ?_
  refine wl_guard _ hA6 rfl rfl rfl rfl (by decide) (fun hq ev h => by simp [go_sem, (h.get 4 rfl), K.cell]; try first | exact ⟨rfl, rfl⟩ | rfl) fun a7 hA7 => ?_
  refine wl_guard _ hA7 rfl rfl rfl rfl (by decide) (fun hq ev h => by simp [go_sem, (h.get 1 rfl), K.cell]; try first | exact ⟨rfl, rfl⟩ | rfl) fun a8 hA8 => ?_
  -- stop call slot 16
  refine wl_gcallv _ hA8 rfl rfl rfl rfl (by decide) (fun hq ev h => by simp [go_sem, ((h.get 14 rfl).trans (gw_t (beq_t hq))), ((h.get 15 rfl).trans (gw_t (beq_t hq))), K.cell, h.f]; try first | exact ⟨rfl, rfl⟩ | rfl) (fun hq => few_any nm A A2 c n e nx k c2 l _ hs hn hz hms) fun a9 w4 hb4 hA9 => ?_
  replace hm := hm.below hg hb4; replace hg := Nat.lt_of_lt_of_le hg hb4.size
  replace hms := hms.below hb4
  replace hur := (hur.below hb4).more hb4.size
  replace K := K.below hb4 K.lt
  replace HB := HB.trans (hb4.mono HB.size)
  refine wl_guard _ hA9 rfl rfl rfl rfl (by decide) (fun hq ev h => by simp [go_sem, ((h.get 16 rfl).trans (gw_t (beq_t hq))), K.cell]; try first | exact ⟨rfl, rfl⟩ | rfl) fun a10 hA10 => ?_
  refine wl_op hA10 rfl rfl (by decide) (fun ev h => by first | exact pick_and rfl (h.get 13 rfl) (h.c _) (h.get 17 rfl) | exact pick_or rfl (h.get 13 rfl) (h.c _) (h.get 17 rfl) | (simp [go_sem, h.c, h.get 13 rfl, h.get 17 rfl, K.cell, gv_or, gv_and]; try first | exact ⟨rfl, rfl⟩ | rfl)) fun a11 hA11 => ?_
  refine wl_nil ?_
  refine n_then ?_
  have hA12 := hA11.keep [1, 2, 3, 4, 18]
  simp only [argsE, keepE, lookS, Nat.reduceBEq, cond_true, cond_false, Nat.reduceAdd, gv_tt, gv_ff, Bool.true_and, Bool.false_and, Bool.true_or, Bool.false_or] at hA12
  clear hA3 hA4 hA5 hA6 hA7 hA8 hA9 hA10 hA11 a2 a4 a5 a6 a7 a8 a9 a10
  -- cond
  refine wp_if hA12 18 _ rfl (fun hq => ?yA) (fun hq => ?nA)
  case yA =>
    refine wp_seq ?_
    refine wp_region_lit ?_
    -- stop call slot 19
    refine wl_call hA12 rfl rfl (by decide) (fun ev h => by simp [go_sem, K.cell, h.f]; try first | exact ⟨rfl, rfl⟩ | rfl) (awake_any _ hm hg (Ht _ HB)) ?_
    rintro e w6 ⟨rfl, hb6⟩
    refine ⟨_, rfl, fun a13 hA13 => ?_⟩
    replace hm := hm.below hg hb6; replace hg := Nat.lt_of_lt_of_le hg hb6.size
    replace hms := hms.below hb6
    replace hur := (hur.below hb6).more hb6.size
    replace K := K.below hb6 K.lt
    replace HB := HB.trans (hb6.mono HB.size)
    refine wl_op hA13 rfl rfl (by decide) (fun ev h => by simp [go_sem, h.get 19 rfl, K.cell]; try first | exact ⟨rfl, rfl⟩ | rfl) fun a14 hA14 => ?_
    refine wl_nil ?_
    refine n_then ?_
    have hA15 := hA14.keep [8]
    simp only [argsE, keepE, lookS, Nat.reduceBEq, cond_true, cond_false, Nat.reduceAdd, gv_tt, gv_ff, Bool.true_and, Bool.false_and, Bool.true_or, Bool.false_or] at hA15
    clear hA12 hA13 hA14 a13
    refine wp_ret ?_
    refine r_then ?_
    -- ret
    refine ret_1 hA15 8 rfl rfl ?_
    exact ⟨rfl, HB⟩
  case nA =>
    have hf1 : fewL nm l = true := by simp at hq; exact hq.1
    have hn6 : n ≤ 60000 := by
      unfold fewL at hf1
      have := wt_len l
      simp at hf1
      omega
    clear hq
    obtain ⟨b', u, hap⟩ : ∃ b' u, stV nm e nx l us by_ how = (b', u) := ⟨_, _, rfl⟩
    have N := store_any nm A A2 c n e nx c2 k l us by_ how _ hm hg (Ht _ HB) (by omega) hn hms hk hus hur
    rw [hap] at N
    simp only at N
    unfold boxC at N
    refine wp_skip ?_
    refine n_then ?_
    refine wp_seq ?_
    refine wp_region_lit ?_
    refine wl_op hA12 rfl rfl (by decide) (fun ev h => by simp [go_sem, h.get 4 rfl, K.cell]; try first | exact ⟨rfl, rfl⟩ | rfl) fun a16 hA16 => ?_
    refine wl_op hA16 rfl rfl (by decide) (fun ev h => by simp [go_sem, h.get 1 rfl, K.cell]; try first | exact ⟨rfl, rfl⟩ | rfl) fun a17 hA17 => ?_
    refine wl_op hA17 rfl rfl (by decide) (fun ev h => by simp [go_sem, h.get 2 rfl, K.cell]; try first | exact ⟨rfl, rfl⟩ | rfl) fun a18 hA18 => ?_
    refine wl_op hA18 rfl rfl (by decide) (fun ev h => by simp [go_sem, h.get 3 rfl, K.cell]; try first | exact ⟨rfl, rfl⟩ | rfl) fun a19 hA19 => ?_
    -- stop call slot 25
    refine wl_call hA19 rfl rfl (by decide) (fun ev h => by simp [go_sem, h.get 21 rfl, h.get 22 rfl, h.get 23 rfl, h.get 24 rfl, K.cell, h.f]; try first | exact ⟨rfl, rfl⟩ | rfl) (N) ?_
    rintro e w5 ⟨r, rfl, ⟨v, l1, rfl, ho1, hbl1⟩, hb5⟩
    refine ⟨_, rfl, fun a20 hA20 => ?_⟩
    replace hm := hm.below hg hb5; replace hg := Nat.lt_of_lt_of_le hg hb5.size
    replace hms := hms.below hb5
    replace hur := (hur.below hb5).more hb5.size
    replace K := K.below hb5 K.lt
    replace HB := HB.trans (hb5.mono HB.size)
    clear N
    obtain ⟨A1, c1, hv, hm1, _⟩ := ho1.msgs
    subst hv
    clear ho1
    refine wl_op hA20 rfl rfl (by decide) (fun ev h => by simp [go_sem, h.get 25 rfl, K.cell]; try first | exact ⟨rfl, rfl⟩ | rfl) fun a21 hA21 => ?_
    refine wl_op hA21 rfl rfl (by decide) (fun ev h => by simp [go_sem, h.get 20 rfl, K.cell]; try first | exact ⟨rfl, rfl⟩ | rfl) fun a22 hA22 => ?_
    refine wl_op hA22 rfl rfl (by decide) (fun ev h => by simp [go_sem, h.get 20 rfl, K.cell]; try first | exact ⟨rfl, rfl⟩ | rfl) fun a23 hA23 => ?_
    -- stop alloc slot 9
    refine wl_local [.string b'.nm, .int .u32 (b'.e : Nat), .int .u32 (b'.nx : Nat), .slice A1 l1.length c1] hA23 rfl rfl (by decide) (fun ev h => by simp [go_sem, K.cell]; try first | exact ⟨rfl, rfl⟩ | rfl) rfl rfl (by rfl) (fun w1 g ev hb h => by simp [go_sem, h.get 9 rfl, h.get 26 rfl, K.cell, setAll, hb.cell, hb.frozen]) fun w6 a24 (K5 : Blk _ _ _ _) hzz6 hb6 hA24 => ?_
    replace hms := hms.below hb6
    replace hur := (hur.below hb6).more hb6.size
    replace K := K.below hb6 K.lt
    replace HB := HB.trans (hb6.mono HB.size)
    replace hm1 := hm1.below hb6
    refine wl_op hA24 rfl rfl (by decide) (fun ev h => by simp [go_sem, h.get 27 rfl, K.cell]; try first | exact ⟨rfl, rfl⟩ | rfl) fun a25 hA25 => ?_
    refine wl_nil ?_
    refine n_then ?_
    have hA26 := hA25.keep [1, 2, 3, 4, 9, 10]
    simp only [argsE, keepE, lookS, Nat.reduceBEq, cond_true, cond_false, Nat.reduceAdd, gv_tt, gv_ff, Bool.true_and, Bool.false_and, Bool.true_or, Bool.false_or] at hA26
    clear hA12 hA16 hA17 hA18 hA19 hA20 hA21 hA22 hA23 hA24 hA25 a16 a17 a18 a19 a20 a21 a22 a23 a24
    refine wp_seq ?_
    refine wp_seq ?_
    refine wp_region_lit ?_
    refine wl_op hA26 rfl rfl (by decide) (fun ev h => by simp [go_sem, h.get 4 rfl, K.cell]; try first | exact ⟨rfl, rfl⟩ | rfl) fun a27 hA27 => ?_
    -- stop call slot 29
    refine wl_call hA27 rfl rfl (by decide) (fun ev h => by simp [go_sem, h.get 28 rfl, K.cell, h.f]; try first | exact ⟨rfl, rfl⟩ | rfl) (refRight_any nm A c n e nx l _ (by omega) (by omega) hms) ?_
    rintro e w7 ⟨rfl, hb7⟩
    refine ⟨_, rfl, fun a28 hA28 => ?_⟩
    replace hms := hms.below hb7
    replace hur := (hur.below hb7).more hb7.size
    replace K := K.below hb7 K.lt
    replace HB := HB.trans (hb7.mono HB.size)
    replace hm1 := hm1.below hb7
    replace K5 := K5.below hb7 K5.lt
    refine wl_op hA28 rfl rfl (by decide) (fun ev h => by simp [go_sem, h.get 29 rfl, K.cell]; try first | exact ⟨rfl, rfl⟩ | rfl) fun a29 hA29 => ?_
    refine wl_nil ?_
    refine n_then ?_
    have hA30 := hA29.keep [1, 2, 3, 4, 9, 10, 30]
    simp only [argsE, keepE, lookS, Nat.reduceBEq, cond_true, cond_false, Nat.reduceAdd, gv_tt, gv_ff, Bool.true_and, Bool.false_and, Bool.true_or, Bool.false_or] at hA30
    clear hA26 hA27 hA28 hA29 a25 a27 a28
    -- cond
    refine wp_if hA30 30 _ rfl (fun hq => ?yB) (fun hq => ?nB)
    case yB =>
      have hap2 : stV nm e nx l us by_ how = (zeroB, 1) := by unfold stV; rw [hq]; rfl
      rw [hap2] at hap
      injection hap with _ e2
      subst e2
      refine wp_seq ?_
      refine wp_region_lit ?_
      refine wl_op hA30 rfl rfl (by decide) (fun ev h => by simp [go_sem, h.get 10 rfl, K.cell]; try first | exact ⟨rfl, rfl⟩ | rfl) fun a31 hA31 => ?_
      refine wl_op hA31 rfl rfl (by decide) (fun ev h => by simp [go_sem, h.c, h.get 31 rfl, K.cell]; try first | exact ⟨rfl, rfl⟩ | rfl) fun a32 hA32 => ?_
      refine wl_op hA32 rfl rfl (by decide) (fun ev h => by simp [go_sem, h.get 32 rfl, K.cell]; try first | exact ⟨rfl, rfl⟩ | rfl) fun a33 hA33 => ?_
      refine wl_nil ?_
      refine n_then ?_
      have hA34 := hA33.keep [8]
      simp only [argsE, keepE, lookS, Nat.reduceBEq, cond_true, cond_false, Nat.reduceAdd, gv_tt, gv_ff, Bool.true_and, Bool.false_and, Bool.true_or, Bool.false_or] at hA34
      clear hA30 hA31 hA32 hA33 a31 a32
      refine wp_ret ?_
      refine r_then ?_
      refine ret_1 hA34 8 rfl rfl ?_
      exact ⟨rfl, HB⟩
    case nB =>
      have hap2 : stV nm e nx l us by_ how = (storeV nm e nx l us by_ how, 0) := by unfold stV; rw [hq]; rfl
      have hri : boxRight nm e nx l = true := by simpa using hq
      rw [hap2] at hap
      injection hap with e1 e2
      subst e1 e2
      have hl1 : l1.length = n := by rw [← bare_len, hbl1, ← hl]; unfold storeV; simp [bare]
      have hR : boxRight nm e nx l1 = true := boxRight_store hri hbl1
      unfold storeV at K5
      clear hq
      refine wp_skip ?_
      refine n_then ?_
      refine wp_seq ?_
      refine wp_any_at hA30 [(.det ?dD0), (.det ?dD1), (.det ?dD2), (.det ?dD3), (.det ?dD4), (.det ?dD5), (.det ?dD6), (.det ?dD7), (.used (fun v wy => ∃ (A3 : Option Addr) (c3 : Nat) (l3 : List MsgV), v = .agg #[.string nm, .int .u32 (e : Nat), .int .u32 (nx : Nat), .slice A3 l3.length c3] ∧ Msgs wy A3 l3.length l3 ∧ bare l3 = (storeV nm e nx l us by_ how).l)), (.det (.bool true)), (.det ?dD10), (.det ?dD11), (.det ?dD12), (.det ?dD13), (.det ?dD14), (.det ?dD15)] [] (fun wy => Below w7.heap.size w7 wy) (TSp [] Grows) (by kernel_rfl) rfl (by kernel_rfl) (by kernel_rfl) rfl ((Below.refl w7.heap.size w7).drew) (stab_sp [] [true, true, true, true, true, true, true, true, false, true, true, true, true, true, true, true] [true, true, true, true, true, true, true, true, false, true, true, true, true, true, true, true] [] rfl rfl rfl (by kernel_rfl) ⟨trivial, trivial, trivial, trivial, trivial, trivial, trivial, trivial, (fun _ _ _ _ ⟨A3, c3, l3, h1, h2, h3⟩ hb => ⟨A3, c3, l3, h1, h2.below hb, h3⟩), trivial, trivial, trivial, trivial, trivial, trivial, trivial, trivial⟩ trivial) (fun _ h => by cases h) (fun _ _ _ _ h => by cases h) (fun _ h => by cases h) ⟨?oD0, ?oD1, ?oD2, ?oD3, ?oD4, ?oD5, ?oD6, ?oD7, ?oD8, ?oD9, ?oD10, ?oD11, ?oD12, ?oD13, ?oD14, ?oD15, trivial⟩ ?fD
      case oD0 =>
        intro ev wo hev hC hs hph
        have e10 := see_env hA30 hs 10 (by kernel_rfl) (by kernel_rfl) rfl
        exact ob_det (wanted_none rfl) rfl (by kernel_rfl) hC (TSp.of rfl (Grows.refl _)) (by simp [go_sem, e10]; try first | exact ⟨rfl, rfl⟩ | rfl)
      case oD1 =>
        intro ev wo hev hC hs hph
        have e33 := see_det hs 33 0 (by kernel_rfl) (by kernel_rfl) rfl
        exact ob_det (wanted_none rfl) rfl (by kernel_rfl) hC (TSp.of rfl (Grows.refl _)) (by simp [go_sem, e33, hev.const]; try first | exact ⟨rfl, rfl⟩ | rfl)
      case oD2 =>
        intro ev wo hev hC hs hph
        have e34 := see_det hs 34 1 (by kernel_rfl) (by kernel_rfl) rfl
        exact ob_det (wanted_none rfl) rfl (by kernel_rfl) hC (TSp.of rfl (Grows.refl _)) (by simp [go_sem, e34]; try first | exact ⟨rfl, rfl⟩ | rfl)
      case oD3 =>
        intro ev wo hev hC hs hph
        have e9 := see_env hA30 hs 9 (by kernel_rfl) (by kernel_rfl) rfl
        have e35 := see_det hs 35 2 (by kernel_rfl) (by kernel_rfl) rfl
        have Kx := K.below hC K.lt
        have Kx5 := K5.below hC K5.lt
        exact ob_gv _ rfl rfl e35 rfl (by kernel_rfl) hC (TSp.of rfl (Grows.refl _)) (fun hq => by simp [go_sem, e9, e35, Kx.cell, Kx5.cell, K.cell]; try first | exact ⟨rfl, rfl⟩ | rfl) (by rfl)
      case oD4 =>
        intro ev wo hev hC hs hph
        have e4 := see_env hA30 hs 4 (by kernel_rfl) (by kernel_rfl) rfl
        have e35 := see_det hs 35 2 (by kernel_rfl) (by kernel_rfl) rfl
        have Kx := K.below hC K.lt
        have Kx5 := K5.below hC K5.lt
        exact ob_gv _ rfl rfl e35 rfl (by kernel_rfl) hC (TSp.of rfl (Grows.refl _)) (fun hq => by simp [go_sem, e4, e35, Kx.cell, Kx5.cell, K.cell]; try first | exact ⟨rfl, rfl⟩ | rfl) (by rfl)
      case oD5 =>
        intro ev wo hev hC hs hph
        have e1 := see_env hA30 hs 1 (by kernel_rfl) (by kernel_rfl) rfl
        have e35 := see_det hs 35 2 (by kernel_rfl) (by kernel_rfl) rfl
        exact ob_gv _ rfl rfl e35 rfl (by kernel_rfl) hC (TSp.of rfl (Grows.refl _)) (fun hq => by simp [go_sem, e1, e35]; try first | exact ⟨rfl, rfl⟩ | rfl) (by rfl)
      case oD6 =>
        intro ev wo hev hC hs hph
        have e2 := see_env hA30 hs 2 (by kernel_rfl) (by kernel_rfl) rfl
        have e35 := see_det hs 35 2 (by kernel_rfl) (by kernel_rfl) rfl
        exact ob_gv _ rfl rfl e35 rfl (by kernel_rfl) hC (TSp.of rfl (Grows.refl _)) (fun hq => by simp [go_sem, e2, e35]; try first | exact ⟨rfl, rfl⟩ | rfl) (by rfl)
      case oD7 =>
        intro ev wo hev hC hs hph
        have e3 := see_env hA30 hs 3 (by kernel_rfl) (by kernel_rfl) rfl
        have e35 := see_det hs 35 2 (by kernel_rfl) (by kernel_rfl) rfl
        exact ob_gv _ rfl rfl e35 rfl (by kernel_rfl) hC (TSp.of rfl (Grows.refl _)) (fun hq => by simp [go_sem, e3, e35]; try first | exact ⟨rfl, rfl⟩ | rfl) (by rfl)
      case oD8 =>
        intro ev wo hev hC hs hph
        have e37 := see_det hs 37 4 (by kernel_rfl) (by kernel_rfl) rfl
        have e38 := see_det hs 38 5 (by kernel_rfl) (by kernel_rfl) rfl
        have e39 := see_det hs 39 6 (by kernel_rfl) (by kernel_rfl) rfl
        have e40 := see_det hs 40 7 (by kernel_rfl) (by kernel_rfl) rfl
        have e35 := see_det hs 35 2 (by kernel_rfl) (by kernel_rfl) rfl
        have Kx := K.below hC K.lt
        have Kx5 := K5.below hC K5.lt
        exact ob_yes (wanted_bool rfl rfl e35 rfl) (does_enter (by simp [go_sem, e37.trans (gw_t (beq_t rfl)), e38.trans (gw_t (beq_t rfl)), e39.trans (gw_t (beq_t rfl)), e40.trans (gw_t (beq_t rfl)), hev.func, hev.const]; try first | exact ⟨rfl, rfl⟩ | rfl) (Calls.mono (refStore_any nm A A2 c n e nx c2 k l us by_ how _ (by omega) (hms.below hC) hk hus ((hur.below hC).more hC.size)) (by
          rintro ev2 w9 ⟨r, rfl, ⟨v, l3, rfl, ho3, hbl3⟩, hb3⟩
          obtain ⟨A3, c3, hv, hm3, _⟩ := ho3.msgs
          subst hv
          exact ⟨_, rfl, hC.trans (hb3.mono hC.size), TSp.of rfl hb3, ⟨A3, c3, l3, rfl, hm3, hbl3⟩, no_start (by kernel_rfl)⟩)))
      case oD9 =>
        intro ev wo hev hC hs hph
        have e36 := see_det hs 36 3 (by kernel_rfl) (by kernel_rfl) rfl
        have u41 := see_used hs 41 8 (by kernel_rfl) (by kernel_rfl) rfl
        have e35 := see_det hs 35 2 (by kernel_rfl) (by kernel_rfl) rfl
        have Kx := K.below hC K.lt
        have Kx5 := K5.below hC K5.lt
        obtain ⟨A3, c3, l3, e41, hm3, hbl3⟩ := u41
        exact ob_yes (wanted_bool rfl rfl e35 rfl) (does_enter (by simp [go_sem, e36.trans (gw_t (beq_t rfl)), e41, hev.func, hev.const]; try first | exact ⟨rfl, rfl⟩ | rfl) (Calls.mono (refSameBox_any nm nm A1 A3 c1 c3 l1.length l3.length e e nx nx l1 l3 _ (by omega) (hm1.below hC) hm3) (by
          rintro ev2 w9 ⟨rfl, hb3⟩
          rw [boxSame_of (hbl1.trans hbl3.symm)]
          exact ⟨_, rfl, hC.trans (hb3.mono hC.size), TSp.of rfl hb3, rfl, no_start (by kernel_rfl)⟩)))
      case oD10 =>
        intro ev wo hev hC hs hph
        have e35 := see_det hs 35 2 (by kernel_rfl) (by kernel_rfl) rfl
        have e42 := see_det hs 42 9 (by kernel_rfl) (by kernel_rfl) rfl
        exact ob_det (wanted_none rfl) rfl (by kernel_rfl) hC (TSp.of rfl (Grows.refl _)) (by first | (refine (pick_and ?_ (e35) (e42) (hev.const _)); rfl) | (rw [pick_and _ (e35) (e42) (hev.const _)]; rfl) | (refine (pick_or ?_ (e35) (e42) (hev.const _)); rfl) | (rw [pick_or _ (e35) (e42) (hev.const _)]; rfl) | (simp [go_sem, e35, e42, hev.const]; try first | exact ⟨rfl, rfl⟩ | rfl))
      case oD11 =>
        intro ev wo hev hC hs hph
        have e43 := see_det hs 43 10 (by kernel_rfl) (by kernel_rfl) rfl
        exact ob_det (wanted_none rfl) rfl (by kernel_rfl) hC (TSp.of rfl (Grows.refl _)) (by simp [go_sem, e43]; try first | exact ⟨rfl, rfl⟩ | rfl)
      case oD12 =>
        intro ev wo hev hC hs hph
        have e9 := see_env hA30 hs 9 (by kernel_rfl) (by kernel_rfl) rfl
        have e44 := see_det hs 44 11 (by kernel_rfl) (by kernel_rfl) rfl
        have Kx := K.below hC K.lt
        have Kx5 := K5.below hC K5.lt
        exact ob_gv _ rfl rfl e44 rfl (by kernel_rfl) hC (TSp.of rfl (Grows.refl _)) (fun hq => by simp [go_sem, e9, e44, Kx.cell, Kx5.cell, K.cell]; try first | exact ⟨rfl, rfl⟩ | rfl) (by rfl)
      case oD13 =>
        intro ev wo hev hC hs hph
        have e45 := see_det hs 45 12 (by kernel_rfl) (by kernel_rfl) rfl
        have e44 := see_det hs 44 11 (by kernel_rfl) (by kernel_rfl) rfl
        have Kx := K.below hC K.lt
        have Kx5 := K5.below hC K5.lt
        exact ob_gcall _ rfl rfl e44 rfl (by kernel_rfl) (by rfl) (fun hq => by simp [go_sem, (e45.trans (gw_t (beq_t hq))), e44, hev.func, hev.const]; try first | exact ⟨rfl, rfl⟩ | rfl) (fun hq => refRight_any nm A1 c1 l1.length e nx l1 _ (by omega) (by omega) (hm1.below hC)) (fun w3 hb3 => ⟨hC.trans (hb3.mono hC.size), TSp.of rfl hb3⟩)
      case oD14 =>
        intro ev wo hev hC hs hph
        have e44 := see_det hs 44 11 (by kernel_rfl) (by kernel_rfl) rfl
        have e46 := see_det hs 46 13 (by kernel_rfl) (by kernel_rfl) rfl
        exact ob_det (wanted_none rfl) rfl (by kernel_rfl) hC (TSp.of rfl (Grows.refl _)) (by first | (refine (pick_and ?_ (e44) (e46) (hev.const _)); rfl) | (rw [pick_and _ (e44) (e46) (hev.const _)]; rfl) | (refine (pick_or ?_ (e44) (e46) (hev.const _)); rfl) | (rw [pick_or _ (e44) (e46) (hev.const _)]; rfl) | (simp [go_sem, e44, e46, hev.const]; try first | exact ⟨rfl, rfl⟩ | rfl))
      case oD15 =>
        intro ev wo hev hC hs hph
        have e47 := see_det hs 47 14 (by kernel_rfl) (by kernel_rfl) rfl
        exact ob_det (wanted_none rfl) rfl (by kernel_rfl) hC (TSp.of rfl (Grows.refl _)) (by simp [go_sem, e47]; try first | exact ⟨rfl, rfl⟩ | rfl)
      intro wf hC hph
      intro x41
      intro a35 hA35
      refine n_then ?_
      have hA36 := hA35.keep [8]
      simp only [argsE, keepE, lookS, Nat.reduceBEq, cond_true, cond_false, Nat.reduceAdd, gv_tt, gv_ff, Bool.true_and, Bool.false_and, Bool.true_or, Bool.false_or] at hA36
      clear hA30 hA35
      refine wp_ret ?_
      refine ret_1 hA36 8 rfl rfl ?_
      exact ⟨ret_bool (by rw [hR]), HB.trans (hC.mono HB.size)⟩
end Go.Proofs.YtbbhblnhbgkcaaaDoor
