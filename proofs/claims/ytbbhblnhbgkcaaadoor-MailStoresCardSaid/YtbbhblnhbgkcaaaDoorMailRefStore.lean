/-
  Walks: flags of those that are named are changed, as the document says.
-/
import Derived.Test.YtbbhblnhbgkcaaaDoorMailStore
namespace Go.Proofs.YtbbhblnhbgkcaaaDoor
open Go.RowKit
set_option linter.unusedSimpArgs false
set_option linter.unusedVariables false
set_option maxRecDepth 100000 in
set_option maxHeartbeats 2000000 in
theorem refStore_any (nm : ByteArray) (A A2 : Option Addr) (c n e nx c2 k : Nat) (l : List MsgV) (us : List Nat) (by_ how : Int) (w : World)
    (hn : n ≤ 100000) (hms : Msgs w A n l) (hk : k ≤ 140737488355328) (hus : us.length = k) (hur : Reads w w.heap.size 1 A2 k (u32s us)) :
    Calls Tryd.prog 20 #[.agg (boxC nm e nx A n c), .slice A2 k c2, .int .i64 by_, .int .i64 how] w fun ev w' => ∃ r, ev = .returned r ∧ GivesB w.heap.size w' r (storeV nm e nx l us by_ how) ∧ Below w.heap.size w w' := by
  have hl := hms.len
  unfold storeV
  refine calls_at 45 Tryd.func20 rfl rfl (Nat.le_of_ble_eq_true rfl) ?_
  intro a hA
  simp only [argsE, keepE, lookS, Nat.reduceBEq, cond_true, cond_false, Nat.reduceAdd, gv_tt, gv_ff, Bool.true_and, Bool.false_and, Bool.true_or, Bool.false_or] at hA
  refine wp_seq ?_
  refine wp_region_lit ?_
  -- stop box slot 4
  refine wl_new hA rfl rfl (by decide) (fun ev h => by simp [go_sem, h.get 0 rfl]; try first | exact ⟨rfl, rfl⟩ | rfl) fun w1 a1 (K : Blk _ _ _ _) hz1 hb1 hA1 => ?_
  refine wl_new hA1 rfl rfl (by decide) (fun ev h => by simp [go_sem]; try first | exact ⟨rfl, rfl⟩ | rfl) fun w2 a2 (K8 : Blk _ _ _ _) hz2 hb2 hA2 => ?_
  replace K := K.below hb2 K.lt
  have HB := hb1.trans (hb2.mono hb1.size)
  unfold boxC at K
  refine wl_nil ?_
  refine n_then ?_
  have hA3 := hA2.keep [1, 2, 3, 4, 8]
  simp only [argsE, keepE, lookS, Nat.reduceBEq, cond_true, cond_false, Nat.reduceAdd, gv_tt, gv_ff, Bool.true_and, Bool.false_and, Bool.true_or, Bool.false_or] at hA3
  clear hA hA1 hA2 a1
  refine wp_seq ?_
  refine wp_region_lit ?_
  -- stop buildSlice slot 10
  refine wl_new hA3 rfl rfl (by decide) (fun ev h => by simp [go_sem, K.cell]; try first | exact ⟨rfl, rfl⟩ | rfl) fun w3 a4 (K10 : Blk _ _ _ _) hz3 hb3 hA4 => ?_
  replace K := K.below hb3 K.lt
  replace K8 := K8.below hb3 K8.lt
  replace HB := HB.trans (hb3.mono HB.size)
  refine wl_op hA4 rfl rfl (by decide) (fun ev h => by simp [go_sem, h.get 4 rfl, K.cell]; try first | exact ⟨rfl, rfl⟩ | rfl) fun a5 hA5 => ?_
  refine wl_op hA5 rfl rfl (by decide) (fun ev h => by simp [go_sem, h.get 11 rfl, K.cell]; try first | exact ⟨rfl, rfl⟩ | rfl) fun a6 hA6 => ?_
  -- stop call slot 13
  obtain ⟨r, w4, hr, ho, hgr, hwh⟩ := run_appM (u := .slice A n c) (OwnM.empty (B := w2.heap.size) K10 (Nat.le_refl _)) (by rw [hl]) (by rw [hl]; exact hms.below HB) (fun g hg m hm => by
    rw [← Option.some.inj hg]
    exact off_lt (hms.octs m hm) (by show w.heap.size ≤ w2.heap.size; omega)) (by simp; omega) (by omega)
  refine wl_op hA6 rfl rfl (by decide) (fun ev h => exec_append rfl (h.get 10 rfl) (h.get 12 rfl) hr) fun a7 hA7 => ?_
  replace K := K.grown hgr (fun e => absurd (Option.some.inj e : w.heap.size = w2.heap.size) (by omega))
  replace K8 := K8.grown hgr (fun e => absurd (Option.some.inj e : w1.heap.size = w2.heap.size) (by omega))
  replace HB := HB.grown hgr HB.size (fun k hk => by rw [← Option.some.inj hk]; show w.heap.size ≤ w2.heap.size; omega)
  have hz4 := hgr.size
  obtain ⟨A1, c1, hv, _, hc1⟩ := ho.msgs
  subst hv
  rw [List.nil_append, hl] at ho
  rw [List.nil_append, hl] at hA7
  refine wl_op hA7 rfl rfl (by decide) (fun ev h => by simp [go_sem, h.get 4 rfl, K.cell]; try first | exact ⟨rfl, rfl⟩ | rfl) fun a8 hA8 => ?_
  -- stop store slot None
  refine wl_setf [.string nm, .int .u32 (e : Nat), .int .u32 (nx : Nat), .slice A1 n c1] _ hA8 rfl rfl K (j := 3) (by rfl) (fun ev h => by simp [go_sem, h.get 14 rfl, h.get 13 rfl, K.cell, K.cell, K.frozen]; try first | exact ⟨rfl, rfl⟩ | rfl) fun w5 (K : Blk _ _ _ _) hs5 => ?_
  replace ho := ho.only hs5 (own_far ho (by omega)) (fun m hm => off_lt (hms.octs m hm) (Nat.le_refl _))
  replace K8 := hs5.blk K8 (by omega)
  replace HB := hs5.below HB (by omega)
  refine wl_nil ?_
  refine n_then ?_
  have hA9 := hA8.keep [1, 2, 3, 4, 8]
  simp only [argsE, keepE, lookS, Nat.reduceBEq, cond_true, cond_false, Nat.reduceAdd, gv_tt, gv_ff, Bool.true_and, Bool.false_and, Bool.true_or, Bool.false_or] at hA9
  clear hA3 hA4 hA5 hA6 hA7 hA8 a2 a4 a5 a6 a7
  refine wp_seq ?_
  refine wp_seq ?_
  refine wp_region_lit ?_
  refine wl_op hA9 rfl rfl (by decide) (fun ev h => by simp [go_sem, h.get 4 rfl, K.cell]; try first | exact ⟨rfl, rfl⟩ | rfl) fun a10 hA10 => ?_
  refine wl_op hA10 rfl rfl (by decide) (fun ev h => by simp [go_sem, h.get 15 rfl, K.cell]; try first | exact ⟨rfl, rfl⟩ | rfl) fun a11 hA11 => ?_
  refine wl_op hA11 rfl rfl (by decide) (fun ev h => by simp [go_sem, h.get 16 rfl, K.cell]; try first | exact ⟨rfl, rfl⟩ | rfl) fun a12 hA12 => ?_
  refine wl_op hA12 rfl rfl (by decide) (fun ev h => by simp [go_sem, h.c, K.cell]; try first | exact ⟨rfl, rfl⟩ | rfl) fun a13 hA13 => ?_
  refine wl_nil ?_
  refine n_then ?_
  have hA14 := hA13.keep [1, 2, 3, 4, 8, 17, 18]
  simp only [argsE, keepE, lookS, Nat.reduceBEq, cond_true, cond_false, Nat.reduceAdd, gv_tt, gv_ff, Bool.true_and, Bool.false_and, Bool.true_or, Bool.false_or] at hA14
  clear hA9 hA10 hA11 hA12 hA13 a8 a10 a11 a12
  refine wp_block ?_
  -- loop
  have hblen : (bare l).length = n := by rw [bare_len, hl]
  refine wp_loop_at (fun kk a wx => ∃ (j : Nat) (l' : List MsgV), j + kk = n ∧ At 45 [(1, .slice A2 k c2), (2, .int .i64 by_), (3, .int .i64 how), (4, .pointer (some ⟨w.heap.size, 0, none⟩)), (8, .pointer (some ⟨w1.heap.size, 0, none⟩)), (17, .int .i64 (n : Nat)), (18, .int .i64 (j : Nat))] a ∧ OwnM w2.heap.size wx (.slice A1 n c1) l' ∧ bare l' = mixL (chg us by_ how) (bare l) j ∧ Blk wx w1.heap.size 25 #[.string ⟨#[]⟩, .int .u32 0, .int .u32 0, .slice none 0 0] ∧ Blk wx w.heap.size 25 #[.string nm, .int .u32 (e : Nat), .int .u32 (nx : Nat), .slice A1 n c1] ∧ Below w.heap.size w wx) (n) ?_ ?_
  · exact ⟨0, l, by omega, hA14, ho, by rw [mixL_0], K8, K, HB⟩
  clear K8 K ho HB
  rintro kk a wx ⟨j, l', hjk, hA, ho, hbl, K8, K, HB⟩
  have hll : l'.length = n := by rw [← bare_len, hbl, mixL_len, hblen]
  refine wp_seq ?_
  refine wp_region_lit ?_
  refine wl_op hA rfl rfl (by decide) (fun ev h => by simp [go_sem, h.get 18 rfl, h.get 17 rfl]; try first | exact ⟨rfl, rfl⟩ | rfl) fun a15 hA15 => ?_
  refine wl_nil ?_
  refine n_then ?_
  have hA16 := hA15.keep [1, 2, 3, 4, 8, 17, 18, 19]
  simp only [argsE, keepE, lookS, Nat.reduceBEq, cond_true, cond_false, Nat.reduceAdd, gv_tt, gv_ff, Bool.true_and, Bool.false_and, Bool.true_or, Bool.false_or] at hA16
  clear hA hA15
  refine wp_seq ?_
  -- cond
  refine wp_if hA16 19 _ rfl (fun hq => ?yL) (fun hq => ?nL)
  case yL =>
    have hlt : j < n := by simp at hq; omega
    obtain ⟨x, hx⟩ : ∃ x, l'[j]? = some x := ⟨_, List.getElem?_eq_getElem (by omega)⟩
    have hbx : (bare l)[j]? = some (strip x) := by rw [← mixL_get (chg us by_ how) (bare l) j (by omega), ← hbl, bare_get, hx]; rfl
    obtain ⟨g, cc, hv, hgB, hglt⟩ := ho.at_ (by omega)
    injection hv with hv1 _ hv3
    subst hv1 hv3
    have k0 : wx.cell? ⟨g, j * 4, none⟩ = some (.int .u32 (x.uid : Nat)) := by simpa using ho.cell hx (k := 0) rfl
    have jj0 : (0 : Int) ≤ (j : Int) := by omega
    have jj1 : (j : Int) < (n : Int) := by omega
    have hwj : IntKind.i64.wrap ((j : Int) + 1) = (j : Int) + 1 := IntWalk.i64_in _ (by omega)
    have hw0 := HB.size
    refine wp_skip ?_
    refine n_then ?_
    refine wp_seq ?_
    refine wp_block ?_
    refine wp_seq ?_
    refine wp_region_lit ?_
    refine wl_op hA16 rfl rfl (by decide) (fun ev h => by simp [go_sem, h.get 18 rfl, K.cell, add0, k0, jj0, jj1]; try first | exact ⟨rfl, rfl⟩ | rfl) fun a17 hA17 => ?_
    refine wl_op hA17 rfl rfl (by decide) (fun ev h => by simp [go_sem, h.get 20 rfl, K.cell, add0, k0, jj0, jj1]; try first | exact ⟨rfl, rfl⟩ | rfl) fun a18 hA18 => ?_
    refine wl_nil ?_
    refine n_then ?_
    have hA19 := hA18.keep [1, 2, 3, 4, 8, 9, 17, 18]
    simp only [argsE, keepE, lookS, Nat.reduceBEq, cond_true, cond_false, Nat.reduceAdd, gv_tt, gv_ff, Bool.true_and, Bool.false_and, Bool.true_or, Bool.false_or] at hA19
    clear hA16 hA17 hA18 a17
    refine wp_seq ?_
    refine wp_region_lit ?_
    refine wl_op hA19 rfl rfl (by decide) (fun ev h => by simp [go_sem, h.get 1 rfl, K.cell, add0, k0, jj0, jj1]; try first | exact ⟨rfl, rfl⟩ | rfl) fun a20 hA20 => ?_
    refine wl_op hA20 rfl rfl (by decide) (fun ev h => by simp [go_sem, h.get 4 rfl, K.cell, add0, k0, jj0, jj1]; try first | exact ⟨rfl, rfl⟩ | rfl) fun a21 hA21 => ?_
    refine wl_op hA21 rfl rfl (by decide) (fun ev h => by simp [go_sem, h.get 22 rfl, K.cell, add0, k0, jj0, jj1]; try first | exact ⟨rfl, rfl⟩ | rfl) fun a22 hA22 => ?_
    refine wl_op hA22 rfl rfl (by decide) (fun ev h => by simp [go_sem, h.get 9 rfl, K.cell, add0, k0, jj0, jj1]; try first | exact ⟨rfl, rfl⟩ | rfl) fun a23 hA23 => ?_
    refine wl_op hA23 rfl rfl (by decide) (fun ev h => by simp [go_sem, h.get 23 rfl, h.get 24 rfl, K.cell, add0, k0, jj0, jj1]; try first | exact ⟨rfl, rfl⟩ | rfl) fun a24 hA24 => ?_
    refine wl_op hA24 rfl rfl (by decide) (fun ev h => by simp [go_sem, h.get 25 rfl, K.cell, add0, k0, jj0, jj1]; try first | exact ⟨rfl, rfl⟩ | rfl) fun a25 hA25 => ?_
    refine wl_op hA25 rfl rfl (by decide) (fun ev h => by simp [go_sem, h.get 26 rfl, K.cell, add0, k0, jj0, jj1]; try first | exact ⟨rfl, rfl⟩ | rfl) fun a26 hA26 => ?_
    -- stop call slot 28
    refine wl_call hA26 rfl rfl (by decide) (fun ev h => by simp [go_sem, h.get 21 rfl, h.get 27 rfl, K.cell, add0, k0, jj0, jj1, h.f]; try first | exact ⟨rfl, rfl⟩ | rfl) (refIn_any A2 c2 k x.uid us _ hk hus ((hur.below HB).more HB.size)) ?_
    rintro e w8 ⟨rfl, hb8⟩
    refine ⟨_, rfl, fun a27 hA27 => ?_⟩
    replace K8 := K8.below hb8 K8.lt
    replace K := K.below hb8 K.lt
    replace HB := HB.trans (hb8.mono HB.size)
    replace ho := ho.below hb8
    refine wl_nil ?_
    refine n_then ?_
    have hA28 := hA27.keep [1, 2, 3, 4, 8, 9, 17, 18, 28]
    simp only [argsE, keepE, lookS, Nat.reduceBEq, cond_true, cond_false, Nat.reduceAdd, gv_tt, gv_ff, Bool.true_and, Bool.false_and, Bool.true_or, Bool.false_or] at hA28
    clear hA19 hA20 hA21 hA22 hA23 hA24 hA25 hA26 hA27 a18 a20 a21 a22 a23 a24 a25 a26
    -- cond
    refine wp_if hA28 28 _ rfl (fun hq2 => ?yR) (fun hq2 => ?nR)
    case yR =>
      refine wp_region_split 12 ?_
      simp only [List.take_succ_cons, List.take_zero, List.drop_succ_cons, List.drop_zero]
      refine wp_any_split_at hA28 [(.det ?dD0), (.det ?dD1), (.det ?dD2), (.det ?dD3), (.det ?dD4), (.det ?dD5), (.det ?dD6), (.det ?dD7), (.det ?dD8), (.det ?dD9), (.det ?dD10), (.det ?dD11)] [] (fun wy => Below w8.heap.size w8 wy) (TSp [] Grows) (by kernel_rfl) rfl (by kernel_rfl) (by kernel_rfl) rfl (by kernel_rfl) (by kernel_rfl) (by kernel_rfl) (by kernel_rfl) ((Below.refl w8.heap.size w8).drew) (stab_sp [] [true, true, true, true, true, true, true, true, true, true, true, true] [true, true, true, true, true, true, true, true, true, true, true, true] [] rfl rfl rfl (by kernel_rfl) ⟨trivial, trivial, trivial, trivial, trivial, trivial, trivial, trivial, trivial, trivial, trivial, trivial, trivial⟩ trivial) (fun _ h => by cases h) (fun _ _ _ _ h => by cases h) (fun _ h => by cases h) ⟨?oD0, ?oD1, ?oD2, ?oD3, ?oD4, ?oD5, ?oD6, ?oD7, ?oD8, ?oD9, ?oD10, ?oD11, trivial⟩ ?fD
      case oD0 =>
        intro ev wo hev hC hs hph
        have e4 := see_env hA28 hs 4 (by kernel_rfl) (by kernel_rfl) rfl
        exact ob_det (wanted_none rfl) rfl (by kernel_rfl) hC (TSp.of rfl (Grows.refl _)) (by simp [go_sem, e4]; try first | exact ⟨rfl, rfl⟩ | rfl)
      case oD1 =>
        intro ev wo hev hC hs hph
        have e29 := see_det hs 29 0 (by kernel_rfl) (by kernel_rfl) rfl
        have Kx := K.below hC K.lt
        have hox := ho.below hC
        exact ob_det (wanted_none rfl) rfl (by kernel_rfl) hC (TSp.of rfl (Grows.refl _)) (by simp [go_sem, e29, Kx.cell, add0, hox.cell hx (k := 2) rfl, K.cell, add0, k0, jj0, jj1]; try first | exact ⟨rfl, rfl⟩ | rfl)
      case oD2 =>
        intro ev wo hev hC hs hph
        have e9 := see_env hA28 hs 9 (by kernel_rfl) (by kernel_rfl) rfl
        exact ob_det (wanted_none rfl) rfl (by kernel_rfl) hC (TSp.of rfl (Grows.refl _)) (by simp [go_sem, e9]; try first | exact ⟨rfl, rfl⟩ | rfl)
      case oD3 =>
        intro ev wo hev hC hs hph
        have e4 := see_env hA28 hs 4 (by kernel_rfl) (by kernel_rfl) rfl
        exact ob_det (wanted_none rfl) rfl (by kernel_rfl) hC (TSp.of rfl (Grows.refl _)) (by simp [go_sem, e4]; try first | exact ⟨rfl, rfl⟩ | rfl)
      case oD4 =>
        intro ev wo hev hC hs hph
        have e32 := see_det hs 32 3 (by kernel_rfl) (by kernel_rfl) rfl
        have Kx := K.below hC K.lt
        have hox := ho.below hC
        exact ob_det (wanted_none rfl) rfl (by kernel_rfl) hC (TSp.of rfl (Grows.refl _)) (by simp [go_sem, e32, Kx.cell, add0, hox.cell hx (k := 2) rfl, K.cell, add0, k0, jj0, jj1]; try first | exact ⟨rfl, rfl⟩ | rfl)
      case oD5 =>
        intro ev wo hev hC hs hph
        have e9 := see_env hA28 hs 9 (by kernel_rfl) (by kernel_rfl) rfl
        exact ob_det (wanted_none rfl) rfl (by kernel_rfl) hC (TSp.of rfl (Grows.refl _)) (by simp [go_sem, e9]; try first | exact ⟨rfl, rfl⟩ | rfl)
      case oD6 =>
        intro ev wo hev hC hs hph
        have e33 := see_det hs 33 4 (by kernel_rfl) (by kernel_rfl) rfl
        have e34 := see_det hs 34 5 (by kernel_rfl) (by kernel_rfl) rfl
        have Kx := K.below hC K.lt
        have hox := ho.below hC
        exact ob_det (wanted_none rfl) rfl (by kernel_rfl) hC (TSp.of rfl (Grows.refl _)) (by simp [go_sem, e33, e34, jj0, jj1, add0]; try first | exact ⟨rfl, rfl⟩ | rfl)
      case oD7 =>
        intro ev wo hev hC hs hph
        have e35 := see_det hs 35 6 (by kernel_rfl) (by kernel_rfl) rfl
        exact ob_det (wanted_none rfl) rfl (by kernel_rfl) hC (TSp.of rfl (Grows.refl _)) (by simp [go_sem, e35]; try first | exact ⟨rfl, rfl⟩ | rfl)
      case oD8 =>
        intro ev wo hev hC hs hph
        have e36 := see_det hs 36 7 (by kernel_rfl) (by kernel_rfl) rfl
        have Kx := K.below hC K.lt
        have hox := ho.below hC
        exact ob_det (wanted_none rfl) rfl (by kernel_rfl) hC (TSp.of rfl (Grows.refl _)) (by simp [go_sem, e36, Kx.cell, add0, hox.cell hx (k := 2) rfl, K.cell, add0, k0, jj0, jj1]; try first | exact ⟨rfl, rfl⟩ | rfl)
      case oD9 =>
        intro ev wo hev hC hs hph
        have e2 := see_env hA28 hs 2 (by kernel_rfl) (by kernel_rfl) rfl
        exact ob_det (wanted_none rfl) rfl (by kernel_rfl) hC (TSp.of rfl (Grows.refl _)) (by simp [go_sem, e2]; try first | exact ⟨rfl, rfl⟩ | rfl)
      case oD10 =>
        intro ev wo hev hC hs hph
        have e3 := see_env hA28 hs 3 (by kernel_rfl) (by kernel_rfl) rfl
        exact ob_det (wanted_none rfl) rfl (by kernel_rfl) hC (TSp.of rfl (Grows.refl _)) (by simp [go_sem, e3]; try first | exact ⟨rfl, rfl⟩ | rfl)
      case oD11 =>
        intro ev wo hev hC hs hph
        have e37 := see_det hs 37 8 (by kernel_rfl) (by kernel_rfl) rfl
        have e38 := see_det hs 38 9 (by kernel_rfl) (by kernel_rfl) rfl
        have e39 := see_det hs 39 10 (by kernel_rfl) (by kernel_rfl) rfl
        have Kx := K.below hC K.lt
        have hox := ho.below hC
        exact ob_yes (wanted_none rfl) (does_enter (by simp [go_sem, e37, e38, e39, hev.func, hev.const]; try first | exact ⟨rfl, rfl⟩ | rfl) (Calls.mono (refChanged_any x.flags by_ how _) (by
          rintro ev2 w3 ⟨rfl, hb3⟩
          exact ⟨_, rfl, hC.trans (hb3.mono hC.size), TSp.of rfl hb3, (by rfl), no_start (by kernel_rfl)⟩)))
      intro wf hC hph
      intro a29 hA29
      have hA30 := hA29.keep [1, 2, 3, 4, 8, 17, 18, 30, 31, 40]
      simp only [argsE, keepE, lookS, Nat.reduceBEq, cond_true, cond_false, Nat.reduceAdd, gv_tt, gv_ff, Bool.true_and, Bool.false_and, Bool.true_or, Bool.false_or] at hA30
      clear hA28 hA29
      replace K8 := K8.below hC K8.lt
      replace K := K.below hC K.lt
      replace HB := HB.trans (hC.mono HB.size)
      replace ho := ho.below hC
      have hfr := ho.row
      rw [own_len ho.row] at hfr
      refine wl_op hA30 rfl rfl (by decide) (fun ev h => by simp [go_sem, h.get 30 rfl, h.get 31 rfl, jj0, jj1, add0, hfr.frozenAt, ho.cell hx (k := 2) rfl]; try first | exact ⟨rfl, rfl⟩ | rfl) fun a31 hA31 => ?_
      refine wl_op hA31 rfl rfl (by decide) (fun ev h => by simp [go_sem, h.get 41 rfl, jj0, jj1, add0, hfr.frozenAt, ho.cell hx (k := 2) rfl]; try first | exact ⟨rfl, rfl⟩ | rfl) fun a32 hA32 => ?_
      -- stop store slot None
      have hmx := List.mem_of_getElem? hx
      obtain ⟨h8, h9⟩ := ho.set (y := ⟨x.uid, x.date, (changeV x.flags by_ how : Nat), x.a, x.c, x.b⟩) hx (j := 2) (by omega) rfl (ho.octs x hmx) (ho.off g rfl x hmx) (ho.uids x hmx) (ho.caps x hmx)
      replace K8 := K8.grown h9 (fun e => own_far ho (show w1.heap.size < w2.heap.size by omega) _ e.symm rfl)
      replace K := K.grown h9 (fun e => own_ne ho.row K (by decide) _ e.symm rfl)
      replace HB := HB.grown h9 HB.size (fun k hk => by rw [← Option.some.inj hk]; omega)
      refine wl_skip hA32 rfl rfl (fun ev h => by simp [go_sem, h.get 42 rfl, h.get 40 rfl, jj0, jj1, add0, hfr.frozenAt, ho.cell hx (k := 2) rfl]; try first | exact ⟨rfl, rfl⟩ | rfl) ?_
      refine wl_nil ?_
      refine n_block ?_
      refine n_then ?_
      have hA33 := hA32.keep [1, 2, 3, 4, 8, 17, 18]
      simp only [argsE, keepE, lookS, Nat.reduceBEq, cond_true, cond_false, Nat.reduceAdd, gv_tt, gv_ff, Bool.true_and, Bool.false_and, Bool.true_or, Bool.false_or] at hA33
      clear hA30 hA31 hA32 a29 a31
      refine wp_region_lit ?_
      refine wl_op hA33 rfl rfl (by decide) (fun ev h => by simp [go_sem, h.c, h.get 18 rfl, hwj]; try first | exact ⟨rfl, rfl⟩ | rfl) fun a34 hA34 => ?_
      refine wl_op hA34 rfl rfl (by decide) (fun ev h => by simp [go_sem, h.get 43 rfl, hwj]; try first | exact ⟨rfl, rfl⟩ | rfl) fun a35 hA35 => ?_
      refine wl_nil ?_
      refine n_then ?_
      have hA36 := hA35.keep [1, 2, 3, 4, 8, 17, 18]
      simp only [argsE, keepE, lookS, Nat.reduceBEq, cond_true, cond_false, Nat.reduceAdd, gv_tt, gv_ff, Bool.true_and, Bool.false_and, Bool.true_or, Bool.false_or] at hA36
      clear hA33 hA34 hA35 a32 a34
      -- round
      rw [show ((j : Int) + 1) = ((j + 1 : Nat) : Int) by omega] at hA36
      exact ⟨kk - 1, by omega, j + 1, _, by omega, hA36, h8, by rw [bare_set2, hbl, show strip _ = chg us by_ how (strip x) by unfold chg; rw [show (strip x).uid = x.uid from rfl, hq2]; rfl, mixL_set _ _ _ _ hbx], K8, K, HB⟩
    case nR =>
      refine wp_skip ?_
      refine n_block ?_
      refine n_then ?_
      refine wp_region_lit ?_
      refine wl_op hA28 rfl rfl (by decide) (fun ev h => by simp [go_sem, h.c, h.get 18 rfl, hwj]; try first | exact ⟨rfl, rfl⟩ | rfl) fun a37 hA37 => ?_
      refine wl_op hA37 rfl rfl (by decide) (fun ev h => by simp [go_sem, h.get 43 rfl, hwj]; try first | exact ⟨rfl, rfl⟩ | rfl) fun a38 hA38 => ?_
      refine wl_nil ?_
      refine n_then ?_
      have hA39 := hA38.keep [1, 2, 3, 4, 8, 17, 18]
      simp only [argsE, keepE, lookS, Nat.reduceBEq, cond_true, cond_false, Nat.reduceAdd, gv_tt, gv_ff, Bool.true_and, Bool.false_and, Bool.true_or, Bool.false_or] at hA39
      clear hA28 hA37 hA38 a37
      -- round
      rw [show ((j : Int) + 1) = ((j + 1 : Nat) : Int) by omega] at hA39
      exact ⟨kk - 1, by omega, j + 1, l', by omega, hA39, ho, by rw [hbl, mixL_same _ _ _ _ hbx (by unfold chg; rw [show (strip x).uid = x.uid from rfl, hq2]; rfl)], K8, K, HB⟩
  case nL =>
    have hjn : j = n := by simp at hq; omega
    subst hjn
    refine wp_exit ?_
    refine x_then ?_
    refine x_then ?_
    refine x_block ?_
    refine n_then ?_
    have hA40 := hA16.keep [4, 8]
    simp only [argsE, keepE, lookS, Nat.reduceBEq, cond_true, cond_false, Nat.reduceAdd, gv_tt, gv_ff, Bool.true_and, Bool.false_and, Bool.true_or, Bool.false_or] at hA40
    clear hA16
    refine wp_seq ?_
    refine wp_region_lit ?_
    refine wl_op hA40 rfl rfl (by decide) (fun ev h => by simp [go_sem, h.get 4 rfl, K.cell]; try first | exact ⟨rfl, rfl⟩ | rfl) fun a41 hA41 => ?_
    -- stop store slot None
    have hoff8 : ∀ m ∈ l', Off w1.heap.size m := fun m hm => off_blk (ho.octs m hm) K8 rfl
    refine wl_set [.string nm, .int .u32 (e : Nat), .int .u32 (nx : Nat), .slice A1 j c1] hA41 rfl rfl K8 (by rfl) (fun ev h => by simp [go_sem, h.get 8 rfl, h.get 44 rfl, K.cell, setAll, K8.cell, K8.frozen]) fun w9 (K8 : Blk _ _ _ _) hs9 => ?_
    refine wl_nil ?_
    refine n_then ?_
    have hA42 := hA41.keep [8]
    simp only [argsE, keepE, lookS, Nat.reduceBEq, cond_true, cond_false, Nat.reduceAdd, gv_tt, gv_ff, Bool.true_and, Bool.false_and, Bool.true_or, Bool.false_or] at hA42
    clear hA40 hA41
    refine wp_ret ?_
    refine bodyPost_ret (by simp [results, Tryd.results20, go_sem, hA42.env 8 _ rfl, K8.cell]; try first | exact ⟨rfl, rfl⟩ | rfl) hA42.defers ?_
    exact ⟨_, rfl, ⟨_, l', rfl, (ho.only hs9 (own_far ho (by omega)) hoff8).mono (by omega), by rw [hbl, ← hblen, mixL_all]⟩, hs9.below HB (by omega)⟩
end Go.Proofs.YtbbhblnhbgkcaaaDoor
