/-
  Walk: a note's octets, as the document says.
-/
import Derived.Test.YtmjikfeaopmejaaDoorNoteEnc
namespace Go.Proofs.YtmjikfeaopmejaaDoor
open Go.RowKit
set_option linter.unusedSimpArgs false
set_option linter.unusedVariables false
theorem be_one (n : Nat) : be 1 n = [UInt8.ofNat n] := by rw [be_snoc]; rfl
set_option maxRecDepth 100000 in
set_option maxHeartbeats 2000000 in
theorem refNote_any (k : Int) (e : Nat) (nm : ByteArray) (m : MsgV) (w : World) (hv : formedV k e nm m = true) (he : e < 4294967296) (hu : m.uid < 4294967296) (hr : Reads w w.heap.size 1 m.a m.b.length (u8s m.b)) :
    Calls Tryd.prog 7 #[.agg (noteC k e nm m)] w fun ev w' => ∃ r, ev = .returned r ∧ Own8 w.heap.size w' r (encV k e nm m) ∧ Below w.heap.size w w' := by
  obtain ⟨h1e, h60, h20, hk, hdf⟩ := formed_parts hv
  have l1 := enc1_len k m
  have l2 := enc2_len k m
  have l3 := enc3_len k nm
  refine calls_at 47 Tryd.func7 rfl rfl (Nat.le_of_ble_eq_true rfl) ?_
  intro a hA
  simp only [argsE, keepE, lookS, Nat.reduceBEq, cond_true, cond_false, Nat.reduceAdd, gv_tt, gv_ff, Bool.true_and, Bool.false_and, Bool.true_or, Bool.false_or] at hA
  refine wp_seq ?_
  refine wp_region_lit ?_
  -- stop box slot 1
  refine wl_new hA rfl rfl (by decide) (fun ev h => by simp [go_sem, h.get 0 rfl]; try first | exact ⟨rfl, rfl⟩ | rfl) fun w1 a1 (K : Blk _ _ _ _) hz hb0 hA1 => ?_
  unfold noteC at K
  have hwe : IntKind.u64.wrap (e : Int) = (e : Int) := IntWalk.u64_in _ (by omega)
  have hwu : IntKind.u64.wrap (m.uid : Int) = (m.uid : Int) := IntWalk.u64_in _ (by omega)
  have HB := Below.refl w1.heap.size w1
  refine wl_op hA1 rfl rfl (by decide) (fun ev h => by simp [go_sem, h.c, K.cell, hwe]; try first | exact ⟨rfl, rfl⟩ | rfl) fun a2 hA2 => ?_
  refine wl_nil ?_
  refine n_then ?_
  have hA3 := hA2.keep [1]
  simp only [argsE, keepE, lookS, Nat.reduceBEq, cond_true, cond_false, Nat.reduceAdd, gv_tt, gv_ff, Bool.true_and, Bool.false_and, Bool.true_or, Bool.false_or] at hA3
  clear hA hA1 hA2 a1
  refine wp_seq ?_
  refine wp_region_lit ?_
  refine wl_op hA3 rfl rfl (by decide) (fun ev h => by simp [go_sem, h.get 1 rfl, K.cell, hwe]; try first | exact ⟨rfl, rfl⟩ | rfl) fun a4 hA4 => ?_
  refine wl_op hA4 rfl rfl (by decide) (fun ev h => by simp [go_sem, h.get 4 rfl, K.cell, hwe]; try first | exact ⟨rfl, rfl⟩ | rfl) fun a5 hA5 => ?_
  refine wl_op hA5 rfl rfl (by decide) (fun ev h => by simp [go_sem, h.get 5 rfl, K.cell, hwe]; try first | exact ⟨rfl, rfl⟩ | rfl) fun a6 hA6 => ?_
  -- stop call slot 7
  refine wl_call hA6 rfl rfl (by decide) (fun ev h => by simp [go_sem, h.c, h.get 6 rfl, K.cell, hwe, h.f]; try first | exact ⟨rfl, rfl⟩ | rfl) (refBytes_any e 4 (by omega) (by omega) _) ?_
  rintro e w2 ⟨v2, rfl, ho, hb⟩
  refine ⟨_, rfl, fun a7 hA7 => ?_⟩
  replace HB := HB.trans (hb.mono HB.size)
  have hO : Own8 w1.heap.size w2 v2 (be 4 e) := Own8.of ho
  have K0 := K.below HB K.lt
  refine wl_op hA7 rfl rfl (by decide) (fun ev h => by simp [go_sem, h.get 7 rfl, K0.cell]; try first | exact ⟨rfl, rfl⟩ | rfl) fun a8 hA8 => ?_
  refine wl_nil ?_
  refine n_then ?_
  have hA9 := hA8.keep [1, 3]
  simp only [argsE, keepE, lookS, Nat.reduceBEq, cond_true, cond_false, Nat.reduceAdd, gv_tt, gv_ff, Bool.true_and, Bool.false_and, Bool.true_or, Bool.false_or] at hA9
  clear hA3 hA4 hA5 hA6 hA7 hA8 a2 a4 a5 a6 a7
  refine wp_seq ?_
  refine wp_seq ?_
  refine wp_region_lit ?_
  refine wl_op hA9 rfl rfl (by decide) (fun ev h => by simp [go_sem, h.get 1 rfl, K0.cell]; try first | exact ⟨rfl, rfl⟩ | rfl) fun a10 hA10 => ?_
  refine wl_op hA10 rfl rfl (by decide) (fun ev h => by simp [go_sem, h.get 8 rfl, K0.cell]; try first | exact ⟨rfl, rfl⟩ | rfl) fun a11 hA11 => ?_
  refine wl_op hA11 rfl rfl (by decide) (fun ev h => by simp [go_sem, h.c, h.get 9 rfl, K0.cell]; try first | exact ⟨rfl, rfl⟩ | rfl) fun a12 hA12 => ?_
  refine wl_nil ?_
  refine n_then ?_
  have hA13 := hA12.keep [1, 3, 10]
  simp only [argsE, keepE, lookS, Nat.reduceBEq, cond_true, cond_false, Nat.reduceAdd, gv_tt, gv_ff, Bool.true_and, Bool.false_and, Bool.true_or, Bool.false_or] at hA13
  clear hA9 hA10 hA11 hA12 a8 a10 a11
  -- cond
  refine wp_join (fun a wx => ∃ v, At 47 [(1, .pointer (some ⟨w.heap.size, 0, none⟩)), (3, v)] a ∧ Own8 w1.heap.size wx v (be 4 e ++ enc1 k m) ∧ Below w1.heap.size w1 wx) ?jfJ ?jrJ
  case jfJ =>
    refine wp_if hA13 10 _ rfl (fun hq => ?yD) (fun hq => ?nD)
    case yD =>
      have hq : (k == 1) = false := by
        have : 1 < k := by simpa using hq
        rw [beq_eq_false_iff_ne]
        omega
      refine wp_region_lit ?_
      refine wl_op hA13 rfl rfl (by decide) (fun ev h => by simp [go_sem, h.get 3 rfl, K0.cell, hwu]; try first | exact ⟨rfl, rfl⟩ | rfl) fun a14 hA14 => ?_
      refine wl_op hA14 rfl rfl (by decide) (fun ev h => by simp [go_sem, h.get 1 rfl, K0.cell, hwu]; try first | exact ⟨rfl, rfl⟩ | rfl) fun a15 hA15 => ?_
      refine wl_op hA15 rfl rfl (by decide) (fun ev h => by simp [go_sem, h.get 12 rfl, K0.cell, hwu]; try first | exact ⟨rfl, rfl⟩ | rfl) fun a16 hA16 => ?_
      refine wl_op hA16 rfl rfl (by decide) (fun ev h => by simp [go_sem, h.get 13 rfl, K0.cell, hwu]; try first | exact ⟨rfl, rfl⟩ | rfl) fun a17 hA17 => ?_
      refine wl_op hA17 rfl rfl (by decide) (fun ev h => by simp [go_sem, h.get 14 rfl, K0.cell, hwu]; try first | exact ⟨rfl, rfl⟩ | rfl) fun a18 hA18 => ?_
      -- stop call slot 16
      refine wl_call hA18 rfl rfl (by decide) (fun ev h => by simp [go_sem, h.c, h.get 15 rfl, K0.cell, hwu, h.f]; try first | exact ⟨rfl, rfl⟩ | rfl) (refBytes_any m.uid 4 (by omega) (by omega) _) ?_
      rintro e w5 ⟨v5, rfl, ho, hb⟩
      refine ⟨_, rfl, fun a19 hA19 => ?_⟩
      replace HB := HB.trans (hb.mono HB.size)
      replace hO := hO.below hb
      obtain ⟨r, w6, hr6, ho6, hgr⟩ := run_app8 hO (Own8.of ho).took (by simp [be_length]) HB.size
      refine wl_op hA19 rfl rfl (by decide) (fun ev h => exec_append rfl (h.get 11 rfl) (h.get 16 rfl) hr6) fun a20 hA20 => ?_
      refine wl_op hA20 rfl rfl (by decide) (fun ev h => by simp [go_sem, h.get 17 rfl, K0.cell, hwu]; try first | exact ⟨rfl, rfl⟩ | rfl) fun a21 hA21 => ?_
      refine wl_nil ?_
      refine n_then ?_
      have hA22 := hA21.keep [1, 3]
      simp only [argsE, keepE, lookS, Nat.reduceBEq, cond_true, cond_false, Nat.reduceAdd, gv_tt, gv_ff, Bool.true_and, Bool.false_and, Bool.true_or, Bool.false_or] at hA22
      clear hA13 hA14 hA15 hA16 hA17 hA18 hA19 hA20 hA21 a14 a15 a16 a17 a18 a19 a20
      -- joined
      exact ⟨_, hA22, by unfold enc1; rw [hq, cond_false]; exact ho6, below_app8 HB hO hgr (Nat.le_refl _) HB.size⟩
    case nD =>
      have hq : (k == 1) = true := by
        have : ¬ 1 < k := by simpa using hq
        rw [beq_iff_eq]
        omega
      refine wp_skip ?_
      refine n_then ?_
      have hA23 := hA13.keep [1, 3]
      simp only [argsE, keepE, lookS, Nat.reduceBEq, cond_true, cond_false, Nat.reduceAdd, gv_tt, gv_ff, Bool.true_and, Bool.false_and, Bool.true_or, Bool.false_or] at hA23
      clear hA13
      -- joined
      exact ⟨_, hA23, by unfold enc1; rw [hq, cond_true, List.append_nil]; exact hO, HB⟩
  clear hO HB K0
  rintro a wx ⟨v6, hA, hO, HB⟩
  have K0 := K.below HB K.lt
  refine wp_seq ?_
  refine wp_seq ?_
  refine wp_region_lit ?_
  refine wl_op hA rfl rfl (by decide) (fun ev h => by simp [go_sem, h.get 1 rfl, K0.cell]; try first | exact ⟨rfl, rfl⟩ | rfl) fun a24 hA24 => ?_
  refine wl_op hA24 rfl rfl (by decide) (fun ev h => by simp [go_sem, h.get 18 rfl, K0.cell]; try first | exact ⟨rfl, rfl⟩ | rfl) fun a25 hA25 => ?_
  refine wl_op hA25 rfl rfl (by decide) (fun ev h => by simp [go_sem, h.c, h.get 19 rfl, K0.cell]; try first | exact ⟨rfl, rfl⟩ | rfl) fun a26 hA26 => ?_
  refine wl_nil ?_
  refine n_then ?_
  have hA27 := hA26.keep [1, 3, 20]
  simp only [argsE, keepE, lookS, Nat.reduceBEq, cond_true, cond_false, Nat.reduceAdd, gv_tt, gv_ff, Bool.true_and, Bool.false_and, Bool.true_or, Bool.false_or] at hA27
  clear hA hA24 hA25 hA26 a24 a25
  -- cond
  refine wp_join (fun a wx => ∃ v, At 47 [(1, .pointer (some ⟨w.heap.size, 0, none⟩)), (3, v)] a ∧ Own8 w1.heap.size wx v (be 4 e ++ enc1 k m ++ enc2 k m) ∧ Below w1.heap.size w1 wx) ?jfL ?jrL
  case jfL =>
    refine wp_if hA27 20 _ rfl (fun hq => ?yD2) (fun hq => ?nD2)
    case yD2 =>
      obtain ⟨d0, d1, f0, f1⟩ := hdf hq
      obtain ⟨dt, hdt⟩ : ∃ dt : Nat, m.date = (dt : Int) := ⟨m.date.toNat, by omega⟩
      obtain ⟨ft, hft⟩ : ∃ ft : Nat, m.flags = (ft : Int) := ⟨m.flags.toNat, by omega⟩
      have hwd : IntKind.u64.wrap (dt : Int) = (dt : Int) := IntWalk.u64_in _ (by omega)
      have hwf : IntKind.u8.wrap (ft : Int) = (((UInt8.ofNat ft).toNat : Nat) : Int) := by rw [IntKind.wrap_u8']; simp
      have hvo : ∀ g, v6.ownBlock = some g → g < wx.heap.size := fun g hg => (World.ownsRow.lt hO g hg).2
      -- any
      refine wp_any_at hA27 [(.det ?dE0), (.det ?dE1), (.det ?dE2), (.det ?dE3), (.det ?dE4), (.used (fun v wy => Own8 w1.heap.size wy v (be 6 dt))), (.used (fun v wy => Own8 w1.heap.size wy v (be 4 e ++ enc1 k m ++ be 6 dt))), (.det ?dE7), (.det ?dE8), (.det ?dE9), (.det ?dE10), (.used (fun v wy => ∃ g, v = .slice (some ⟨g, 0, none⟩) 1 1 ∧ some g ≠ v6.ownBlock ∧ Blk wy g 5 #[.int .u8 (((UInt8.ofNat ft).toNat : Nat) : Int)])), (.held (fun v wy => Own8 w1.heap.size wy v (be 4 e ++ enc1 k m ++ be 6 dt ++ be 1 ft))), (.held (fun v wy => Own8 w1.heap.size wy v (be 4 e ++ enc1 k m ++ be 6 dt ++ be 1 ft)))] [⟨none, (some 6), [], fun _ => (fun wy => Own8 w1.heap.size wy v6 (be 4 e ++ enc1 k m)), fun _ _ _ _ h => h⟩] (fun wy => Below w1.heap.size w1 wy ∧ wx.heap.size ≤ wy.heap.size) (TSp [(12, fun _ _ => True), (6, (fun w w' => w.grownBy w' v6.ownBlock))] Grows) (by kernel_rfl) rfl (by kernel_rfl) (by kernel_rfl) rfl (⟨HB.drew, Nat.le_refl _⟩) (stab_sp [(12, fun _ _ => True), (6, (fun w w' => w.grownBy w' v6.ownBlock))] [true, true, true, true, true, false, false, true, true, true, true, false, false, false] [true, true, true, true, true, false, false, true, true, true, true, false, true, true] [(6, 11)] rfl rfl rfl (by kernel_rfl) ⟨trivial, trivial, trivial, trivial, trivial, (fun _ _ _ _ hp hb => hp.below hb), (fun _ _ _ _ hp hb => hp.below hb), trivial, trivial, trivial, trivial, (fun _ _ _ _ ⟨g, e, hne, h⟩ hb => ⟨g, e, hne, h.below hb h.lt⟩), (fun _ _ _ _ hp hb => hp.below hb), (fun _ _ _ _ hp hb => hp.below hb), trivial⟩ ⟨(fun _ _ _ _ ⟨g, e, hne, h⟩ hg => ⟨g, e, hne, h.grown hg hne⟩), trivial⟩) (List.forall_mem_cons.2 ⟨(fun hn => hO), (fun _ h => by cases h)⟩) (phase_sp [(12, fun _ _ => True), (6, (fun w w' => w.grownBy w' v6.ownBlock))] [(none, (some 6))] [] rfl (by kernel_rfl) (List.forall_mem_cons.2 ⟨fun _ => fun _ _ _ hp hR => hp.below hR, (fun _ h => by cases h)⟩) trivial) (List.forall_mem_cons.2 ⟨(fun a h => by first | (exact (no_1 h).elim) | (injection h with h; subst h; exact Nat.le_of_ble_eq_true rfl)), (fun _ h => by cases h)⟩) ⟨?oE0, ?oE1, ?oE2, ?oE3, ?oE4, ?oE5, ?oE6, ?oE7, ?oE8, ?oE9, ?oE10, ?oE11, ?oE12, ?oE13, trivial⟩ (by kernel_rfl) ?fE
      case oE0 =>
        intro ev wo hev hC hs hph
        have e3 := see_env hA27 hs 3 (by kernel_rfl) (by kernel_rfl) rfl
        exact ob_det (wanted_none rfl) rfl (by kernel_rfl) hC (TSp.of rfl (Grows.refl _)) (by simp [go_sem, e3]; try first | exact ⟨rfl, rfl⟩ | rfl)
      case oE1 =>
        intro ev wo hev hC hs hph
        have e1 := see_env hA27 hs 1 (by kernel_rfl) (by kernel_rfl) rfl
        exact ob_det (wanted_none rfl) rfl (by kernel_rfl) hC (TSp.of rfl (Grows.refl _)) (by simp [go_sem, e1]; try first | exact ⟨rfl, rfl⟩ | rfl)
      case oE2 =>
        intro ev wo hev hC hs hph
        have e22 := see_det hs 22 1 (by kernel_rfl) (by kernel_rfl) rfl
        exact ob_det (wanted_none rfl) rfl (by kernel_rfl) hC (TSp.of rfl (Grows.refl _)) (by simp [go_sem, e22]; try first | exact ⟨rfl, rfl⟩ | rfl)
      case oE3 =>
        intro ev wo hev hC hs hph
        have e23 := see_det hs 23 2 (by kernel_rfl) (by kernel_rfl) rfl
        have Kx := K.below hC.1 K.lt
        exact ob_det (wanted_none rfl) rfl (by kernel_rfl) hC (TSp.of rfl (Grows.refl _)) (by simp [go_sem, e23, Kx.cell, hdt, hft, K0.cell]; try first | exact ⟨rfl, rfl⟩ | rfl)
      case oE4 =>
        intro ev wo hev hC hs hph
        have e24 := see_det hs 24 3 (by kernel_rfl) (by kernel_rfl) rfl
        have Kx := K.below hC.1 K.lt
        exact ob_det (wanted_none rfl) rfl (by kernel_rfl) hC (TSp.of rfl (Grows.refl _)) (by simp [go_sem, e24, hwd]; try first | exact ⟨rfl, rfl⟩ | rfl)
      case oE5 =>
        intro ev wo hev hC hs hph
        have e25 := see_det hs 25 4 (by kernel_rfl) (by kernel_rfl) rfl
        have Kx := K.below hC.1 K.lt
        exact ob_yes (wanted_none rfl) (does_enter (by simp [go_sem, e25, hev.func, hev.const]; try first | exact ⟨rfl, rfl⟩ | rfl) (Calls.mono (refBytes_any dt 6 (by omega) (by omega) wo) (by
          rintro ev' w3 ⟨r, rfl, ho, hb3⟩
          exact ⟨r, rfl, ⟨hC.1.trans (hb3.mono hC.1.size), Nat.le_trans hC.2 hb3.size⟩, TSp.of rfl hb3, (Own8.of ho).mono hC.1.size, no_start (by kernel_rfl)⟩)))
      case oE6 =>
        intro ev wo hev hC hs hph
        have e21 := see_det hs 21 0 (by kernel_rfl) (by kernel_rfl) rfl
        have u26 := see_used hs 26 5 (by kernel_rfl) (by kernel_rfl) rfl
        have Kx := K.below hC.1 K.lt
        have hP := hph _ List.mem_cons_self (by kernel_rfl)
        obtain ⟨r, w3, hr, ho, hgr⟩ := run_app8 hP u26.took (by simp only [List.length_append, be_length]; omega) hC.1.size
        exact ob_yes (wanted_none rfl) (does_value (exec_append rfl e21 rfl hr) ⟨⟨below_app8 hC.1 hP hgr (Nat.le_refl _) hC.1.size, Nat.le_trans hC.2 hgr.size⟩, TSp.sp rfl hgr, ho, no_start (by kernel_rfl)⟩)
      case oE7 =>
        intro ev wo hev hC hs hph
        have e1 := see_env hA27 hs 1 (by kernel_rfl) (by kernel_rfl) rfl
        exact ob_det (wanted_none rfl) rfl (by kernel_rfl) hC (TSp.of rfl (Grows.refl _)) (by simp [go_sem, e1]; try first | exact ⟨rfl, rfl⟩ | rfl)
      case oE8 =>
        intro ev wo hev hC hs hph
        have e28 := see_det hs 28 7 (by kernel_rfl) (by kernel_rfl) rfl
        exact ob_det (wanted_none rfl) rfl (by kernel_rfl) hC (TSp.of rfl (Grows.refl _)) (by simp [go_sem, e28]; try first | exact ⟨rfl, rfl⟩ | rfl)
      case oE9 =>
        intro ev wo hev hC hs hph
        have e29 := see_det hs 29 8 (by kernel_rfl) (by kernel_rfl) rfl
        have Kx := K.below hC.1 K.lt
        exact ob_det (wanted_none rfl) rfl (by kernel_rfl) hC (TSp.of rfl (Grows.refl _)) (by simp [go_sem, e29, Kx.cell, hdt, hft, K0.cell]; try first | exact ⟨rfl, rfl⟩ | rfl)
      case oE10 =>
        intro ev wo hev hC hs hph
        have e30 := see_det hs 30 9 (by kernel_rfl) (by kernel_rfl) rfl
        have Kx := K.below hC.1 K.lt
        exact ob_det (wanted_none rfl) rfl (by kernel_rfl) hC (TSp.of rfl (Grows.refl _)) (by simp [go_sem, e30, hwf]; try first | exact ⟨rfl, rfl⟩ | rfl)
      case oE11 =>
        intro ev wo hev hC hs hph
        have e31 := see_det hs 31 10 (by kernel_rfl) (by kernel_rfl) rfl
        have Kx := K.below hC.1 K.lt
        have hbn := (Below.refl wo.heap.size wo).alloc (Nat.le_refl _) (.cells #[.int .u8 (((UInt8.ofNat ft).toNat : Nat) : Int)] 5)
        exact ob_yes (wanted_none rfl) (does_value (v := .slice (some ⟨wo.heap.size, 0, none⟩) 1 1) (w' := wo.alloc (.cells #[.int .u8 (((UInt8.ofNat ft).toNat : Nat) : Int)] 5)) (by simp [go_sem, e31]) ⟨⟨hC.1.trans (hbn.mono hC.1.size), Nat.le_trans hC.2 hbn.size⟩, TSp.of rfl hbn, ⟨_, rfl, fun he => by
          have := hvo _ he.symm
          have := hC.2
          omega, Blk.new wo _ _⟩, no_start (by kernel_rfl)⟩)
      case oE12 =>
        intro ev wo hev hC hs hph
        have u27 := see_used hs 27 6 (by kernel_rfl) (by kernel_rfl) rfl
        have u32 := see_used hs 32 11 (by kernel_rfl) (by kernel_rfl) rfl
        have Kx := K.below hC.1 K.lt
        obtain ⟨g, e32, hne, hbk⟩ := u32
        have htk : Took wo (ev (.tmp 32)) [UInt8.ofNat ft] := by rw [e32]; exact took_blk hbk
        obtain ⟨r, w3, hr, ho, hgr⟩ := run_app8 u27 htk (by simp only [List.length_append, be_length, List.length_cons, List.length_nil]; omega) hC.1.size
        rw [← be_one] at ho
        exact ob_yes (wanted_none rfl) (does_value (exec_append rfl rfl rfl hr) ⟨⟨below_app8 hC.1 u27 hgr (Nat.le_refl _) hC.1.size, Nat.le_trans hC.2 hgr.size⟩, TSp.sp rfl trivial, ho, no_start (by kernel_rfl)⟩)
      case oE13 =>
        intro ev wo hev hC hs hph
        have u33 := see_held hs 33 12 (by kernel_rfl) (by kernel_rfl) rfl
        have Kx := K.below hC.1 K.lt
        exact ob_yes (wanted_none rfl) (does_value (v := ev (.tmp 33)) (by simp [go_sem]) ⟨hC, TSp.of rfl (Grows.refl _), u33, no_start (by kernel_rfl)⟩)
      intro sg wf hC hph
      intro x26 hx26
      intro x27 hx27
      intro x32 hx32
      intro x33 hx33 h33
      intro x3 hx3 h3
      intro a28 hA28
      refine n_then ?_
      have hA29 := hA28.keep [1, 3]
      simp only [argsE, keepE, lookS, Nat.reduceBEq, cond_true, cond_false, Nat.reduceAdd, gv_tt, gv_ff, Bool.true_and, Bool.false_and, Bool.true_or, Bool.false_or] at hA29
      clear hA27 hA28
      exact ⟨_, hA29, by unfold enc2; rw [hq, cond_true, hdt, hft, Int.toNat_natCast, Int.toNat_natCast, ← List.append_assoc]; exact h3, hC.1⟩
    case nD2 =>
      refine wp_skip ?_
      refine n_then ?_
      have hA30 := hA27.keep [1, 3]
      simp only [argsE, keepE, lookS, Nat.reduceBEq, cond_true, cond_false, Nat.reduceAdd, gv_tt, gv_ff, Bool.true_and, Bool.false_and, Bool.true_or, Bool.false_or] at hA30
      clear hA27
      -- joined
      exact ⟨_, hA30, by unfold enc2; rw [hq, cond_false, List.append_nil]; exact hO, HB⟩
  clear hO HB K0
  rintro a wx ⟨v9, hA, hO, HB⟩
  have K0 := K.below HB K.lt
  refine wp_seq ?_
  refine wp_seq ?_
  refine wp_region_lit ?_
  refine wl_op hA rfl rfl (by decide) (fun ev h => by simp [go_sem, h.get 1 rfl, K0.cell]; try first | exact ⟨rfl, rfl⟩ | rfl) fun a31 hA31 => ?_
  refine wl_op hA31 rfl rfl (by decide) (fun ev h => by simp [go_sem, h.get 34 rfl, K0.cell]; try first | exact ⟨rfl, rfl⟩ | rfl) fun a32 hA32 => ?_
  refine wl_op hA32 rfl rfl (by decide) (fun ev h => by simp [go_sem, h.c, h.get 35 rfl, K0.cell]; try first | exact ⟨rfl, rfl⟩ | rfl) fun a33 hA33 => ?_
  refine wl_nil ?_
  refine n_then ?_
  have hA34 := hA33.keep [1, 3, 36]
  simp only [argsE, keepE, lookS, Nat.reduceBEq, cond_true, cond_false, Nat.reduceAdd, gv_tt, gv_ff, Bool.true_and, Bool.false_and, Bool.true_or, Bool.false_or] at hA34
  clear hA hA31 hA32 hA33 a31 a32
  -- cond
  refine wp_join (fun a wx => ∃ v, At 47 [(1, .pointer (some ⟨w.heap.size, 0, none⟩)), (3, v)] a ∧ Own8 w1.heap.size wx v (be 4 e ++ enc1 k m ++ enc2 k m ++ enc3 k nm) ∧ Below w1.heap.size w1 wx) ?jfM ?jrM
  case jfM =>
    refine wp_if hA34 36 _ rfl (fun hq => ?yD3) (fun hq => ?nD3)
    case yD3 =>
      have hq : (k == 3) = false := by
        have : k < 3 := by simpa using hq
        rw [beq_eq_false_iff_ne]
        omega
      refine wp_region_lit ?_
      refine wl_op hA34 rfl rfl (by decide) (fun ev h => by simp [go_sem, h.get 3 rfl, K0.cell]; try first | exact ⟨rfl, rfl⟩ | rfl) fun a35 hA35 => ?_
      refine wl_op hA35 rfl rfl (by decide) (fun ev h => by simp [go_sem, h.get 1 rfl, K0.cell]; try first | exact ⟨rfl, rfl⟩ | rfl) fun a36 hA36 => ?_
      refine wl_op hA36 rfl rfl (by decide) (fun ev h => by simp [go_sem, h.get 38 rfl, K0.cell]; try first | exact ⟨rfl, rfl⟩ | rfl) fun a37 hA37 => ?_
      -- stop call slot 40
      refine wl_call hA37 rfl rfl (by decide) (fun ev h => by simp [go_sem, h.get 39 rfl, K0.cell, h.f]; try first | exact ⟨rfl, rfl⟩ | rfl) (refText_any nm (by omega) _) ?_
      rintro e w10 ⟨v10, rfl, ho, hb⟩
      refine ⟨_, rfl, fun a38 hA38 => ?_⟩
      replace HB := HB.trans (hb.mono HB.size)
      replace hO := hO.below hb
      obtain ⟨r, w11, hr11, ho11, hgr⟩ := run_app8 hO (Own8.of ho).took (by simp only [List.length_append, be_length, textB_size]; omega) HB.size
      refine wl_op hA38 rfl rfl (by decide) (fun ev h => exec_append rfl (h.get 37 rfl) (h.get 40 rfl) hr11) fun a39 hA39 => ?_
      refine wl_op hA39 rfl rfl (by decide) (fun ev h => by simp [go_sem, h.get 41 rfl, K0.cell]; try first | exact ⟨rfl, rfl⟩ | rfl) fun a40 hA40 => ?_
      refine wl_nil ?_
      refine n_then ?_
      have hA41 := hA40.keep [1, 3]
      simp only [argsE, keepE, lookS, Nat.reduceBEq, cond_true, cond_false, Nat.reduceAdd, gv_tt, gv_ff, Bool.true_and, Bool.false_and, Bool.true_or, Bool.false_or] at hA41
      clear hA34 hA35 hA36 hA37 hA38 hA39 hA40 a35 a36 a37 a38 a39
      -- joined
      exact ⟨_, hA41, by unfold enc3; rw [hq, cond_false]; exact ho11, below_app8 HB hO hgr (Nat.le_refl _) HB.size⟩
    case nD3 =>
      have hq : (k == 3) = true := by
        have : ¬ k < 3 := by simpa using hq
        rw [beq_iff_eq]
        omega
      refine wp_skip ?_
      refine n_then ?_
      have hA42 := hA34.keep [1, 3]
      simp only [argsE, keepE, lookS, Nat.reduceBEq, cond_true, cond_false, Nat.reduceAdd, gv_tt, gv_ff, Bool.true_and, Bool.false_and, Bool.true_or, Bool.false_or] at hA42
      clear hA34
      -- joined
      exact ⟨_, hA42, by unfold enc3; rw [hq, cond_true, List.append_nil]; exact hO, HB⟩
  clear hO HB K0
  rintro a wx ⟨v11, hA, hO, HB⟩
  have K0 := K.below HB K.lt
  have HW := hb0.trans (HB.mono hb0.size)
  refine wp_seq ?_
  refine wp_region_lit ?_
  refine wl_op hA rfl rfl (by decide) (fun ev h => by simp [go_sem, h.get 3 rfl, K0.cell]; try first | exact ⟨rfl, rfl⟩ | rfl) fun a43 hA43 => ?_
  refine wl_op hA43 rfl rfl (by decide) (fun ev h => by simp [go_sem, h.get 1 rfl, K0.cell]; try first | exact ⟨rfl, rfl⟩ | rfl) fun a44 hA44 => ?_
  refine wl_op hA44 rfl rfl (by decide) (fun ev h => by simp [go_sem, h.get 43 rfl, K0.cell]; try first | exact ⟨rfl, rfl⟩ | rfl) fun a45 hA45 => ?_
  refine wl_op hA45 rfl rfl (by decide) (fun ev h => by simp [go_sem, h.get 44 rfl, K0.cell]; try first | exact ⟨rfl, rfl⟩ | rfl) fun a46 hA46 => ?_
  -- stop call slot 46
  obtain ⟨r, w12, hr12, ho12, hgr⟩ := run_app8 hO (u := .slice m.a m.b.length m.c) ⟨m.a, m.c, rfl, (hr.below HW).more HW.size⟩ (by simp only [List.length_append, be_length]; omega) HB.size
  refine wl_op hA46 rfl rfl (by decide) (fun ev h => exec_append rfl (h.get 42 rfl) (h.get 45 rfl) hr12) fun a47 hA47 => ?_
  refine wl_op hA47 rfl rfl (by decide) (fun ev h => by simp [go_sem, h.get 46 rfl, K0.cell]; try first | exact ⟨rfl, rfl⟩ | rfl) fun a48 hA48 => ?_
  refine wl_nil ?_
  refine n_then ?_
  have hA49 := hA48.keep [2]
  simp only [argsE, keepE, lookS, Nat.reduceBEq, cond_true, cond_false, Nat.reduceAdd, gv_tt, gv_ff, Bool.true_and, Bool.false_and, Bool.true_or, Bool.false_or] at hA49
  clear hA hA43 hA44 hA45 hA46 hA47 hA48 a43 a44 a45 a46 a47
  refine wp_ret ?_
  refine ret_1 hA49 2 rfl rfl ?_
  exact ⟨r, rfl, ho12.mono hb0.size, hb0.trans ((below_app8 HB hO hgr (Nat.le_refl _) HB.size).mono hb0.size)⟩
end Go.Proofs.YtmjikfeaopmejaaDoor
