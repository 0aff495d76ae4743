/-
  Walks: a mailbox in new memory.
-/
import Derived.Test.YtbbhblnhbgkcaaaDoorOwnMsg
namespace Go.Proofs.YtbbhblnhbgkcaaaDoor
open Go.RowKit
set_option linter.unusedSimpArgs false
set_option linter.unusedVariables false
set_option maxRecDepth 100000 in
theorem cloneM_any (A : Option Addr) (c n : Nat) (l : List MsgV) (w : World) (hn : n ≤ 100000) (hms : Msgs w A n l) :
    Calls Tryd.prog 50 #[.slice A n c] w fun ev w' => ∃ v, ev = .returned v ∧ OwnM w.heap.size w' v l ∧ Below w.heap.size w w' := by
  have hl := hms.len
  refine calls_at 8 Tryd.func50 rfl rfl (Nat.le_of_ble_eq_true rfl) ?_
  intro a hA
  simp only [argsE, keepE, lookS, Nat.reduceBEq, cond_true, cond_false, Nat.reduceAdd, gv_tt, gv_ff, Bool.true_and, Bool.false_and, Bool.true_or, Bool.false_or] at hA
  refine wp_seq ?_
  refine wp_region_lit ?_
  refine wl_op hA rfl rfl (by decide) (fun ev h => by simp [go_sem, h.c, nil_eq Tryd.underlying23]; try first | exact ⟨rfl, rfl⟩ | rfl) fun a1 hA1 => ?_
  refine wl_nil ?_
  refine n_then ?_
  have hA2 := hA1.keep [0]
  simp only [argsE, keepE, lookS, Nat.reduceBEq, cond_true, cond_false, Nat.reduceAdd, gv_tt, gv_ff, Bool.true_and, Bool.false_and, Bool.true_or, Bool.false_or] at hA2
  clear hA hA1
  refine wp_seq ?_
  refine wp_seq ?_
  refine wp_region_lit ?_
  refine wl_op hA2 rfl rfl (by decide) (fun ev h => by simp [go_sem, h.get 0 rfl, nil_eq Tryd.underlying23]; try first | exact ⟨rfl, rfl⟩ | rfl) fun a3 hA3 => ?_
  refine wl_op hA3 rfl rfl (by decide) (fun ev h => by simp [go_sem, h.c, h.get 3 rfl, nil_eq Tryd.underlying23]; try first | exact ⟨rfl, rfl⟩ | rfl) fun a4 hA4 => ?_
  refine wl_nil ?_
  refine n_then ?_
  have hA5 := hA4.keep [0, 4]
  simp only [argsE, keepE, lookS, Nat.reduceBEq, cond_true, cond_false, Nat.reduceAdd, gv_tt, gv_ff, Bool.true_and, Bool.false_and, Bool.true_or, Bool.false_or] at hA5
  clear hA2 hA3 hA4 a1 a3
  -- cond
  refine wp_if hA5 4 _ rfl (fun hq => ?yN) (fun hq => ?nN)
  case yN =>
    refine wp_seq ?_
    refine wp_region_lit ?_
    refine wl_op hA5 rfl rfl (by decide) (fun ev h => by simp [go_sem, h.c, nil_eq Tryd.underlying23]; try first | exact ⟨rfl, rfl⟩ | rfl) fun a6 hA6 => ?_
    refine wl_nil ?_
    refine n_then ?_
    have hA7 := hA6.keep [2]
    simp only [argsE, keepE, lookS, Nat.reduceBEq, cond_true, cond_false, Nat.reduceAdd, gv_tt, gv_ff, Bool.true_and, Bool.false_and, Bool.true_or, Bool.false_or] at hA7
    clear hA5 hA6
    refine wp_ret ?_
    refine r_then ?_
    refine ret_1 hA7 2 rfl rfl ?_
    cases A with
    | some a => cases hq
    | none =>
      obtain ⟨_, rfl⟩ := msgs_none hms
      exact ⟨_, rfl, OwnM.nil _ _, Below.refl _ _⟩
  case nN =>
    have hoff := hms.off (g := w.heap.size) (Nat.le_refl _)
    refine wp_skip ?_
    refine n_then ?_
    refine wp_seq ?_
    refine wp_region_lit ?_
    -- stop buildSlice slot 5
    refine wl_new hA5 rfl rfl (by decide) (fun ev h => by simp [go_sem, nil_eq Tryd.underlying23]; try first | exact ⟨rfl, rfl⟩ | rfl) fun w1 a8 (K : Blk _ _ _ _) hz0 hb0 hA8 => ?_
    replace hms := hms.below hb0
    refine wl_op hA8 rfl rfl (by decide) (fun ev h => by simp [go_sem, h.get 0 rfl, nil_eq Tryd.underlying23]; try first | exact ⟨rfl, rfl⟩ | rfl) fun a9 hA9 => ?_
    -- stop call slot 7
    obtain ⟨r, w2, hr, ho, hg, hwh⟩ := run_appM (u := .slice A n c) (OwnM.empty (B := w.heap.size) K (Nat.le_refl _)) (by rw [hl]) (by rw [hl]; exact hms) (fun g hg m hm => by rw [← Option.some.inj hg]; exact hoff m hm) (by simp; omega) (by omega)
    refine wl_op hA9 rfl rfl (by decide) (fun ev h => exec_append rfl (h.get 5 rfl) (h.get 6 rfl) hr) fun a10 hA10 => ?_
    refine wl_op hA10 rfl rfl (by decide) (fun ev h => by simp [go_sem, h.get 7 rfl, nil_eq Tryd.underlying23]; try first | exact ⟨rfl, rfl⟩ | rfl) fun a11 hA11 => ?_
    refine wl_nil ?_
    refine n_then ?_
    have hA12 := hA11.keep [2]
    simp only [argsE, keepE, lookS, Nat.reduceBEq, cond_true, cond_false, Nat.reduceAdd, gv_tt, gv_ff, Bool.true_and, Bool.false_and, Bool.true_or, Bool.false_or] at hA12
    clear hA5 hA8 hA9 hA10 hA11 a8 a9 a10
    refine wp_ret ?_
    -- ret
    refine ret_1 hA12 2 rfl rfl ?_
    exact ⟨_, rfl, ho, hb0.grown hg (by omega) fun k hk => by rw [← Option.some.inj hk]; exact Nat.le_refl _⟩
set_option maxRecDepth 100000 in
set_option maxHeartbeats 1000000 in
theorem cloneBox_any (nm : ByteArray) (A : Option Addr) (c n e nx : Nat) (l : List MsgV) (w : World) (hn : n ≤ 100000) (hz : ∀ m ∈ l, m.b.length ≤ 1000000000) (hms : Msgs w A n l) :
    Calls Tryd.prog 36 #[.agg (boxC nm e nx A n c)] w fun ev w' => ∃ v l', ev = .returned (.agg #[.string nm, .int .u32 (e : Nat), .int .u32 (nx : Nat), v]) ∧ OwnM w.heap.size w' v l' ∧ bare l' = bare l ∧ Below w.heap.size w w' ∧ NewO w.heap.size l' := by
  have hl := hms.len
  have hoff0 := hms.off (g := w.heap.size) (Nat.le_refl _)
  refine calls_at 28 Tryd.func36 rfl rfl (Nat.le_of_ble_eq_true rfl) ?_
  intro a hA
  simp only [argsE, keepE, lookS, Nat.reduceBEq, cond_true, cond_false, Nat.reduceAdd, gv_tt, gv_ff, Bool.true_and, Bool.false_and, Bool.true_or, Bool.false_or] at hA
  refine wp_seq ?_
  refine wp_region_lit ?_
  -- stop box slot 1
  refine wl_new hA rfl rfl (by decide) (fun ev h => by simp [go_sem, h.get 0 rfl]; try first | exact ⟨rfl, rfl⟩ | rfl) fun w1 a13 (K : Blk _ _ _ _) hz0 hb0 hA13 => ?_
  replace hms := hms.below hb0
  refine wl_new hA13 rfl rfl (by decide) (fun ev h => by simp [go_sem]; try first | exact ⟨rfl, rfl⟩ | rfl) fun w2 a14 (K2 : Blk _ _ _ _) hz2 hb2 hA14 => ?_
  replace hms := hms.below hb2
  replace K := K.below hb2 K.lt
  unfold boxC at K
  refine wl_nil ?_
  refine n_then ?_
  have hA15 := hA14.keep [1, 2]
  simp only [argsE, keepE, lookS, Nat.reduceBEq, cond_true, cond_false, Nat.reduceAdd, gv_tt, gv_ff, Bool.true_and, Bool.false_and, Bool.true_or, Bool.false_or] at hA15
  clear hA hA13 hA14 a13
  refine wp_seq ?_
  refine wp_region_lit ?_
  refine wl_op hA15 rfl rfl (by decide) (fun ev h => by simp [go_sem, h.get 1 rfl, K.cell]; try first | exact ⟨rfl, rfl⟩ | rfl) fun a16 hA16 => ?_
  refine wl_op hA16 rfl rfl (by decide) (fun ev h => by simp [go_sem, h.get 4 rfl, K.cell]; try first | exact ⟨rfl, rfl⟩ | rfl) fun a17 hA17 => ?_
  -- stop call slot 6
  refine wl_call hA17 rfl rfl (by decide) (fun ev h => by simp [go_sem, h.get 5 rfl, K.cell, h.f]; try first | exact ⟨rfl, rfl⟩ | rfl) (cloneM_any A c n l _ hn hms) ?_
  rintro e w3 ⟨v, rfl, ho, hb3⟩
  refine ⟨_, rfl, fun a18 hA18 => ?_⟩
  replace K := K.below hb3 K.lt
  replace K2 := K2.below hb3 K2.lt
  have HB := hb0.trans ((hb2.trans (hb3.mono hb2.size)).mono hb0.size)
  have ho := ho.mono (show w.heap.size ≤ _ by omega)
  obtain ⟨A1, c1, hv, hm1, hc1⟩ := ho.msgs
  rw [hl] at hv hm1 hc1
  subst hv
  have hne1 := own_ne ho.row K (by decide)
  have hne2 := own_ne ho.row K2 (by decide)
  refine wl_op hA18 rfl rfl (by decide) (fun ev h => by simp [go_sem, h.get 1 rfl, K.cell]; try first | exact ⟨rfl, rfl⟩ | rfl) fun a19 hA19 => ?_
  -- stop store slot None
  refine wl_setf [.string nm, .int .u32 (e : Nat), .int .u32 (nx : Nat), .slice A1 n c1] _ hA19 rfl rfl K (j := 3) (by rfl) (fun ev h => by simp [go_sem, h.get 7 rfl, h.get 6 rfl, K.cell, K.cell, K.frozen]; try first | exact ⟨rfl, rfl⟩ | rfl) fun w4 (K : Blk _ _ _ _) hs4 => ?_
  have hb4 := hs4.below HB (Nat.le_refl _)
  have ho4 : OwnM w.heap.size w4 (.slice A1 n c1) l := ho.only hs4 (fun g hg => hne1 g hg) hoff0
  replace K2 := hs4.blk K2 (by omega)
  clear ho hm1 HB
  refine wl_nil ?_
  refine n_then ?_
  have hA20 := hA19.keep [1, 2]
  simp only [argsE, keepE, lookS, Nat.reduceBEq, cond_true, cond_false, Nat.reduceAdd, gv_tt, gv_ff, Bool.true_and, Bool.false_and, Bool.true_or, Bool.false_or] at hA20
  clear hA15 hA16 hA17 hA18 hA19 a14 a16 a17 a18
  refine wp_seq ?_
  refine wp_seq ?_
  refine wp_region_lit ?_
  refine wl_op hA20 rfl rfl (by decide) (fun ev h => by simp [go_sem, h.get 1 rfl, K.cell]; try first | exact ⟨rfl, rfl⟩ | rfl) fun a21 hA21 => ?_
  refine wl_op hA21 rfl rfl (by decide) (fun ev h => by simp [go_sem, h.get 8 rfl, K.cell]; try first | exact ⟨rfl, rfl⟩ | rfl) fun a22 hA22 => ?_
  refine wl_op hA22 rfl rfl (by decide) (fun ev h => by simp [go_sem, h.get 9 rfl, K.cell]; try first | exact ⟨rfl, rfl⟩ | rfl) fun a23 hA23 => ?_
  refine wl_op hA23 rfl rfl (by decide) (fun ev h => by simp [go_sem, h.c, K.cell]; try first | exact ⟨rfl, rfl⟩ | rfl) fun a24 hA24 => ?_
  refine wl_nil ?_
  refine n_then ?_
  have hA25 := hA24.keep [1, 2, 10, 11]
  simp only [argsE, keepE, lookS, Nat.reduceBEq, cond_true, cond_false, Nat.reduceAdd, gv_tt, gv_ff, Bool.true_and, Bool.false_and, Bool.true_or, Bool.false_or] at hA25
  clear hA20 hA21 hA22 hA23 hA24 a19 a21 a22 a23
  refine wp_block ?_
  -- loop
  refine wp_loop_at (fun k a wx => ∃ (j : Nat) (l' : List MsgV), j + k = n ∧ At 28 [(1, .pointer (some ⟨w.heap.size, 0, none⟩)), (2, .pointer (some ⟨w1.heap.size, 0, none⟩)), (10, .int .i64 (n : Nat)), (11, .int .i64 (j : Nat))] a ∧ OwnM w.heap.size wx (.slice A1 n c1) l' ∧ bare l' = bare l ∧ Blk wx w.heap.size 25 #[.string nm, .int .u32 (e : Nat), .int .u32 (nx : Nat), .slice A1 n c1] ∧ Blk wx w1.heap.size 25 #[.string ⟨#[]⟩, .int .u32 0, .int .u32 0, .slice none 0 0] ∧ Below w.heap.size w wx ∧ NewO w.heap.size (l'.take j)) (n) ?_ ?_
  · exact ⟨0, l, by omega, hA25, ho4, rfl, K, K2, hb4, fun _ hm => (by cases hm)⟩
  clear K K2 ho4 hb4 hne1 hne2
  rintro k a wx ⟨j, l', hjk, hA, ho, hbl, K, K2, HB, hno⟩
  have hll := len_of_bare hbl
  have hne1 := own_ne ho.row K (by decide)
  have hne2 := own_ne ho.row K2 (by decide)
  refine wp_seq ?_
  refine wp_region_lit ?_
  refine wl_op hA rfl rfl (by decide) (fun ev h => by simp [go_sem, h.get 11 rfl, h.get 10 rfl]; try first | exact ⟨rfl, rfl⟩ | rfl) fun a26 hA26 => ?_
  refine wl_nil ?_
  refine n_then ?_
  have hA27 := hA26.keep [1, 2, 10, 11, 12]
  simp only [argsE, keepE, lookS, Nat.reduceBEq, cond_true, cond_false, Nat.reduceAdd, gv_tt, gv_ff, Bool.true_and, Bool.false_and, Bool.true_or, Bool.false_or] at hA27
  clear hA hA26
  refine wp_seq ?_
  -- cond
  refine wp_if hA27 12 _ rfl (fun hq => ?yL) (fun hq => ?nL)
  case yL =>
    have hlt : j < n := by simp at hq; omega
    obtain ⟨x, hx⟩ : ∃ x, l'[j]? = some x := ⟨_, List.getElem?_eq_getElem (by omega)⟩
    obtain ⟨y, hy, hxy⟩ := bare_at hbl hx
    have hxz : x.b.length ≤ 1000000000 := by
      rw [show x.b = y.b from (congrArg MsgV.b hxy : (strip x).b = (strip y).b)]
      exact hz y (List.mem_of_getElem? hy)
    obtain ⟨g, cc, hv, hgB, hglt⟩ := ho.at_ (by omega)
    injection hv with hv1 _ hv3
    subst hv1 hv3
    have hg1 := hne1 g rfl
    have hg2 := hne2 g rfl
    have jj0 : (0 : Int) ≤ (j : Int) := by omega
    have jj1 : (j : Int) < (n : Int) := by omega
    have hwj : IntKind.i64.wrap ((j : Int) + 1) = (j : Int) + 1 := IntWalk.i64_in _ (by omega)
    refine wp_skip ?_
    refine n_then ?_
    refine wp_seq ?_
    refine wp_block ?_
    refine wp_seq ?_
    refine wp_region_lit ?_
    refine wl_op hA27 rfl rfl (by decide) (fun ev h => by simp [go_sem, h.get 11 rfl]; try first | exact ⟨rfl, rfl⟩ | rfl) fun a28 hA28 => ?_
    refine wl_op hA28 rfl rfl (by decide) (fun ev h => by simp [go_sem, h.get 13 rfl]; try first | exact ⟨rfl, rfl⟩ | rfl) fun a29 hA29 => ?_
    refine wl_nil ?_
    refine n_then ?_
    have hA30 := hA29.keep [1, 2, 3, 10, 11]
    simp only [argsE, keepE, lookS, Nat.reduceBEq, cond_true, cond_false, Nat.reduceAdd, gv_tt, gv_ff, Bool.true_and, Bool.false_and, Bool.true_or, Bool.false_or] at hA30
    clear hA27 hA28 hA29 a28
    -- any
    refine wp_any_at hA30 [(.det ?dD0), (.det ?dD1), (.det ?dD2), (.det ?dD3), (.det ?dD4), (.det ?dD5), (.det ?dD6), (.det ?dD7), (.det ?dD8), (.used (fun v wy => Own8 w.heap.size wy v (x.b))), (.det ?dD10), (.det ?dD11), (.det undef)] [⟨none, (some 12), [], fun _ => (fun wy => OwnM w.heap.size wy (.slice (some ⟨g, 0, none⟩) n c1) l' ∧ Blk wy w1.heap.size 25 #[.string ⟨#[]⟩, .int .u32 0, .int .u32 0, .slice none 0 0]), fun _ _ _ _ h => h⟩, ⟨(some 12), none, [], fun _ => (fun wy => (∃ a9 c9, OwnM w.heap.size wy (.slice (some ⟨g, 0, none⟩) n c1) (l'.set j ⟨x.uid, x.date, x.flags, a9, c9, x.b⟩) ∧ ∀ ad, a9 = some ad → w.heap.size ≤ ad.block) ∧ Blk wy w1.heap.size 25 #[.string ⟨#[]⟩, .int .u32 0, .int .u32 0, .slice none 0 0]), fun _ _ _ _ h => h⟩] (fun wy => (fun wy => Below w.heap.size w wy) wy ∧ Blk wy (w.heap.size) (25) (#[.string nm, .int .u32 (e : Nat), .int .u32 (nx : Nat), .slice (some ⟨g, 0, none⟩) n c1])) (TSp [(12, (fun _ _ => True))] Grows) (by kernel_rfl) rfl (by kernel_rfl) (by kernel_rfl) rfl (⟨HB.drew, (K).drew⟩) (stab_sp [(12, (fun _ _ => True))] [true, true, true, true, true, true, true, true, true, false, true, true, true] [true, true, true, true, true, true, true, true, true, false, true, true, true] [] rfl rfl rfl (by kernel_rfl) ⟨trivial, trivial, trivial, trivial, trivial, trivial, trivial, trivial, trivial, (fun _ _ _ _ hp hb => hp.below hb), trivial, trivial, trivial, trivial⟩ trivial) (List.forall_mem_cons.2 ⟨(fun hn => ⟨ho.below (Below.refl _ _).drew, K2.drew⟩), (List.forall_mem_cons.2 ⟨(fun hn => by cases hn), (fun _ h => by cases h)⟩)⟩) (phase_sp [(12, (fun _ _ => True))] [(none, (some 12)), ((some 12), none)] [] rfl (by kernel_rfl) (List.forall_mem_cons.2 ⟨fun _ => fun _ _ _ hp hb => ⟨hp.1.below hb, hp.2.below hb hp.2.lt⟩, (List.forall_mem_cons.2 ⟨fun _ => fun _ _ _ ⟨⟨a9, c9, hp, hp3⟩, hp2⟩ hb => ⟨⟨a9, c9, hp.below hb, hp3⟩, hp2.below hb hp2.lt⟩, (fun _ h => by cases h)⟩)⟩) trivial) (List.forall_mem_cons.2 ⟨(fun a h => by first | (exact (no_1 h).elim) | (injection h with h; subst h; exact Nat.le_of_ble_eq_true rfl)), (List.forall_mem_cons.2 ⟨(fun a h => by first | (exact (no_1 h).elim) | (injection h with h; subst h; exact Nat.le_of_ble_eq_true rfl)), (fun _ h => by cases h)⟩)⟩) ⟨?oD0, ?oD1, ?oD2, ?oD3, ?oD4, ?oD5, ?oD6, ?oD7, ?oD8, ?oD9, ?oD10, ?oD11, ?oD12, trivial⟩ (by kernel_rfl) ?fD
    case oD0 =>
      intro ev wo hev hC hs hph
      have e1 := see_env hA30 hs 1 (by kernel_rfl) (by kernel_rfl) rfl
      exact ob_det (wanted_none rfl) rfl (by kernel_rfl) hC (TSp.of rfl (Grows.refl _)) (by simp [go_sem, e1]; try first | exact ⟨rfl, rfl⟩ | rfl)
    case oD1 =>
      intro ev wo hev hC hs hph
      have e14 := see_det hs 14 0 (by kernel_rfl) (by kernel_rfl) rfl
      have hL := (hph _ List.mem_cons_self (by kernel_rfl))
      exact ob_det (wanted_none rfl) rfl (by kernel_rfl) hC (TSp.of rfl (Grows.refl _)) (by simp [go_sem, e14, hC.2.cell, add0, hL.1.cell hx (k := 3) rfl]; try first | exact ⟨rfl, rfl⟩ | rfl)
    case oD2 =>
      intro ev wo hev hC hs hph
      have e3 := see_env hA30 hs 3 (by kernel_rfl) (by kernel_rfl) rfl
      exact ob_det (wanted_none rfl) rfl (by kernel_rfl) hC (TSp.of rfl (Grows.refl _)) (by simp [go_sem, e3]; try first | exact ⟨rfl, rfl⟩ | rfl)
    case oD3 =>
      intro ev wo hev hC hs hph
      have e1 := see_env hA30 hs 1 (by kernel_rfl) (by kernel_rfl) rfl
      exact ob_det (wanted_none rfl) rfl (by kernel_rfl) hC (TSp.of rfl (Grows.refl _)) (by simp [go_sem, e1]; try first | exact ⟨rfl, rfl⟩ | rfl)
    case oD4 =>
      intro ev wo hev hC hs hph
      have e17 := see_det hs 17 3 (by kernel_rfl) (by kernel_rfl) rfl
      have hL := (hph _ List.mem_cons_self (by kernel_rfl))
      exact ob_det (wanted_none rfl) rfl (by kernel_rfl) hC (TSp.of rfl (Grows.refl _)) (by simp [go_sem, e17, hC.2.cell, add0, hL.1.cell hx (k := 3) rfl]; try first | exact ⟨rfl, rfl⟩ | rfl)
    case oD5 =>
      intro ev wo hev hC hs hph
      have e3 := see_env hA30 hs 3 (by kernel_rfl) (by kernel_rfl) rfl
      exact ob_det (wanted_none rfl) rfl (by kernel_rfl) hC (TSp.of rfl (Grows.refl _)) (by simp [go_sem, e3]; try first | exact ⟨rfl, rfl⟩ | rfl)
    case oD6 =>
      intro ev wo hev hC hs hph
      have e18 := see_det hs 18 4 (by kernel_rfl) (by kernel_rfl) rfl
      have e19 := see_det hs 19 5 (by kernel_rfl) (by kernel_rfl) rfl
      have hL := (hph _ List.mem_cons_self (by kernel_rfl))
      exact ob_det (wanted_none rfl) rfl (by kernel_rfl) hC (TSp.of rfl (Grows.refl _)) (by simp [go_sem, e18, e19, jj0, jj1, add0]; try first | exact ⟨rfl, rfl⟩ | rfl)
    case oD7 =>
      intro ev wo hev hC hs hph
      have e20 := see_det hs 20 6 (by kernel_rfl) (by kernel_rfl) rfl
      exact ob_det (wanted_none rfl) rfl (by kernel_rfl) hC (TSp.of rfl (Grows.refl _)) (by simp [go_sem, e20]; try first | exact ⟨rfl, rfl⟩ | rfl)
    case oD8 =>
      intro ev wo hev hC hs hph
      have e21 := see_det hs 21 7 (by kernel_rfl) (by kernel_rfl) rfl
      have hL := (hph _ List.mem_cons_self (by kernel_rfl))
      exact ob_det (wanted_none rfl) rfl (by kernel_rfl) hC (TSp.of rfl (Grows.refl _)) (by simp [go_sem, e21, hC.2.cell, add0, hL.1.cell hx (k := 3) rfl]; try first | exact ⟨rfl, rfl⟩ | rfl)
    case oD9 =>
      intro ev wo hev hC hs hph
      have e22 := see_det hs 22 8 (by kernel_rfl) (by kernel_rfl) rfl
      have hL := (hph _ List.mem_cons_self (by kernel_rfl))
      exact ob_yes (wanted_none rfl) (does_enter (by simp [go_sem, e22, hev.func, hev.const]; try first | exact ⟨rfl, rfl⟩ | rfl) (Calls.mono (clone_any x.a x.b.length x.c x.b _ rfl hxz (hL.1.octs x (List.mem_of_getElem? hx))) (by
        rintro ev2 w3 ⟨r, rfl, ho, hb3⟩
        exact ⟨r, rfl, ⟨hC.1.trans (hb3.mono hC.1.size), hC.2.below hb3 hC.2.lt⟩, TSp.of rfl hb3, (Own8.of ho).mono hC.1.size, no_start (by kernel_rfl)⟩)))
    case oD10 =>
      intro ev wo hev hC hs hph
      have e15 := see_det hs 15 1 (by kernel_rfl) (by kernel_rfl) rfl
      have e16 := see_det hs 16 2 (by kernel_rfl) (by kernel_rfl) rfl
      have hL := (hph _ List.mem_cons_self (by kernel_rfl))
      exact ob_det (wanted_none rfl) rfl (by kernel_rfl) hC (TSp.of rfl (Grows.refl _)) (by simp [go_sem, e15, e16, jj0, jj1, add0]; try first | exact ⟨rfl, rfl⟩ | rfl)
    case oD11 =>
      intro ev wo hev hC hs hph
      have e24 := see_det hs 24 10 (by kernel_rfl) (by kernel_rfl) rfl
      exact ob_det (wanted_none rfl) rfl (by kernel_rfl) hC (TSp.of rfl (Grows.refl _)) (by simp [go_sem, e24]; try first | exact ⟨rfl, rfl⟩ | rfl)
    case oD12 =>
      intro ev wo hev hC hs hph
      have e25 := see_det hs 25 11 (by kernel_rfl) (by kernel_rfl) rfl
      have u23 := see_used hs 23 9 (by kernel_rfl) (by kernel_rfl) rfl
      have hL := (hph _ List.mem_cons_self (by kernel_rfl))
      obtain ⟨a9, c9, e23, hcap⟩ := own_caps u23
      have hr9 := u23.took
      rw [e23] at u23 hr9
      obtain ⟨a8, c8, e8, hr8⟩ := hr9
      injection e8 with e8 _ e9
      subst e8 e9
      have hoff9 : Off g ⟨x.uid, x.date, x.flags, a9, c9, x.b⟩ := fun hn ad ha he => by
        simp only at ha
        subst ha
        exact own_ne2 hL.1.row u23 (by decide) rfl rfl he.symm
      obtain ⟨h8, h9⟩ := hL.1.set (y := ⟨x.uid, x.date, x.flags, a9, c9, x.b⟩) hx (j := 3) (by omega) rfl hr8 hoff9 (hL.1.uids x (List.mem_of_getElem? hx)) hcap
      have hfr := hL.1.row
      rw [own_len hL.1.row] at hfr
      exact ob_yes (wanted_none rfl) (does_skip (by simp [go_sem, e25, e23, hL.1.cell hx (k := 3) rfl, hfr.frozenAt]; try first | exact ⟨rfl, rfl⟩ | rfl) ⟨⟨hC.1.grown h9 hC.1.size fun k hk => by rw [← Option.some.inj hk]; exact hgB, hC.2.grown h9 (fun e => hg1 (Option.some.inj e).symm)⟩, TSp.sp rfl trivial, rfl, (List.forall_mem_cons.2 ⟨fun h => (no_1 h).elim, (List.forall_mem_cons.2 ⟨fun _ => ⟨⟨a9, c9, h8, fun ad e => (World.ownsRow.lt u23 ad.block (by rw [e]; rfl)).1⟩, hL.2.grown h9 (fun e => hg2 (Option.some.inj e).symm)⟩, (fun _ h => by cases h)⟩)⟩)⟩)
    intro sg wf hC hph
    intro x23 hx23
    intro a31 hA31
    refine n_block ?_
    refine n_then ?_
    have hA32 := hA31.keep [1, 2, 10, 11]
    simp only [argsE, keepE, lookS, Nat.reduceBEq, cond_true, cond_false, Nat.reduceAdd, gv_tt, gv_ff, Bool.true_and, Bool.false_and, Bool.true_or, Bool.false_or] at hA32
    clear hA30 hA31 a29
    obtain ⟨⟨a9, c9, ho9, hn9⟩, K9⟩ := (hph _ (List.mem_cons_of_mem _ List.mem_cons_self) rfl)
    refine wp_region_lit ?_
    refine wl_op hA32 rfl rfl (by decide) (fun ev h => by simp [go_sem, h.c, h.get 11 rfl, hwj]; try first | exact ⟨rfl, rfl⟩ | rfl) fun a33 hA33 => ?_
    refine wl_op hA33 rfl rfl (by decide) (fun ev h => by simp [go_sem, h.get 26 rfl, hwj]; try first | exact ⟨rfl, rfl⟩ | rfl) fun a34 hA34 => ?_
    refine wl_nil ?_
    refine n_then ?_
    have hA35 := hA34.keep [1, 2, 10, 11]
    simp only [argsE, keepE, lookS, Nat.reduceBEq, cond_true, cond_false, Nat.reduceAdd, gv_tt, gv_ff, Bool.true_and, Bool.false_and, Bool.true_or, Bool.false_or] at hA35
    clear hA32 hA33 hA34 a31 a33
    -- round
    rw [show ((j : Int) + 1) = ((j + 1 : Nat) : Int) by omega] at hA35
    exact ⟨k - 1, by omega, j + 1, _, by omega, hA35, ho9, (bare_set (y := ⟨x.uid, x.date, x.flags, a9, c9, x.b⟩) hx rfl).trans hbl, hC.2, K9, hC.1, by
      rw [List.take_add_one, List.take_set_of_le (Nat.le_refl j), List.getElem?_set_self (by omega)]
      exact hno.append fun m hm hn ad ha => by
        rw [List.mem_singleton.1 hm] at ha
        exact hn9 ad ha⟩
  case nL =>
    have hjn : j = n := by simp at hq; omega
    subst hjn
    refine wp_exit ?_
    refine x_then ?_
    refine x_then ?_
    refine x_block ?_
    refine n_then ?_
    have hA36 := hA27.keep [1, 2]
    simp only [argsE, keepE, lookS, Nat.reduceBEq, cond_true, cond_false, Nat.reduceAdd, gv_tt, gv_ff, Bool.true_and, Bool.false_and, Bool.true_or, Bool.false_or] at hA36
    clear hA27
    refine wp_seq ?_
    refine wp_region_lit ?_
    refine wl_op hA36 rfl rfl (by decide) (fun ev h => by simp [go_sem, h.get 1 rfl, K.cell]; try first | exact ⟨rfl, rfl⟩ | rfl) fun a37 hA37 => ?_
    -- stop store slot None
    have hoff1 : ∀ m ∈ l', Off w1.heap.size m := fun m hm => off_blk (ho.octs m hm) K2 rfl
    refine wl_set [.string nm, .int .u32 (e : Nat), .int .u32 (nx : Nat), .slice A1 j c1] hA37 rfl rfl K2 (by rfl) (fun ev h => by simp [go_sem, h.get 2 rfl, h.get 27 rfl, K.cell, setAll, K2.cell, K2.frozen]) fun w5 (K2 : Blk _ _ _ _) hs5 => ?_
    refine wl_nil ?_
    refine n_then ?_
    have hA38 := hA37.keep [2]
    simp only [argsE, keepE, lookS, Nat.reduceBEq, cond_true, cond_false, Nat.reduceAdd, gv_tt, gv_ff, Bool.true_and, Bool.false_and, Bool.true_or, Bool.false_or] at hA38
    clear hA36 hA37
    refine wp_ret ?_
    refine bodyPost_ret (by simp [results, Tryd.results36, go_sem, hA38.env 2 _ rfl, K2.cell]; try first | exact ⟨rfl, rfl⟩ | rfl) hA38.defers ?_
    exact ⟨_, l', rfl, ho.only hs5 hne2 hoff1, hbl, hs5.below HB (by omega), by rwa [List.take_of_length_le (by omega)] at hno⟩
end Go.Proofs.YtbbhblnhbgkcaaaDoor
