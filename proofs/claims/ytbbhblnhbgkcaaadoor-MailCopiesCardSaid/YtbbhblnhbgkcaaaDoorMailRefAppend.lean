/-
  Walks: a message is put behind, as the document says.
-/
import Derived.Test.YtbbhblnhbgkcaaaDoorMailAppend
namespace Go.Proofs.YtbbhblnhbgkcaaaDoor
open Go.RowKit
set_option linter.unusedSimpArgs false
set_option linter.unusedVariables false
/-- a mailbox whose row is one's own; its octets are those of some messages -/
def GivesO (B : Nat) (w : World) (r : Value) (b : BoxV) (l0 : List MsgV) : Prop := ∃ v l', r = .agg #[.string b.nm, .int .u32 (b.e : Nat), .int .u32 (b.nx : Nat), v] ∧ OwnM B w v l' ∧ bare l' = b.l ∧ ∀ y ∈ l', ∃ z ∈ l0, z.a = y.a ∧ z.b = y.b
theorem GivesO.zero (B : Nat) (w : World) (l0 : List MsgV) : GivesO B w (.agg #[.string ⟨#[]⟩, .int .u32 0, .int .u32 0, .slice none 0 0]) zeroB l0 := ⟨_, [], rfl, OwnM.nil B w, rfl, fun _ h => (by cases h)⟩
theorem off_lt {g : Nat} {w : World} {m : MsgV} (h : Reads w w.heap.size 1 m.a m.b.length (u8s m.b)) (hg : w.heap.size ≤ g) : Off g m := fun hn ad ha he => by
  obtain ⟨ad', e, hlt, _⟩ := h.2 hn
  rw [ha] at e
  injection e with e
  subst e
  omega
theorem own_ge {B : Nat} {w : World} {v : Value} {l : List MsgV} (h : OwnM B w v l) {g : Nat} (hg : v.ownBlock = some g) : B ≤ g := (World.ownsRow.lt h.row g hg).1
theorem blk_two {w : World} {g k : Nat} {T : TypeId} {cs ds : Array Value} (h : Blk w g T cs) (h2 : Blk w k T ds) (hne : cs.size ≠ ds.size) : g ≠ k := fun e => by
  subst e
  unfold Blk at h h2
  rw [h] at h2
  injection h2 with h2
  injection h2 with h2
  exact hne (by rw [h2])
set_option maxRecDepth 100000 in
set_option maxHeartbeats 2000000 in
theorem refAppend_any (nm : ByteArray) (A : Option Addr) (c n e nx : Nat) (l : List MsgV) (m : MsgV) (w : World) (hn : n ≤ 140737488355328) (hnx : nx < 4294967296) (hms : Msgs w A n l) (hmo : Reads w w.heap.size 1 m.a m.b.length (u8s m.b)) (hcap : m.b.length ≤ m.c ∧ m.c ≤ 9223372036854775807) :
    Calls Tryd.prog 18 #[.agg (boxC nm e nx A n c), .agg #[.int .u32 (m.uid : Nat), .int .i64 m.date, .int .i64 m.flags, .slice m.a m.b.length m.c]] w fun ev w' => ∃ r, ev = .returned (.tuple #[r, .int .u32 ((refAppV nm e nx l m).2.1 : Nat), .int .i64 ((refAppV nm e nx l m).2.2 : Nat)]) ∧ GivesO w.heap.size w' r (refAppV nm e nx l m).1 (l ++ [m]) ∧ Below w.heap.size w w' := by
  have hl := hms.len
  refine calls_at 34 Tryd.func18 rfl rfl (Nat.le_of_ble_eq_true rfl) ?_
  intro a hA
  simp only [argsE, keepE, lookS, Nat.reduceBEq, cond_true, cond_false, Nat.reduceAdd, gv_tt, gv_ff, Bool.true_and, Bool.false_and, Bool.true_or, Bool.false_or] at hA
  refine wp_seq ?_
  refine wp_region_lit ?_
  -- stop box slot 2
  refine wl_new hA rfl rfl (by decide) (fun ev h => by simp [go_sem, h.get 0 rfl]; try first | exact ⟨rfl, rfl⟩ | rfl) fun w1 a1 (K2 : Blk _ _ _ _) hz1 hb1 hA1 => ?_
  refine wl_new hA1 rfl rfl (by decide) (fun ev h => by simp [go_sem, h.get 1 rfl]; try first | exact ⟨rfl, rfl⟩ | rfl) fun w2 a2 (K3 : Blk _ _ _ _) hz2 hb2 hA2 => ?_
  replace K2 := K2.below hb2 K2.lt
  refine wl_new hA2 rfl rfl (by decide) (fun ev h => by simp [go_sem]; try first | exact ⟨rfl, rfl⟩ | rfl) fun w3 a3 (K4 : Blk _ _ _ _) hz3 hb3 hA3 => ?_
  replace K2 := K2.below hb3 K2.lt
  replace K3 := K3.below hb3 K3.lt
  have HB := hb1.trans ((hb2.trans (hb3.mono hb2.size)).mono hb1.size)
  unfold boxC at K2
  refine wl_op hA3 rfl rfl (by decide) (fun ev h => by simp [go_sem, h.c, K2.cell, K3.cell]; try first | exact ⟨rfl, rfl⟩ | rfl) fun a4 hA4 => ?_
  refine wl_op hA4 rfl rfl (by decide) (fun ev h => by simp [go_sem, h.c, K2.cell, K3.cell]; try first | exact ⟨rfl, rfl⟩ | rfl) fun a5 hA5 => ?_
  refine wl_nil ?_
  refine n_then ?_
  have hA6 := hA5.keep [2, 3, 4]
  simp only [argsE, keepE, lookS, Nat.reduceBEq, cond_true, cond_false, Nat.reduceAdd, gv_tt, gv_ff, Bool.true_and, Bool.false_and, Bool.true_or, Bool.false_or] at hA6
  clear hA hA1 hA2 hA3 hA4 hA5 a1 a2 a3 a4
  refine wp_seq ?_
  refine wp_seq ?_
  refine wp_region_lit ?_
  refine wl_op hA6 rfl rfl (by decide) (fun ev h => by simp [go_sem, h.get 2 rfl, K2.cell, K3.cell]; try first | exact ⟨rfl, rfl⟩ | rfl) fun a7 hA7 => ?_
  refine wl_op hA7 rfl rfl (by decide) (fun ev h => by simp [go_sem, h.get 7 rfl, K2.cell, K3.cell]; try first | exact ⟨rfl, rfl⟩ | rfl) fun a8 hA8 => ?_
  refine wl_op hA8 rfl rfl (by decide) (fun ev h => by simp [go_sem, h.get 8 rfl, K2.cell, K3.cell]; try first | exact ⟨rfl, rfl⟩ | rfl) fun a9 hA9 => ?_
  refine wl_op hA9 rfl rfl (by decide) (fun ev h => by simp [go_sem, h.c, h.get 9 rfl, K2.cell, K3.cell]; try first | exact ⟨rfl, rfl⟩ | rfl) fun a10 hA10 => ?_
  refine wl_nil ?_
  refine n_then ?_
  have hA11 := hA10.keep [2, 3, 4, 10]
  simp only [argsE, keepE, lookS, Nat.reduceBEq, cond_true, cond_false, Nat.reduceAdd, gv_tt, gv_ff, Bool.true_and, Bool.false_and, Bool.true_or, Bool.false_or] at hA11
  clear hA6 hA7 hA8 hA9 hA10 a5 a7 a8 a9
  -- cond
  rw [show decide ((499 : Int) < (n : Int)) = decide (499 < l.length) by rw [hl, Bool.eq_iff_iff]; simp; omega] at hA11
  refine wp_if hA11 10 _ rfl (fun hq => ?yC) (fun hq => ?nC)
  case yC =>
    have hap : refAppV nm e nx l m = (zeroB, 0, 5) := by unfold refAppV; rw [hq]; rfl
    rw [hap]
    refine wp_seq ?_
    refine wp_region_lit ?_
    refine wl_op hA11 rfl rfl (by decide) (fun ev h => by simp [go_sem, K2.cell, K3.cell]; try first | exact ⟨rfl, rfl⟩ | rfl) fun a12 hA12 => ?_
    -- stop store slot None
    refine wl_set [.string ⟨#[]⟩, .int .u32 0, .int .u32 0, .slice none 0 0] hA12 rfl rfl K4 (by rfl) (fun ev h => by simp [go_sem, h.get 4 rfl, h.get 11 rfl, K2.cell, K3.cell, setAll, K4.cell, K4.frozen]) fun w6 (K4 : Blk _ _ _ _) hs6 => ?_
    refine wl_op hA12 rfl rfl (by decide) (fun ev h => by simp [go_sem, h.c, K4.cell]; try first | exact ⟨rfl, rfl⟩ | rfl) fun a13 hA13 => ?_
    refine wl_op hA13 rfl rfl (by decide) (fun ev h => by simp [go_sem, h.c, K4.cell]; try first | exact ⟨rfl, rfl⟩ | rfl) fun a14 hA14 => ?_
    refine wl_nil ?_
    refine n_then ?_
    have hA15 := hA14.keep [4, 5, 6]
    simp only [argsE, keepE, lookS, Nat.reduceBEq, cond_true, cond_false, Nat.reduceAdd, gv_tt, gv_ff, Bool.true_and, Bool.false_and, Bool.true_or, Bool.false_or] at hA15
    clear hA11 hA12 hA13 hA14 a12 a13
    refine wp_ret ?_
    refine r_then ?_
    refine bodyPost_ret (by simp [results, Tryd.results18, go_sem, hA15.env 4 _ rfl, hA15.env 5 _ rfl, hA15.env 6 _ rfl, K4.cell]; try first | exact ⟨rfl, rfl⟩ | rfl) hA15.defers ?_
    exact ⟨_, rfl, GivesO.zero _ _ _, hs6.below HB (by omega)⟩
  case nC =>
    have hap : refAppV nm e nx l m = bif nx == 4294967295 then (zeroB, 0, 4) else putV nm e nx l m := by unfold refAppV; rw [hq]; rfl
    have hnl : n ≤ 499 := by simp at hq; omega
    clear hq
    refine wp_skip ?_
    refine n_then ?_
    refine wp_seq ?_
    refine wp_seq ?_
    refine wp_region_lit ?_
    refine wl_op hA11 rfl rfl (by decide) (fun ev h => by simp [go_sem, h.get 2 rfl, K2.cell, K3.cell]; try first | exact ⟨rfl, rfl⟩ | rfl) fun a16 hA16 => ?_
    refine wl_op hA16 rfl rfl (by decide) (fun ev h => by simp [go_sem, h.get 12 rfl, K2.cell, K3.cell]; try first | exact ⟨rfl, rfl⟩ | rfl) fun a17 hA17 => ?_
    refine wl_op hA17 rfl rfl (by decide) (fun ev h => by simp [go_sem, h.c, h.get 13 rfl, K2.cell, K3.cell]; try first | exact ⟨rfl, rfl⟩ | rfl) fun a18 hA18 => ?_
    refine wl_nil ?_
    refine n_then ?_
    have hA19 := hA18.keep [2, 3, 4, 14]
    simp only [argsE, keepE, lookS, Nat.reduceBEq, cond_true, cond_false, Nat.reduceAdd, gv_tt, gv_ff, Bool.true_and, Bool.false_and, Bool.true_or, Bool.false_or] at hA19
    clear hA11 hA16 hA17 hA18 a16 a17
    -- cond
    rw [show ((nx : Int) == 4294967295) = (nx == 4294967295) by rw [Bool.eq_iff_iff, beq_iff_eq, beq_iff_eq]; omega] at hA19
    refine wp_if hA19 14 _ rfl (fun hq => ?yD) (fun hq => ?nD)
    case yD =>
      rw [hq, cond_true] at hap
      rw [hap]
      refine wp_seq ?_
      refine wp_region_lit ?_
      refine wl_op hA19 rfl rfl (by decide) (fun ev h => by simp [go_sem, K2.cell, K3.cell]; try first | exact ⟨rfl, rfl⟩ | rfl) fun a20 hA20 => ?_
      -- stop store slot None
      refine wl_set [.string ⟨#[]⟩, .int .u32 0, .int .u32 0, .slice none 0 0] hA20 rfl rfl K4 (by rfl) (fun ev h => by simp [go_sem, h.get 4 rfl, h.get 15 rfl, K2.cell, K3.cell, setAll, K4.cell, K4.frozen]) fun w6 (K4 : Blk _ _ _ _) hs6 => ?_
      refine wl_op hA20 rfl rfl (by decide) (fun ev h => by simp [go_sem, h.c, K4.cell]; try first | exact ⟨rfl, rfl⟩ | rfl) fun a21 hA21 => ?_
      refine wl_op hA21 rfl rfl (by decide) (fun ev h => by simp [go_sem, h.c, K4.cell]; try first | exact ⟨rfl, rfl⟩ | rfl) fun a22 hA22 => ?_
      refine wl_nil ?_
      refine n_then ?_
      have hA23 := hA22.keep [4, 5, 6]
      simp only [argsE, keepE, lookS, Nat.reduceBEq, cond_true, cond_false, Nat.reduceAdd, gv_tt, gv_ff, Bool.true_and, Bool.false_and, Bool.true_or, Bool.false_or] at hA23
      clear hA19 hA20 hA21 hA22 a20 a21
      refine wp_ret ?_
      refine r_then ?_
      refine bodyPost_ret (by simp [results, Tryd.results18, go_sem, hA23.env 4 _ rfl, hA23.env 5 _ rfl, hA23.env 6 _ rfl, K4.cell]; try first | exact ⟨rfl, rfl⟩ | rfl) hA23.defers ?_
      exact ⟨_, rfl, GivesO.zero _ _ _, hs6.below HB (by omega)⟩
    case nD =>
      rw [hq, cond_false] at hap
      have hnx2 : nx + 1 < 4294967296 := by simp at hq; omega
      rw [hap]
      unfold putV
      clear hq hap
      refine wp_skip ?_
      refine n_then ?_
      refine wp_seq ?_
      refine wp_region_lit ?_
      refine wl_op hA19 rfl rfl (by decide) (fun ev h => by simp [go_sem, h.get 2 rfl, K2.cell, K3.cell]; try first | exact ⟨rfl, rfl⟩ | rfl) fun a24 hA24 => ?_
      refine wl_op hA24 rfl rfl (by decide) (fun ev h => by simp [go_sem, h.get 16 rfl, K2.cell, K3.cell]; try first | exact ⟨rfl, rfl⟩ | rfl) fun a25 hA25 => ?_
      refine wl_op hA25 rfl rfl (by decide) (fun ev h => by simp [go_sem, h.get 3 rfl, K2.cell, K3.cell]; try first | exact ⟨rfl, rfl⟩ | rfl) fun a26 hA26 => ?_
      -- stop store slot None
      refine wl_setf [.int .u32 (nx : Nat), .int .i64 m.date, .int .i64 m.flags, .slice m.a m.b.length m.c] _ hA26 rfl rfl K3 (j := 0) (by rfl) (fun ev h => by simp [go_sem, h.get 18 rfl, h.get 17 rfl, K2.cell, K3.cell, K3.cell, K3.frozen]; try first | exact ⟨rfl, rfl⟩ | rfl) fun w4 (K3 : Blk _ _ _ _) hs4 => ?_
      replace HB := hs4.below HB (by omega)
      replace K2 := hs4.blk K2 (by omega)
      replace K4 := hs4.blk K4 (by omega)
      have hz4 := hs4.size
      have hms4 := hms.below HB
      have hmo4 := (hmo.below HB).more HB.size
      refine wl_nil ?_
      refine n_then ?_
      have hA27 := hA26.keep [2, 3, 4]
      simp only [argsE, keepE, lookS, Nat.reduceBEq, cond_true, cond_false, Nat.reduceAdd, gv_tt, gv_ff, Bool.true_and, Bool.false_and, Bool.true_or, Bool.false_or] at hA27
      clear hA19 hA24 hA25 hA26 a24 a25
      refine wp_seq ?_
      -- any
      refine wp_region_split 7 ?_
      simp only [List.take_succ_cons, List.take_zero, List.drop_succ_cons, List.drop_zero]
      refine wp_any_split_at hA27 [(.used (fun v wy => ∃ g, v = .slice (some ⟨g, 0, none⟩) 0 0 ∧ w4.heap.size ≤ g ∧ Blk wy g 30 #[])), (.det ?dE1), (.det ?dE2), (.used (fun v wy => OwnM w4.heap.size wy v l)), (.det ?dE4), (.used (fun v wy => ∃ g, v = .slice (some ⟨g, 0, none⟩) 1 1 ∧ Blk wy g 30 #[.int .u32 (nx : Nat), .int .i64 m.date, .int .i64 m.flags, .slice m.a m.b.length m.c])), (.held (fun v wy => OwnM w4.heap.size wy v (l ++ [(⟨nx, m.date, m.flags, m.a, m.c, m.b⟩ : MsgV)])))] [] (fun wy => Below w4.heap.size w4 wy) (TSp [(3, (fun wy wz => ∃ g, Blk wy g 30 #[] ∧ wy.grownBy wz (some g))), (6, (fun _ _ => True))] Grows) (by kernel_rfl) rfl (by kernel_rfl) (by kernel_rfl) rfl (by kernel_rfl) (by kernel_rfl) (by kernel_rfl) (by kernel_rfl) ((Below.refl w4.heap.size w4).drew) (stab_sp [(3, (fun wy wz => ∃ g, Blk wy g 30 #[] ∧ wy.grownBy wz (some g))), (6, (fun _ _ => True))] [false, true, true, false, true, false, false] [false, true, true, false, true, false, true] [(3, 5)] rfl rfl rfl (by kernel_rfl) ⟨(fun _ _ _ _ ⟨g, hx, hg, hk⟩ hb => ⟨g, hx, hg, hk.below hb hk.lt⟩), trivial, trivial, (fun _ _ _ _ hp hb => hp.below hb), trivial, (fun _ _ _ _ ⟨g, hx, hk⟩ hb => ⟨g, hx, hk.below hb hk.lt⟩), (fun _ _ _ _ hp hb => hp.below hb), trivial⟩ ⟨(fun x wy wz _ ⟨g, hx, hk⟩ ⟨k, hg, hgr⟩ => ⟨g, hx, hk.grown hgr (fun e => blk_two hk hg (by simp) (Option.some.inj e))⟩), trivial⟩) (fun _ h => by cases h) (fun _ _ _ _ _ h => by cases h) (fun _ h => by cases h) ⟨?oE0, ?oE1, ?oE2, ?oE3, ?oE4, ?oE5, ?oE6, trivial⟩ (by kernel_rfl) ?fE
      case oE0 =>
        intro ev wo hev hC hs hph
        have Kx2 := K2.below hC K2.lt
        have Kx3 := K3.below hC K3.lt
        have hbn := (Below.refl wo.heap.size wo).alloc (Nat.le_refl _) (.cells #[] 30)
        exact ob_yes (wanted_none rfl) (does_value (v := .slice (some ⟨wo.heap.size, 0, none⟩) 0 0) (w' := wo.alloc (.cells #[] 30)) (by simp [go_sem]) ⟨hC.trans (hbn.mono hC.size), TSp.of rfl hbn, ⟨_, rfl, hC.size, Blk.new wo _ _⟩, no_start (by kernel_rfl)⟩)
      case oE1 =>
        intro ev wo hev hC hs hph
        have e2 := see_env hA27 hs 2 (by kernel_rfl) (by kernel_rfl) rfl
        exact ob_det (wanted_none rfl) rfl (by kernel_rfl) hC (TSp.of rfl (Grows.refl _)) (by simp [go_sem, e2]; try first | exact ⟨rfl, rfl⟩ | rfl)
      case oE2 =>
        intro ev wo hev hC hs hph
        have e20 := see_det hs 20 1 (by kernel_rfl) (by kernel_rfl) rfl
        have Kx2 := K2.below hC K2.lt
        have Kx3 := K3.below hC K3.lt
        exact ob_det (wanted_none rfl) rfl (by kernel_rfl) hC (TSp.of rfl (Grows.refl _)) (by simp [go_sem, e20, Kx2.cell, Kx3.cell, K2.cell, K3.cell]; try first | exact ⟨rfl, rfl⟩ | rfl)
      case oE3 =>
        intro ev wo hev hC hs hph
        have u19 := see_used hs 19 0 (by kernel_rfl) (by kernel_rfl) rfl
        have e21 := see_det hs 21 2 (by kernel_rfl) (by kernel_rfl) rfl
        have Kx2 := K2.below hC K2.lt
        have Kx3 := K3.below hC K3.lt
        obtain ⟨g, e19, hgB, hK⟩ := u19
        obtain ⟨r, w', hr, ho, hgr, _⟩ := run_appM (u := .slice A n c) (OwnM.empty hK hgB) (by rw [hl]) (by rw [hl]; exact hms4.below hC) (fun g' hg' x hx => by
          have : g = g' := by simpa [Value.ownBlock] using hg'
          subst this
          exact off_lt (hms4.octs x hx) hgB) (by simp; omega) hC.size
        exact ob_yes (wanted_none rfl) (does_value (exec_append rfl e19 e21 hr) ⟨hC.grown hgr hC.size (fun k hk => by rw [← Option.some.inj hk]; exact hgB), TSp.sp rfl ⟨g, hK, hgr⟩, ho, no_start (by kernel_rfl)⟩)
      case oE4 =>
        intro ev wo hev hC hs hph
        have e3 := see_env hA27 hs 3 (by kernel_rfl) (by kernel_rfl) rfl
        have Kx2 := K2.below hC K2.lt
        have Kx3 := K3.below hC K3.lt
        exact ob_det (wanted_none rfl) rfl (by kernel_rfl) hC (TSp.of rfl (Grows.refl _)) (by simp [go_sem, e3, Kx2.cell, Kx3.cell, K2.cell, K3.cell]; try first | exact ⟨rfl, rfl⟩ | rfl)
      case oE5 =>
        intro ev wo hev hC hs hph
        have e23 := see_det hs 23 4 (by kernel_rfl) (by kernel_rfl) rfl
        have Kx2 := K2.below hC K2.lt
        have Kx3 := K3.below hC K3.lt
        have hbn := (Below.refl wo.heap.size wo).alloc (Nat.le_refl _) (.cells #[.int .u32 (nx : Nat), .int .i64 m.date, .int .i64 m.flags, .slice m.a m.b.length m.c] 30)
        exact ob_yes (wanted_none rfl) (does_value (v := .slice (some ⟨wo.heap.size, 0, none⟩) 1 1) (w' := wo.alloc (.cells #[.int .u32 (nx : Nat), .int .i64 m.date, .int .i64 m.flags, .slice m.a m.b.length m.c] 30)) (by simp [go_sem, e23]) ⟨hC.trans (hbn.mono hC.size), TSp.of rfl hbn, ⟨_, rfl, Blk.new wo _ _⟩, no_start (by kernel_rfl)⟩)
      case oE6 =>
        intro ev wo hev hC hs hph
        have u22 := see_used hs 22 3 (by kernel_rfl) (by kernel_rfl) rfl
        have u24 := see_used hs 24 5 (by kernel_rfl) (by kernel_rfl) rfl
        have Kx2 := K2.below hC K2.lt
        have Kx3 := K3.below hC K3.lt
        obtain ⟨g, e24, hK⟩ := u24
        have hmx := (hmo4.below hC).more hC.size
        have hm1 := msgs_blk (m := ⟨nx, m.date, m.flags, m.a, m.c, m.b⟩) hK hmx hnx hcap
        obtain ⟨r, w', hr, ho, hgr, _⟩ := run_appM (k := [(⟨nx, m.date, m.flags, m.a, m.c, m.b⟩ : MsgV)]) u22 e24 hm1 (fun g' hg' x hx => by
          rw [List.mem_singleton.1 hx]
          exact fun hn ad ha he => off_lt (m := m) hmo4 (own_ge u22 hg') hn ad ha he) (by simp; omega) hC.size
        exact ob_yes (wanted_none rfl) (does_value (exec_append rfl rfl rfl hr) ⟨hC.grown hgr hC.size (fun k hk => own_ge u22 hk), TSp.sp rfl trivial, ho, no_start (by kernel_rfl)⟩)
      intro sg wf hC hph
      intro x19 hx19
      intro x22 hx22
      intro x24 hx24
      intro x25 hx25 h25
      intro a28 hA28
      have hA29 := hA28.keep [2, 3, 4, 25]
      simp only [argsE, keepE, lookS, Nat.reduceBEq, cond_true, cond_false, Nat.reduceAdd, gv_tt, gv_ff, Bool.true_and, Bool.false_and, Bool.true_or, Bool.false_or] at hA29
      clear hA27 hA28 a26
      obtain ⟨l2, hl2⟩ : ∃ l2, l ++ [(⟨nx, m.date, m.flags, m.a, m.c, m.b⟩ : MsgV)] = l2 := ⟨_, rfl⟩
      rw [hl2] at h25
      obtain ⟨A2, c2, hv, _, _⟩ := h25.msgs
      subst hv
      replace K2 := K2.below hC K2.lt
      replace K3 := K3.below hC K3.lt
      replace K4 := K4.below hC K4.lt
      replace HB := HB.trans (hC.mono HB.size)
      have hzf := hC.size
      have hne2 := own_far h25 (show w.heap.size < w4.heap.size by omega)
      have hne4 := own_far h25 (show w2.heap.size < w4.heap.size by omega)
      have hoff2 : ∀ x ∈ l2, Off w.heap.size x := fun x hx => off_blk (h25.octs x hx) K2 rfl
      have hoff4 : ∀ x ∈ l2, Off w2.heap.size x := fun x hx => off_blk (h25.octs x hx) K4 rfl
      have hwx : IntKind.u32.wrap ((nx : Int) + 1) = (nx : Int) + 1 := IntWalk.u32_in _ (by omega)
      refine wl_op hA29 rfl rfl (by decide) (fun ev h => by simp [go_sem, h.get 2 rfl, K2.cell, K3.cell]; try first | exact ⟨rfl, rfl⟩ | rfl) fun a30 hA30 => ?_
      -- stop store slot None
      refine wl_setf [.string nm, .int .u32 (e : Nat), .int .u32 (nx : Nat), .slice A2 l2.length c2] _ hA30 rfl rfl K2 (j := 3) (by rfl) (fun ev h => by simp [go_sem, h.get 26 rfl, h.get 25 rfl, K2.cell, K3.cell, K2.cell, K2.frozen]; try first | exact ⟨rfl, rfl⟩ | rfl) fun w8 (K2 : Blk _ _ _ _) hs8 => ?_
      refine wl_nil ?_
      refine n_then ?_
      have hA31 := hA30.keep [2, 3, 4]
      simp only [argsE, keepE, lookS, Nat.reduceBEq, cond_true, cond_false, Nat.reduceAdd, gv_tt, gv_ff, Bool.true_and, Bool.false_and, Bool.true_or, Bool.false_or] at hA31
      clear hA29 hA30 a28
      refine wp_seq ?_
      refine wp_region_lit ?_
      refine wl_op hA31 rfl rfl (by decide) (fun ev h => by simp [go_sem, h.get 2 rfl, K2.cell, hwx]; try first | exact ⟨rfl, rfl⟩ | rfl) fun a32 hA32 => ?_
      refine wl_op hA32 rfl rfl (by decide) (fun ev h => by simp [go_sem, h.get 27 rfl, K2.cell, hwx]; try first | exact ⟨rfl, rfl⟩ | rfl) fun a33 hA33 => ?_
      refine wl_op hA33 rfl rfl (by decide) (fun ev h => by simp [go_sem, h.c, h.get 28 rfl, K2.cell, hwx]; try first | exact ⟨rfl, rfl⟩ | rfl) fun a34 hA34 => ?_
      refine wl_op hA34 rfl rfl (by decide) (fun ev h => by simp [go_sem, h.get 2 rfl, K2.cell, hwx]; try first | exact ⟨rfl, rfl⟩ | rfl) fun a35 hA35 => ?_
      -- stop store slot None
      refine wl_setf [.string nm, .int .u32 (e : Nat), .int .u32 ((nx : Int) + 1), .slice A2 l2.length c2] _ hA35 rfl rfl K2 (j := 2) (by rfl) (fun ev h => by simp [go_sem, h.get 30 rfl, h.get 29 rfl, K2.cell, hwx, K2.cell, K2.frozen]; try first | exact ⟨rfl, rfl⟩ | rfl) fun w9 (K2 : Blk _ _ _ _) hs9 => ?_
      have hs9 := hs8.trans hs9
      have ho2 := h25.only hs9 hne2 hoff2
      replace K4 := hs9.blk K4 (by omega)
      replace K3 := hs9.blk K3 (by omega)
      replace HB := hs9.below HB (by omega)
      clear hoff2 hs8 h25
      refine wl_nil ?_
      refine n_then ?_
      have hA36 := hA35.keep [2, 3, 4]
      simp only [argsE, keepE, lookS, Nat.reduceBEq, cond_true, cond_false, Nat.reduceAdd, gv_tt, gv_ff, Bool.true_and, Bool.false_and, Bool.true_or, Bool.false_or] at hA36
      clear hA31 hA32 hA33 hA34 hA35 a30 a32 a33 a34
      refine wp_seq ?_
      -- any
      have hz64 : w.heap.size ≠ w2.heap.size := by omega
      have hz14 : w.heap.size ≤ w2.heap.size := by omega
      refine wp_region_split 4 ?_
      simp only [List.take_succ_cons, List.take_zero, List.drop_succ_cons, List.drop_zero]
      refine wp_any_split_at hA36 [(.det ?dF0), (.det ?dF1), (.det ?dF2), (.det undef)] [⟨none, (some 3), [], fun _ => (fun wy => Blk wy w2.heap.size 25 #[.string ⟨#[]⟩, .int .u32 0, .int .u32 0, .slice none 0 0]), fun _ _ _ _ h => h⟩, ⟨none, none, [], fun _ => (fun wy => OwnM w4.heap.size wy (.slice A2 l2.length c2) l2 ∧ Below w.heap.size w wy), fun _ _ _ _ h => h⟩, ⟨(some 3), none, [], fun _ => (fun wy => Blk wy w2.heap.size 25 #[.string nm, .int .u32 (e : Nat), .int .u32 ((nx : Int) + 1), .slice A2 l2.length c2]), fun _ _ _ _ h => h⟩] (fun wy => (fun wy => Below w2.heap.size w9 wy) wy ∧ Blk wy (w.heap.size) (25) (#[.string nm, .int .u32 (e : Nat), .int .u32 ((nx : Int) + 1), .slice A2 l2.length c2])) (TSp [(3, (fun wy wz => Only w2.heap.size wy wz))] Grows) (by kernel_rfl) rfl (by kernel_rfl) (by kernel_rfl) rfl (by kernel_rfl) (by kernel_rfl) (by kernel_rfl) (by kernel_rfl) (⟨(Below.refl w2.heap.size w9).drew, (K2).drew⟩) (stab_sp [(3, (fun wy wz => Only w2.heap.size wy wz))] [true, true, true, true] [true, true, true, true] [] rfl rfl rfl (by kernel_rfl) ⟨trivial, trivial, trivial, trivial, trivial⟩ trivial) (List.forall_mem_cons.2 ⟨(fun hn => K4.drew), (List.forall_mem_cons.2 ⟨(fun hn => ⟨ho2.below (Below.refl _ _).drew, HB.drew⟩), (List.forall_mem_cons.2 ⟨(fun hn => by cases hn), (fun _ h => by cases h)⟩)⟩)⟩) (phase_sp [(3, (fun wy wz => Only w2.heap.size wy wz))] [(none, (some 3)), (none, none), ((some 3), none)] [(3, 1)] rfl (by kernel_rfl) (List.forall_mem_cons.2 ⟨fun _ => fun _ _ _ hp hb => hp.below hb hp.lt, (List.forall_mem_cons.2 ⟨fun _ => fun _ _ _ hp hb => ⟨hp.1.below hb, hp.2.trans (hb.mono hp.2.size)⟩, (List.forall_mem_cons.2 ⟨fun _ => fun _ _ _ hp hb => hp.below hb hp.lt, (fun _ h => by cases h)⟩)⟩)⟩) ⟨(fun _ => fun _ _ _ hp h => ⟨hp.1.only h hne4 hoff4, h.below hp.2 hz14⟩), trivial⟩) (List.forall_mem_cons.2 ⟨(fun a h => by first | (exact (no_1 h).elim) | (injection h with h; subst h; exact Nat.le_of_ble_eq_true rfl)), (List.forall_mem_cons.2 ⟨(fun a h => by first | (exact (no_1 h).elim) | (injection h with h; subst h; exact Nat.le_of_ble_eq_true rfl)), (List.forall_mem_cons.2 ⟨(fun a h => by first | (exact (no_1 h).elim) | (injection h with h; subst h; exact Nat.le_of_ble_eq_true rfl)), (fun _ h => by cases h)⟩)⟩)⟩) ⟨?oF0, ?oF1, ?oF2, ?oF3, trivial⟩ (by kernel_rfl) ?fF
      case oF0 =>
        intro ev wo hev hC hs hph
        have e2 := see_env hA36 hs 2 (by kernel_rfl) (by kernel_rfl) rfl
        have Kx3 := K3.below hC.1 (by omega)
        exact ob_det (wanted_none rfl) rfl (by kernel_rfl) hC (TSp.of rfl (Grows.refl _)) (by simp [go_sem, e2, hC.2.cell, Kx3.cell, K3.cell, K2.cell]; try first | exact ⟨rfl, rfl⟩ | rfl)
      case oF1 =>
        intro ev wo hev hC hs hph
        have e3 := see_env hA36 hs 3 (by kernel_rfl) (by kernel_rfl) rfl
        exact ob_det (wanted_none rfl) rfl (by kernel_rfl) hC (TSp.of rfl (Grows.refl _)) (by simp [go_sem, e3]; try first | exact ⟨rfl, rfl⟩ | rfl)
      case oF2 =>
        intro ev wo hev hC hs hph
        have e32 := see_det hs 32 1 (by kernel_rfl) (by kernel_rfl) rfl
        have Kx3 := K3.below hC.1 (by omega)
        exact ob_det (wanted_none rfl) rfl (by kernel_rfl) hC (TSp.of rfl (Grows.refl _)) (by simp [go_sem, e32, hC.2.cell, Kx3.cell, K3.cell, K2.cell]; try first | exact ⟨rfl, rfl⟩ | rfl)
      case oF3 =>
        intro ev wo hev hC hs hph
        have e4 := see_env hA36 hs 4 (by kernel_rfl) (by kernel_rfl) rfl
        have e31 := see_det hs 31 0 (by kernel_rfl) (by kernel_rfl) rfl
        have Kx3 := K3.below hC.1 (by omega)
        have hL := (hph _ List.mem_cons_self (by kernel_rfl))
        exact ob_yes (wanted_none rfl) (does_skip (w' := setAll wo w2.heap.size 0 [.string nm, .int .u32 (e : Nat), .int .u32 ((nx : Int) + 1), .slice A2 l2.length c2]) (by simp [go_sem, e31, e4, setAll, hL.cell, hL.frozen]) ⟨⟨(Only.setAll _ _ _).below hC.1 (Nat.le_refl _), (Only.setAll _ _ _).blk hC.2 hz64⟩, TSp.sp rfl (Only.setAll _ _ _), rfl, (List.forall_mem_cons.2 ⟨fun h => (no_1 h).elim, (List.forall_mem_cons.2 ⟨fun h => (no_1 h).elim, (List.forall_mem_cons.2 ⟨fun _ => by simpa using blk_setAll [.string nm, .int .u32 (e : Nat), .int .u32 ((nx : Int) + 1), .slice A2 l2.length c2] 0 _ _ hL rfl, (fun _ h => by cases h)⟩)⟩)⟩)⟩)
      intro sg wf hC hph
      intro a37 hA37
      have hA38 := hA37.keep [4, 33]
      simp only [argsE, keepE, lookS, Nat.reduceBEq, cond_true, cond_false, Nat.reduceAdd, gv_tt, gv_ff, Bool.true_and, Bool.false_and, Bool.true_or, Bool.false_or] at hA38
      clear hA36 hA37 a35
      have KG := (hph _ (List.mem_cons_of_mem _ (List.mem_cons_of_mem _ List.mem_cons_self)) rfl)
      have hO := (hph _ (List.mem_cons_of_mem _ List.mem_cons_self) rfl)
      refine wl_op hA38 rfl rfl (by decide) (fun ev h => by simp [go_sem, h.get 33 rfl, KG.cell]; try first | exact ⟨rfl, rfl⟩ | rfl) fun a39 hA39 => ?_
      refine wl_op hA39 rfl rfl (by decide) (fun ev h => by simp [go_sem, h.c, KG.cell]; try first | exact ⟨rfl, rfl⟩ | rfl) fun a40 hA40 => ?_
      refine wl_nil ?_
      refine n_then ?_
      have hA41 := hA40.keep [4, 5, 6]
      simp only [argsE, keepE, lookS, Nat.reduceBEq, cond_true, cond_false, Nat.reduceAdd, gv_tt, gv_ff, Bool.true_and, Bool.false_and, Bool.true_or, Bool.false_or] at hA41
      clear hA38 hA39 hA40 a37 a39
      refine wp_ret ?_
      -- ret
      refine bodyPost_ret (by simp [results, Tryd.results18, go_sem, hA41.env 4 _ rfl, hA41.env 5 _ rfl, hA41.env 6 _ rfl, KG.cell]; try first | exact ⟨rfl, rfl⟩ | rfl) hA41.defers ?_
      refine ⟨_, rfl, ⟨_, l2, rfl, hO.1.mono (by omega), ?_, ?_⟩, hO.2⟩
      · rw [← hl2]
        unfold bare
        rw [List.map_append]
        rfl
      · rw [← hl2]
        intro y hy
        rcases List.mem_append.1 hy with hy | hy
        · exact ⟨y, List.mem_append_left _ hy, rfl, rfl⟩
        · rw [List.mem_singleton.1 hy]
          exact ⟨m, List.mem_append_right _ (List.mem_singleton.2 rfl), rfl, rfl⟩
end Go.Proofs.YtbbhblnhbgkcaaaDoor
