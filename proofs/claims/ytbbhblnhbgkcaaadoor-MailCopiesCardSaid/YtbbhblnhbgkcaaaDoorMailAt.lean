/-
  Walks: which message has a UID; whether two messages, two mailboxes are alike.
-/
import Derived.Test.YtbbhblnhbgkcaaaDoorMailRight
namespace Go.Proofs.YtbbhblnhbgkcaaaDoor
open Go.RowKit
set_option linter.unusedSimpArgs false
set_option linter.unusedVariables false
theorem int_beq (a b : Nat) : ((a : Int) == (b : Int)) = (a == b) := by rw [Bool.eq_iff_iff, beq_iff_eq, beq_iff_eq]; omega
/-- the first message that has a UID -/
def firstU (u : Nat) : List MsgV → Nat → Int
  | [], _ => -1
  | x :: r, j => bif x.uid == u then (j : Int) else firstU u r (j + 1)
theorem firstU_at {l : List MsgV} {j : Nat} {x : MsgV} (u : Nat) (hx : l[j]? = some x) : firstU u (l.drop j) j = bif x.uid == u then (j : Int) else firstU u (l.drop (j + 1)) (j + 1) := by
  have hj := (List.getElem?_eq_some_iff.1 hx).1
  rw [List.drop_eq_getElem_cons hj, (List.getElem?_eq_some_iff.1 hx).2]
  rfl
theorem at1_any (x : MsgV) (u g : Nat) (w : World) (K : Blk w g 22 #[.int .u32 (u : Nat)]) :
    Calls Tryd.prog 35 #[.agg #[.int .u32 (x.uid : Nat), .int .i64 x.date, .int .i64 x.flags, .slice x.a x.b.length x.c], .pointer (some ⟨g, 0, none⟩)] w fun ev w' => ev = .returned (.bool (x.uid == u)) ∧ Below w.heap.size w w' := by
  refine calls_at 8 Tryd.func35 rfl rfl (Nat.le_of_ble_eq_true rfl) ?_
  intro a hA
  simp only [argsE, keepE, lookS, Nat.reduceBEq, cond_true, cond_false, Nat.reduceAdd, gv_tt, gv_ff, Bool.true_and, Bool.false_and, Bool.true_or, Bool.false_or] at hA
  refine wp_seq ?_
  refine wp_region_lit ?_
  -- stop box slot 2
  refine wl_new hA rfl rfl (by decide) (fun ev h => by simp [go_sem, h.get 0 rfl]; try first | exact ⟨rfl, rfl⟩ | rfl) fun w1 a1 (K1 : Blk _ _ _ _) hz0 hb0 hA1 => ?_
  replace K := K.below hb0 K.lt
  refine wl_op hA1 rfl rfl (by decide) (fun ev h => by simp [go_sem, h.c, K1.cell, K.cell]; try first | exact ⟨rfl, rfl⟩ | rfl) fun a2 hA2 => ?_
  refine wl_nil ?_
  refine n_then ?_
  have hA3 := hA2.keep [1, 2]
  simp only [argsE, keepE, lookS, Nat.reduceBEq, cond_true, cond_false, Nat.reduceAdd, gv_tt, gv_ff, Bool.true_and, Bool.false_and, Bool.true_or, Bool.false_or] at hA3
  clear hA hA1 hA2 a1
  refine wp_seq ?_
  refine wp_region_lit ?_
  refine wl_op hA3 rfl rfl (by decide) (fun ev h => by simp [go_sem, h.get 2 rfl, K1.cell, K.cell]; try first | exact ⟨rfl, rfl⟩ | rfl) fun a4 hA4 => ?_
  refine wl_op hA4 rfl rfl (by decide) (fun ev h => by simp [go_sem, h.get 4 rfl, K1.cell, K.cell]; try first | exact ⟨rfl, rfl⟩ | rfl) fun a5 hA5 => ?_
  refine wl_op hA5 rfl rfl (by decide) (fun ev h => by simp [go_sem, h.get 1 rfl, K1.cell, K.cell]; try first | exact ⟨rfl, rfl⟩ | rfl) fun a6 hA6 => ?_
  refine wl_op hA6 rfl rfl (by decide) (fun ev h => by simp [go_sem, h.get 5 rfl, h.get 6 rfl, K1.cell, K.cell]; try first | exact ⟨rfl, rfl⟩ | rfl) fun a7 hA7 => ?_
  refine wl_op hA7 rfl rfl (by decide) (fun ev h => by simp [go_sem, h.get 7 rfl, K1.cell, K.cell]; try first | exact ⟨rfl, rfl⟩ | rfl) fun a8 hA8 => ?_
  refine wl_nil ?_
  refine n_then ?_
  have hA9 := hA8.keep [3]
  simp only [argsE, keepE, lookS, Nat.reduceBEq, cond_true, cond_false, Nat.reduceAdd, gv_tt, gv_ff, Bool.true_and, Bool.false_and, Bool.true_or, Bool.false_or] at hA9
  clear hA3 hA4 hA5 hA6 hA7 hA8 a2 a4 a5 a6 a7
  refine wp_ret ?_
  -- ret
  refine ret_1 hA9 3 rfl rfl ?_
  exact ⟨ret_bool (int_beq _ _), hb0⟩
set_option maxRecDepth 100000 in
set_option maxHeartbeats 1000000 in
theorem indexAt_any (A : Option Addr) (c n u g : Nat) (l : List MsgV) (w : World) (hn : n ≤ 140737488355328) (hms : Msgs w A n l) (K : Blk w g 22 #[.int .u32 (u : Nat)]) :
    Calls Tryd.prog 34 #[.slice A n c, .func (.func 35) #[] #[.pointer (some ⟨g, 0, none⟩)]] w fun ev w' => ev = .returned (.int .i64 (firstU u l 0)) ∧ Below w.heap.size w w' := by
  have hl := hms.len
  have HB := Below.refl w.heap.size w
  refine calls_at 19 Tryd.func34 rfl rfl (Nat.le_of_ble_eq_true rfl) ?_
  intro a hA
  simp only [argsE, keepE, lookS, Nat.reduceBEq, cond_true, cond_false, Nat.reduceAdd, gv_tt, gv_ff, Bool.true_and, Bool.false_and, Bool.true_or, Bool.false_or] at hA
  refine wp_seq ?_
  refine wp_region_lit ?_
  refine wl_op hA rfl rfl (by decide) (fun ev h => by simp [go_sem, h.c]; try first | exact ⟨rfl, rfl⟩ | rfl) fun a10 hA10 => ?_
  refine wl_nil ?_
  refine n_then ?_
  have hA11 := hA10.keep [0, 1]
  simp only [argsE, keepE, lookS, Nat.reduceBEq, cond_true, cond_false, Nat.reduceAdd, gv_tt, gv_ff, Bool.true_and, Bool.false_and, Bool.true_or, Bool.false_or] at hA11
  clear hA hA10
  refine wp_seq ?_
  refine wp_seq ?_
  refine wp_region_lit ?_
  refine wl_op hA11 rfl rfl (by decide) (fun ev h => by simp [go_sem, h.get 0 rfl]; try first | exact ⟨rfl, rfl⟩ | rfl) fun a12 hA12 => ?_
  refine wl_op hA12 rfl rfl (by decide) (fun ev h => by simp [go_sem, h.get 6 rfl]; try first | exact ⟨rfl, rfl⟩ | rfl) fun a13 hA13 => ?_
  refine wl_op hA13 rfl rfl (by decide) (fun ev h => by simp [go_sem, h.c]; try first | exact ⟨rfl, rfl⟩ | rfl) fun a14 hA14 => ?_
  refine wl_nil ?_
  refine n_then ?_
  have hA15 := hA14.keep [0, 1, 7, 8]
  simp only [argsE, keepE, lookS, Nat.reduceBEq, cond_true, cond_false, Nat.reduceAdd, gv_tt, gv_ff, Bool.true_and, Bool.false_and, Bool.true_or, Bool.false_or] at hA15
  clear hA11 hA12 hA13 hA14 a10 a12 a13
  refine wp_block ?_
  -- loop
  refine wp_loop_at (fun k a wx => ∃ (j : Nat), j + k = n ∧ At 19 [(0, .slice A n c), (1, .func (.func 35) #[] #[.pointer (some ⟨g, 0, none⟩)]), (7, .int .i64 (n : Nat)), (8, .int .i64 (j : Nat))] a ∧ firstU u l 0 = firstU u (l.drop j) j ∧ Below w.heap.size w wx) (n) ?_ ?_
  · exact ⟨0, by omega, hA15, rfl, HB⟩
  clear HB
  rintro k a wx ⟨j, hjk, hA, hall, HB⟩
  refine wp_seq ?_
  refine wp_region_lit ?_
  refine wl_op hA rfl rfl (by decide) (fun ev h => by simp [go_sem, h.get 8 rfl, h.get 7 rfl]; try first | exact ⟨rfl, rfl⟩ | rfl) fun a16 hA16 => ?_
  refine wl_nil ?_
  refine n_then ?_
  have hA17 := hA16.keep [0, 1, 7, 8, 9]
  simp only [argsE, keepE, lookS, Nat.reduceBEq, cond_true, cond_false, Nat.reduceAdd, gv_tt, gv_ff, Bool.true_and, Bool.false_and, Bool.true_or, Bool.false_or] at hA17
  clear hA hA16
  refine wp_seq ?_
  -- cond
  refine wp_if hA17 9 _ rfl (fun hq => ?yL) (fun hq => ?nL)
  case yL =>
    have hlt : j < n := by simp at hq; omega
    obtain ⟨x, hx⟩ : ∃ x, l[j]? = some x := ⟨_, List.getElem?_eq_getElem (by omega)⟩
    rw [firstU_at u hx] at hall
    obtain ⟨ad, rfl, hadl, k0, k1, k2, k3⟩ := hms.at_ hx
    have z0 := (HB.cell hadl).trans k0
    have z1 := (HB.cell (p := ⟨(ad.add (j * 4)).block, (ad.add (j * 4)).off + 1, none⟩) hadl).trans k1
    have z2 := (HB.cell (p := ⟨(ad.add (j * 4)).block, (ad.add (j * 4)).off + 2, none⟩) hadl).trans k2
    have z3 := (HB.cell (p := ⟨(ad.add (j * 4)).block, (ad.add (j * 4)).off + 3, none⟩) hadl).trans k3
    have jj0 : (0 : Int) ≤ (j : Int) := by omega
    have jj1 : (j : Int) < (n : Int) := by omega
    have hwj : IntKind.i64.wrap ((j : Int) + 1) = (j : Int) + 1 := IntWalk.i64_in _ (by omega)
    refine wp_skip ?_
    refine n_then ?_
    refine wp_seq ?_
    refine wp_block ?_
    refine wp_seq ?_
    refine wp_region_lit ?_
    refine wl_op hA17 rfl rfl (by decide) (fun ev h => by simp [go_sem, h.get 8 rfl, z0, z1, z2, z3, jj0, jj1, hwj]; try first | exact ⟨rfl, rfl⟩ | rfl) fun a18 hA18 => ?_
    refine wl_op hA18 rfl rfl (by decide) (fun ev h => by simp [go_sem, h.get 10 rfl, z0, z1, z2, z3, jj0, jj1, hwj]; try first | exact ⟨rfl, rfl⟩ | rfl) fun a19 hA19 => ?_
    refine wl_nil ?_
    refine n_then ?_
    have hA20 := hA19.keep [0, 1, 5, 7, 8]
    simp only [argsE, keepE, lookS, Nat.reduceBEq, cond_true, cond_false, Nat.reduceAdd, gv_tt, gv_ff, Bool.true_and, Bool.false_and, Bool.true_or, Bool.false_or] at hA20
    clear hA17 hA18 hA19 a18
    refine wp_seq ?_
    refine wp_region_lit ?_
    refine wl_op hA20 rfl rfl (by decide) (fun ev h => by simp [go_sem, h.get 1 rfl, z0, z1, z2, z3, jj0, jj1, hwj]; try first | exact ⟨rfl, rfl⟩ | rfl) fun a21 hA21 => ?_
    refine wl_op hA21 rfl rfl (by decide) (fun ev h => by simp [go_sem, h.get 0 rfl, z0, z1, z2, z3, jj0, jj1, hwj]; try first | exact ⟨rfl, rfl⟩ | rfl) fun a22 hA22 => ?_
    refine wl_op hA22 rfl rfl (by decide) (fun ev h => by simp [go_sem, h.get 5 rfl, z0, z1, z2, z3, jj0, jj1, hwj]; try first | exact ⟨rfl, rfl⟩ | rfl) fun a23 hA23 => ?_
    refine wl_op hA23 rfl rfl (by decide) (fun ev h => by simp [go_sem, h.get 12 rfl, h.get 13 rfl, z0, z1, z2, z3, jj0, jj1, hwj]; try first | exact ⟨rfl, rfl⟩ | rfl) fun a24 hA24 => ?_
    refine wl_op hA24 rfl rfl (by decide) (fun ev h => by simp [go_sem, h.get 14 rfl, z0, z1, z2, z3, jj0, jj1, hwj]; try first | exact ⟨rfl, rfl⟩ | rfl) fun a25 hA25 => ?_
    -- stop call slot 16
    refine wl_call hA25 rfl rfl (by decide) (fun ev h => by simp [go_sem, h.get 11 rfl, h.get 15 rfl, z0, z1, z2, z3, jj0, jj1, hwj]; try first | exact ⟨rfl, rfl⟩ | rfl) (at1_any x u g _ (K.below HB K.lt)) ?_
    rintro e w2 ⟨rfl, hb⟩
    refine ⟨_, rfl, fun a26 hA26 => ?_⟩
    replace HB := HB.trans (hb.mono HB.size)
    refine wl_nil ?_
    refine n_then ?_
    have hA27 := hA26.keep [0, 1, 5, 7, 8, 16]
    simp only [argsE, keepE, lookS, Nat.reduceBEq, cond_true, cond_false, Nat.reduceAdd, gv_tt, gv_ff, Bool.true_and, Bool.false_and, Bool.true_or, Bool.false_or] at hA27
    clear hA20 hA21 hA22 hA23 hA24 hA25 hA26 a19 a21 a22 a23 a24 a25
    -- cond
    refine wp_if hA27 16 _ rfl (fun hq2 => ?yR) (fun hq2 => ?nR)
    case yR =>
      rw [hq2, cond_true] at hall
      refine wp_seq ?_
      refine wp_region_lit ?_
      refine wl_op hA27 rfl rfl (by decide) (fun ev h => by simp [go_sem, h.get 5 rfl, z0, z1, z2, z3, jj0, jj1, hwj]; try first | exact ⟨rfl, rfl⟩ | rfl) fun a28 hA28 => ?_
      refine wl_op hA28 rfl rfl (by decide) (fun ev h => by simp [go_sem, h.get 17 rfl, z0, z1, z2, z3, jj0, jj1, hwj]; try first | exact ⟨rfl, rfl⟩ | rfl) fun a29 hA29 => ?_
      refine wl_nil ?_
      refine n_then ?_
      have hA30 := hA29.keep [4]
      simp only [argsE, keepE, lookS, Nat.reduceBEq, cond_true, cond_false, Nat.reduceAdd, gv_tt, gv_ff, Bool.true_and, Bool.false_and, Bool.true_or, Bool.false_or] at hA30
      clear hA27 hA28 hA29 a28
      refine wp_ret ?_
      refine r_block ?_
      refine r_then ?_
      refine r_then ?_
      refine r_block ?_
      refine r_then ?_
      refine ret_1 hA30 4 rfl rfl ?_
      exact ⟨by rw [hall], HB⟩
    case nR =>
      rw [hq2, cond_false] at hall
      refine wp_skip ?_
      refine n_block ?_
      refine n_then ?_
      refine wp_region_lit ?_
      refine wl_op hA27 rfl rfl (by decide) (fun ev h => by simp [go_sem, h.c, h.get 8 rfl, z0, z1, z2, z3, jj0, jj1, hwj]; try first | exact ⟨rfl, rfl⟩ | rfl) fun a31 hA31 => ?_
      refine wl_op hA31 rfl rfl (by decide) (fun ev h => by simp [go_sem, h.get 18 rfl, z0, z1, z2, z3, jj0, jj1, hwj]; try first | exact ⟨rfl, rfl⟩ | rfl) fun a32 hA32 => ?_
      refine wl_nil ?_
      refine n_then ?_
      have hA33 := hA32.keep [0, 1, 7, 8]
      simp only [argsE, keepE, lookS, Nat.reduceBEq, cond_true, cond_false, Nat.reduceAdd, gv_tt, gv_ff, Bool.true_and, Bool.false_and, Bool.true_or, Bool.false_or] at hA33
      clear hA27 hA31 hA32 a31
      -- round
      rw [show ((j : Int) + 1) = ((j + 1 : Nat) : Int) by omega] at hA33
      exact ⟨k - 1, by omega, j + 1, by omega, hA33, hall, HB⟩
  case nL =>
    have hjn : j = n := by simp at hq; omega
    subst hjn
    rw [List.drop_of_length_le (by omega)] at hall
    refine wp_exit ?_
    refine x_then ?_
    refine x_then ?_
    refine x_block ?_
    refine n_then ?_
    have hA34 := hA17.keep []
    simp only [argsE, keepE, lookS, Nat.reduceBEq, cond_true, cond_false, Nat.reduceAdd, gv_tt, gv_ff, Bool.true_and, Bool.false_and, Bool.true_or, Bool.false_or] at hA34
    clear hA17
    refine wp_seq ?_
    refine wp_region_lit ?_
    refine wl_op hA34 rfl rfl (by decide) (fun ev h => by simp [go_sem, h.c]; try first | exact ⟨rfl, rfl⟩ | rfl) fun a35 hA35 => ?_
    refine wl_nil ?_
    refine n_then ?_
    have hA36 := hA35.keep [4]
    simp only [argsE, keepE, lookS, Nat.reduceBEq, cond_true, cond_false, Nat.reduceAdd, gv_tt, gv_ff, Bool.true_and, Bool.false_and, Bool.true_or, Bool.false_or] at hA36
    clear hA34 hA35
    refine wp_ret ?_
    refine ret_1 hA36 4 rfl rfl ?_
    exact ⟨by rw [hall]; rfl, HB⟩
theorem at_any (nm : ByteArray) (A : Option Addr) (c n e nx u : Nat) (l : List MsgV) (w : World) (hn : n ≤ 140737488355328) (hms : Msgs w A n l) :
    Calls Tryd.prog 16 #[.agg (boxC nm e nx A n c), .int .u32 (u : Nat)] w fun ev w' => ev = .returned (.int .i64 (firstU u l 0)) ∧ Below w.heap.size w w' := by
  have hl := hms.len
  refine calls_at 9 Tryd.func16 rfl rfl (Nat.le_of_ble_eq_true rfl) ?_
  intro a hA
  simp only [argsE, keepE, lookS, Nat.reduceBEq, cond_true, cond_false, Nat.reduceAdd, gv_tt, gv_ff, Bool.true_and, Bool.false_and, Bool.true_or, Bool.false_or] at hA
  refine wp_seq ?_
  refine wp_region_lit ?_
  -- stop box slot 2
  refine wl_new hA rfl rfl (by decide) (fun ev h => by simp [go_sem, h.get 0 rfl]; try first | exact ⟨rfl, rfl⟩ | rfl) fun w1 a37 (K : Blk _ _ _ _) hz0 hb0 hA37 => ?_
  replace hms := hms.below hb0
  unfold boxC at K
  refine wl_new hA37 rfl rfl (by decide) (fun ev h => by simp [go_sem, h.get 1 rfl]; try first | exact ⟨rfl, rfl⟩ | rfl) fun w2 a38 (K2 : Blk _ _ _ _) hz2 hb2 hA38 => ?_
  replace hms := hms.below hb2
  replace K := K.below hb2 K.lt
  have HB := hb0.trans (hb2.mono (by omega))
  refine wl_op hA38 rfl rfl (by decide) (fun ev h => by simp [go_sem, h.c, K.cell, K2.cell]; try first | exact ⟨rfl, rfl⟩ | rfl) fun a39 hA39 => ?_
  refine wl_nil ?_
  refine n_then ?_
  have hA40 := hA39.keep [2, 3]
  simp only [argsE, keepE, lookS, Nat.reduceBEq, cond_true, cond_false, Nat.reduceAdd, gv_tt, gv_ff, Bool.true_and, Bool.false_and, Bool.true_or, Bool.false_or] at hA40
  clear hA hA37 hA38 hA39 a37 a38
  refine wp_seq ?_
  refine wp_region_lit ?_
  refine wl_op hA40 rfl rfl (by decide) (fun ev h => by simp [go_sem, h.get 2 rfl, K.cell, K2.cell]; try first | exact ⟨rfl, rfl⟩ | rfl) fun a41 hA41 => ?_
  refine wl_op hA41 rfl rfl (by decide) (fun ev h => by simp [go_sem, h.get 5 rfl, K.cell, K2.cell]; try first | exact ⟨rfl, rfl⟩ | rfl) fun a42 hA42 => ?_
  -- stop makeFunc slot 7
  refine wl_op hA42 rfl rfl (by decide) (fun ev h => by simp [go_sem, h.get 3 rfl, K.cell, K2.cell]; try first | exact ⟨rfl, rfl⟩ | rfl) fun a43 hA43 => ?_
  refine wl_call hA43 rfl rfl (by decide) (fun ev h => by simp [go_sem, h.get 6 rfl, h.get 7 rfl, K.cell, K2.cell, h.f]; try first | exact ⟨rfl, rfl⟩ | rfl) (indexAt_any A c n u _ l _ hn hms K2) ?_
  rintro e w3 ⟨rfl, hb3⟩
  refine ⟨_, rfl, fun a44 hA44 => ?_⟩
  replace HB := HB.trans (hb3.mono HB.size)
  refine wl_op hA44 rfl rfl (by decide) (fun ev h => by simp [go_sem, h.get 8 rfl, K.cell, K2.cell]; try first | exact ⟨rfl, rfl⟩ | rfl) fun a45 hA45 => ?_
  refine wl_nil ?_
  refine n_then ?_
  have hA46 := hA45.keep [4]
  simp only [argsE, keepE, lookS, Nat.reduceBEq, cond_true, cond_false, Nat.reduceAdd, gv_tt, gv_ff, Bool.true_and, Bool.false_and, Bool.true_or, Bool.false_or] at hA46
  clear hA40 hA41 hA42 hA43 hA44 hA45 a39 a41 a42 a43 a44
  refine wp_ret ?_
  -- ret
  refine ret_1 hA46 4 rfl rfl ?_
  exact ⟨rfl, HB⟩
-- alike
def sameV (x y : MsgV) : Bool := x.uid == y.uid && x.date == y.date && x.flags == y.flags && x.b == y.b
def sameL : List MsgV → List MsgV → Bool
  | [], [] => true
  | x :: r, y :: s => sameV x y && sameL r s
  | _, _ => false
theorem sameL_len : ∀ {l m : List MsgV}, l.length ≠ m.length → sameL l m = false
  | [], [], h => absurd rfl h
  | [], _ :: _, _ => rfl
  | _ :: _, [], _ => rfl
  | x :: r, y :: s, h => by
    unfold sameL
    rw [sameL_len (l := r) (m := s) (by simpa using h), Bool.and_false]
theorem sameL_at {l m : List MsgV} {j : Nat} {x y : MsgV} (hx : l[j]? = some x) (hy : m[j]? = some y) : sameL (l.drop j) (m.drop j) = (sameV x y && sameL (l.drop (j + 1)) (m.drop (j + 1))) := by
  rw [List.drop_eq_getElem_cons (List.getElem?_eq_some_iff.1 hx).1, (List.getElem?_eq_some_iff.1 hx).2, List.drop_eq_getElem_cons (List.getElem?_eq_some_iff.1 hy).1, (List.getElem?_eq_some_iff.1 hy).2]
  rfl
def boxSame (n1 : ByteArray) (e1 x1 : Nat) (l1 : List MsgV) (n2 : ByteArray) (e2 x2 : Nat) (l2 : List MsgV) : Bool := n1.toList == n2.toList && e1 == e2 && x1 == x2 && sameL l1 l2
theorem same1_any (x y : MsgV) (w : World) (hx : Reads w w.heap.size 1 x.a x.b.length (u8s x.b)) (hy : Reads w w.heap.size 1 y.a y.b.length (u8s y.b)) :
    Calls Tryd.prog 31 #[.agg #[.int .u32 (x.uid : Nat), .int .i64 x.date, .int .i64 x.flags, .slice x.a x.b.length x.c], .agg #[.int .u32 (y.uid : Nat), .int .i64 y.date, .int .i64 y.flags, .slice y.a y.b.length y.c]] w fun ev w' => ev = .returned (.bool (sameV x y)) ∧ Below w.heap.size w w' := by
  refine calls_at 31 Tryd.func31 rfl rfl (Nat.le_of_ble_eq_true rfl) ?_
  intro a hA
  simp only [argsE, keepE, lookS, Nat.reduceBEq, cond_true, cond_false, Nat.reduceAdd, gv_tt, gv_ff, Bool.true_and, Bool.false_and, Bool.true_or, Bool.false_or] at hA
  refine wp_seq ?_
  refine wp_region_lit ?_
  -- stop box slot 2
  refine wl_new hA rfl rfl (by decide) (fun ev h => by simp [go_sem, h.get 0 rfl]; try first | exact ⟨rfl, rfl⟩ | rfl) fun w1 a47 (K : Blk _ _ _ _) hz0 hb0 hA47 => ?_
  replace hx := (hx.below hb0).more hb0.size
  replace hy := (hy.below hb0).more hb0.size
  refine wl_new hA47 rfl rfl (by decide) (fun ev h => by simp [go_sem, h.get 1 rfl]; try first | exact ⟨rfl, rfl⟩ | rfl) fun w2 a48 (K2 : Blk _ _ _ _) hz2 hb2 hA48 => ?_
  replace hx := (hx.below hb2).more hb2.size
  replace hy := (hy.below hb2).more hb2.size
  replace K := K.below hb2 K.lt
  have HB := hb0.trans (hb2.mono (by omega))
  refine wl_op hA48 rfl rfl (by decide) (fun ev h => by simp [go_sem, h.c, K.cell, K2.cell]; try first | exact ⟨rfl, rfl⟩ | rfl) fun a49 hA49 => ?_
  refine wl_nil ?_
  refine n_then ?_
  have hA50 := hA49.keep [2, 3]
  simp only [argsE, keepE, lookS, Nat.reduceBEq, cond_true, cond_false, Nat.reduceAdd, gv_tt, gv_ff, Bool.true_and, Bool.false_and, Bool.true_or, Bool.false_or] at hA50
  clear hA hA47 hA48 hA49 a47 a48
  refine wp_seq ?_
  refine wp_region_lit ?_
  refine wl_op hA50 rfl rfl (by decide) (fun ev h => by simp [go_sem, h.get 2 rfl, K.cell, K2.cell]; try first | exact ⟨rfl, rfl⟩ | rfl) fun a51 hA51 => ?_
  refine wl_op hA51 rfl rfl (by decide) (fun ev h => by simp [go_sem, h.get 5 rfl, K.cell, K2.cell]; try first | exact ⟨rfl, rfl⟩ | rfl) fun a52 hA52 => ?_
  refine wl_op hA52 rfl rfl (by decide) (fun ev h => by simp [go_sem, h.get 3 rfl, K.cell, K2.cell]; try first | exact ⟨rfl, rfl⟩ | rfl) fun a53 hA53 => ?_
  refine wl_op hA53 rfl rfl (by decide) (fun ev h => by simp [go_sem, h.get 7 rfl, K.cell, K2.cell]; try first | exact ⟨rfl, rfl⟩ | rfl) fun a54 hA54 => ?_
  refine wl_op hA54 rfl rfl (by decide) (fun ev h => by simp [go_sem, h.get 6 rfl, h.get 8 rfl, K.cell, K2.cell]; try first | exact ⟨rfl, rfl⟩ | rfl) fun a55 hA55 => ?_
  refine wl_op hA55 rfl rfl (by decide) (fun ev h => by simp [go_sem, h.get 9 rfl, K.cell, K2.cell]; try first | exact ⟨rfl, rfl⟩ | rfl) fun a56 hA56 => ?_
  refine wl_guard _ hA56 rfl rfl rfl rfl (by decide) (fun hq ev h => by simp [go_sem, (h.get 2 rfl), K.cell, K2.cell]; try first | exact ⟨rfl, rfl⟩ | rfl) fun a57 hA57 => ?_
  refine wl_guard _ hA57 rfl rfl rfl rfl (by decide) (fun hq ev h => by simp [go_sem, ((h.get 11 rfl).trans (gw_t (beq_t hq))), K.cell, K2.cell]; try first | exact ⟨rfl, rfl⟩ | rfl) fun a58 hA58 => ?_
  refine wl_guard _ hA58 rfl rfl rfl rfl (by decide) (fun hq ev h => by simp [go_sem, (h.get 3 rfl), K.cell, K2.cell]; try first | exact ⟨rfl, rfl⟩ | rfl) fun a59 hA59 => ?_
  refine wl_guard _ hA59 rfl rfl rfl rfl (by decide) (fun hq ev h => by simp [go_sem, ((h.get 13 rfl).trans (gw_t (beq_t hq))), K.cell, K2.cell]; try first | exact ⟨rfl, rfl⟩ | rfl) fun a60 hA60 => ?_
  refine wl_guard _ hA60 rfl rfl rfl rfl (by decide) (fun hq ev h => by simp [go_sem, ((h.get 12 rfl).trans (gw_t (beq_t hq))), ((h.get 14 rfl).trans (gw_t (beq_t hq))), K.cell, K2.cell]; try first | exact ⟨rfl, rfl⟩ | rfl) fun a61 hA61 => ?_
  refine wl_op hA61 rfl rfl (by decide) (fun ev h => by first | exact pick_and rfl (h.get 10 rfl) (h.get 15 rfl) (h.c _) | exact pick_or rfl (h.get 10 rfl) (h.get 15 rfl) (h.c _) | (simp [go_sem, h.c, h.get 10 rfl, h.get 15 rfl, K.cell, K2.cell, gv_or, gv_and]; try first | exact ⟨rfl, rfl⟩ | rfl)) fun a62 hA62 => ?_
  refine wl_op hA62 rfl rfl (by decide) (fun ev h => by simp [go_sem, h.get 16 rfl, K.cell, K2.cell]; try first | exact ⟨rfl, rfl⟩ | rfl) fun a63 hA63 => ?_
  refine wl_guard _ hA63 rfl rfl rfl rfl (by decide) (fun hq ev h => by simp [go_sem, (h.get 2 rfl), K.cell, K2.cell]; try first | exact ⟨rfl, rfl⟩ | rfl) fun a64 hA64 => ?_
  refine wl_guard _ hA64 rfl rfl rfl rfl (by decide) (fun hq ev h => by simp [go_sem, ((h.get 18 rfl).trans (gw_t (beq_t hq))), K.cell, K2.cell]; try first | exact ⟨rfl, rfl⟩ | rfl) fun a65 hA65 => ?_
  refine wl_guard _ hA65 rfl rfl rfl rfl (by decide) (fun hq ev h => by simp [go_sem, (h.get 3 rfl), K.cell, K2.cell]; try first | exact ⟨rfl, rfl⟩ | rfl) fun a66 hA66 => ?_
  refine wl_guard _ hA66 rfl rfl rfl rfl (by decide) (fun hq ev h => by simp [go_sem, ((h.get 20 rfl).trans (gw_t (beq_t hq))), K.cell, K2.cell]; try first | exact ⟨rfl, rfl⟩ | rfl) fun a67 hA67 => ?_
  refine wl_guard _ hA67 rfl rfl rfl rfl (by decide) (fun hq ev h => by simp [go_sem, ((h.get 19 rfl).trans (gw_t (beq_t hq))), ((h.get 21 rfl).trans (gw_t (beq_t hq))), K.cell, K2.cell]; try first | exact ⟨rfl, rfl⟩ | rfl) fun a68 hA68 => ?_
  refine wl_op hA68 rfl rfl (by decide) (fun ev h => by first | exact pick_and rfl (h.get 17 rfl) (h.get 22 rfl) (h.c _) | exact pick_or rfl (h.get 17 rfl) (h.get 22 rfl) (h.c _) | (simp [go_sem, h.c, h.get 17 rfl, h.get 22 rfl, K.cell, K2.cell, gv_or, gv_and]; try first | exact ⟨rfl, rfl⟩ | rfl)) fun a69 hA69 => ?_
  refine wl_op hA69 rfl rfl (by decide) (fun ev h => by simp [go_sem, h.get 23 rfl, K.cell, K2.cell]; try first | exact ⟨rfl, rfl⟩ | rfl) fun a70 hA70 => ?_
  refine wl_guard _ hA70 rfl rfl rfl rfl (by decide) (fun hq ev h => by simp [go_sem, (h.get 2 rfl), K.cell, K2.cell]; try first | exact ⟨rfl, rfl⟩ | rfl) fun a71 hA71 => ?_
  refine wl_guard _ hA71 rfl rfl rfl rfl (by decide) (fun hq ev h => by simp [go_sem, ((h.get 25 rfl).trans (gw_t (beq_t hq))), K.cell, K2.cell]; try first | exact ⟨rfl, rfl⟩ | rfl) fun a72 hA72 => ?_
  refine wl_guard _ hA72 rfl rfl rfl rfl (by decide) (fun hq ev h => by simp [go_sem, (h.get 3 rfl), K.cell, K2.cell]; try first | exact ⟨rfl, rfl⟩ | rfl) fun a73 hA73 => ?_
  refine wl_guard _ hA73 rfl rfl rfl rfl (by decide) (fun hq ev h => by simp [go_sem, ((h.get 27 rfl).trans (gw_t (beq_t hq))), K.cell, K2.cell]; try first | exact ⟨rfl, rfl⟩ | rfl) fun a74 hA74 => ?_
  -- stop call slot 29
  refine wl_gcallv _ hA74 rfl rfl rfl rfl (by decide) (fun hq ev h => by simp [go_sem, ((h.get 26 rfl).trans (gw_t (beq_t hq))), ((h.get 28 rfl).trans (gw_t (beq_t hq))), K.cell, K2.cell, h.f]; try first | exact ⟨rfl, rfl⟩ | rfl) (fun hq => (equal_any x.a y.a x.b.length x.c y.b.length y.c x.b y.b _ rfl rfl hx hy).mono fun e' w' h => ⟨h.1, h.2 ▸ Below.refl _ _⟩) fun a75 w3 hb3 hA75 => ?_
  replace HB := HB.trans (hb3.mono HB.size)
  refine wl_op hA75 rfl rfl (by decide) (fun ev h => by first | exact pick_and rfl (h.get 24 rfl) (h.get 29 rfl) (h.c _) | exact pick_or rfl (h.get 24 rfl) (h.get 29 rfl) (h.c _) | (simp [go_sem, h.c, h.get 24 rfl, h.get 29 rfl, K.cell, K2.cell, gv_or, gv_and]; try first | exact ⟨rfl, rfl⟩ | rfl)) fun a76 hA76 => ?_
  refine wl_op hA76 rfl rfl (by decide) (fun ev h => by simp [go_sem, h.get 30 rfl, K.cell, K2.cell]; try first | exact ⟨rfl, rfl⟩ | rfl) fun a77 hA77 => ?_
  refine wl_nil ?_
  refine n_then ?_
  have hA78 := hA77.keep [4]
  simp only [argsE, keepE, lookS, Nat.reduceBEq, cond_true, cond_false, Nat.reduceAdd, gv_tt, gv_ff, Bool.true_and, Bool.false_and, Bool.true_or, Bool.false_or] at hA78
  clear hA50 hA51 hA52 hA53 hA54 hA55 hA56 hA57 hA58 hA59 hA60 hA61 hA62 hA63 hA64 hA65 hA66 hA67 hA68 hA69 hA70 hA71 hA72 hA73 hA74 hA75 hA76 hA77 a49 a51 a52 a53 a54 a55 a56 a57 a58 a59 a60 a61 a62 a63 a64 a65 a66 a67 a68 a69 a70 a71 a72 a73 a74 a75 a76
  refine wp_ret ?_
  -- ret
  refine ret_1 hA78 4 rfl rfl ?_
  exact ⟨ret_bool (by rw [int_beq]; rfl), HB⟩
set_option maxRecDepth 100000 in
set_option maxHeartbeats 1000000 in
theorem equalF_any (A A2 : Option Addr) (c c2 n n2 : Nat) (l l2 : List MsgV) (w : World) (hn : n ≤ 140737488355328) (hms : Msgs w A n l) (hms2 : Msgs w A2 n2 l2) :
    Calls Tryd.prog 30 #[.slice A n c, .slice A2 n2 c2, .func (.func 31) #[] #[]] w fun ev w' => ev = .returned (.bool (sameL l l2)) ∧ Below w.heap.size w w' := by
  have hl := hms.len
  have hl2 := hms2.len
  have HB := Below.refl w.heap.size w
  refine calls_at 32 Tryd.func30 rfl rfl (Nat.le_of_ble_eq_true rfl) ?_
  intro a hA
  simp only [argsE, keepE, lookS, Nat.reduceBEq, cond_true, cond_false, Nat.reduceAdd, gv_tt, gv_ff, Bool.true_and, Bool.false_and, Bool.true_or, Bool.false_or] at hA
  refine wp_seq ?_
  refine wp_region_lit ?_
  refine wl_op hA rfl rfl (by decide) (fun ev h => by simp [go_sem, h.c]; try first | exact ⟨rfl, rfl⟩ | rfl) fun a79 hA79 => ?_
  refine wl_nil ?_
  refine n_then ?_
  have hA80 := hA79.keep [0, 1, 2]
  simp only [argsE, keepE, lookS, Nat.reduceBEq, cond_true, cond_false, Nat.reduceAdd, gv_tt, gv_ff, Bool.true_and, Bool.false_and, Bool.true_or, Bool.false_or] at hA80
  clear hA hA79
  refine wp_seq ?_
  refine wp_seq ?_
  refine wp_region_lit ?_
  refine wl_op hA80 rfl rfl (by decide) (fun ev h => by simp [go_sem, h.get 0 rfl]; try first | exact ⟨rfl, rfl⟩ | rfl) fun a81 hA81 => ?_
  refine wl_op hA81 rfl rfl (by decide) (fun ev h => by simp [go_sem, h.get 10 rfl]; try first | exact ⟨rfl, rfl⟩ | rfl) fun a82 hA82 => ?_
  refine wl_op hA82 rfl rfl (by decide) (fun ev h => by simp [go_sem, h.get 1 rfl]; try first | exact ⟨rfl, rfl⟩ | rfl) fun a83 hA83 => ?_
  refine wl_op hA83 rfl rfl (by decide) (fun ev h => by simp [go_sem, h.get 12 rfl]; try first | exact ⟨rfl, rfl⟩ | rfl) fun a84 hA84 => ?_
  refine wl_op hA84 rfl rfl (by decide) (fun ev h => by simp [go_sem, h.get 11 rfl, h.get 13 rfl]; try first | exact ⟨rfl, rfl⟩ | rfl) fun a85 hA85 => ?_
  refine wl_nil ?_
  refine n_then ?_
  have hA86 := hA85.keep [0, 1, 2, 14]
  simp only [argsE, keepE, lookS, Nat.reduceBEq, cond_true, cond_false, Nat.reduceAdd, gv_tt, gv_ff, Bool.true_and, Bool.false_and, Bool.true_or, Bool.false_or] at hA86
  clear hA80 hA81 hA82 hA83 hA84 hA85 a79 a81 a82 a83 a84
  -- cond
  refine wp_if hA86 14 _ rfl (fun hq0 => ?yE) (fun hq0 => ?nE)
  case yE =>
    have hne : ¬ n = n2 := by simp at hq0; omega
    refine wp_seq ?_
    refine wp_region_lit ?_
    refine wl_op hA86 rfl rfl (by decide) (fun ev h => by simp [go_sem, h.c]; try first | exact ⟨rfl, rfl⟩ | rfl) fun a87 hA87 => ?_
    refine wl_nil ?_
    refine n_then ?_
    have hA88 := hA87.keep [6]
    simp only [argsE, keepE, lookS, Nat.reduceBEq, cond_true, cond_false, Nat.reduceAdd, gv_tt, gv_ff, Bool.true_and, Bool.false_and, Bool.true_or, Bool.false_or] at hA88
    clear hA86 hA87
    refine wp_ret ?_
    refine r_then ?_
    refine ret_1 hA88 6 rfl rfl ?_
    exact ⟨ret_bool (sameL_len (by omega)).symm, HB⟩
  case nE =>
    obtain rfl : n = n2 := by simp at hq0; omega
    refine wp_skip ?_
    refine n_then ?_
    refine wp_seq ?_
    refine wp_seq ?_
    refine wp_region_lit ?_
    refine wl_op hA86 rfl rfl (by decide) (fun ev h => by simp [go_sem, h.get 0 rfl]; try first | exact ⟨rfl, rfl⟩ | rfl) fun a89 hA89 => ?_
    refine wl_op hA89 rfl rfl (by decide) (fun ev h => by simp [go_sem, h.get 15 rfl]; try first | exact ⟨rfl, rfl⟩ | rfl) fun a90 hA90 => ?_
    refine wl_op hA90 rfl rfl (by decide) (fun ev h => by simp [go_sem, h.c]; try first | exact ⟨rfl, rfl⟩ | rfl) fun a91 hA91 => ?_
    refine wl_nil ?_
    refine n_then ?_
    have hA92 := hA91.keep [1, 2, 15, 16, 17]
    simp only [argsE, keepE, lookS, Nat.reduceBEq, cond_true, cond_false, Nat.reduceAdd, gv_tt, gv_ff, Bool.true_and, Bool.false_and, Bool.true_or, Bool.false_or] at hA92
    clear hA86 hA89 hA90 hA91 a89 a90
    refine wp_block ?_
    -- loop
    refine wp_loop_at (fun k a wx => ∃ (j : Nat), j + k = n ∧ At 32 [(1, .slice A2 n c2), (2, .func (.func 31) #[] #[]), (15, .slice A n c), (16, .int .i64 (n : Nat)), (17, .int .i64 (j : Nat))] a ∧ sameL l l2 = sameL (l.drop j) (l2.drop j) ∧ Below w.heap.size w wx) (n) ?_ ?_
    · exact ⟨0, by omega, hA92, rfl, HB⟩
    clear HB
    rintro k a wx ⟨j, hjk, hA, hall, HB⟩
    refine wp_seq ?_
    refine wp_region_lit ?_
    refine wl_op hA rfl rfl (by decide) (fun ev h => by simp [go_sem, h.get 17 rfl, h.get 16 rfl]; try first | exact ⟨rfl, rfl⟩ | rfl) fun a93 hA93 => ?_
    refine wl_nil ?_
    refine n_then ?_
    have hA94 := hA93.keep [1, 2, 15, 16, 17, 18]
    simp only [argsE, keepE, lookS, Nat.reduceBEq, cond_true, cond_false, Nat.reduceAdd, gv_tt, gv_ff, Bool.true_and, Bool.false_and, Bool.true_or, Bool.false_or] at hA94
    clear hA hA93
    refine wp_seq ?_
    -- cond
    refine wp_if hA94 18 _ rfl (fun hq => ?yL) (fun hq => ?nL)
    case yL =>
      have hlt : j < n := by simp at hq; omega
      obtain ⟨x, hx⟩ : ∃ x, l[j]? = some x := ⟨_, List.getElem?_eq_getElem (by omega)⟩
      obtain ⟨y, hy⟩ : ∃ y, l2[j]? = some y := ⟨_, List.getElem?_eq_getElem (by omega)⟩
      rw [sameL_at hx hy] at hall
      obtain ⟨ad, rfl, hadl, k0, k1, k2, k3⟩ := hms.at_ hx
      obtain ⟨ad2, rfl, hadl2, l0, l1, l2', l3⟩ := hms2.at_ hy
      have z0 := (HB.cell hadl).trans k0
      have z1 := (HB.cell (p := ⟨(ad.add (j * 4)).block, (ad.add (j * 4)).off + 1, none⟩) hadl).trans k1
      have z2 := (HB.cell (p := ⟨(ad.add (j * 4)).block, (ad.add (j * 4)).off + 2, none⟩) hadl).trans k2
      have z3 := (HB.cell (p := ⟨(ad.add (j * 4)).block, (ad.add (j * 4)).off + 3, none⟩) hadl).trans k3
      have jj0 : (0 : Int) ≤ (j : Int) := by omega
      have jj1 : (j : Int) < (n : Int) := by omega
      have hwj : IntKind.i64.wrap ((j : Int) + 1) = (j : Int) + 1 := IntWalk.i64_in _ (by omega)
      refine wp_skip ?_
      refine n_then ?_
      refine wp_seq ?_
      refine wp_block ?_
      refine wp_seq ?_
      refine wp_region_lit ?_
      refine wl_op hA94 rfl rfl (by decide) (fun ev h => by simp [go_sem, h.get 17 rfl, z0, z1, z2, z3, jj0, jj1, hwj]; try first | exact ⟨rfl, rfl⟩ | rfl) fun a95 hA95 => ?_
      refine wl_op hA95 rfl rfl (by decide) (fun ev h => by simp [go_sem, h.get 15 rfl, h.get 17 rfl, z0, z1, z2, z3, jj0, jj1, hwj]; try first | exact ⟨rfl, rfl⟩ | rfl) fun a96 hA96 => ?_
      refine wl_op hA96 rfl rfl (by decide) (fun ev h => by simp [go_sem, h.get 20 rfl, z0, z1, z2, z3, jj0, jj1, hwj]; try first | exact ⟨rfl, rfl⟩ | rfl) fun a97 hA97 => ?_
      -- stop alloc slot 8
      have hw0 := HB.size
      refine wl_new hA97 rfl rfl (by decide) (fun ev h => by simp [go_sem, z0, z1, z2, z3, jj0, jj1, hwj]; try first | exact ⟨rfl, rfl⟩ | rfl) fun w5 a98 (Kz : Blk _ _ _ _) hz5 hb5 hA98 => ?_
      replace HB := HB.trans (hb5.mono HB.size)
      refine wl_op hA98 rfl rfl (by decide) (fun ev h => by simp [go_sem, h.get 19 rfl, z0, z1, z2, z3, jj0, jj1, hwj]; try first | exact ⟨rfl, rfl⟩ | rfl) fun a99 hA99 => ?_
      -- stop store slot None
      refine wl_set [.int .u32 (x.uid : Nat), .int .i64 x.date, .int .i64 x.flags, .slice x.a x.b.length x.c] hA99 rfl rfl Kz (by rfl) (fun ev h => by simp [go_sem, h.get 8 rfl, h.get 21 rfl, z0, z1, z2, z3, jj0, jj1, hwj, setAll, Kz.cell, Kz.frozen]) fun w6 (Kz : Blk _ _ _ _) hs6 => ?_
      have HB6 := hs6.below HB hw0
      have y0 := (HB6.cell hadl2).trans l0
      have y1 := (HB6.cell (p := ⟨(ad2.add (j * 4)).block, (ad2.add (j * 4)).off + 1, none⟩) hadl2).trans l1
      have y2 := (HB6.cell (p := ⟨(ad2.add (j * 4)).block, (ad2.add (j * 4)).off + 2, none⟩) hadl2).trans l2'
      have y3 := (HB6.cell (p := ⟨(ad2.add (j * 4)).block, (ad2.add (j * 4)).off + 3, none⟩) hadl2).trans l3
      refine wl_nil ?_
      refine n_then ?_
      have hA100 := hA99.keep [1, 2, 7, 8, 15, 16, 17]
      simp only [argsE, keepE, lookS, Nat.reduceBEq, cond_true, cond_false, Nat.reduceAdd, gv_tt, gv_ff, Bool.true_and, Bool.false_and, Bool.true_or, Bool.false_or] at hA100
      clear hA94 hA95 hA96 hA97 hA98 hA99 a95 a96 a97 a98
      refine wp_seq ?_
      refine wp_region_lit ?_
      refine wl_op hA100 rfl rfl (by decide) (fun ev h => by simp [go_sem, h.get 1 rfl, y0, y1, y2, y3, jj0, jj1]; try first | exact ⟨rfl, rfl⟩ | rfl) fun a101 hA101 => ?_
      refine wl_op hA101 rfl rfl (by decide) (fun ev h => by simp [go_sem, h.get 7 rfl, y0, y1, y2, y3, jj0, jj1]; try first | exact ⟨rfl, rfl⟩ | rfl) fun a102 hA102 => ?_
      refine wl_op hA102 rfl rfl (by decide) (fun ev h => by simp [go_sem, h.get 22 rfl, h.get 23 rfl, y0, y1, y2, y3, jj0, jj1]; try first | exact ⟨rfl, rfl⟩ | rfl) fun a103 hA103 => ?_
      refine wl_op hA103 rfl rfl (by decide) (fun ev h => by simp [go_sem, h.get 24 rfl, y0, y1, y2, y3, jj0, jj1]; try first | exact ⟨rfl, rfl⟩ | rfl) fun a104 hA104 => ?_
      -- stop alloc slot 9
      refine wl_local [.int .u32 (y.uid : Nat), .int .i64 y.date, .int .i64 y.flags, .slice y.a y.b.length y.c] hA104 rfl rfl (by decide) (fun ev h => by simp [go_sem, y0, y1, y2, y3, jj0, jj1]; try first | exact ⟨rfl, rfl⟩ | rfl) rfl rfl (by rfl) (fun w1 g ev hb h => by simp [go_sem, h.get 9 rfl, h.get 25 rfl, y0, y1, y2, y3, jj0, jj1, setAll, hb.cell, hb.frozen]) fun w7 a105 (Ky : Blk _ _ _ _) hz7 hb7 hA105 => ?_
      replace HB6 := HB6.trans (hb7.mono HB6.size)
      replace Kz := Kz.below hb7 Kz.lt
      have hox := ((hms.octs x (List.mem_of_getElem? hx)).below HB6).more HB6.size
      have hoy := ((hms2.octs y (List.mem_of_getElem? hy)).below HB6).more HB6.size
      refine wl_nil ?_
      refine n_then ?_
      have hA106 := hA105.keep [1, 2, 8, 9, 15, 16, 17]
      simp only [argsE, keepE, lookS, Nat.reduceBEq, cond_true, cond_false, Nat.reduceAdd, gv_tt, gv_ff, Bool.true_and, Bool.false_and, Bool.true_or, Bool.false_or] at hA106
      clear hA100 hA101 hA102 hA103 hA104 hA105 a99 a101 a102 a103 a104
      refine wp_seq ?_
      refine wp_region_lit ?_
      refine wl_op hA106 rfl rfl (by decide) (fun ev h => by simp [go_sem, h.get 2 rfl, Kz.cell, Ky.cell, hwj]; try first | exact ⟨rfl, rfl⟩ | rfl) fun a107 hA107 => ?_
      refine wl_op hA107 rfl rfl (by decide) (fun ev h => by simp [go_sem, h.get 8 rfl, Kz.cell, Ky.cell, hwj]; try first | exact ⟨rfl, rfl⟩ | rfl) fun a108 hA108 => ?_
      refine wl_op hA108 rfl rfl (by decide) (fun ev h => by simp [go_sem, h.get 9 rfl, Kz.cell, Ky.cell, hwj]; try first | exact ⟨rfl, rfl⟩ | rfl) fun a109 hA109 => ?_
      -- stop call slot 29
      refine wl_call hA109 rfl rfl (by decide) (fun ev h => by simp [go_sem, h.get 26 rfl, h.get 27 rfl, h.get 28 rfl, Kz.cell, Ky.cell, hwj]; try first | exact ⟨rfl, rfl⟩ | rfl) (same1_any x y _ hox hoy) ?_
      rintro e w8 ⟨rfl, hb8⟩
      refine ⟨_, rfl, fun a110 hA110 => ?_⟩
      replace HB6 := HB6.trans (hb8.mono HB6.size)
      refine wl_op hA110 rfl rfl (by decide) (fun ev h => by simp [go_sem, h.get 29 rfl, Kz.cell, Ky.cell, hwj]; try first | exact ⟨rfl, rfl⟩ | rfl) fun a111 hA111 => ?_
      refine wl_nil ?_
      refine n_then ?_
      have hA112 := hA111.keep [1, 2, 15, 16, 17, 30]
      simp only [argsE, keepE, lookS, Nat.reduceBEq, cond_true, cond_false, Nat.reduceAdd, gv_tt, gv_ff, Bool.true_and, Bool.false_and, Bool.true_or, Bool.false_or] at hA112
      clear hA106 hA107 hA108 hA109 hA110 hA111 a105 a107 a108 a109 a110
      -- cond
      refine wp_if hA112 30 _ rfl (fun hq2 => ?yR) (fun hq2 => ?nR)
      case yR =>
        have hq2 : sameV x y = false := by simpa using hq2
        rw [hq2, Bool.false_and] at hall
        refine wp_seq ?_
        refine wp_region_lit ?_
        refine wl_op hA112 rfl rfl (by decide) (fun ev h => by simp [go_sem, h.c, Kz.cell, Ky.cell, hwj]; try first | exact ⟨rfl, rfl⟩ | rfl) fun a113 hA113 => ?_
        refine wl_nil ?_
        refine n_then ?_
        have hA114 := hA113.keep [6]
        simp only [argsE, keepE, lookS, Nat.reduceBEq, cond_true, cond_false, Nat.reduceAdd, gv_tt, gv_ff, Bool.true_and, Bool.false_and, Bool.true_or, Bool.false_or] at hA114
        clear hA112 hA113
        refine wp_ret ?_
        refine r_block ?_
        refine r_then ?_
        refine r_then ?_
        refine r_block ?_
        refine r_then ?_
        refine ret_1 hA114 6 rfl rfl ?_
        exact ⟨ret_bool hall.symm, HB6⟩
      case nR =>
        have hq2 : sameV x y = true := by simpa using hq2
        rw [hq2, Bool.true_and] at hall
        refine wp_skip ?_
        refine n_block ?_
        refine n_then ?_
        refine wp_region_lit ?_
        refine wl_op hA112 rfl rfl (by decide) (fun ev h => by simp [go_sem, h.c, h.get 17 rfl, Kz.cell, Ky.cell, hwj]; try first | exact ⟨rfl, rfl⟩ | rfl) fun a115 hA115 => ?_
        refine wl_op hA115 rfl rfl (by decide) (fun ev h => by simp [go_sem, h.get 31 rfl, Kz.cell, Ky.cell, hwj]; try first | exact ⟨rfl, rfl⟩ | rfl) fun a116 hA116 => ?_
        refine wl_nil ?_
        refine n_then ?_
        have hA117 := hA116.keep [1, 2, 15, 16, 17]
        simp only [argsE, keepE, lookS, Nat.reduceBEq, cond_true, cond_false, Nat.reduceAdd, gv_tt, gv_ff, Bool.true_and, Bool.false_and, Bool.true_or, Bool.false_or] at hA117
        clear hA112 hA115 hA116 a115
        -- round
        rw [show ((j : Int) + 1) = ((j + 1 : Nat) : Int) by omega] at hA117
        exact ⟨k - 1, by omega, j + 1, by omega, hA117, hall, HB6⟩
    case nL =>
      have hjn : j = n := by simp at hq; omega
      subst hjn
      rw [List.drop_of_length_le (by omega), List.drop_of_length_le (by omega)] at hall
      refine wp_exit ?_
      refine x_then ?_
      refine x_then ?_
      refine x_block ?_
      refine n_then ?_
      have hA118 := hA94.keep []
      simp only [argsE, keepE, lookS, Nat.reduceBEq, cond_true, cond_false, Nat.reduceAdd, gv_tt, gv_ff, Bool.true_and, Bool.false_and, Bool.true_or, Bool.false_or] at hA118
      clear hA94
      refine wp_seq ?_
      refine wp_region_lit ?_
      refine wl_op hA118 rfl rfl (by decide) (fun ev h => by simp [go_sem, h.c]; try first | exact ⟨rfl, rfl⟩ | rfl) fun a119 hA119 => ?_
      refine wl_nil ?_
      refine n_then ?_
      have hA120 := hA119.keep [6]
      simp only [argsE, keepE, lookS, Nat.reduceBEq, cond_true, cond_false, Nat.reduceAdd, gv_tt, gv_ff, Bool.true_and, Bool.false_and, Bool.true_or, Bool.false_or] at hA120
      clear hA118 hA119
      refine wp_ret ?_
      refine ret_1 hA120 6 rfl rfl ?_
      exact ⟨by rw [hall]; rfl, HB⟩
set_option maxRecDepth 100000 in
theorem sameBox_any (nm nm2 : ByteArray) (A A2 : Option Addr) (c c2 n n2 e e2 nx nx2 : Nat) (l l2 : List MsgV) (w : World) (hn : n ≤ 140737488355328) (hms : Msgs w A n l) (hms2 : Msgs w A2 n2 l2) :
    Calls Tryd.prog 14 #[.agg (boxC nm e nx A n c), .agg (boxC nm2 e2 nx2 A2 n2 c2)] w fun ev w' => ev = .returned (.bool (boxSame nm e nx l nm2 e2 nx2 l2)) ∧ Below w.heap.size w w' := by
  refine calls_at 31 Tryd.func14 rfl rfl (Nat.le_of_ble_eq_true rfl) ?_
  intro a hA
  simp only [argsE, keepE, lookS, Nat.reduceBEq, cond_true, cond_false, Nat.reduceAdd, gv_tt, gv_ff, Bool.true_and, Bool.false_and, Bool.true_or, Bool.false_or] at hA
  refine wp_seq ?_
  refine wp_region_lit ?_
  -- stop box slot 2
  refine wl_new hA rfl rfl (by decide) (fun ev h => by simp [go_sem, h.get 0 rfl]; try first | exact ⟨rfl, rfl⟩ | rfl) fun w1 a121 (K : Blk _ _ _ _) hz0 hb0 hA121 => ?_
  replace hms := hms.below hb0
  replace hms2 := hms2.below hb0
  refine wl_new hA121 rfl rfl (by decide) (fun ev h => by simp [go_sem, h.get 1 rfl]; try first | exact ⟨rfl, rfl⟩ | rfl) fun w2 a122 (K2 : Blk _ _ _ _) hz2 hb2 hA122 => ?_
  replace hms := hms.below hb2
  replace hms2 := hms2.below hb2
  replace K := K.below hb2 K.lt
  have HB := hb0.trans (hb2.mono hb0.size)
  unfold boxC at K K2
  refine wl_op hA122 rfl rfl (by decide) (fun ev h => by simp [go_sem, h.c, K.cell, K2.cell]; try first | exact ⟨rfl, rfl⟩ | rfl) fun a123 hA123 => ?_
  refine wl_nil ?_
  refine n_then ?_
  have hA124 := hA123.keep [2, 3]
  simp only [argsE, keepE, lookS, Nat.reduceBEq, cond_true, cond_false, Nat.reduceAdd, gv_tt, gv_ff, Bool.true_and, Bool.false_and, Bool.true_or, Bool.false_or] at hA124
  clear hA hA121 hA122 hA123 a121 a122
  refine wp_seq ?_
  refine wp_region_lit ?_
  refine wl_op hA124 rfl rfl (by decide) (fun ev h => by simp [go_sem, h.get 2 rfl, K.cell, K2.cell]; try first | exact ⟨rfl, rfl⟩ | rfl) fun a125 hA125 => ?_
  refine wl_op hA125 rfl rfl (by decide) (fun ev h => by simp [go_sem, h.get 5 rfl, K.cell, K2.cell]; try first | exact ⟨rfl, rfl⟩ | rfl) fun a126 hA126 => ?_
  refine wl_op hA126 rfl rfl (by decide) (fun ev h => by simp [go_sem, h.get 3 rfl, K.cell, K2.cell]; try first | exact ⟨rfl, rfl⟩ | rfl) fun a127 hA127 => ?_
  refine wl_op hA127 rfl rfl (by decide) (fun ev h => by simp [go_sem, h.get 7 rfl, K.cell, K2.cell]; try first | exact ⟨rfl, rfl⟩ | rfl) fun a128 hA128 => ?_
  refine wl_op hA128 rfl rfl (by decide) (fun ev h => by simp [go_sem, h.get 6 rfl, h.get 8 rfl, K.cell, K2.cell]; try first | exact ⟨rfl, rfl⟩ | rfl) fun a129 hA129 => ?_
  refine wl_op hA129 rfl rfl (by decide) (fun ev h => by simp [go_sem, h.get 9 rfl, K.cell, K2.cell]; try first | exact ⟨rfl, rfl⟩ | rfl) fun a130 hA130 => ?_
  refine wl_guard _ hA130 rfl rfl rfl rfl (by decide) (fun hq ev h => by simp [go_sem, (h.get 2 rfl), K.cell, K2.cell]; try first | exact ⟨rfl, rfl⟩ | rfl) fun a131 hA131 => ?_
  refine wl_guard _ hA131 rfl rfl rfl rfl (by decide) (fun hq ev h => by simp [go_sem, ((h.get 11 rfl).trans (gw_t (beq_t hq))), K.cell, K2.cell]; try first | exact ⟨rfl, rfl⟩ | rfl) fun a132 hA132 => ?_
  refine wl_guard _ hA132 rfl rfl rfl rfl (by decide) (fun hq ev h => by simp [go_sem, (h.get 3 rfl), K.cell, K2.cell]; try first | exact ⟨rfl, rfl⟩ | rfl) fun a133 hA133 => ?_
  refine wl_guard _ hA133 rfl rfl rfl rfl (by decide) (fun hq ev h => by simp [go_sem, ((h.get 13 rfl).trans (gw_t (beq_t hq))), K.cell, K2.cell]; try first | exact ⟨rfl, rfl⟩ | rfl) fun a134 hA134 => ?_
  refine wl_guard _ hA134 rfl rfl rfl rfl (by decide) (fun hq ev h => by simp [go_sem, ((h.get 12 rfl).trans (gw_t (beq_t hq))), ((h.get 14 rfl).trans (gw_t (beq_t hq))), K.cell, K2.cell]; try first | exact ⟨rfl, rfl⟩ | rfl) fun a135 hA135 => ?_
  refine wl_op hA135 rfl rfl (by decide) (fun ev h => by first | exact pick_and rfl (h.get 10 rfl) (h.get 15 rfl) (h.c _) | exact pick_or rfl (h.get 10 rfl) (h.get 15 rfl) (h.c _) | (simp [go_sem, h.c, h.get 10 rfl, h.get 15 rfl, K.cell, K2.cell, gv_or, gv_and]; try first | exact ⟨rfl, rfl⟩ | rfl)) fun a136 hA136 => ?_
  refine wl_op hA136 rfl rfl (by decide) (fun ev h => by simp [go_sem, h.get 16 rfl, K.cell, K2.cell]; try first | exact ⟨rfl, rfl⟩ | rfl) fun a137 hA137 => ?_
  refine wl_guard _ hA137 rfl rfl rfl rfl (by decide) (fun hq ev h => by simp [go_sem, (h.get 2 rfl), K.cell, K2.cell]; try first | exact ⟨rfl, rfl⟩ | rfl) fun a138 hA138 => ?_
  refine wl_guard _ hA138 rfl rfl rfl rfl (by decide) (fun hq ev h => by simp [go_sem, ((h.get 18 rfl).trans (gw_t (beq_t hq))), K.cell, K2.cell]; try first | exact ⟨rfl, rfl⟩ | rfl) fun a139 hA139 => ?_
  refine wl_guard _ hA139 rfl rfl rfl rfl (by decide) (fun hq ev h => by simp [go_sem, (h.get 3 rfl), K.cell, K2.cell]; try first | exact ⟨rfl, rfl⟩ | rfl) fun a140 hA140 => ?_
  refine wl_guard _ hA140 rfl rfl rfl rfl (by decide) (fun hq ev h => by simp [go_sem, ((h.get 20 rfl).trans (gw_t (beq_t hq))), K.cell, K2.cell]; try first | exact ⟨rfl, rfl⟩ | rfl) fun a141 hA141 => ?_
  refine wl_guard _ hA141 rfl rfl rfl rfl (by decide) (fun hq ev h => by simp [go_sem, ((h.get 19 rfl).trans (gw_t (beq_t hq))), ((h.get 21 rfl).trans (gw_t (beq_t hq))), K.cell, K2.cell]; try first | exact ⟨rfl, rfl⟩ | rfl) fun a142 hA142 => ?_
  refine wl_op hA142 rfl rfl (by decide) (fun ev h => by first | exact pick_and rfl (h.get 17 rfl) (h.get 22 rfl) (h.c _) | exact pick_or rfl (h.get 17 rfl) (h.get 22 rfl) (h.c _) | (simp [go_sem, h.c, h.get 17 rfl, h.get 22 rfl, K.cell, K2.cell, gv_or, gv_and]; try first | exact ⟨rfl, rfl⟩ | rfl)) fun a143 hA143 => ?_
  refine wl_op hA143 rfl rfl (by decide) (fun ev h => by simp [go_sem, h.get 23 rfl, K.cell, K2.cell]; try first | exact ⟨rfl, rfl⟩ | rfl) fun a144 hA144 => ?_
  refine wl_guard _ hA144 rfl rfl rfl rfl (by decide) (fun hq ev h => by simp [go_sem, (h.get 2 rfl), K.cell, K2.cell]; try first | exact ⟨rfl, rfl⟩ | rfl) fun a145 hA145 => ?_
  refine wl_guard _ hA145 rfl rfl rfl rfl (by decide) (fun hq ev h => by simp [go_sem, ((h.get 25 rfl).trans (gw_t (beq_t hq))), K.cell, K2.cell]; try first | exact ⟨rfl, rfl⟩ | rfl) fun a146 hA146 => ?_
  refine wl_guard _ hA146 rfl rfl rfl rfl (by decide) (fun hq ev h => by simp [go_sem, (h.get 3 rfl), K.cell, K2.cell]; try first | exact ⟨rfl, rfl⟩ | rfl) fun a147 hA147 => ?_
  refine wl_guard _ hA147 rfl rfl rfl rfl (by decide) (fun hq ev h => by simp [go_sem, ((h.get 27 rfl).trans (gw_t (beq_t hq))), K.cell, K2.cell]; try first | exact ⟨rfl, rfl⟩ | rfl) fun a148 hA148 => ?_
  -- stop call slot 29
  refine wl_gcallv _ hA148 rfl rfl rfl rfl (by decide) (fun hq ev h => by simp [go_sem, ((h.get 26 rfl).trans (gw_t (beq_t hq))), ((h.get 28 rfl).trans (gw_t (beq_t hq))), K.cell, K2.cell, h.f]; try first | exact ⟨rfl, rfl⟩ | rfl) (fun hq => equalF_any A A2 c c2 n n2 l l2 _ hn hms hms2) fun a149 w3 hb3 hA149 => ?_
  replace HB := HB.trans (hb3.mono HB.size)
  refine wl_op hA149 rfl rfl (by decide) (fun ev h => by first | exact pick_and rfl (h.get 24 rfl) (h.get 29 rfl) (h.c _) | exact pick_or rfl (h.get 24 rfl) (h.get 29 rfl) (h.c _) | (simp [go_sem, h.c, h.get 24 rfl, h.get 29 rfl, K.cell, K2.cell, gv_or, gv_and]; try first | exact ⟨rfl, rfl⟩ | rfl)) fun a150 hA150 => ?_
  refine wl_op hA150 rfl rfl (by decide) (fun ev h => by simp [go_sem, h.get 30 rfl, K.cell, K2.cell]; try first | exact ⟨rfl, rfl⟩ | rfl) fun a151 hA151 => ?_
  refine wl_nil ?_
  refine n_then ?_
  have hA152 := hA151.keep [4]
  simp only [argsE, keepE, lookS, Nat.reduceBEq, cond_true, cond_false, Nat.reduceAdd, gv_tt, gv_ff, Bool.true_and, Bool.false_and, Bool.true_or, Bool.false_or] at hA152
  clear hA124 hA125 hA126 hA127 hA128 hA129 hA130 hA131 hA132 hA133 hA134 hA135 hA136 hA137 hA138 hA139 hA140 hA141 hA142 hA143 hA144 hA145 hA146 hA147 hA148 hA149 hA150 hA151 a123 a125 a126 a127 a128 a129 a130 a131 a132 a133 a134 a135 a136 a137 a138 a139 a140 a141 a142 a143 a144 a145 a146 a147 a148 a149 a150
  refine wp_ret ?_
  -- ret
  refine ret_1 hA152 4 rfl rfl ?_
  exact ⟨ret_bool (by rw [int_beq, int_beq]; rfl), HB⟩
theorem refSame_any (x y : MsgV) (w : World) (hx : Reads w w.heap.size 1 x.a x.b.length (u8s x.b)) (hy : Reads w w.heap.size 1 y.a y.b.length (u8s y.b)) :
    Calls Tryd.prog 33 #[.agg #[.int .u32 (x.uid : Nat), .int .i64 x.date, .int .i64 x.flags, .slice x.a x.b.length x.c], .agg #[.int .u32 (y.uid : Nat), .int .i64 y.date, .int .i64 y.flags, .slice y.a y.b.length y.c]] w fun ev w' => ev = .returned (.bool (sameV x y)) ∧ Below w.heap.size w w' := by
  refine calls_at 33 Tryd.func33 rfl rfl (Nat.le_of_ble_eq_true rfl) ?_
  intro a hA
  simp only [argsE, keepE, lookS, Nat.reduceBEq, cond_true, cond_false, Nat.reduceAdd, gv_tt, gv_ff, Bool.true_and, Bool.false_and, Bool.true_or, Bool.false_or] at hA
  refine wp_seq ?_
  refine wp_region_lit ?_
  -- stop box slot 2
  refine wl_new hA rfl rfl (by decide) (fun ev h => by simp [go_sem, h.get 0 rfl]; try first | exact ⟨rfl, rfl⟩ | rfl) fun w1 a153 (K : Blk _ _ _ _) hz0 hb0 hA153 => ?_
  replace hx := (hx.below hb0).more hb0.size
  replace hy := (hy.below hb0).more hb0.size
  refine wl_new hA153 rfl rfl (by decide) (fun ev h => by simp [go_sem, h.get 1 rfl]; try first | exact ⟨rfl, rfl⟩ | rfl) fun w2 a154 (K2 : Blk _ _ _ _) hz2 hb2 hA154 => ?_
  replace hx := (hx.below hb2).more hb2.size
  replace hy := (hy.below hb2).more hb2.size
  replace K := K.below hb2 K.lt
  have HB := hb0.trans (hb2.mono (by omega))
  refine wl_op hA154 rfl rfl (by decide) (fun ev h => by simp [go_sem, h.c, K.cell, K2.cell, conv_reads rfl hx, conv_reads rfl hy]; try first | exact ⟨rfl, rfl⟩ | rfl) fun a155 hA155 => ?_
  refine wl_nil ?_
  refine n_then ?_
  have hA156 := hA155.keep [2, 3]
  simp only [argsE, keepE, lookS, Nat.reduceBEq, cond_true, cond_false, Nat.reduceAdd, gv_tt, gv_ff, Bool.true_and, Bool.false_and, Bool.true_or, Bool.false_or] at hA156
  clear hA hA153 hA154 hA155 a153 a154
  refine wp_seq ?_
  refine wp_region_lit ?_
  refine wl_op hA156 rfl rfl (by decide) (fun ev h => by simp [go_sem, h.get 2 rfl, K.cell, K2.cell, conv_reads rfl hx, conv_reads rfl hy]; try first | exact ⟨rfl, rfl⟩ | rfl) fun a157 hA157 => ?_
  refine wl_op hA157 rfl rfl (by decide) (fun ev h => by simp [go_sem, h.get 5 rfl, K.cell, K2.cell, conv_reads rfl hx, conv_reads rfl hy]; try first | exact ⟨rfl, rfl⟩ | rfl) fun a158 hA158 => ?_
  refine wl_op hA158 rfl rfl (by decide) (fun ev h => by simp [go_sem, h.get 3 rfl, K.cell, K2.cell, conv_reads rfl hx, conv_reads rfl hy]; try first | exact ⟨rfl, rfl⟩ | rfl) fun a159 hA159 => ?_
  refine wl_op hA159 rfl rfl (by decide) (fun ev h => by simp [go_sem, h.get 7 rfl, K.cell, K2.cell, conv_reads rfl hx, conv_reads rfl hy]; try first | exact ⟨rfl, rfl⟩ | rfl) fun a160 hA160 => ?_
  refine wl_op hA160 rfl rfl (by decide) (fun ev h => by simp [go_sem, h.get 6 rfl, h.get 8 rfl, K.cell, K2.cell, conv_reads rfl hx, conv_reads rfl hy]; try first | exact ⟨rfl, rfl⟩ | rfl) fun a161 hA161 => ?_
  refine wl_op hA161 rfl rfl (by decide) (fun ev h => by simp [go_sem, h.get 9 rfl, K.cell, K2.cell, conv_reads rfl hx, conv_reads rfl hy]; try first | exact ⟨rfl, rfl⟩ | rfl) fun a162 hA162 => ?_
  refine wl_guard _ hA162 rfl rfl rfl rfl (by decide) (fun hq ev h => by simp [go_sem, (h.get 2 rfl), K.cell, K2.cell, conv_reads rfl hx, conv_reads rfl hy]; try first | exact ⟨rfl, rfl⟩ | rfl) fun a163 hA163 => ?_
  refine wl_guard _ hA163 rfl rfl rfl rfl (by decide) (fun hq ev h => by simp [go_sem, ((h.get 11 rfl).trans (gw_t (beq_t hq))), K.cell, K2.cell, conv_reads rfl hx, conv_reads rfl hy]; try first | exact ⟨rfl, rfl⟩ | rfl) fun a164 hA164 => ?_
  refine wl_guard _ hA164 rfl rfl rfl rfl (by decide) (fun hq ev h => by simp [go_sem, (h.get 3 rfl), K.cell, K2.cell, conv_reads rfl hx, conv_reads rfl hy]; try first | exact ⟨rfl, rfl⟩ | rfl) fun a165 hA165 => ?_
  refine wl_guard _ hA165 rfl rfl rfl rfl (by decide) (fun hq ev h => by simp [go_sem, ((h.get 13 rfl).trans (gw_t (beq_t hq))), K.cell, K2.cell, conv_reads rfl hx, conv_reads rfl hy]; try first | exact ⟨rfl, rfl⟩ | rfl) fun a166 hA166 => ?_
  refine wl_guard _ hA166 rfl rfl rfl rfl (by decide) (fun hq ev h => by simp [go_sem, ((h.get 12 rfl).trans (gw_t (beq_t hq))), ((h.get 14 rfl).trans (gw_t (beq_t hq))), K.cell, K2.cell, conv_reads rfl hx, conv_reads rfl hy]; try first | exact ⟨rfl, rfl⟩ | rfl) fun a167 hA167 => ?_
  refine wl_op hA167 rfl rfl (by decide) (fun ev h => by first | exact pick_and rfl (h.get 10 rfl) (h.get 15 rfl) (h.c _) | exact pick_or rfl (h.get 10 rfl) (h.get 15 rfl) (h.c _) | (simp [go_sem, h.c, h.get 10 rfl, h.get 15 rfl, K.cell, K2.cell, conv_reads rfl hx, conv_reads rfl hy, gv_or, gv_and]; try first | exact ⟨rfl, rfl⟩ | rfl)) fun a168 hA168 => ?_
  refine wl_op hA168 rfl rfl (by decide) (fun ev h => by simp [go_sem, h.get 16 rfl, K.cell, K2.cell, conv_reads rfl hx, conv_reads rfl hy]; try first | exact ⟨rfl, rfl⟩ | rfl) fun a169 hA169 => ?_
  refine wl_guard _ hA169 rfl rfl rfl rfl (by decide) (fun hq ev h => by simp [go_sem, (h.get 2 rfl), K.cell, K2.cell, conv_reads rfl hx, conv_reads rfl hy]; try first | exact ⟨rfl, rfl⟩ | rfl) fun a170 hA170 => ?_
  refine wl_guard _ hA170 rfl rfl rfl rfl (by decide) (fun hq ev h => by simp [go_sem, ((h.get 18 rfl).trans (gw_t (beq_t hq))), K.cell, K2.cell, conv_reads rfl hx, conv_reads rfl hy]; try first | exact ⟨rfl, rfl⟩ | rfl) fun a171 hA171 => ?_
  refine wl_guard _ hA171 rfl rfl rfl rfl (by decide) (fun hq ev h => by simp [go_sem, (h.get 3 rfl), K.cell, K2.cell, conv_reads rfl hx, conv_reads rfl hy]; try first | exact ⟨rfl, rfl⟩ | rfl) fun a172 hA172 => ?_
  refine wl_guard _ hA172 rfl rfl rfl rfl (by decide) (fun hq ev h => by simp [go_sem, ((h.get 20 rfl).trans (gw_t (beq_t hq))), K.cell, K2.cell, conv_reads rfl hx, conv_reads rfl hy]; try first | exact ⟨rfl, rfl⟩ | rfl) fun a173 hA173 => ?_
  refine wl_guard _ hA173 rfl rfl rfl rfl (by decide) (fun hq ev h => by simp [go_sem, ((h.get 19 rfl).trans (gw_t (beq_t hq))), ((h.get 21 rfl).trans (gw_t (beq_t hq))), K.cell, K2.cell, conv_reads rfl hx, conv_reads rfl hy]; try first | exact ⟨rfl, rfl⟩ | rfl) fun a174 hA174 => ?_
  refine wl_op hA174 rfl rfl (by decide) (fun ev h => by first | exact pick_and rfl (h.get 17 rfl) (h.get 22 rfl) (h.c _) | exact pick_or rfl (h.get 17 rfl) (h.get 22 rfl) (h.c _) | (simp [go_sem, h.c, h.get 17 rfl, h.get 22 rfl, K.cell, K2.cell, conv_reads rfl hx, conv_reads rfl hy, gv_or, gv_and]; try first | exact ⟨rfl, rfl⟩ | rfl)) fun a175 hA175 => ?_
  refine wl_op hA175 rfl rfl (by decide) (fun ev h => by simp [go_sem, h.get 23 rfl, K.cell, K2.cell, conv_reads rfl hx, conv_reads rfl hy]; try first | exact ⟨rfl, rfl⟩ | rfl) fun a176 hA176 => ?_
  refine wl_guard _ hA176 rfl rfl rfl rfl (by decide) (fun hq ev h => by simp [go_sem, (h.get 2 rfl), K.cell, K2.cell, conv_reads rfl hx, conv_reads rfl hy]; try first | exact ⟨rfl, rfl⟩ | rfl) fun a177 hA177 => ?_
  refine wl_guard _ hA177 rfl rfl rfl rfl (by decide) (fun hq ev h => by simp [go_sem, ((h.get 25 rfl).trans (gw_t (beq_t hq))), K.cell, K2.cell, conv_reads rfl hx, conv_reads rfl hy]; try first | exact ⟨rfl, rfl⟩ | rfl) fun a178 hA178 => ?_
  refine wl_guard _ hA178 rfl rfl rfl rfl (by decide) (fun hq ev h => by simp [go_sem, ((h.get 26 rfl).trans (gw_t (beq_t hq))), K.cell, K2.cell, conv_reads rfl hx, conv_reads rfl hy]; try first | exact ⟨rfl, rfl⟩ | rfl) fun a179 hA179 => ?_
  refine wl_guard _ hA179 rfl rfl rfl rfl (by decide) (fun hq ev h => by simp [go_sem, (h.get 3 rfl), K.cell, K2.cell, conv_reads rfl hx, conv_reads rfl hy]; try first | exact ⟨rfl, rfl⟩ | rfl) fun a180 hA180 => ?_
  refine wl_guard _ hA180 rfl rfl rfl rfl (by decide) (fun hq ev h => by simp [go_sem, ((h.get 28 rfl).trans (gw_t (beq_t hq))), K.cell, K2.cell, conv_reads rfl hx, conv_reads rfl hy]; try first | exact ⟨rfl, rfl⟩ | rfl) fun a181 hA181 => ?_
  refine wl_guard _ hA181 rfl rfl rfl rfl (by decide) (fun hq ev h => by simp [go_sem, ((h.get 29 rfl).trans (gw_t (beq_t hq))), K.cell, K2.cell, conv_reads rfl hx, conv_reads rfl hy]; try first | exact ⟨rfl, rfl⟩ | rfl) fun a182 hA182 => ?_
  refine wl_guard _ hA182 rfl rfl rfl rfl (by decide) (fun hq ev h => by simp [go_sem, ((h.get 27 rfl).trans (gw_t (beq_t hq))), ((h.get 30 rfl).trans (gw_t (beq_t hq))), K.cell, K2.cell, conv_reads rfl hx, conv_reads rfl hy]; try first | exact ⟨rfl, rfl⟩ | rfl) fun a183 hA183 => ?_
  refine wl_op hA183 rfl rfl (by decide) (fun ev h => by first | exact pick_and rfl (h.get 24 rfl) (h.get 31 rfl) (h.c _) | exact pick_or rfl (h.get 24 rfl) (h.get 31 rfl) (h.c _) | (simp [go_sem, h.c, h.get 24 rfl, h.get 31 rfl, K.cell, K2.cell, conv_reads rfl hx, conv_reads rfl hy, gv_or, gv_and]; try first | exact ⟨rfl, rfl⟩ | rfl)) fun a184 hA184 => ?_
  refine wl_op hA184 rfl rfl (by decide) (fun ev h => by simp [go_sem, h.get 32 rfl, K.cell, K2.cell, conv_reads rfl hx, conv_reads rfl hy]; try first | exact ⟨rfl, rfl⟩ | rfl) fun a185 hA185 => ?_
  refine wl_nil ?_
  refine n_then ?_
  have hA186 := hA185.keep [4]
  simp only [argsE, keepE, lookS, Nat.reduceBEq, cond_true, cond_false, Nat.reduceAdd, gv_tt, gv_ff, Bool.true_and, Bool.false_and, Bool.true_or, Bool.false_or] at hA186
  clear hA156 hA157 hA158 hA159 hA160 hA161 hA162 hA163 hA164 hA165 hA166 hA167 hA168 hA169 hA170 hA171 hA172 hA173 hA174 hA175 hA176 hA177 hA178 hA179 hA180 hA181 hA182 hA183 hA184 hA185 a155 a157 a158 a159 a160 a161 a162 a163 a164 a165 a166 a167 a168 a169 a170 a171 a172 a173 a174 a175 a176 a177 a178 a179 a180 a181 a182 a183 a184
  refine wp_ret ?_
  -- ret
  refine ret_1 hA186 4 rfl rfl ?_
  exact ⟨ret_bool (by rw [int_beq]; rfl), HB⟩
set_option maxRecDepth 100000 in
set_option maxHeartbeats 1000000 in
theorem refSameBox_any (nm nm2 : ByteArray) (A A2 : Option Addr) (c c2 n n2 e e2 nx nx2 : Nat) (l l2 : List MsgV) (w : World) (hn : n ≤ 140737488355328) (hms : Msgs w A n l) (hms2 : Msgs w A2 n2 l2) :
    Calls Tryd.prog 15 #[.agg (boxC nm e nx A n c), .agg (boxC nm2 e2 nx2 A2 n2 c2)] w fun ev w' => ev = .returned (.bool (boxSame nm e nx l nm2 e2 nx2 l2)) ∧ Below w.heap.size w w' := by
  have hl := hms.len
  have hl2 := hms2.len
  refine calls_at 53 Tryd.func15 rfl rfl (Nat.le_of_ble_eq_true rfl) ?_
  intro a hA
  simp only [argsE, keepE, lookS, Nat.reduceBEq, cond_true, cond_false, Nat.reduceAdd, gv_tt, gv_ff, Bool.true_and, Bool.false_and, Bool.true_or, Bool.false_or] at hA
  refine wp_seq ?_
  refine wp_region_lit ?_
  -- stop box slot 2
  refine wl_new hA rfl rfl (by decide) (fun ev h => by simp [go_sem, h.get 0 rfl]; try first | exact ⟨rfl, rfl⟩ | rfl) fun w1 a187 (K : Blk _ _ _ _) hz0 hb0 hA187 => ?_
  replace hms := hms.below hb0
  replace hms2 := hms2.below hb0
  refine wl_new hA187 rfl rfl (by decide) (fun ev h => by simp [go_sem, h.get 1 rfl]; try first | exact ⟨rfl, rfl⟩ | rfl) fun w2 a188 (K2 : Blk _ _ _ _) hz2 hb2 hA188 => ?_
  replace hms := hms.below hb2
  replace hms2 := hms2.below hb2
  replace K := K.below hb2 K.lt
  have HB := Below.refl w2.heap.size w2
  unfold boxC at K K2
  refine wl_op hA188 rfl rfl (by decide) (fun ev h => by simp [go_sem, h.c, K.cell, K2.cell]; try first | exact ⟨rfl, rfl⟩ | rfl) fun a189 hA189 => ?_
  refine wl_nil ?_
  refine n_then ?_
  have hA190 := hA189.keep [2, 3]
  simp only [argsE, keepE, lookS, Nat.reduceBEq, cond_true, cond_false, Nat.reduceAdd, gv_tt, gv_ff, Bool.true_and, Bool.false_and, Bool.true_or, Bool.false_or] at hA190
  clear hA hA187 hA188 hA189 a187 a188
  refine wp_seq ?_
  refine wp_seq ?_
  refine wp_region_lit ?_
  refine wl_op hA190 rfl rfl (by decide) (fun ev h => by simp [go_sem, h.get 2 rfl, K.cell, K2.cell]; try first | exact ⟨rfl, rfl⟩ | rfl) fun a191 hA191 => ?_
  refine wl_op hA191 rfl rfl (by decide) (fun ev h => by simp [go_sem, h.get 6 rfl, K.cell, K2.cell]; try first | exact ⟨rfl, rfl⟩ | rfl) fun a192 hA192 => ?_
  refine wl_op hA192 rfl rfl (by decide) (fun ev h => by simp [go_sem, h.get 3 rfl, K.cell, K2.cell]; try first | exact ⟨rfl, rfl⟩ | rfl) fun a193 hA193 => ?_
  refine wl_op hA193 rfl rfl (by decide) (fun ev h => by simp [go_sem, h.get 8 rfl, K.cell, K2.cell]; try first | exact ⟨rfl, rfl⟩ | rfl) fun a194 hA194 => ?_
  refine wl_op hA194 rfl rfl (by decide) (fun ev h => by simp [go_sem, h.get 7 rfl, h.get 9 rfl, K.cell, K2.cell]; try first | exact ⟨rfl, rfl⟩ | rfl) fun a195 hA195 => ?_
  refine wl_op hA195 rfl rfl (by decide) (fun ev h => by simp [go_sem, h.get 10 rfl, K.cell, K2.cell]; try first | exact ⟨rfl, rfl⟩ | rfl) fun a196 hA196 => ?_
  refine wl_guard _ hA196 rfl rfl rfl rfl (by decide) (fun hq ev h => by simp [go_sem, (h.get 2 rfl), K.cell, K2.cell]; try first | exact ⟨rfl, rfl⟩ | rfl) fun a197 hA197 => ?_
  refine wl_guard _ hA197 rfl rfl rfl rfl (by decide) (fun hq ev h => by simp [go_sem, ((h.get 12 rfl).trans (gw_t (beq_t hq))), K.cell, K2.cell]; try first | exact ⟨rfl, rfl⟩ | rfl) fun a198 hA198 => ?_
  refine wl_guard _ hA198 rfl rfl rfl rfl (by decide) (fun hq ev h => by simp [go_sem, (h.get 3 rfl), K.cell, K2.cell]; try first | exact ⟨rfl, rfl⟩ | rfl) fun a199 hA199 => ?_
  refine wl_guard _ hA199 rfl rfl rfl rfl (by decide) (fun hq ev h => by simp [go_sem, ((h.get 14 rfl).trans (gw_t (beq_t hq))), K.cell, K2.cell]; try first | exact ⟨rfl, rfl⟩ | rfl) fun a200 hA200 => ?_
  refine wl_guard _ hA200 rfl rfl rfl rfl (by decide) (fun hq ev h => by simp [go_sem, ((h.get 13 rfl).trans (gw_t (beq_t hq))), ((h.get 15 rfl).trans (gw_t (beq_t hq))), K.cell, K2.cell]; try first | exact ⟨rfl, rfl⟩ | rfl) fun a201 hA201 => ?_
  refine wl_op hA201 rfl rfl (by decide) (fun ev h => by first | exact pick_and rfl (h.get 11 rfl) (h.c _) (h.get 16 rfl) | exact pick_or rfl (h.get 11 rfl) (h.c _) (h.get 16 rfl) | (simp [go_sem, h.c, h.get 11 rfl, h.get 16 rfl, K.cell, K2.cell, gv_or, gv_and]; try first | exact ⟨rfl, rfl⟩ | rfl)) fun a202 hA202 => ?_
  refine wl_op hA202 rfl rfl (by decide) (fun ev h => by simp [go_sem, h.get 17 rfl, K.cell, K2.cell]; try first | exact ⟨rfl, rfl⟩ | rfl) fun a203 hA203 => ?_
  refine wl_guard _ hA203 rfl rfl rfl rfl (by decide) (fun hq ev h => by simp [go_sem, (h.get 2 rfl), K.cell, K2.cell]; try first | exact ⟨rfl, rfl⟩ | rfl) fun a204 hA204 => ?_
  refine wl_guard _ hA204 rfl rfl rfl rfl (by decide) (fun hq ev h => by simp [go_sem, ((h.get 19 rfl).trans (gw_t (beq_t hq))), K.cell, K2.cell]; try first | exact ⟨rfl, rfl⟩ | rfl) fun a205 hA205 => ?_
  refine wl_guard _ hA205 rfl rfl rfl rfl (by decide) (fun hq ev h => by simp [go_sem, (h.get 3 rfl), K.cell, K2.cell]; try first | exact ⟨rfl, rfl⟩ | rfl) fun a206 hA206 => ?_
  refine wl_guard _ hA206 rfl rfl rfl rfl (by decide) (fun hq ev h => by simp [go_sem, ((h.get 21 rfl).trans (gw_t (beq_t hq))), K.cell, K2.cell]; try first | exact ⟨rfl, rfl⟩ | rfl) fun a207 hA207 => ?_
  refine wl_guard _ hA207 rfl rfl rfl rfl (by decide) (fun hq ev h => by simp [go_sem, ((h.get 20 rfl).trans (gw_t (beq_t hq))), ((h.get 22 rfl).trans (gw_t (beq_t hq))), K.cell, K2.cell]; try first | exact ⟨rfl, rfl⟩ | rfl) fun a208 hA208 => ?_
  refine wl_op hA208 rfl rfl (by decide) (fun ev h => by first | exact pick_and rfl (h.get 18 rfl) (h.c _) (h.get 23 rfl) | exact pick_or rfl (h.get 18 rfl) (h.c _) (h.get 23 rfl) | (simp [go_sem, h.c, h.get 18 rfl, h.get 23 rfl, K.cell, K2.cell, gv_or, gv_and]; try first | exact ⟨rfl, rfl⟩ | rfl)) fun a209 hA209 => ?_
  refine wl_op hA209 rfl rfl (by decide) (fun ev h => by simp [go_sem, h.get 24 rfl, K.cell, K2.cell]; try first | exact ⟨rfl, rfl⟩ | rfl) fun a210 hA210 => ?_
  refine wl_guard _ hA210 rfl rfl rfl rfl (by decide) (fun hq ev h => by simp [go_sem, (h.get 2 rfl), K.cell, K2.cell]; try first | exact ⟨rfl, rfl⟩ | rfl) fun a211 hA211 => ?_
  refine wl_guard _ hA211 rfl rfl rfl rfl (by decide) (fun hq ev h => by simp [go_sem, ((h.get 26 rfl).trans (gw_t (beq_t hq))), K.cell, K2.cell]; try first | exact ⟨rfl, rfl⟩ | rfl) fun a212 hA212 => ?_
  refine wl_guard _ hA212 rfl rfl rfl rfl (by decide) (fun hq ev h => by simp [go_sem, ((h.get 27 rfl).trans (gw_t (beq_t hq))), K.cell, K2.cell]; try first | exact ⟨rfl, rfl⟩ | rfl) fun a213 hA213 => ?_
  refine wl_guard _ hA213 rfl rfl rfl rfl (by decide) (fun hq ev h => by simp [go_sem, (h.get 3 rfl), K.cell, K2.cell]; try first | exact ⟨rfl, rfl⟩ | rfl) fun a214 hA214 => ?_
  refine wl_guard _ hA214 rfl rfl rfl rfl (by decide) (fun hq ev h => by simp [go_sem, ((h.get 29 rfl).trans (gw_t (beq_t hq))), K.cell, K2.cell]; try first | exact ⟨rfl, rfl⟩ | rfl) fun a215 hA215 => ?_
  refine wl_guard _ hA215 rfl rfl rfl rfl (by decide) (fun hq ev h => by simp [go_sem, ((h.get 30 rfl).trans (gw_t (beq_t hq))), K.cell, K2.cell]; try first | exact ⟨rfl, rfl⟩ | rfl) fun a216 hA216 => ?_
  refine wl_guard _ hA216 rfl rfl rfl rfl (by decide) (fun hq ev h => by simp [go_sem, ((h.get 28 rfl).trans (gw_t (beq_t hq))), ((h.get 31 rfl).trans (gw_t (beq_t hq))), K.cell, K2.cell]; try first | exact ⟨rfl, rfl⟩ | rfl) fun a217 hA217 => ?_
  refine wl_op hA217 rfl rfl (by decide) (fun ev h => by first | exact pick_and rfl (h.get 25 rfl) (h.c _) (h.get 32 rfl) | exact pick_or rfl (h.get 25 rfl) (h.c _) (h.get 32 rfl) | (simp [go_sem, h.c, h.get 25 rfl, h.get 32 rfl, K.cell, K2.cell, gv_or, gv_and]; try first | exact ⟨rfl, rfl⟩ | rfl)) fun a218 hA218 => ?_
  refine wl_nil ?_
  refine n_then ?_
  have hA219 := hA218.keep [2, 3, 33]
  simp only [argsE, keepE, lookS, Nat.reduceBEq, cond_true, cond_false, Nat.reduceAdd, gv_tt, gv_ff, Bool.true_and, Bool.false_and, Bool.true_or, Bool.false_or] at hA219
  clear hA190 hA191 hA192 hA193 hA194 hA195 hA196 hA197 hA198 hA199 hA200 hA201 hA202 hA203 hA204 hA205 hA206 hA207 hA208 hA209 hA210 hA211 hA212 hA213 hA214 hA215 hA216 hA217 hA218 a189 a191 a192 a193 a194 a195 a196 a197 a198 a199 a200 a201 a202 a203 a204 a205 a206 a207 a208 a209 a210 a211 a212 a213 a214 a215 a216 a217
  -- cond
  have hbs : boxSame nm e nx l nm2 e2 nx2 l2 = (!(!nm.toList == nm2.toList || (e : Int) != (e2 : Int) || (nx : Int) != (nx2 : Int) || (n : Int) != (n2 : Int)) && sameL l l2) := by
    unfold boxSame
    simp only [bne, int_beq]
    by_cases h : n = n2
    · subst h; simp
    · rw [sameL_len (by omega)]; simp
  obtain ⟨q, hqe⟩ : ∃ q, (!nm.toList == nm2.toList || (e : Int) != (e2 : Int) || (nx : Int) != (nx2 : Int) || (n : Int) != (n2 : Int)) = q := ⟨_, rfl⟩
  have hnn : q = false → n = n2 := fun h => by rw [h] at hqe; simp at hqe; omega
  rw [hqe] at hbs hA219
  rw [hbs]
  refine wp_if hA219 33 _ rfl (fun hq => ?yE) (fun hq => ?nE)
  case yE =>
    subst hq
    refine wp_seq ?_
    refine wp_region_lit ?_
    refine wl_op hA219 rfl rfl (by decide) (fun ev h => by simp [go_sem, h.c, K.cell, K2.cell]; try first | exact ⟨rfl, rfl⟩ | rfl) fun a220 hA220 => ?_
    refine wl_nil ?_
    refine n_then ?_
    have hA221 := hA220.keep [4]
    simp only [argsE, keepE, lookS, Nat.reduceBEq, cond_true, cond_false, Nat.reduceAdd, gv_tt, gv_ff, Bool.true_and, Bool.false_and, Bool.true_or, Bool.false_or] at hA221
    clear hA219 hA220
    refine wp_ret ?_
    refine r_then ?_
    refine ret_1 hA221 4 rfl rfl ?_
    exact ⟨rfl, hb0.trans ((hb2.trans (HB.mono hb2.size)).mono hb0.size)⟩
  case nE =>
    subst hq
    obtain rfl := hnn rfl
    rw [Bool.not_false, Bool.true_and]
    refine wp_skip ?_
    refine n_then ?_
    refine wp_seq ?_
    refine wp_seq ?_
    refine wp_region_lit ?_
    refine wl_op hA219 rfl rfl (by decide) (fun ev h => by simp [go_sem, h.get 2 rfl, K.cell, K2.cell]; try first | exact ⟨rfl, rfl⟩ | rfl) fun a222 hA222 => ?_
    refine wl_op hA222 rfl rfl (by decide) (fun ev h => by simp [go_sem, h.get 34 rfl, K.cell, K2.cell]; try first | exact ⟨rfl, rfl⟩ | rfl) fun a223 hA223 => ?_
    refine wl_op hA223 rfl rfl (by decide) (fun ev h => by simp [go_sem, h.get 35 rfl, K.cell, K2.cell]; try first | exact ⟨rfl, rfl⟩ | rfl) fun a224 hA224 => ?_
    refine wl_op hA224 rfl rfl (by decide) (fun ev h => by simp [go_sem, h.c, K.cell, K2.cell]; try first | exact ⟨rfl, rfl⟩ | rfl) fun a225 hA225 => ?_
    refine wl_nil ?_
    refine n_then ?_
    have hA226 := hA225.keep [2, 3, 36, 37]
    simp only [argsE, keepE, lookS, Nat.reduceBEq, cond_true, cond_false, Nat.reduceAdd, gv_tt, gv_ff, Bool.true_and, Bool.false_and, Bool.true_or, Bool.false_or] at hA226
    clear hA219 hA222 hA223 hA224 hA225 a222 a223 a224
    refine wp_block ?_
    -- loop
    refine wp_loop_at (fun k a wx => ∃ (j : Nat), j + k = n ∧ At 53 [(2, .pointer (some ⟨w.heap.size, 0, none⟩)), (3, .pointer (some ⟨w1.heap.size, 0, none⟩)), (36, .int .i64 (n : Nat)), (37, .int .i64 (j : Nat))] a ∧ sameL l l2 = sameL (l.drop j) (l2.drop j) ∧ Below w2.heap.size w2 wx) (n) ?_ ?_
    · exact ⟨0, by omega, hA226, rfl, HB⟩
    clear HB
    rintro k a wx ⟨j, hjk, hA, hall, HB⟩
    refine wp_seq ?_
    refine wp_region_lit ?_
    refine wl_op hA rfl rfl (by decide) (fun ev h => by simp [go_sem, h.get 37 rfl, h.get 36 rfl]; try first | exact ⟨rfl, rfl⟩ | rfl) fun a227 hA227 => ?_
    refine wl_nil ?_
    refine n_then ?_
    have hA228 := hA227.keep [2, 3, 36, 37, 38]
    simp only [argsE, keepE, lookS, Nat.reduceBEq, cond_true, cond_false, Nat.reduceAdd, gv_tt, gv_ff, Bool.true_and, Bool.false_and, Bool.true_or, Bool.false_or] at hA228
    clear hA hA227
    refine wp_seq ?_
    -- cond
    refine wp_if hA228 38 _ rfl (fun hq => ?yL) (fun hq => ?nL)
    case yL =>
      have hlt : j < n := by simp at hq; omega
      obtain ⟨x, hx⟩ : ∃ x, l[j]? = some x := ⟨_, List.getElem?_eq_getElem (by omega)⟩
      obtain ⟨y, hy⟩ : ∃ y, l2[j]? = some y := ⟨_, List.getElem?_eq_getElem (by omega)⟩
      rw [sameL_at hx hy] at hall
      obtain ⟨ad, rfl, hadl, k0, k1, k2, k3⟩ := hms.at_ hx
      obtain ⟨ad2, rfl, hadl2, l0, l1, l2', l3⟩ := hms2.at_ hy
      have jj0 : (0 : Int) ≤ (j : Int) := by omega
      have jj1 : (j : Int) < (n : Int) := by omega
      have hwj : IntKind.i64.wrap ((j : Int) + 1) = (j : Int) + 1 := IntWalk.i64_in _ (by omega)
      refine wp_skip ?_
      refine n_then ?_
      refine wp_seq ?_
      refine wp_block ?_
      refine wp_seq ?_
      refine wp_region_lit ?_
      refine wl_op hA228 rfl rfl (by decide) (fun ev h => by simp [go_sem, h.get 37 rfl]; try first | exact ⟨rfl, rfl⟩ | rfl) fun a229 hA229 => ?_
      refine wl_op hA229 rfl rfl (by decide) (fun ev h => by simp [go_sem, h.get 39 rfl]; try first | exact ⟨rfl, rfl⟩ | rfl) fun a230 hA230 => ?_
      refine wl_nil ?_
      refine n_then ?_
      have hA231 := hA230.keep [2, 3, 5, 36, 37]
      simp only [argsE, keepE, lookS, Nat.reduceBEq, cond_true, cond_false, Nat.reduceAdd, gv_tt, gv_ff, Bool.true_and, Bool.false_and, Bool.true_or, Bool.false_or] at hA231
      clear hA228 hA229 hA230 a229
      refine wp_seq ?_
      -- any
      refine wp_any_at hA231 [(.det ?dD0), (.det ?dD1), (.det ?dD2), (.det ?dD3), (.det ?dD4), (.det ?dD5), (.det ?dD6), (.det ?dD7), (.det ?dD8), (.det ?dD9), (.det ?dD10), (.det ?dD11)] [] (fun wy => Below w2.heap.size w2 wy) (TSp [] Grows) (by kernel_rfl) rfl (by kernel_rfl) (by kernel_rfl) rfl (HB.drew) (stab_sp [] [true, true, true, true, true, true, true, true, true, true, true, true] [true, true, true, true, true, true, true, true, true, true, true, true] [] rfl rfl rfl (by kernel_rfl) ⟨trivial, trivial, trivial, trivial, trivial, trivial, trivial, trivial, trivial, trivial, trivial, trivial, trivial⟩ trivial) (fun _ h => by cases h) (fun _ _ _ _ _ h => by cases h) (fun _ h => by cases h) ⟨?oD0, ?oD1, ?oD2, ?oD3, ?oD4, ?oD5, ?oD6, ?oD7, ?oD8, ?oD9, ?oD10, ?oD11, trivial⟩ (by kernel_rfl) ?fD
      case oD0 =>
        intro ev wo hev hC hs hph
        have e2 := see_env hA231 hs 2 (by kernel_rfl) (by kernel_rfl) rfl
        exact ob_det (wanted_none rfl) rfl (by kernel_rfl) hC (TSp.of rfl (Grows.refl _)) (by simp [go_sem, e2]; try first | exact ⟨rfl, rfl⟩ | rfl)
      case oD1 =>
        intro ev wo hev hC hs hph
        have e40 := see_det hs 40 0 (by kernel_rfl) (by kernel_rfl) rfl
        have Kx := K.below hC K.lt
        have Kx2 := K2.below hC K2.lt
        have z0 := (hC.cell hadl).trans k0
        have z1 := (hC.cell (p := ⟨(ad.add (j * 4)).block, (ad.add (j * 4)).off + 1, none⟩) hadl).trans k1
        have z2 := (hC.cell (p := ⟨(ad.add (j * 4)).block, (ad.add (j * 4)).off + 2, none⟩) hadl).trans k2
        have z3 := (hC.cell (p := ⟨(ad.add (j * 4)).block, (ad.add (j * 4)).off + 3, none⟩) hadl).trans k3
        have y0 := (hC.cell hadl2).trans l0
        have y1 := (hC.cell (p := ⟨(ad2.add (j * 4)).block, (ad2.add (j * 4)).off + 1, none⟩) hadl2).trans l1
        have y2 := (hC.cell (p := ⟨(ad2.add (j * 4)).block, (ad2.add (j * 4)).off + 2, none⟩) hadl2).trans l2'
        have y3 := (hC.cell (p := ⟨(ad2.add (j * 4)).block, (ad2.add (j * 4)).off + 3, none⟩) hadl2).trans l3
        exact ob_det (wanted_none rfl) rfl (by kernel_rfl) hC (TSp.of rfl (Grows.refl _)) (by simp [go_sem, e40, Kx.cell, Kx2.cell, z0, z1, z2, z3, y0, y1, y2, y3]; try first | exact ⟨rfl, rfl⟩ | rfl)
      case oD2 =>
        intro ev wo hev hC hs hph
        have e5 := see_env hA231 hs 5 (by kernel_rfl) (by kernel_rfl) rfl
        exact ob_det (wanted_none rfl) rfl (by kernel_rfl) hC (TSp.of rfl (Grows.refl _)) (by simp [go_sem, e5]; try first | exact ⟨rfl, rfl⟩ | rfl)
      case oD3 =>
        intro ev wo hev hC hs hph
        have e41 := see_det hs 41 1 (by kernel_rfl) (by kernel_rfl) rfl
        have e42 := see_det hs 42 2 (by kernel_rfl) (by kernel_rfl) rfl
        have Kx := K.below hC K.lt
        have Kx2 := K2.below hC K2.lt
        have z0 := (hC.cell hadl).trans k0
        have z1 := (hC.cell (p := ⟨(ad.add (j * 4)).block, (ad.add (j * 4)).off + 1, none⟩) hadl).trans k1
        have z2 := (hC.cell (p := ⟨(ad.add (j * 4)).block, (ad.add (j * 4)).off + 2, none⟩) hadl).trans k2
        have z3 := (hC.cell (p := ⟨(ad.add (j * 4)).block, (ad.add (j * 4)).off + 3, none⟩) hadl).trans k3
        have y0 := (hC.cell hadl2).trans l0
        have y1 := (hC.cell (p := ⟨(ad2.add (j * 4)).block, (ad2.add (j * 4)).off + 1, none⟩) hadl2).trans l1
        have y2 := (hC.cell (p := ⟨(ad2.add (j * 4)).block, (ad2.add (j * 4)).off + 2, none⟩) hadl2).trans l2'
        have y3 := (hC.cell (p := ⟨(ad2.add (j * 4)).block, (ad2.add (j * 4)).off + 3, none⟩) hadl2).trans l3
        exact ob_det (wanted_none rfl) rfl (by kernel_rfl) hC (TSp.of rfl (Grows.refl _)) (by simp [go_sem, e41, e42, jj0, jj1]; try first | exact ⟨rfl, rfl⟩ | rfl)
      case oD4 =>
        intro ev wo hev hC hs hph
        have e43 := see_det hs 43 3 (by kernel_rfl) (by kernel_rfl) rfl
        have Kx := K.below hC K.lt
        have Kx2 := K2.below hC K2.lt
        have z0 := (hC.cell hadl).trans k0
        have z1 := (hC.cell (p := ⟨(ad.add (j * 4)).block, (ad.add (j * 4)).off + 1, none⟩) hadl).trans k1
        have z2 := (hC.cell (p := ⟨(ad.add (j * 4)).block, (ad.add (j * 4)).off + 2, none⟩) hadl).trans k2
        have z3 := (hC.cell (p := ⟨(ad.add (j * 4)).block, (ad.add (j * 4)).off + 3, none⟩) hadl).trans k3
        have y0 := (hC.cell hadl2).trans l0
        have y1 := (hC.cell (p := ⟨(ad2.add (j * 4)).block, (ad2.add (j * 4)).off + 1, none⟩) hadl2).trans l1
        have y2 := (hC.cell (p := ⟨(ad2.add (j * 4)).block, (ad2.add (j * 4)).off + 2, none⟩) hadl2).trans l2'
        have y3 := (hC.cell (p := ⟨(ad2.add (j * 4)).block, (ad2.add (j * 4)).off + 3, none⟩) hadl2).trans l3
        exact ob_det (wanted_none rfl) rfl (by kernel_rfl) hC (TSp.of rfl (Grows.refl _)) (by simp [go_sem, e43, Kx.cell, Kx2.cell, z0, z1, z2, z3, y0, y1, y2, y3]; try first | exact ⟨rfl, rfl⟩ | rfl)
      case oD5 =>
        intro ev wo hev hC hs hph
        have e3 := see_env hA231 hs 3 (by kernel_rfl) (by kernel_rfl) rfl
        exact ob_det (wanted_none rfl) rfl (by kernel_rfl) hC (TSp.of rfl (Grows.refl _)) (by simp [go_sem, e3]; try first | exact ⟨rfl, rfl⟩ | rfl)
      case oD6 =>
        intro ev wo hev hC hs hph
        have e45 := see_det hs 45 5 (by kernel_rfl) (by kernel_rfl) rfl
        have Kx := K.below hC K.lt
        have Kx2 := K2.below hC K2.lt
        have z0 := (hC.cell hadl).trans k0
        have z1 := (hC.cell (p := ⟨(ad.add (j * 4)).block, (ad.add (j * 4)).off + 1, none⟩) hadl).trans k1
        have z2 := (hC.cell (p := ⟨(ad.add (j * 4)).block, (ad.add (j * 4)).off + 2, none⟩) hadl).trans k2
        have z3 := (hC.cell (p := ⟨(ad.add (j * 4)).block, (ad.add (j * 4)).off + 3, none⟩) hadl).trans k3
        have y0 := (hC.cell hadl2).trans l0
        have y1 := (hC.cell (p := ⟨(ad2.add (j * 4)).block, (ad2.add (j * 4)).off + 1, none⟩) hadl2).trans l1
        have y2 := (hC.cell (p := ⟨(ad2.add (j * 4)).block, (ad2.add (j * 4)).off + 2, none⟩) hadl2).trans l2'
        have y3 := (hC.cell (p := ⟨(ad2.add (j * 4)).block, (ad2.add (j * 4)).off + 3, none⟩) hadl2).trans l3
        exact ob_det (wanted_none rfl) rfl (by kernel_rfl) hC (TSp.of rfl (Grows.refl _)) (by simp [go_sem, e45, Kx.cell, Kx2.cell, z0, z1, z2, z3, y0, y1, y2, y3]; try first | exact ⟨rfl, rfl⟩ | rfl)
      case oD7 =>
        intro ev wo hev hC hs hph
        have e5 := see_env hA231 hs 5 (by kernel_rfl) (by kernel_rfl) rfl
        exact ob_det (wanted_none rfl) rfl (by kernel_rfl) hC (TSp.of rfl (Grows.refl _)) (by simp [go_sem, e5]; try first | exact ⟨rfl, rfl⟩ | rfl)
      case oD8 =>
        intro ev wo hev hC hs hph
        have e46 := see_det hs 46 6 (by kernel_rfl) (by kernel_rfl) rfl
        have e47 := see_det hs 47 7 (by kernel_rfl) (by kernel_rfl) rfl
        have Kx := K.below hC K.lt
        have Kx2 := K2.below hC K2.lt
        have z0 := (hC.cell hadl).trans k0
        have z1 := (hC.cell (p := ⟨(ad.add (j * 4)).block, (ad.add (j * 4)).off + 1, none⟩) hadl).trans k1
        have z2 := (hC.cell (p := ⟨(ad.add (j * 4)).block, (ad.add (j * 4)).off + 2, none⟩) hadl).trans k2
        have z3 := (hC.cell (p := ⟨(ad.add (j * 4)).block, (ad.add (j * 4)).off + 3, none⟩) hadl).trans k3
        have y0 := (hC.cell hadl2).trans l0
        have y1 := (hC.cell (p := ⟨(ad2.add (j * 4)).block, (ad2.add (j * 4)).off + 1, none⟩) hadl2).trans l1
        have y2 := (hC.cell (p := ⟨(ad2.add (j * 4)).block, (ad2.add (j * 4)).off + 2, none⟩) hadl2).trans l2'
        have y3 := (hC.cell (p := ⟨(ad2.add (j * 4)).block, (ad2.add (j * 4)).off + 3, none⟩) hadl2).trans l3
        exact ob_det (wanted_none rfl) rfl (by kernel_rfl) hC (TSp.of rfl (Grows.refl _)) (by simp [go_sem, e46, e47, jj0, jj1]; try first | exact ⟨rfl, rfl⟩ | rfl)
      case oD9 =>
        intro ev wo hev hC hs hph
        have e48 := see_det hs 48 8 (by kernel_rfl) (by kernel_rfl) rfl
        have Kx := K.below hC K.lt
        have Kx2 := K2.below hC K2.lt
        have z0 := (hC.cell hadl).trans k0
        have z1 := (hC.cell (p := ⟨(ad.add (j * 4)).block, (ad.add (j * 4)).off + 1, none⟩) hadl).trans k1
        have z2 := (hC.cell (p := ⟨(ad.add (j * 4)).block, (ad.add (j * 4)).off + 2, none⟩) hadl).trans k2
        have z3 := (hC.cell (p := ⟨(ad.add (j * 4)).block, (ad.add (j * 4)).off + 3, none⟩) hadl).trans k3
        have y0 := (hC.cell hadl2).trans l0
        have y1 := (hC.cell (p := ⟨(ad2.add (j * 4)).block, (ad2.add (j * 4)).off + 1, none⟩) hadl2).trans l1
        have y2 := (hC.cell (p := ⟨(ad2.add (j * 4)).block, (ad2.add (j * 4)).off + 2, none⟩) hadl2).trans l2'
        have y3 := (hC.cell (p := ⟨(ad2.add (j * 4)).block, (ad2.add (j * 4)).off + 3, none⟩) hadl2).trans l3
        exact ob_det (wanted_none rfl) rfl (by kernel_rfl) hC (TSp.of rfl (Grows.refl _)) (by simp [go_sem, e48, Kx.cell, Kx2.cell, z0, z1, z2, z3, y0, y1, y2, y3]; try first | exact ⟨rfl, rfl⟩ | rfl)
      case oD10 =>
        intro ev wo hev hC hs hph
        have e44 := see_det hs 44 4 (by kernel_rfl) (by kernel_rfl) rfl
        have e49 := see_det hs 49 9 (by kernel_rfl) (by kernel_rfl) rfl
        have Kx := K.below hC K.lt
        have Kx2 := K2.below hC K2.lt
        have z0 := (hC.cell hadl).trans k0
        have z1 := (hC.cell (p := ⟨(ad.add (j * 4)).block, (ad.add (j * 4)).off + 1, none⟩) hadl).trans k1
        have z2 := (hC.cell (p := ⟨(ad.add (j * 4)).block, (ad.add (j * 4)).off + 2, none⟩) hadl).trans k2
        have z3 := (hC.cell (p := ⟨(ad.add (j * 4)).block, (ad.add (j * 4)).off + 3, none⟩) hadl).trans k3
        have y0 := (hC.cell hadl2).trans l0
        have y1 := (hC.cell (p := ⟨(ad2.add (j * 4)).block, (ad2.add (j * 4)).off + 1, none⟩) hadl2).trans l1
        have y2 := (hC.cell (p := ⟨(ad2.add (j * 4)).block, (ad2.add (j * 4)).off + 2, none⟩) hadl2).trans l2'
        have y3 := (hC.cell (p := ⟨(ad2.add (j * 4)).block, (ad2.add (j * 4)).off + 3, none⟩) hadl2).trans l3
        exact ob_yes (wanted_none rfl) (does_enter (by simp [go_sem, e44, e49, hev.func, hev.const]; try first | exact ⟨rfl, rfl⟩ | rfl) (Calls.mono (refSame_any x y _ (((hms.octs x (List.mem_of_getElem? hx)).below hC).more hC.size) (((hms2.octs y (List.mem_of_getElem? hy)).below hC).more hC.size)) (by
          rintro ev2 w3 ⟨rfl, hb3⟩
          exact ⟨_, rfl, hC.trans (hb3.mono hC.size), TSp.of rfl hb3, (by rfl), no_start (by kernel_rfl)⟩)))
      case oD11 =>
        intro ev wo hev hC hs hph
        have e50 := see_det hs 50 10 (by kernel_rfl) (by kernel_rfl) rfl
        exact ob_det (wanted_none rfl) rfl (by kernel_rfl) hC (TSp.of rfl (Grows.refl _)) (by simp [go_sem, e50]; try first | exact ⟨rfl, rfl⟩ | rfl)
      intro sg wf hC hph
      intro a232 hA232
      refine n_then ?_
      have hA233 := hA232.keep [2, 3, 36, 37, 51]
      simp only [argsE, keepE, lookS, Nat.reduceBEq, cond_true, cond_false, Nat.reduceAdd, gv_tt, gv_ff, Bool.true_and, Bool.false_and, Bool.true_or, Bool.false_or] at hA233
      clear hA231 hA232 a230
      refine wp_if hA233 51 _ rfl (fun hq2 => ?yR) (fun hq2 => ?nR)
      case yR =>
        have hq2 : sameV x y = false := by simpa using hq2
        rw [hq2, Bool.false_and] at hall
        refine wp_seq ?_
        refine wp_region_lit ?_
        refine wl_op hA233 rfl rfl (by decide) (fun ev h => by simp [go_sem, h.c, hwj]; try first | exact ⟨rfl, rfl⟩ | rfl) fun a234 hA234 => ?_
        refine wl_nil ?_
        refine n_then ?_
        have hA235 := hA234.keep [4]
        simp only [argsE, keepE, lookS, Nat.reduceBEq, cond_true, cond_false, Nat.reduceAdd, gv_tt, gv_ff, Bool.true_and, Bool.false_and, Bool.true_or, Bool.false_or] at hA235
        clear hA233 hA234
        refine wp_ret ?_
        refine r_block ?_
        refine r_then ?_
        refine r_then ?_
        refine r_block ?_
        refine r_then ?_
        refine ret_1 hA235 4 rfl rfl ?_
        exact ⟨ret_bool hall.symm, hb0.trans ((hb2.trans (hC.mono hb2.size)).mono hb0.size)⟩
      case nR =>
        have hq2 : sameV x y = true := by simpa using hq2
        rw [hq2, Bool.true_and] at hall
        refine wp_skip ?_
        refine n_block ?_
        refine n_then ?_
        refine wp_region_lit ?_
        refine wl_op hA233 rfl rfl (by decide) (fun ev h => by simp [go_sem, h.c, h.get 37 rfl, hwj]; try first | exact ⟨rfl, rfl⟩ | rfl) fun a236 hA236 => ?_
        refine wl_op hA236 rfl rfl (by decide) (fun ev h => by simp [go_sem, h.get 52 rfl, hwj]; try first | exact ⟨rfl, rfl⟩ | rfl) fun a237 hA237 => ?_
        refine wl_nil ?_
        refine n_then ?_
        have hA238 := hA237.keep [2, 3, 36, 37]
        simp only [argsE, keepE, lookS, Nat.reduceBEq, cond_true, cond_false, Nat.reduceAdd, gv_tt, gv_ff, Bool.true_and, Bool.false_and, Bool.true_or, Bool.false_or] at hA238
        clear hA233 hA236 hA237 a236
        -- round
        rw [show ((j : Int) + 1) = ((j + 1 : Nat) : Int) by omega] at hA238
        exact ⟨k - 1, by omega, j + 1, by omega, hA238, hall, hC⟩
    case nL =>
      have hjn : j = n := by simp at hq; omega
      subst hjn
      rw [List.drop_of_length_le (by omega), List.drop_of_length_le (by omega)] at hall
      refine wp_exit ?_
      refine x_then ?_
      refine x_then ?_
      refine x_block ?_
      refine n_then ?_
      have hA239 := hA228.keep []
      simp only [argsE, keepE, lookS, Nat.reduceBEq, cond_true, cond_false, Nat.reduceAdd, gv_tt, gv_ff, Bool.true_and, Bool.false_and, Bool.true_or, Bool.false_or] at hA239
      clear hA228
      refine wp_seq ?_
      refine wp_region_lit ?_
      refine wl_op hA239 rfl rfl (by decide) (fun ev h => by simp [go_sem, h.c]; try first | exact ⟨rfl, rfl⟩ | rfl) fun a240 hA240 => ?_
      refine wl_nil ?_
      refine n_then ?_
      have hA241 := hA240.keep [4]
      simp only [argsE, keepE, lookS, Nat.reduceBEq, cond_true, cond_false, Nat.reduceAdd, gv_tt, gv_ff, Bool.true_and, Bool.false_and, Bool.true_or, Bool.false_or] at hA241
      clear hA239 hA240
      refine wp_ret ?_
      refine ret_1 hA241 4 rfl rfl ?_
      exact ⟨by rw [hall]; rfl, hb0.trans ((hb2.trans (HB.mono hb2.size)).mono hb0.size)⟩
end Go.Proofs.YtbbhblnhbgkcaaaDoor
