/-
  Walks: is a number among some?
-/
import Derived.Test.YtbbhblnhbgkcaaaDoorMailAt
import Derived.Test.YtbbhblnhbgkcaaaDoorMsgArgs
namespace Go.Proofs.YtbbhblnhbgkcaaaDoor
open Go.RowKit
set_option linter.unusedSimpArgs false
set_option linter.unusedVariables false
def inU (l : List Nat) (u : Nat) : Bool := l.any (· == u)
def idxU (u : Nat) : List Nat → Nat → Int
  | [], _ => -1
  | x :: r, j => bif u == x then (j : Int) else idxU u r (j + 1)
theorem idxU_in (u : Nat) : ∀ (l : List Nat) (j : Nat), decide (0 ≤ idxU u l j) = inU l u
  | [], _ => rfl
  | x :: r, j => by
    have ih := idxU_in u r (j + 1)
    show decide (0 ≤ (bif u == x then (j : Int) else idxU u r (j + 1))) = ((x == u) || inU r u)
    cases h : u == x with
    | true =>
      have h2 : (x == u) = true := by rw [beq_iff_eq] at h ⊢; exact h.symm
      rw [h2]; simp
    | false =>
      have h2 : (x == u) = false := by
        rw [beq_eq_false_iff_ne] at h ⊢
        exact fun e => h e.symm
      rw [h2, cond_false, Bool.false_or]
      exact ih
theorem idxU_at {l : List Nat} {j x : Nat} (u : Nat) (hx : l[j]? = some x) : idxU u (l.drop j) j = bif u == x then (j : Int) else idxU u (l.drop (j + 1)) (j + 1) := by
  rw [List.drop_eq_getElem_cons (List.getElem?_eq_some_iff.1 hx).1, (List.getElem?_eq_some_iff.1 hx).2]
  rfl
theorem inU_at {l : List Nat} {j x : Nat} (u : Nat) (hx : l[j]? = some x) : inU (l.drop j) u = (x == u || inU (l.drop (j + 1)) u) := by
  rw [List.drop_eq_getElem_cons (List.getElem?_eq_some_iff.1 hx).1, (List.getElem?_eq_some_iff.1 hx).2]
  rfl
theorem u32s_at {w : World} {B n j x : Nat} {A : Option Addr} {l : List Nat} (h : Reads w B 1 A n (u32s l)) (hl : l.length = n) (hx : l[j]? = some x) : ∃ ad, A = some ad ∧ ad.block < B ∧ w.cell? (ad.add j) = some (.int .u32 (x : Nat)) := by
  have hj := (List.getElem?_eq_some_iff.1 hx).1
  obtain ⟨ad, e, hb, hc⟩ := h.2 (by omega)
  exact ⟨ad, e, hb, hc j _ (by unfold u32s; rw [List.getElem?_map, hx]; rfl)⟩
set_option maxRecDepth 100000 in
theorem index_any (A : Option Addr) (c n u : Nat) (l : List Nat) (w : World) (hn : n ≤ 140737488355328) (hl : l.length = n) (hr : Reads w w.heap.size 1 A n (u32s l)) :
    Calls Tryd.prog 51 #[.slice A n c, .int .u32 (u : Nat)] w fun ev w' => ev = .returned (.int .i64 (idxU u l 0)) ∧ Below w.heap.size w w' := by
  refine calls_at 19 Tryd.func51 rfl rfl (Nat.le_of_ble_eq_true rfl) ?_
  intro a hA
  simp only [argsE, keepE, lookS, Nat.reduceBEq, cond_true, cond_false, Nat.reduceAdd, gv_tt, gv_ff, Bool.true_and, Bool.false_and, Bool.true_or, Bool.false_or] at hA
  refine wp_seq ?_
  refine wp_region_lit ?_
  refine wl_op hA rfl rfl (by decide) (fun ev h => by simp [go_sem, h.c]; try first | exact ⟨rfl, rfl⟩ | rfl) fun a1 hA1 => ?_
  refine wl_nil ?_
  refine n_then ?_
  have hA2 := hA1.keep [0, 1]
  simp only [argsE, keepE, lookS, Nat.reduceBEq, cond_true, cond_false, Nat.reduceAdd, gv_tt, gv_ff, Bool.true_and, Bool.false_and, Bool.true_or, Bool.false_or] at hA2
  clear hA hA1
  refine wp_seq ?_
  refine wp_seq ?_
  refine wp_region_lit ?_
  refine wl_op hA2 rfl rfl (by decide) (fun ev h => by simp [go_sem, h.get 0 rfl]; try first | exact ⟨rfl, rfl⟩ | rfl) fun a3 hA3 => ?_
  refine wl_op hA3 rfl rfl (by decide) (fun ev h => by simp [go_sem, h.get 6 rfl]; try first | exact ⟨rfl, rfl⟩ | rfl) fun a4 hA4 => ?_
  refine wl_op hA4 rfl rfl (by decide) (fun ev h => by simp [go_sem, h.c]; try first | exact ⟨rfl, rfl⟩ | rfl) fun a5 hA5 => ?_
  refine wl_nil ?_
  refine n_then ?_
  have hA6 := hA5.keep [0, 1, 7, 8]
  simp only [argsE, keepE, lookS, Nat.reduceBEq, cond_true, cond_false, Nat.reduceAdd, gv_tt, gv_ff, Bool.true_and, Bool.false_and, Bool.true_or, Bool.false_or] at hA6
  clear hA2 hA3 hA4 hA5 a1 a3 a4
  refine wp_block ?_
  -- loop
  refine wp_loop_at (fun k a wx => ∃ (j : Nat), j + k = n ∧ At 19 [(0, .slice A n c), (1, .int .u32 (u : Nat)), (7, .int .i64 (n : Nat)), (8, .int .i64 (j : Nat))] a ∧ idxU u l 0 = idxU u (l.drop j) j ∧ wx = w) (n) ?_ ?_
  · exact ⟨0, by omega, hA6, rfl, rfl⟩
  rintro k a wx ⟨j, hjk, hA, hall, rfl⟩
  refine wp_seq ?_
  refine wp_region_lit ?_
  refine wl_op hA rfl rfl (by decide) (fun ev h => by simp [go_sem, h.get 8 rfl, h.get 7 rfl]; try first | exact ⟨rfl, rfl⟩ | rfl) fun a7 hA7 => ?_
  refine wl_nil ?_
  refine n_then ?_
  have hA8 := hA7.keep [0, 1, 7, 8, 9]
  simp only [argsE, keepE, lookS, Nat.reduceBEq, cond_true, cond_false, Nat.reduceAdd, gv_tt, gv_ff, Bool.true_and, Bool.false_and, Bool.true_or, Bool.false_or] at hA8
  clear hA hA7
  refine wp_seq ?_
  -- cond
  refine wp_if hA8 9 _ rfl (fun hq => ?yL) (fun hq => ?nL)
  case yL =>
    have hlt : j < n := by simp at hq; omega
    obtain ⟨x, hx⟩ : ∃ x, l[j]? = some x := ⟨_, List.getElem?_eq_getElem (by omega)⟩
    rw [idxU_at u hx] at hall
    obtain ⟨ad, rfl, hadl, k0⟩ := u32s_at hr hl hx
    have jj0 : (0 : Int) ≤ (j : Int) := by omega
    have jj1 : (j : Int) < (n : Int) := by omega
    have hwj : IntKind.i64.wrap ((j : Int) + 1) = (j : Int) + 1 := IntWalk.i64_in _ (by omega)
    refine wp_skip ?_
    refine n_then ?_
    refine wp_seq ?_
    refine wp_block ?_
    refine wp_seq ?_
    refine wp_region_lit ?_
    refine wl_op hA8 rfl rfl (by decide) (fun ev h => by simp [go_sem, h.get 8 rfl, k0, jj0, jj1, hwj]; try first | exact ⟨rfl, rfl⟩ | rfl) fun a9 hA9 => ?_
    refine wl_op hA9 rfl rfl (by decide) (fun ev h => by simp [go_sem, h.get 10 rfl, k0, jj0, jj1, hwj]; try first | exact ⟨rfl, rfl⟩ | rfl) fun a10 hA10 => ?_
    refine wl_nil ?_
    refine n_then ?_
    have hA11 := hA10.keep [0, 1, 5, 7, 8]
    simp only [argsE, keepE, lookS, Nat.reduceBEq, cond_true, cond_false, Nat.reduceAdd, gv_tt, gv_ff, Bool.true_and, Bool.false_and, Bool.true_or, Bool.false_or] at hA11
    clear hA8 hA9 hA10 a9
    refine wp_seq ?_
    refine wp_region_lit ?_
    refine wl_op hA11 rfl rfl (by decide) (fun ev h => by simp [go_sem, h.get 1 rfl, k0, jj0, jj1, hwj]; try first | exact ⟨rfl, rfl⟩ | rfl) fun a12 hA12 => ?_
    refine wl_op hA12 rfl rfl (by decide) (fun ev h => by simp [go_sem, h.get 0 rfl, k0, jj0, jj1, hwj]; try first | exact ⟨rfl, rfl⟩ | rfl) fun a13 hA13 => ?_
    refine wl_op hA13 rfl rfl (by decide) (fun ev h => by simp [go_sem, h.get 5 rfl, k0, jj0, jj1, hwj]; try first | exact ⟨rfl, rfl⟩ | rfl) fun a14 hA14 => ?_
    refine wl_op hA14 rfl rfl (by decide) (fun ev h => by simp [go_sem, h.get 12 rfl, h.get 13 rfl, k0, jj0, jj1, hwj]; try first | exact ⟨rfl, rfl⟩ | rfl) fun a15 hA15 => ?_
    refine wl_op hA15 rfl rfl (by decide) (fun ev h => by simp [go_sem, h.get 14 rfl, k0, jj0, jj1, hwj]; try first | exact ⟨rfl, rfl⟩ | rfl) fun a16 hA16 => ?_
    refine wl_op hA16 rfl rfl (by decide) (fun ev h => by simp [go_sem, h.get 11 rfl, h.get 15 rfl, k0, jj0, jj1, hwj]; try first | exact ⟨rfl, rfl⟩ | rfl) fun a17 hA17 => ?_
    refine wl_nil ?_
    refine n_then ?_
    have hA18 := hA17.keep [0, 1, 5, 7, 8, 16]
    simp only [argsE, keepE, lookS, Nat.reduceBEq, cond_true, cond_false, Nat.reduceAdd, gv_tt, gv_ff, Bool.true_and, Bool.false_and, Bool.true_or, Bool.false_or] at hA18
    clear hA11 hA12 hA13 hA14 hA15 hA16 hA17 a10 a12 a13 a14 a15 a16
    -- cond
    rw [int_beq] at hA18
    refine wp_if hA18 16 _ rfl (fun hq2 => ?yR) (fun hq2 => ?nR)
    case yR =>
      rw [hq2, cond_true] at hall
      refine wp_seq ?_
      refine wp_region_lit ?_
      refine wl_op hA18 rfl rfl (by decide) (fun ev h => by simp [go_sem, h.get 5 rfl, k0, jj0, jj1, hwj]; try first | exact ⟨rfl, rfl⟩ | rfl) fun a19 hA19 => ?_
      refine wl_op hA19 rfl rfl (by decide) (fun ev h => by simp [go_sem, h.get 17 rfl, k0, jj0, jj1, hwj]; try first | exact ⟨rfl, rfl⟩ | rfl) fun a20 hA20 => ?_
      refine wl_nil ?_
      refine n_then ?_
      have hA21 := hA20.keep [4]
      simp only [argsE, keepE, lookS, Nat.reduceBEq, cond_true, cond_false, Nat.reduceAdd, gv_tt, gv_ff, Bool.true_and, Bool.false_and, Bool.true_or, Bool.false_or] at hA21
      clear hA18 hA19 hA20 a19
      refine wp_ret ?_
      refine r_block ?_
      refine r_then ?_
      refine r_then ?_
      refine r_block ?_
      refine r_then ?_
      refine ret_1 hA21 4 rfl rfl ?_
      exact ⟨by rw [hall], Below.refl _ _⟩
    case nR =>
      rw [hq2, cond_false] at hall
      refine wp_skip ?_
      refine n_block ?_
      refine n_then ?_
      refine wp_region_lit ?_
      refine wl_op hA18 rfl rfl (by decide) (fun ev h => by simp [go_sem, h.c, h.get 8 rfl, k0, jj0, jj1, hwj]; try first | exact ⟨rfl, rfl⟩ | rfl) fun a22 hA22 => ?_
      refine wl_op hA22 rfl rfl (by decide) (fun ev h => by simp [go_sem, h.get 18 rfl, k0, jj0, jj1, hwj]; try first | exact ⟨rfl, rfl⟩ | rfl) fun a23 hA23 => ?_
      refine wl_nil ?_
      refine n_then ?_
      have hA24 := hA23.keep [0, 1, 7, 8]
      simp only [argsE, keepE, lookS, Nat.reduceBEq, cond_true, cond_false, Nat.reduceAdd, gv_tt, gv_ff, Bool.true_and, Bool.false_and, Bool.true_or, Bool.false_or] at hA24
      clear hA18 hA22 hA23 a22
      -- round
      rw [show ((j : Int) + 1) = ((j + 1 : Nat) : Int) by omega] at hA24
      exact ⟨k - 1, by omega, j + 1, by omega, hA24, hall, rfl⟩
  case nL =>
    have hjn : j = n := by simp at hq; omega
    subst hjn
    rw [List.drop_of_length_le (by omega)] at hall
    refine wp_exit ?_
    refine x_then ?_
    refine x_then ?_
    refine x_block ?_
    refine n_then ?_
    have hA25 := hA8.keep []
    simp only [argsE, keepE, lookS, Nat.reduceBEq, cond_true, cond_false, Nat.reduceAdd, gv_tt, gv_ff, Bool.true_and, Bool.false_and, Bool.true_or, Bool.false_or] at hA25
    clear hA8
    refine wp_seq ?_
    refine wp_region_lit ?_
    refine wl_op hA25 rfl rfl (by decide) (fun ev h => by simp [go_sem, h.c]; try first | exact ⟨rfl, rfl⟩ | rfl) fun a26 hA26 => ?_
    refine wl_nil ?_
    refine n_then ?_
    have hA27 := hA26.keep [4]
    simp only [argsE, keepE, lookS, Nat.reduceBEq, cond_true, cond_false, Nat.reduceAdd, gv_tt, gv_ff, Bool.true_and, Bool.false_and, Bool.true_or, Bool.false_or] at hA27
    clear hA25 hA26
    refine wp_ret ?_
    refine ret_1 hA27 4 rfl rfl ?_
    exact ⟨by rw [hall]; rfl, Below.refl _ _⟩
theorem contains_u32 (A : Option Addr) (c n u : Nat) (l : List Nat) (w : World) (hn : n ≤ 140737488355328) (hl : l.length = n) (hr : Reads w w.heap.size 1 A n (u32s l)) :
    Calls Tryd.prog 38 #[.slice A n c, .int .u32 (u : Nat)] w fun ev w' => ev = .returned (.bool (inU l u)) ∧ Below w.heap.size w w' := by
  refine calls_at 9 Tryd.func38 rfl rfl (Nat.le_of_ble_eq_true rfl) ?_
  intro a hA
  simp only [argsE, keepE, lookS, Nat.reduceBEq, cond_true, cond_false, Nat.reduceAdd, gv_tt, gv_ff, Bool.true_and, Bool.false_and, Bool.true_or, Bool.false_or] at hA
  refine wp_seq ?_
  refine wp_region_lit ?_
  refine wl_op hA rfl rfl (by decide) (fun ev h => by simp [go_sem, h.c]; try first | exact ⟨rfl, rfl⟩ | rfl) fun a28 hA28 => ?_
  refine wl_nil ?_
  refine n_then ?_
  have hA29 := hA28.keep [0, 1]
  simp only [argsE, keepE, lookS, Nat.reduceBEq, cond_true, cond_false, Nat.reduceAdd, gv_tt, gv_ff, Bool.true_and, Bool.false_and, Bool.true_or, Bool.false_or] at hA29
  clear hA hA28
  refine wp_seq ?_
  refine wp_region_lit ?_
  refine wl_op hA29 rfl rfl (by decide) (fun ev h => by simp [go_sem, h.get 0 rfl]; try first | exact ⟨rfl, rfl⟩ | rfl) fun a30 hA30 => ?_
  refine wl_op hA30 rfl rfl (by decide) (fun ev h => by simp [go_sem, h.get 1 rfl]; try first | exact ⟨rfl, rfl⟩ | rfl) fun a31 hA31 => ?_
  -- stop call slot 7
  refine wl_call hA31 rfl rfl (by decide) (fun ev h => by simp [go_sem, h.get 5 rfl, h.get 6 rfl, h.f]; try first | exact ⟨rfl, rfl⟩ | rfl) (index_any A c n u l _ hn hl hr) ?_
  rintro e w1 ⟨rfl, hb1⟩
  refine ⟨_, rfl, fun a32 hA32 => ?_⟩
  refine wl_op hA32 rfl rfl (by decide) (fun ev h => by simp [go_sem, h.c, h.get 7 rfl]; try first | exact ⟨rfl, rfl⟩ | rfl) fun a33 hA33 => ?_
  refine wl_op hA33 rfl rfl (by decide) (fun ev h => by simp [go_sem, h.get 8 rfl]; try first | exact ⟨rfl, rfl⟩ | rfl) fun a34 hA34 => ?_
  refine wl_nil ?_
  refine n_then ?_
  have hA35 := hA34.keep [4]
  simp only [argsE, keepE, lookS, Nat.reduceBEq, cond_true, cond_false, Nat.reduceAdd, gv_tt, gv_ff, Bool.true_and, Bool.false_and, Bool.true_or, Bool.false_or] at hA35
  clear hA29 hA30 hA31 hA32 hA33 hA34 a28 a30 a31 a32 a33
  refine wp_ret ?_
  -- ret
  refine ret_1 hA35 4 rfl rfl ?_
  exact ⟨ret_bool (idxU_in u l 0), hb1⟩
set_option maxRecDepth 100000 in
theorem refIn_any (A : Option Addr) (c n u : Nat) (l : List Nat) (w : World) (hn : n ≤ 140737488355328) (hl : l.length = n) (hr : Reads w w.heap.size 1 A n (u32s l)) :
    Calls Tryd.prog 40 #[.slice A n c, .int .u32 (u : Nat)] w fun ev w' => ev = .returned (.bool (inU l u)) ∧ Below w.heap.size w w' := by
  refine calls_at 18 Tryd.func40 rfl rfl (Nat.le_of_ble_eq_true rfl) ?_
  intro a hA
  simp only [argsE, keepE, lookS, Nat.reduceBEq, cond_true, cond_false, Nat.reduceAdd, gv_tt, gv_ff, Bool.true_and, Bool.false_and, Bool.true_or, Bool.false_or] at hA
  refine wp_seq ?_
  refine wp_region_lit ?_
  refine wl_op hA rfl rfl (by decide) (fun ev h => by simp [go_sem, h.c]; try first | exact ⟨rfl, rfl⟩ | rfl) fun a36 hA36 => ?_
  refine wl_nil ?_
  refine n_then ?_
  have hA37 := hA36.keep [0, 1]
  simp only [argsE, keepE, lookS, Nat.reduceBEq, cond_true, cond_false, Nat.reduceAdd, gv_tt, gv_ff, Bool.true_and, Bool.false_and, Bool.true_or, Bool.false_or] at hA37
  clear hA hA36
  refine wp_seq ?_
  refine wp_seq ?_
  refine wp_region_lit ?_
  refine wl_op hA37 rfl rfl (by decide) (fun ev h => by simp [go_sem, h.get 0 rfl]; try first | exact ⟨rfl, rfl⟩ | rfl) fun a38 hA38 => ?_
  refine wl_op hA38 rfl rfl (by decide) (fun ev h => by simp [go_sem, h.get 6 rfl]; try first | exact ⟨rfl, rfl⟩ | rfl) fun a39 hA39 => ?_
  refine wl_op hA39 rfl rfl (by decide) (fun ev h => by simp [go_sem, h.c]; try first | exact ⟨rfl, rfl⟩ | rfl) fun a40 hA40 => ?_
  refine wl_nil ?_
  refine n_then ?_
  have hA41 := hA40.keep [0, 1, 7, 8]
  simp only [argsE, keepE, lookS, Nat.reduceBEq, cond_true, cond_false, Nat.reduceAdd, gv_tt, gv_ff, Bool.true_and, Bool.false_and, Bool.true_or, Bool.false_or] at hA41
  clear hA37 hA38 hA39 hA40 a36 a38 a39
  refine wp_block ?_
  -- loop
  refine wp_loop_at (fun k a wx => ∃ (j : Nat), j + k = n ∧ At 18 [(0, .slice A n c), (1, .int .u32 (u : Nat)), (7, .int .i64 (n : Nat)), (8, .int .i64 (j : Nat))] a ∧ inU l u = inU (l.drop j) u ∧ wx = w) (n) ?_ ?_
  · exact ⟨0, by omega, hA41, rfl, rfl⟩
  rintro k a wx ⟨j, hjk, hA, hall, rfl⟩
  refine wp_seq ?_
  refine wp_region_lit ?_
  refine wl_op hA rfl rfl (by decide) (fun ev h => by simp [go_sem, h.get 8 rfl, h.get 7 rfl]; try first | exact ⟨rfl, rfl⟩ | rfl) fun a42 hA42 => ?_
  refine wl_nil ?_
  refine n_then ?_
  have hA43 := hA42.keep [0, 1, 7, 8, 9]
  simp only [argsE, keepE, lookS, Nat.reduceBEq, cond_true, cond_false, Nat.reduceAdd, gv_tt, gv_ff, Bool.true_and, Bool.false_and, Bool.true_or, Bool.false_or] at hA43
  clear hA hA42
  refine wp_seq ?_
  -- cond
  refine wp_if hA43 9 _ rfl (fun hq => ?yL) (fun hq => ?nL)
  case yL =>
    have hlt : j < n := by simp at hq; omega
    obtain ⟨x, hx⟩ : ∃ x, l[j]? = some x := ⟨_, List.getElem?_eq_getElem (by omega)⟩
    rw [inU_at u hx] at hall
    obtain ⟨ad, rfl, hadl, k0⟩ := u32s_at hr hl hx
    have jj0 : (0 : Int) ≤ (j : Int) := by omega
    have jj1 : (j : Int) < (n : Int) := by omega
    have hwj : IntKind.i64.wrap ((j : Int) + 1) = (j : Int) + 1 := IntWalk.i64_in _ (by omega)
    refine wp_skip ?_
    refine n_then ?_
    refine wp_seq ?_
    refine wp_block ?_
    refine wp_seq ?_
    refine wp_region_lit ?_
    refine wl_op hA43 rfl rfl (by decide) (fun ev h => by simp [go_sem, h.get 8 rfl, k0, jj0, jj1, hwj]; try first | exact ⟨rfl, rfl⟩ | rfl) fun a44 hA44 => ?_
    refine wl_op hA44 rfl rfl (by decide) (fun ev h => by simp [go_sem, h.get 10 rfl, k0, jj0, jj1, hwj]; try first | exact ⟨rfl, rfl⟩ | rfl) fun a45 hA45 => ?_
    refine wl_nil ?_
    refine n_then ?_
    have hA46 := hA45.keep [0, 1, 5, 7, 8]
    simp only [argsE, keepE, lookS, Nat.reduceBEq, cond_true, cond_false, Nat.reduceAdd, gv_tt, gv_ff, Bool.true_and, Bool.false_and, Bool.true_or, Bool.false_or] at hA46
    clear hA43 hA44 hA45 a44
    refine wp_seq ?_
    refine wp_region_lit ?_
    refine wl_op hA46 rfl rfl (by decide) (fun ev h => by simp [go_sem, h.get 0 rfl, k0, jj0, jj1, hwj]; try first | exact ⟨rfl, rfl⟩ | rfl) fun a47 hA47 => ?_
    refine wl_op hA47 rfl rfl (by decide) (fun ev h => by simp [go_sem, h.get 5 rfl, k0, jj0, jj1, hwj]; try first | exact ⟨rfl, rfl⟩ | rfl) fun a48 hA48 => ?_
    refine wl_op hA48 rfl rfl (by decide) (fun ev h => by simp [go_sem, h.get 11 rfl, h.get 12 rfl, k0, jj0, jj1, hwj]; try first | exact ⟨rfl, rfl⟩ | rfl) fun a49 hA49 => ?_
    refine wl_op hA49 rfl rfl (by decide) (fun ev h => by simp [go_sem, h.get 13 rfl, k0, jj0, jj1, hwj]; try first | exact ⟨rfl, rfl⟩ | rfl) fun a50 hA50 => ?_
    refine wl_op hA50 rfl rfl (by decide) (fun ev h => by simp [go_sem, h.get 1 rfl, k0, jj0, jj1, hwj]; try first | exact ⟨rfl, rfl⟩ | rfl) fun a51 hA51 => ?_
    refine wl_op hA51 rfl rfl (by decide) (fun ev h => by simp [go_sem, h.get 14 rfl, h.get 15 rfl, k0, jj0, jj1, hwj]; try first | exact ⟨rfl, rfl⟩ | rfl) fun a52 hA52 => ?_
    refine wl_nil ?_
    refine n_then ?_
    have hA53 := hA52.keep [0, 1, 7, 8, 16]
    simp only [argsE, keepE, lookS, Nat.reduceBEq, cond_true, cond_false, Nat.reduceAdd, gv_tt, gv_ff, Bool.true_and, Bool.false_and, Bool.true_or, Bool.false_or] at hA53
    clear hA46 hA47 hA48 hA49 hA50 hA51 hA52 a45 a47 a48 a49 a50 a51
    -- cond
    rw [int_beq] at hA53
    refine wp_if hA53 16 _ rfl (fun hq2 => ?yR) (fun hq2 => ?nR)
    case yR =>
      rw [hq2, Bool.true_or] at hall
      refine wp_seq ?_
      refine wp_region_lit ?_
      refine wl_op hA53 rfl rfl (by decide) (fun ev h => by simp [go_sem, h.c, k0, jj0, jj1, hwj]; try first | exact ⟨rfl, rfl⟩ | rfl) fun a54 hA54 => ?_
      refine wl_nil ?_
      refine n_then ?_
      have hA55 := hA54.keep [4]
      simp only [argsE, keepE, lookS, Nat.reduceBEq, cond_true, cond_false, Nat.reduceAdd, gv_tt, gv_ff, Bool.true_and, Bool.false_and, Bool.true_or, Bool.false_or] at hA55
      clear hA53 hA54
      refine wp_ret ?_
      refine r_block ?_
      refine r_then ?_
      refine r_then ?_
      refine r_block ?_
      refine r_then ?_
      refine ret_1 hA55 4 rfl rfl ?_
      exact ⟨by rw [hall], Below.refl _ _⟩
    case nR =>
      rw [hq2, Bool.false_or] at hall
      refine wp_skip ?_
      refine n_block ?_
      refine n_then ?_
      refine wp_region_lit ?_
      refine wl_op hA53 rfl rfl (by decide) (fun ev h => by simp [go_sem, h.c, h.get 8 rfl, k0, jj0, jj1, hwj]; try first | exact ⟨rfl, rfl⟩ | rfl) fun a56 hA56 => ?_
      refine wl_op hA56 rfl rfl (by decide) (fun ev h => by simp [go_sem, h.get 17 rfl, k0, jj0, jj1, hwj]; try first | exact ⟨rfl, rfl⟩ | rfl) fun a57 hA57 => ?_
      refine wl_nil ?_
      refine n_then ?_
      have hA58 := hA57.keep [0, 1, 7, 8]
      simp only [argsE, keepE, lookS, Nat.reduceBEq, cond_true, cond_false, Nat.reduceAdd, gv_tt, gv_ff, Bool.true_and, Bool.false_and, Bool.true_or, Bool.false_or] at hA58
      clear hA53 hA56 hA57 a56
      -- round
      rw [show ((j : Int) + 1) = ((j + 1 : Nat) : Int) by omega] at hA58
      exact ⟨k - 1, by omega, j + 1, by omega, hA58, hall, rfl⟩
  case nL =>
    have hjn : j = n := by simp at hq; omega
    subst hjn
    rw [List.drop_of_length_le (by omega)] at hall
    refine wp_exit ?_
    refine x_then ?_
    refine x_then ?_
    refine x_block ?_
    refine n_then ?_
    have hA59 := hA43.keep []
    simp only [argsE, keepE, lookS, Nat.reduceBEq, cond_true, cond_false, Nat.reduceAdd, gv_tt, gv_ff, Bool.true_and, Bool.false_and, Bool.true_or, Bool.false_or] at hA59
    clear hA43
    refine wp_seq ?_
    refine wp_region_lit ?_
    refine wl_op hA59 rfl rfl (by decide) (fun ev h => by simp [go_sem, h.c]; try first | exact ⟨rfl, rfl⟩ | rfl) fun a60 hA60 => ?_
    refine wl_nil ?_
    refine n_then ?_
    have hA61 := hA60.keep [4]
    simp only [argsE, keepE, lookS, Nat.reduceBEq, cond_true, cond_false, Nat.reduceAdd, gv_tt, gv_ff, Bool.true_and, Bool.false_and, Bool.true_or, Bool.false_or] at hA61
    clear hA59 hA60
    refine wp_ret ?_
    refine ret_1 hA61 4 rfl rfl ?_
    exact ⟨by rw [hall]; rfl, Below.refl _ _⟩
end Go.Proofs.YtbbhblnhbgkcaaaDoor
