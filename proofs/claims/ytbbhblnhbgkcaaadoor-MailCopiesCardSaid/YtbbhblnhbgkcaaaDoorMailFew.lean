/-
  Walks: mailboxes of a size that is looked at; a mailbox without messages.
-/
import Derived.Test.YtbbhblnhbgkcaaaDoorMailRight
namespace Go.Proofs.YtbbhblnhbgkcaaaDoor
open Go.RowKit
set_option linter.unusedSimpArgs false
set_option linter.unusedVariables false
def wt (l : List MsgV) : Nat := (l.map fun m => 1 + m.b.length).sum
theorem wt_take {l : List MsgV} {j : Nat} {x : MsgV} (hx : l[j]? = some x) : wt (l.take (j + 1)) = wt (l.take j) + (1 + x.b.length) := by
  unfold wt
  rw [List.take_add_one, hx]
  simp
theorem wt_le (l : List MsgV) (j : Nat) : wt (l.take j) ≤ wt l := by
  unfold wt
  conv => rhs; rw [← List.take_append_drop j l]
  rw [List.map_append, List.sum_append]
  omega
theorem wt_mem {l : List MsgV} {m : MsgV} (h : m ∈ l) : m.b.length < wt l := by
  unfold wt
  induction l with
  | nil => cases h
  | cons x r ih =>
    rw [List.map_cons, List.sum_cons]
    rcases List.mem_cons.1 h with e | e
    · subst e; omega
    · have := ih e; omega
theorem wt_len (l : List MsgV) : l.length ≤ wt l := by
  unfold wt
  induction l with
  | nil => simp
  | cons x r ih => simp at ih ⊢; omega
def fewL (nm : ByteArray) (l : List MsgV) : Bool := decide (nm.size + wt l ≤ 60000)
set_option maxRecDepth 100000 in
set_option maxHeartbeats 1000000 in
theorem few10_any (nm : ByteArray) (A : Option Addr) (c n e nx : Nat) (l : List MsgV) (w : World) (hs : nm.size ≤ 140737488355328) (hn : n ≤ 140737488355328) (hz : ∀ m ∈ l, m.b.length ≤ 140737488355328) (hms : Msgs w A n l) :
    Calls Tryd.prog 25 #[.agg (boxC nm e nx A n c)] w fun ev w' => ev = .returned (.bool (fewL nm l)) ∧ Below w.heap.size w w' := by
  have hl := hms.len
  refine calls_at 29 Tryd.func25 rfl rfl (Nat.le_of_ble_eq_true rfl) ?_
  intro a hA
  simp only [argsE, keepE, lookS, Nat.reduceBEq, cond_true, cond_false, Nat.reduceAdd, gv_tt, gv_ff, Bool.true_and, Bool.false_and, Bool.true_or, Bool.false_or] at hA
  refine wp_seq ?_
  refine wp_region_lit ?_
  -- stop box slot 1
  refine wl_new hA rfl rfl (by decide) (fun ev h => by simp [go_sem, h.get 0 rfl]; try first | exact ⟨rfl, rfl⟩ | rfl) fun w1 a1 (K : Blk _ _ _ _) hz0 hb0 hA1 => ?_
  replace hms := hms.below hb0
  unfold boxC at K
  refine wl_op hA1 rfl rfl (by decide) (fun ev h => by simp [go_sem, h.c, K.cell]; try first | exact ⟨rfl, rfl⟩ | rfl) fun a2 hA2 => ?_
  refine wl_nil ?_
  refine n_then ?_
  have hA3 := hA2.keep [1]
  simp only [argsE, keepE, lookS, Nat.reduceBEq, cond_true, cond_false, Nat.reduceAdd, gv_tt, gv_ff, Bool.true_and, Bool.false_and, Bool.true_or, Bool.false_or] at hA3
  clear hA hA1 hA2 a1
  refine wp_seq ?_
  refine wp_region_lit ?_
  refine wl_op hA3 rfl rfl (by decide) (fun ev h => by simp [go_sem, h.get 1 rfl, K.cell]; try first | exact ⟨rfl, rfl⟩ | rfl) fun a4 hA4 => ?_
  refine wl_op hA4 rfl rfl (by decide) (fun ev h => by simp [go_sem, h.get 5 rfl, K.cell]; try first | exact ⟨rfl, rfl⟩ | rfl) fun a5 hA5 => ?_
  refine wl_op hA5 rfl rfl (by decide) (fun ev h => by simp [go_sem, h.get 6 rfl, K.cell]; try first | exact ⟨rfl, rfl⟩ | rfl) fun a6 hA6 => ?_
  refine wl_op hA6 rfl rfl (by decide) (fun ev h => by simp [go_sem, h.get 7 rfl, K.cell]; try first | exact ⟨rfl, rfl⟩ | rfl) fun a7 hA7 => ?_
  refine wl_nil ?_
  refine n_then ?_
  have hA8 := hA7.keep [1, 3]
  simp only [argsE, keepE, lookS, Nat.reduceBEq, cond_true, cond_false, Nat.reduceAdd, gv_tt, gv_ff, Bool.true_and, Bool.false_and, Bool.true_or, Bool.false_or] at hA8
  clear hA3 hA4 hA5 hA6 hA7 a2 a4 a5 a6
  refine wp_seq ?_
  refine wp_seq ?_
  refine wp_region_lit ?_
  refine wl_op hA8 rfl rfl (by decide) (fun ev h => by simp [go_sem, h.get 1 rfl, K.cell]; try first | exact ⟨rfl, rfl⟩ | rfl) fun a9 hA9 => ?_
  refine wl_op hA9 rfl rfl (by decide) (fun ev h => by simp [go_sem, h.get 8 rfl, K.cell]; try first | exact ⟨rfl, rfl⟩ | rfl) fun a10 hA10 => ?_
  refine wl_op hA10 rfl rfl (by decide) (fun ev h => by simp [go_sem, h.get 9 rfl, K.cell]; try first | exact ⟨rfl, rfl⟩ | rfl) fun a11 hA11 => ?_
  refine wl_op hA11 rfl rfl (by decide) (fun ev h => by simp [go_sem, h.c, K.cell]; try first | exact ⟨rfl, rfl⟩ | rfl) fun a12 hA12 => ?_
  refine wl_nil ?_
  refine n_then ?_
  have hA13 := hA12.keep [1, 3, 10, 11]
  simp only [argsE, keepE, lookS, Nat.reduceBEq, cond_true, cond_false, Nat.reduceAdd, gv_tt, gv_ff, Bool.true_and, Bool.false_and, Bool.true_or, Bool.false_or] at hA13
  clear hA8 hA9 hA10 hA11 hA12 a7 a9 a10 a11
  refine wp_block ?_
  -- loop
  refine wp_loop_at (fun k a wx => ∃ (j S : Nat), j + k = n ∧ At 29 [(1, .pointer (some ⟨w.heap.size, 0, none⟩)), (3, .int .i64 (S : Int)), (10, .int .i64 (n : Nat)), (11, .int .i64 (j : Nat))] a ∧ S = nm.size + wt (l.take j) ∧ S ≤ 140737488355328 ∧ (j = 0 ∨ S ≤ 60000) ∧ wx = w1) (n) ?_ ?_
  · exact ⟨0, nm.size, by omega, hA13, by simp [wt], hs, .inl rfl, rfl⟩
  rintro k a wx ⟨j, S, hjk, hA, hS, hS1, hS2, rfl⟩
  refine wp_seq ?_
  refine wp_region_lit ?_
  refine wl_op hA rfl rfl (by decide) (fun ev h => by simp [go_sem, h.get 11 rfl, h.get 10 rfl]; try first | exact ⟨rfl, rfl⟩ | rfl) fun a14 hA14 => ?_
  refine wl_nil ?_
  refine n_then ?_
  have hA15 := hA14.keep [1, 3, 10, 11, 12]
  simp only [argsE, keepE, lookS, Nat.reduceBEq, cond_true, cond_false, Nat.reduceAdd, gv_tt, gv_ff, Bool.true_and, Bool.false_and, Bool.true_or, Bool.false_or] at hA15
  clear hA hA14
  refine wp_seq ?_
  -- cond
  refine wp_if hA15 12 _ rfl (fun hq => ?yL) (fun hq => ?nL)
  case yL =>
    have hlt : j < n := by simp at hq; omega
    obtain ⟨x, hx⟩ : ∃ x, l[j]? = some x := ⟨_, List.getElem?_eq_getElem (by omega)⟩
    obtain ⟨ad, rfl, hadl, k0, k1, k2, k3⟩ := hms.at_ hx
    have jj0 : (0 : Int) ≤ (j : Int) := by omega
    have jj1 : (j : Int) < (n : Int) := by omega
    have hxz := hz x (List.mem_of_getElem? hx)
    have hwj : IntKind.i64.wrap ((j : Int) + 1) = (j : Int) + 1 := IntWalk.i64_in _ (by omega)
    have hw1 : IntKind.i64.wrap ((S : Int) + 1) = (S : Int) + 1 := IntWalk.i64_in _ (by omega)
    have hw2 : IntKind.i64.wrap ((S : Int) + 1 + (x.b.length : Int)) = (S : Int) + 1 + (x.b.length : Int) := IntWalk.i64_in _ (by omega)
    have hle := wt_le l (j + 1)
    rw [wt_take hx] at hle
    refine wp_skip ?_
    refine n_then ?_
    refine wp_seq ?_
    refine wp_block ?_
    refine wp_seq ?_
    refine wp_region_lit ?_
    refine wl_op hA15 rfl rfl (by decide) (fun ev h => by simp [go_sem, h.get 11 rfl, K.cell, k3, jj0, jj1, hw1, hw2, hwj]; try first | exact ⟨rfl, rfl⟩ | rfl) fun a16 hA16 => ?_
    refine wl_op hA16 rfl rfl (by decide) (fun ev h => by simp [go_sem, h.get 13 rfl, K.cell, k3, jj0, jj1, hw1, hw2, hwj]; try first | exact ⟨rfl, rfl⟩ | rfl) fun a17 hA17 => ?_
    refine wl_nil ?_
    refine n_then ?_
    have hA18 := hA17.keep [1, 3, 4, 10, 11]
    simp only [argsE, keepE, lookS, Nat.reduceBEq, cond_true, cond_false, Nat.reduceAdd, gv_tt, gv_ff, Bool.true_and, Bool.false_and, Bool.true_or, Bool.false_or] at hA18
    clear hA15 hA16 hA17 a16
    refine wp_seq ?_
    refine wp_region_lit ?_
    refine wl_op hA18 rfl rfl (by decide) (fun ev h => by simp [go_sem, h.get 3 rfl, K.cell, k3, jj0, jj1, hw1, hw2, hwj]; try first | exact ⟨rfl, rfl⟩ | rfl) fun a19 hA19 => ?_
    refine wl_op hA19 rfl rfl (by decide) (fun ev h => by simp [go_sem, h.c, h.get 14 rfl, K.cell, k3, jj0, jj1, hw1, hw2, hwj]; try first | exact ⟨rfl, rfl⟩ | rfl) fun a20 hA20 => ?_
    refine wl_op hA20 rfl rfl (by decide) (fun ev h => by simp [go_sem, h.get 1 rfl, K.cell, k3, jj0, jj1, hw1, hw2, hwj]; try first | exact ⟨rfl, rfl⟩ | rfl) fun a21 hA21 => ?_
    refine wl_op hA21 rfl rfl (by decide) (fun ev h => by simp [go_sem, h.get 16 rfl, K.cell, k3, jj0, jj1, hw1, hw2, hwj]; try first | exact ⟨rfl, rfl⟩ | rfl) fun a22 hA22 => ?_
    refine wl_op hA22 rfl rfl (by decide) (fun ev h => by simp [go_sem, h.get 4 rfl, K.cell, k3, jj0, jj1, hw1, hw2, hwj]; try first | exact ⟨rfl, rfl⟩ | rfl) fun a23 hA23 => ?_
    refine wl_op hA23 rfl rfl (by decide) (fun ev h => by simp [go_sem, h.get 17 rfl, h.get 18 rfl, K.cell, k3, jj0, jj1, hw1, hw2, hwj]; try first | exact ⟨rfl, rfl⟩ | rfl) fun a24 hA24 => ?_
    refine wl_op hA24 rfl rfl (by decide) (fun ev h => by simp [go_sem, h.get 19 rfl, K.cell, k3, jj0, jj1, hw1, hw2, hwj]; try first | exact ⟨rfl, rfl⟩ | rfl) fun a25 hA25 => ?_
    refine wl_op hA25 rfl rfl (by decide) (fun ev h => by simp [go_sem, h.get 20 rfl, K.cell, k3, jj0, jj1, hw1, hw2, hwj]; try first | exact ⟨rfl, rfl⟩ | rfl) fun a26 hA26 => ?_
    refine wl_op hA26 rfl rfl (by decide) (fun ev h => by simp [go_sem, h.get 21 rfl, K.cell, k3, jj0, jj1, hw1, hw2, hwj]; try first | exact ⟨rfl, rfl⟩ | rfl) fun a27 hA27 => ?_
    refine wl_op hA27 rfl rfl (by decide) (fun ev h => by simp [go_sem, h.get 15 rfl, h.get 22 rfl, K.cell, k3, jj0, jj1, hw1, hw2, hwj]; try first | exact ⟨rfl, rfl⟩ | rfl) fun a28 hA28 => ?_
    refine wl_op hA28 rfl rfl (by decide) (fun ev h => by simp [go_sem, h.get 23 rfl, K.cell, k3, jj0, jj1, hw1, hw2, hwj]; try first | exact ⟨rfl, rfl⟩ | rfl) fun a29 hA29 => ?_
    refine wl_nil ?_
    refine n_then ?_
    have hA30 := hA29.keep [1, 3, 10, 11]
    simp only [argsE, keepE, lookS, Nat.reduceBEq, cond_true, cond_false, Nat.reduceAdd, gv_tt, gv_ff, Bool.true_and, Bool.false_and, Bool.true_or, Bool.false_or] at hA30
    clear hA18 hA19 hA20 hA21 hA22 hA23 hA24 hA25 hA26 hA27 hA28 hA29 a17 a19 a20 a21 a22 a23 a24 a25 a26 a27 a28
    refine wp_seq ?_
    refine wp_region_lit ?_
    refine wl_op hA30 rfl rfl (by decide) (fun ev h => by simp [go_sem, h.get 3 rfl, K.cell, k3, jj0, jj1, hw1, hw2, hwj]; try first | exact ⟨rfl, rfl⟩ | rfl) fun a31 hA31 => ?_
    refine wl_op hA31 rfl rfl (by decide) (fun ev h => by simp [go_sem, h.c, h.get 24 rfl, K.cell, k3, jj0, jj1, hw1, hw2, hwj]; try first | exact ⟨rfl, rfl⟩ | rfl) fun a32 hA32 => ?_
    refine wl_nil ?_
    refine n_then ?_
    have hA33 := hA32.keep [1, 3, 10, 11, 25]
    simp only [argsE, keepE, lookS, Nat.reduceBEq, cond_true, cond_false, Nat.reduceAdd, gv_tt, gv_ff, Bool.true_and, Bool.false_and, Bool.true_or, Bool.false_or] at hA33
    clear hA30 hA31 hA32 a29 a31
    -- cond
    refine wp_if hA33 25 _ rfl (fun hq2 => ?yR) (fun hq2 => ?nR)
    case yR =>
      refine wp_seq ?_
      refine wp_region_lit ?_
      refine wl_op hA33 rfl rfl (by decide) (fun ev h => by simp [go_sem, h.c, K.cell, k3, jj0, jj1, hw1, hw2, hwj]; try first | exact ⟨rfl, rfl⟩ | rfl) fun a34 hA34 => ?_
      refine wl_nil ?_
      refine n_then ?_
      have hA35 := hA34.keep [2]
      simp only [argsE, keepE, lookS, Nat.reduceBEq, cond_true, cond_false, Nat.reduceAdd, gv_tt, gv_ff, Bool.true_and, Bool.false_and, Bool.true_or, Bool.false_or] at hA35
      clear hA33 hA34
      refine wp_ret ?_
      refine r_block ?_
      refine r_then ?_
      refine r_then ?_
      refine r_block ?_
      refine r_then ?_
      refine ret_1 hA35 2 rfl rfl ?_
      exact ⟨ret_bool (by simp at hq2; symm; unfold fewL; simp; omega), hb0⟩
    case nR =>
      refine wp_skip ?_
      refine n_block ?_
      refine n_then ?_
      refine wp_region_lit ?_
      refine wl_op hA33 rfl rfl (by decide) (fun ev h => by simp [go_sem, h.c, h.get 11 rfl, K.cell, k3, jj0, jj1, hw1, hw2, hwj]; try first | exact ⟨rfl, rfl⟩ | rfl) fun a36 hA36 => ?_
      refine wl_op hA36 rfl rfl (by decide) (fun ev h => by simp [go_sem, h.get 26 rfl, K.cell, k3, jj0, jj1, hw1, hw2, hwj]; try first | exact ⟨rfl, rfl⟩ | rfl) fun a37 hA37 => ?_
      refine wl_nil ?_
      refine n_then ?_
      have hA38 := hA37.keep [1, 3, 10, 11]
      simp only [argsE, keepE, lookS, Nat.reduceBEq, cond_true, cond_false, Nat.reduceAdd, gv_tt, gv_ff, Bool.true_and, Bool.false_and, Bool.true_or, Bool.false_or] at hA38
      clear hA33 hA36 hA37 a36
      -- round
      rw [show ((j : Int) + 1) = ((j + 1 : Nat) : Int) by omega, show (S : Int) + 1 + (x.b.length : Int) = ((S + 1 + x.b.length : Nat) : Int) by omega] at hA38
      have hq3 : S + 1 + x.b.length ≤ 60000 := by simp at hq2; omega
      exact ⟨k - 1, by omega, j + 1, S + 1 + x.b.length, by omega, hA38, by rw [wt_take hx, hS]; omega, by omega, .inr hq3, rfl⟩
  case nL =>
    have hjn : j = n := by simp at hq; omega
    subst hjn
    refine wp_exit ?_
    refine x_then ?_
    refine x_then ?_
    refine x_block ?_
    refine n_then ?_
    have hA39 := hA15.keep [3]
    simp only [argsE, keepE, lookS, Nat.reduceBEq, cond_true, cond_false, Nat.reduceAdd, gv_tt, gv_ff, Bool.true_and, Bool.false_and, Bool.true_or, Bool.false_or] at hA39
    clear hA15
    refine wp_seq ?_
    refine wp_region_lit ?_
    refine wl_op hA39 rfl rfl (by decide) (fun ev h => by simp [go_sem, h.get 3 rfl]; try first | exact ⟨rfl, rfl⟩ | rfl) fun a40 hA40 => ?_
    refine wl_op hA40 rfl rfl (by decide) (fun ev h => by simp [go_sem, h.c, h.get 27 rfl]; try first | exact ⟨rfl, rfl⟩ | rfl) fun a41 hA41 => ?_
    refine wl_op hA41 rfl rfl (by decide) (fun ev h => by simp [go_sem, h.get 28 rfl]; try first | exact ⟨rfl, rfl⟩ | rfl) fun a42 hA42 => ?_
    refine wl_nil ?_
    refine n_then ?_
    have hA43 := hA42.keep [2]
    simp only [argsE, keepE, lookS, Nat.reduceBEq, cond_true, cond_false, Nat.reduceAdd, gv_tt, gv_ff, Bool.true_and, Bool.false_and, Bool.true_or, Bool.false_or] at hA43
    clear hA39 hA40 hA41 hA42 a40 a41
    refine wp_ret ?_
    refine ret_1 hA43 2 rfl rfl ?_
    rw [← hl, List.take_length] at hS
    exact ⟨ret_bool (by unfold fewL; rw [Bool.eq_iff_iff]; simp; omega), hb0⟩
theorem few_any (nm : ByteArray) (A A2 : Option Addr) (c n e nx k c2 : Nat) (l : List MsgV) (w : World) (hs : nm.size ≤ 140737488355328) (hn : n ≤ 140737488355328) (hz : ∀ m ∈ l, m.b.length ≤ 140737488355328) (hms : Msgs w A n l) :
    Calls Tryd.prog 9 #[.agg (boxC nm e nx A n c), .slice A2 k c2] w fun ev w' => ev = .returned (.bool (fewL nm l && decide (k ≤ 600))) ∧ Below w.heap.size w w' := by
  have hl := hms.len
  refine calls_at 12 Tryd.func9 rfl rfl (Nat.le_of_ble_eq_true rfl) ?_
  intro a hA
  simp only [argsE, keepE, lookS, Nat.reduceBEq, cond_true, cond_false, Nat.reduceAdd, gv_tt, gv_ff, Bool.true_and, Bool.false_and, Bool.true_or, Bool.false_or] at hA
  refine wp_seq ?_
  refine wp_region_lit ?_
  -- stop box slot 2
  refine wl_new hA rfl rfl (by decide) (fun ev h => by simp [go_sem, h.get 0 rfl]; try first | exact ⟨rfl, rfl⟩ | rfl) fun w1 a44 (K : Blk _ _ _ _) hz0 hb0 hA44 => ?_
  replace hms := hms.below hb0
  unfold boxC at K
  refine wl_op hA44 rfl rfl (by decide) (fun ev h => by simp [go_sem, h.c, K.cell]; try first | exact ⟨rfl, rfl⟩ | rfl) fun a45 hA45 => ?_
  refine wl_nil ?_
  refine n_then ?_
  have hA46 := hA45.keep [1, 2]
  simp only [argsE, keepE, lookS, Nat.reduceBEq, cond_true, cond_false, Nat.reduceAdd, gv_tt, gv_ff, Bool.true_and, Bool.false_and, Bool.true_or, Bool.false_or] at hA46
  clear hA hA44 hA45 a44
  refine wp_seq ?_
  refine wp_region_lit ?_
  refine wl_op hA46 rfl rfl (by decide) (fun ev h => by simp [go_sem, h.get 2 rfl, K.cell]; try first | exact ⟨rfl, rfl⟩ | rfl) fun a47 hA47 => ?_
  -- stop call slot 6
  refine wl_call hA47 rfl rfl (by decide) (fun ev h => by simp [go_sem, h.get 5 rfl, K.cell, h.f]; try first | exact ⟨rfl, rfl⟩ | rfl) (few10_any nm A c n e nx l _ hs hn hz hms) ?_
  rintro e w2 ⟨rfl, hb1⟩
  refine ⟨_, rfl, fun a48 hA48 => ?_⟩
  replace hms := hms.below hb1
  refine wl_op hA48 rfl rfl (by decide) (fun ev h => by simp [go_sem, h.get 6 rfl, K.cell]; try first | exact ⟨rfl, rfl⟩ | rfl) fun a49 hA49 => ?_
  refine wl_guard _ hA49 rfl rfl rfl rfl (by decide) (fun hq ev h => by simp [go_sem, (h.get 1 rfl), K.cell]; try first | exact ⟨rfl, rfl⟩ | rfl) fun a50 hA50 => ?_
  refine wl_guard _ hA50 rfl rfl rfl rfl (by decide) (fun hq ev h => by simp [go_sem, ((h.get 8 rfl).trans (gw_t (beq_t hq))), K.cell]; try first | exact ⟨rfl, rfl⟩ | rfl) fun a51 hA51 => ?_
  refine wl_guard _ hA51 rfl rfl rfl rfl (by decide) (fun hq ev h => by simp [go_sem, h.c, ((h.get 9 rfl).trans (gw_t (beq_t hq))), K.cell]; try first | exact ⟨rfl, rfl⟩ | rfl) fun a52 hA52 => ?_
  refine wl_op hA52 rfl rfl (by decide) (fun ev h => by first | exact pick_and rfl (h.get 7 rfl) (h.get 10 rfl) (h.c _) | exact pick_or rfl (h.get 7 rfl) (h.get 10 rfl) (h.c _) | (simp [go_sem, h.c, h.get 7 rfl, h.get 10 rfl, K.cell, gv_or, gv_and]; try first | exact ⟨rfl, rfl⟩ | rfl)) fun a53 hA53 => ?_
  refine wl_op hA53 rfl rfl (by decide) (fun ev h => by simp [go_sem, h.get 11 rfl, K.cell]; try first | exact ⟨rfl, rfl⟩ | rfl) fun a54 hA54 => ?_
  refine wl_nil ?_
  refine n_then ?_
  have hA55 := hA54.keep [4]
  simp only [argsE, keepE, lookS, Nat.reduceBEq, cond_true, cond_false, Nat.reduceAdd, gv_tt, gv_ff, Bool.true_and, Bool.false_and, Bool.true_or, Bool.false_or] at hA55
  clear hA46 hA47 hA48 hA49 hA50 hA51 hA52 hA53 hA54 a45 a47 a48 a49 a50 a51 a52 a53
  refine wp_ret ?_
  -- ret
  refine ret_1 hA55 4 rfl rfl ?_
  exact ⟨ret_bool (by rw [show decide (k ≤ 600) = decide ((k : Int) ≤ 600) by rw [Bool.eq_iff_iff]; simp; omega]), hb0.trans (hb1.mono (by omega))⟩
theorem Msgs.nil (w : World) : Msgs w none 0 [] := ⟨rfl, Reads.none_, fun _ h => (by cases h), fun _ h => (by cases h), fun _ h => (by cases h)⟩
set_option maxRecDepth 100000 in
theorem new_any (nm : ByteArray) (e : Nat) (w : World) (hm : MaxCell w) (hg : 1 < w.heap.size) (htab : Lib.TabIs Tryd.prog w "internal/strconv.uint64pow10" .u64 Lib.pow10Tab) (hs : nm.size ≤ 9223372036854775807) :
    Calls Tryd.prog 10 #[.string nm, .int .u32 (e : Nat)] w fun ev w' => ev = .returned (.tuple #[.agg (boxC (bif boxRight nm e 1 [] then nm else ⟨#[]⟩) (bif boxRight nm e 1 [] then e else 0) (bif boxRight nm e 1 [] then 1 else 0) none 0 0), .int .i64 (bif boxRight nm e 1 [] then 0 else 1)]) ∧ Below w.heap.size w w' := by
  have Ht := Lib.tabBelow_of_tabIs htab
  refine calls_at 15 Tryd.func10 rfl rfl (Nat.le_of_ble_eq_true rfl) ?_
  intro a hA
  simp only [argsE, keepE, lookS, Nat.reduceBEq, cond_true, cond_false, Nat.reduceAdd, gv_tt, gv_ff, Bool.true_and, Bool.false_and, Bool.true_or, Bool.false_or] at hA
  refine wp_seq ?_
  refine wp_region_lit ?_
  -- stop alloc slot 4
  refine wl_new hA rfl rfl (by decide) (fun ev h => by simp [go_sem]; try first | exact ⟨rfl, rfl⟩ | rfl) fun w1 a56 (K : Blk _ _ _ _) hz0 hb0 hA56 => ?_
  replace hm := hm.below hg hb0; replace hg := Nat.lt_of_lt_of_le hg hb0.size
  refine wl_op hA56 rfl rfl (by decide) (fun ev h => by simp [go_sem, h.c]; try first | exact ⟨rfl, rfl⟩ | rfl) fun a57 hA57 => ?_
  refine wl_nil ?_
  refine n_then ?_
  have hA58 := hA57.keep [0, 1, 4]
  simp only [argsE, keepE, lookS, Nat.reduceBEq, cond_true, cond_false, Nat.reduceAdd, gv_tt, gv_ff, Bool.true_and, Bool.false_and, Bool.true_or, Bool.false_or] at hA58
  clear hA hA56 hA57 a56
  refine wp_seq ?_
  refine wp_region_lit ?_
  refine wl_op hA58 rfl rfl (by decide) (fun ev h => by simp [go_sem, h.get 0 rfl]; try first | exact ⟨rfl, rfl⟩ | rfl) fun a59 hA59 => ?_
  refine wl_op hA59 rfl rfl (by decide) (fun ev h => by simp [go_sem, h.get 1 rfl]; try first | exact ⟨rfl, rfl⟩ | rfl) fun a60 hA60 => ?_
  refine wl_op hA60 rfl rfl (by decide) (fun ev h => by simp [go_sem, h.c, h.get 7 rfl, h.get 8 rfl]; try first | exact ⟨rfl, rfl⟩ | rfl) fun a61 hA61 => ?_
  -- stop alloc slot 6
  refine wl_local [.string nm, .int .u32 (e : Nat), .int .u32 ((1 : Nat) : Int), .slice none 0 0] hA61 rfl rfl (by decide) (fun ev h => by simp [go_sem]; try first | exact ⟨rfl, rfl⟩ | rfl) rfl rfl (by rfl) (fun w1 g ev hb h => by simp [go_sem, h.get 6 rfl, h.get 9 rfl, setAll, hb.cell, hb.frozen]) fun w2 a62 (K2 : Blk _ _ _ _) hz2 hb2 hA62 => ?_
  replace hm := hm.below hg hb2; replace hg := Nat.lt_of_lt_of_le hg hb2.size
  replace K := K.below hb2 K.lt
  have HB := hb0.trans (hb2.mono (by omega))
  refine wl_nil ?_
  refine n_then ?_
  have hA63 := hA62.keep [4, 6]
  simp only [argsE, keepE, lookS, Nat.reduceBEq, cond_true, cond_false, Nat.reduceAdd, gv_tt, gv_ff, Bool.true_and, Bool.false_and, Bool.true_or, Bool.false_or] at hA63
  clear hA58 hA59 hA60 hA61 hA62 a57 a59 a60 a61
  refine wp_seq ?_
  refine wp_seq ?_
  refine wp_region_lit ?_
  refine wl_op hA63 rfl rfl (by decide) (fun ev h => by simp [go_sem, h.get 6 rfl, K2.cell]; try first | exact ⟨rfl, rfl⟩ | rfl) fun a64 hA64 => ?_
  -- stop call slot 11
  refine wl_call hA64 rfl rfl (by decide) (fun ev h => by simp [go_sem, h.get 10 rfl, K2.cell, h.f]; try first | exact ⟨rfl, rfl⟩ | rfl) (right_any nm none 0 0 e 1 [] _ hm hg (Ht _ HB) hs (by omega) (Msgs.nil _)) ?_
  rintro e w3 ⟨rfl, hb3⟩
  refine ⟨_, rfl, fun a65 hA65 => ?_⟩
  replace hm := hm.below hg hb3; replace hg := Nat.lt_of_lt_of_le hg hb3.size
  replace K := K.below hb3 K.lt
  replace K2 := K2.below hb3 K2.lt
  replace HB := HB.trans (hb3.mono HB.size)
  refine wl_op hA65 rfl rfl (by decide) (fun ev h => by simp [go_sem, h.get 11 rfl, K2.cell]; try first | exact ⟨rfl, rfl⟩ | rfl) fun a66 hA66 => ?_
  refine wl_nil ?_
  refine n_then ?_
  have hA67 := hA66.keep [4, 6, 12]
  simp only [argsE, keepE, lookS, Nat.reduceBEq, cond_true, cond_false, Nat.reduceAdd, gv_tt, gv_ff, Bool.true_and, Bool.false_and, Bool.true_or, Bool.false_or] at hA67
  clear hA63 hA64 hA65 hA66 a62 a64 a65
  -- cond
  obtain ⟨q, hqe⟩ : ∃ q, boxRight nm e 1 [] = q := ⟨_, rfl⟩
  rw [hqe] at hA67 ⊢
  refine wp_if hA67 12 _ rfl (fun hq => ?yA) (fun hq => ?nA)
  case yA =>
    have hq : q = false := by simpa using hq
    subst hq
    refine wp_seq ?_
    refine wp_region_lit ?_
    refine wl_op hA67 rfl rfl (by decide) (fun ev h => by simp [go_sem, K2.cell]; try first | exact ⟨rfl, rfl⟩ | rfl) fun a68 hA68 => ?_
    -- stop store slot None
    refine wl_set [.string ⟨#[]⟩, .int .u32 0, .int .u32 0, .slice none 0 0] hA68 rfl rfl K (by rfl) (fun ev h => by simp [go_sem, h.get 4 rfl, h.get 13 rfl, K2.cell, setAll, K.cell, K.frozen]) fun w4 (K : Blk _ _ _ _) hs4 => ?_
    refine wl_op hA68 rfl rfl (by decide) (fun ev h => by simp [go_sem, h.c, K.cell]; try first | exact ⟨rfl, rfl⟩ | rfl) fun a69 hA69 => ?_
    refine wl_nil ?_
    refine n_then ?_
    have hA70 := hA69.keep [4, 5]
    simp only [argsE, keepE, lookS, Nat.reduceBEq, cond_true, cond_false, Nat.reduceAdd, gv_tt, gv_ff, Bool.true_and, Bool.false_and, Bool.true_or, Bool.false_or] at hA70
    clear hA67 hA68 hA69 a68
    refine wp_ret ?_
    refine r_then ?_
    refine bodyPost_ret (by simp [results, Tryd.results10, go_sem, hA70.env 4 _ rfl, hA70.env 5 _ rfl, K.cell]; try first | exact ⟨rfl, rfl⟩ | rfl) hA70.defers ?_
    exact ⟨rfl, hs4.below (HB) (Nat.le_refl _)⟩
  case nA =>
    have hq : q = true := by simpa using hq
    subst hq
    refine wp_skip ?_
    refine n_then ?_
    refine wp_seq ?_
    refine wp_region_lit ?_
    refine wl_op hA67 rfl rfl (by decide) (fun ev h => by simp [go_sem, h.get 6 rfl, K2.cell]; try first | exact ⟨rfl, rfl⟩ | rfl) fun a71 hA71 => ?_
    -- stop store slot None
    refine wl_set [.string nm, .int .u32 (e : Nat), .int .u32 ((1 : Nat) : Int), .slice none 0 0] hA71 rfl rfl K (by rfl) (fun ev h => by simp [go_sem, h.get 4 rfl, h.get 14 rfl, K2.cell, setAll, K.cell, K.frozen]) fun w4 (K : Blk _ _ _ _) hs4 => ?_
    refine wl_op hA71 rfl rfl (by decide) (fun ev h => by simp [go_sem, h.c, K.cell]; try first | exact ⟨rfl, rfl⟩ | rfl) fun a72 hA72 => ?_
    refine wl_nil ?_
    refine n_then ?_
    have hA73 := hA72.keep [4, 5]
    simp only [argsE, keepE, lookS, Nat.reduceBEq, cond_true, cond_false, Nat.reduceAdd, gv_tt, gv_ff, Bool.true_and, Bool.false_and, Bool.true_or, Bool.false_or] at hA73
    clear hA67 hA71 hA72 a71
    refine wp_ret ?_
    refine bodyPost_ret (by simp [results, Tryd.results10, go_sem, hA73.env 4 _ rfl, hA73.env 5 _ rfl, K.cell]; try first | exact ⟨rfl, rfl⟩ | rfl) hA73.defers ?_
    exact ⟨rfl, hs4.below (HB) (Nat.le_refl _)⟩
end Go.Proofs.YtbbhblnhbgkcaaaDoor
