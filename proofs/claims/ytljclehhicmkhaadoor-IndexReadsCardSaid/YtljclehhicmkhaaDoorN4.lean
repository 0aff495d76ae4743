/-
  cubbylaw11.n4.
-/
import Derived.Test.YtljclehhicmkhaaDoorHoare
import Derived.Test.YtljclehhicmkhaaDoorFlagsLaw
namespace Go.Proofs.YtljclehhicmkhaaDoor
open Go.RowKit
set_option linter.unusedSimpArgs false
set_option linter.unusedVariables false
theorem n4_any (v : Int) (vn : Nat) (hv : IntKind.u64.wrap v = (vn : Int)) (hvn : vn < 18446744073709551616) (w : World) :
    Calls Tryd.prog 13 #[.int .i64 v] w fun e w' => ∃ r, e = .returned r ∧ w'.ownsRow w.heap.size 5 1 r 4 (u8s (be 4 vn)) ∧ Below w.heap.size w w' := by
  refine calls_at 6 Tryd.func13 rfl rfl (Nat.le_of_ble_eq_true rfl) ?_
  intro a hA
  simp only [argsE, keepE, lookS, Nat.reduceBEq, cond_true, cond_false, Nat.reduceAdd, gv_tt, gv_ff, Bool.true_and, Bool.false_and, Bool.true_or, Bool.false_or] at hA
  refine wp_seq ?_
  refine wp_region_lit ?_
  refine wl_op hA rfl rfl (by decide) (fun ev h => by simp [go_sem, h.c, hv]; try first | exact ⟨rfl, rfl⟩ | rfl) fun a1 hA1 => ?_
  refine wl_nil ?_
  refine n_then ?_
  have hA2 := hA1.keep [0]
  simp only [argsE, keepE, lookS, Nat.reduceBEq, cond_true, cond_false, Nat.reduceAdd, gv_tt, gv_ff, Bool.true_and, Bool.false_and, Bool.true_or, Bool.false_or] at hA2
  clear hA hA1
  refine wp_seq ?_
  refine wp_region_lit ?_
  refine wl_op hA2 rfl rfl (by decide) (fun ev h => by simp [go_sem, h.get 0 rfl, hv]; try first | exact ⟨rfl, rfl⟩ | rfl) fun a3 hA3 => ?_
  refine wl_op hA3 rfl rfl (by decide) (fun ev h => by simp [go_sem, h.get 3 rfl, hv]; try first | exact ⟨rfl, rfl⟩ | rfl) fun a4 hA4 => ?_
  -- stop call slot 5
  refine wl_call hA4 rfl rfl (by decide) (fun ev h => by simp [go_sem, h.c, h.get 4 rfl, h.f]; try first | exact ⟨rfl, rfl⟩ | rfl) (refBytes_any vn 4 hvn (by omega) w) ?_
  rintro e w1 ⟨r, rfl, ho, hb⟩
  refine ⟨_, rfl, fun a5 hA5 => ?_⟩
  refine wl_op hA5 rfl rfl (by decide) (fun ev h => by simp [go_sem, h.get 5 rfl]; try first | exact ⟨rfl, rfl⟩ | rfl) fun a6 hA6 => ?_
  refine wl_nil ?_
  refine n_then ?_
  have hA7 := hA6.keep [2]
  simp only [argsE, keepE, lookS, Nat.reduceBEq, cond_true, cond_false, Nat.reduceAdd, gv_tt, gv_ff, Bool.true_and, Bool.false_and, Bool.true_or, Bool.false_or] at hA7
  clear hA2 hA3 hA4 hA5 hA6 a1 a3 a4 a5
  refine wp_ret ?_
  refine ret_1 hA7 2 rfl rfl ?_
  exact ⟨r, rfl, ho, hb⟩
end Go.Proofs.YtljclehhicmkhaaDoor
