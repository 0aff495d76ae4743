/-
  What all laws of days ask first; the table of powers of ten.
-/
import Derived.Test.YtfnckkmnncdelaaDoorDatePrint2
import Derived.Test.YtfnckkmnncdelaaDoorRows
import Derived.LaidSub
import Derived.MakeChecks
import Derived.Lib.LaidTab
namespace Go.Proofs.YtfnckkmnncdelaaDoor
open Go.RowKit
theorem tab_met {l : List (String × DataW Unit)} {W : World} (h : laidMetH Tryd.prog l W) (hl : l.filter (fun x => x.1 == "internal/strconv.uint64pow10") = [("internal/strconv.uint64pow10", Lib.tabData .u64 Lib.pow10Tab)]) :
    Lib.TabIs Tryd.prog W "internal/strconv.uint64pow10" .u64 Lib.pow10Tab := by
  have h1 := laidMetH.filter (fun x => x.1 == "internal/strconv.uint64pow10") h
  rw [hl, MakeChecks.laidMetH_plain _ _ _ (by kernel_rfl)] at h1
  exact Lib.tabIs_of_head (g := 2) (t := 117) (e := 87) (n := 20) (by kernel_rfl) (by kernel_rfl) Tryd.underlying117 Tryd.underlying87 (by kernel_rfl) (by kernel_rfl) h1
theorem print_zero : printV 0 = ⟨#[32, 49, 45, 74, 97, 110, 45, 49, 57, 55, 48, 32, 48, 48, 58, 48, 48, 58, 48, 48, 32, 43, 48, 48, 48, 48]⟩ := by decide +kernel
set_option maxHeartbeats 1000000 in
theorem awake07 (w : World) (htab : Lib.TabIs Tryd.prog w "internal/strconv.uint64pow10" .u64 Lib.pow10Tab) :
    Calls Tryd.prog 19 #[] w fun e w' => e = .returned (.bool true) ∧ Below w.heap.size w w' := by
  have Hp := Lib.hid (print_any 0 w (by omega) (by omega) htab); clear htab
  go_enter Tryd.func19, Tryd.ntmps19
  go_wp2_with fail
  refine Hp.out.mono ?_
  rintro e w1 ⟨rfl, hb⟩
  rw [print_zero]
  go_wp2
  go_ret
  exact ⟨rfl, hb⟩
end Go.Proofs.YtfnckkmnncdelaaDoor
