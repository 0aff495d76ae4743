/-
  days of a month, a month's name, walked month by month.
-/
import Derived.Test.YtfnckkmnncdelaaDoorDateSmall
namespace Go.Proofs.YtfnckkmnncdelaaDoor
open Go.RowKit
theorem dim_two (y : Int) : dimN y 2 = if leapN y then 29 else 28 := by unfold dimN; rw [if_pos rfl]
theorem dim_long (y m : Int) (h : m = 1 ∨ m = 3 ∨ m = 5 ∨ m = 7 ∨ m = 8 ∨ m = 10 ∨ m = 12) : dimN y m = 31 := by unfold dimN; rw [if_neg (by omega), if_neg (by omega)]
theorem dim_short (y m : Int) (h : m = 4 ∨ m = 6 ∨ m = 9 ∨ m = 11) : dimN y m = 30 := by unfold dimN; rw [if_neg (by omega), if_pos (by omega)]
theorem idxD1 (w : World) : (Instr.index 86 (.agg #[.int .i64 0, .int .i64 31, .int .i64 28, .int .i64 31, .int .i64 30, .int .i64 31, .int .i64 30, .int .i64 31, .int .i64 31, .int .i64 30, .int .i64 31, .int .i64 30, .int .i64 31]) (.int .i64 1)).run Tryd.prog w = .ok (.int .i64 31) w := by kernel_rfl
theorem idxM1 (w : World) : (Instr.index 85 (.agg #[.string ⟨#[]⟩, .string ⟨#[74, 97, 110]⟩, .string ⟨#[70, 101, 98]⟩, .string ⟨#[77, 97, 114]⟩, .string ⟨#[65, 112, 114]⟩, .string ⟨#[77, 97, 121]⟩, .string ⟨#[74, 117, 110]⟩, .string ⟨#[74, 117, 108]⟩, .string ⟨#[65, 117, 103]⟩, .string ⟨#[83, 101, 112]⟩, .string ⟨#[79, 99, 116]⟩, .string ⟨#[78, 111, 118]⟩, .string ⟨#[68, 101, 99]⟩]) (.int .i64 1)).run Tryd.prog w = .ok (.string ⟨#[74, 97, 110]⟩) w := by kernel_rfl
theorem idxD2 (w : World) : (Instr.index 86 (.agg #[.int .i64 0, .int .i64 31, .int .i64 28, .int .i64 31, .int .i64 30, .int .i64 31, .int .i64 30, .int .i64 31, .int .i64 31, .int .i64 30, .int .i64 31, .int .i64 30, .int .i64 31]) (.int .i64 2)).run Tryd.prog w = .ok (.int .i64 28) w := by kernel_rfl
theorem idxM2 (w : World) : (Instr.index 85 (.agg #[.string ⟨#[]⟩, .string ⟨#[74, 97, 110]⟩, .string ⟨#[70, 101, 98]⟩, .string ⟨#[77, 97, 114]⟩, .string ⟨#[65, 112, 114]⟩, .string ⟨#[77, 97, 121]⟩, .string ⟨#[74, 117, 110]⟩, .string ⟨#[74, 117, 108]⟩, .string ⟨#[65, 117, 103]⟩, .string ⟨#[83, 101, 112]⟩, .string ⟨#[79, 99, 116]⟩, .string ⟨#[78, 111, 118]⟩, .string ⟨#[68, 101, 99]⟩]) (.int .i64 2)).run Tryd.prog w = .ok (.string ⟨#[70, 101, 98]⟩) w := by kernel_rfl
theorem idxD3 (w : World) : (Instr.index 86 (.agg #[.int .i64 0, .int .i64 31, .int .i64 28, .int .i64 31, .int .i64 30, .int .i64 31, .int .i64 30, .int .i64 31, .int .i64 31, .int .i64 30, .int .i64 31, .int .i64 30, .int .i64 31]) (.int .i64 3)).run Tryd.prog w = .ok (.int .i64 31) w := by kernel_rfl
theorem idxM3 (w : World) : (Instr.index 85 (.agg #[.string ⟨#[]⟩, .string ⟨#[74, 97, 110]⟩, .string ⟨#[70, 101, 98]⟩, .string ⟨#[77, 97, 114]⟩, .string ⟨#[65, 112, 114]⟩, .string ⟨#[77, 97, 121]⟩, .string ⟨#[74, 117, 110]⟩, .string ⟨#[74, 117, 108]⟩, .string ⟨#[65, 117, 103]⟩, .string ⟨#[83, 101, 112]⟩, .string ⟨#[79, 99, 116]⟩, .string ⟨#[78, 111, 118]⟩, .string ⟨#[68, 101, 99]⟩]) (.int .i64 3)).run Tryd.prog w = .ok (.string ⟨#[77, 97, 114]⟩) w := by kernel_rfl
theorem idxD4 (w : World) : (Instr.index 86 (.agg #[.int .i64 0, .int .i64 31, .int .i64 28, .int .i64 31, .int .i64 30, .int .i64 31, .int .i64 30, .int .i64 31, .int .i64 31, .int .i64 30, .int .i64 31, .int .i64 30, .int .i64 31]) (.int .i64 4)).run Tryd.prog w = .ok (.int .i64 30) w := by kernel_rfl
theorem idxM4 (w : World) : (Instr.index 85 (.agg #[.string ⟨#[]⟩, .string ⟨#[74, 97, 110]⟩, .string ⟨#[70, 101, 98]⟩, .string ⟨#[77, 97, 114]⟩, .string ⟨#[65, 112, 114]⟩, .string ⟨#[77, 97, 121]⟩, .string ⟨#[74, 117, 110]⟩, .string ⟨#[74, 117, 108]⟩, .string ⟨#[65, 117, 103]⟩, .string ⟨#[83, 101, 112]⟩, .string ⟨#[79, 99, 116]⟩, .string ⟨#[78, 111, 118]⟩, .string ⟨#[68, 101, 99]⟩]) (.int .i64 4)).run Tryd.prog w = .ok (.string ⟨#[65, 112, 114]⟩) w := by kernel_rfl
theorem idxD5 (w : World) : (Instr.index 86 (.agg #[.int .i64 0, .int .i64 31, .int .i64 28, .int .i64 31, .int .i64 30, .int .i64 31, .int .i64 30, .int .i64 31, .int .i64 31, .int .i64 30, .int .i64 31, .int .i64 30, .int .i64 31]) (.int .i64 5)).run Tryd.prog w = .ok (.int .i64 31) w := by kernel_rfl
theorem idxM5 (w : World) : (Instr.index 85 (.agg #[.string ⟨#[]⟩, .string ⟨#[74, 97, 110]⟩, .string ⟨#[70, 101, 98]⟩, .string ⟨#[77, 97, 114]⟩, .string ⟨#[65, 112, 114]⟩, .string ⟨#[77, 97, 121]⟩, .string ⟨#[74, 117, 110]⟩, .string ⟨#[74, 117, 108]⟩, .string ⟨#[65, 117, 103]⟩, .string ⟨#[83, 101, 112]⟩, .string ⟨#[79, 99, 116]⟩, .string ⟨#[78, 111, 118]⟩, .string ⟨#[68, 101, 99]⟩]) (.int .i64 5)).run Tryd.prog w = .ok (.string ⟨#[77, 97, 121]⟩) w := by kernel_rfl
theorem idxD6 (w : World) : (Instr.index 86 (.agg #[.int .i64 0, .int .i64 31, .int .i64 28, .int .i64 31, .int .i64 30, .int .i64 31, .int .i64 30, .int .i64 31, .int .i64 31, .int .i64 30, .int .i64 31, .int .i64 30, .int .i64 31]) (.int .i64 6)).run Tryd.prog w = .ok (.int .i64 30) w := by kernel_rfl
theorem idxM6 (w : World) : (Instr.index 85 (.agg #[.string ⟨#[]⟩, .string ⟨#[74, 97, 110]⟩, .string ⟨#[70, 101, 98]⟩, .string ⟨#[77, 97, 114]⟩, .string ⟨#[65, 112, 114]⟩, .string ⟨#[77, 97, 121]⟩, .string ⟨#[74, 117, 110]⟩, .string ⟨#[74, 117, 108]⟩, .string ⟨#[65, 117, 103]⟩, .string ⟨#[83, 101, 112]⟩, .string ⟨#[79, 99, 116]⟩, .string ⟨#[78, 111, 118]⟩, .string ⟨#[68, 101, 99]⟩]) (.int .i64 6)).run Tryd.prog w = .ok (.string ⟨#[74, 117, 110]⟩) w := by kernel_rfl
theorem idxD7 (w : World) : (Instr.index 86 (.agg #[.int .i64 0, .int .i64 31, .int .i64 28, .int .i64 31, .int .i64 30, .int .i64 31, .int .i64 30, .int .i64 31, .int .i64 31, .int .i64 30, .int .i64 31, .int .i64 30, .int .i64 31]) (.int .i64 7)).run Tryd.prog w = .ok (.int .i64 31) w := by kernel_rfl
theorem idxM7 (w : World) : (Instr.index 85 (.agg #[.string ⟨#[]⟩, .string ⟨#[74, 97, 110]⟩, .string ⟨#[70, 101, 98]⟩, .string ⟨#[77, 97, 114]⟩, .string ⟨#[65, 112, 114]⟩, .string ⟨#[77, 97, 121]⟩, .string ⟨#[74, 117, 110]⟩, .string ⟨#[74, 117, 108]⟩, .string ⟨#[65, 117, 103]⟩, .string ⟨#[83, 101, 112]⟩, .string ⟨#[79, 99, 116]⟩, .string ⟨#[78, 111, 118]⟩, .string ⟨#[68, 101, 99]⟩]) (.int .i64 7)).run Tryd.prog w = .ok (.string ⟨#[74, 117, 108]⟩) w := by kernel_rfl
theorem idxD8 (w : World) : (Instr.index 86 (.agg #[.int .i64 0, .int .i64 31, .int .i64 28, .int .i64 31, .int .i64 30, .int .i64 31, .int .i64 30, .int .i64 31, .int .i64 31, .int .i64 30, .int .i64 31, .int .i64 30, .int .i64 31]) (.int .i64 8)).run Tryd.prog w = .ok (.int .i64 31) w := by kernel_rfl
theorem idxM8 (w : World) : (Instr.index 85 (.agg #[.string ⟨#[]⟩, .string ⟨#[74, 97, 110]⟩, .string ⟨#[70, 101, 98]⟩, .string ⟨#[77, 97, 114]⟩, .string ⟨#[65, 112, 114]⟩, .string ⟨#[77, 97, 121]⟩, .string ⟨#[74, 117, 110]⟩, .string ⟨#[74, 117, 108]⟩, .string ⟨#[65, 117, 103]⟩, .string ⟨#[83, 101, 112]⟩, .string ⟨#[79, 99, 116]⟩, .string ⟨#[78, 111, 118]⟩, .string ⟨#[68, 101, 99]⟩]) (.int .i64 8)).run Tryd.prog w = .ok (.string ⟨#[65, 117, 103]⟩) w := by kernel_rfl
theorem idxD9 (w : World) : (Instr.index 86 (.agg #[.int .i64 0, .int .i64 31, .int .i64 28, .int .i64 31, .int .i64 30, .int .i64 31, .int .i64 30, .int .i64 31, .int .i64 31, .int .i64 30, .int .i64 31, .int .i64 30, .int .i64 31]) (.int .i64 9)).run Tryd.prog w = .ok (.int .i64 30) w := by kernel_rfl
theorem idxM9 (w : World) : (Instr.index 85 (.agg #[.string ⟨#[]⟩, .string ⟨#[74, 97, 110]⟩, .string ⟨#[70, 101, 98]⟩, .string ⟨#[77, 97, 114]⟩, .string ⟨#[65, 112, 114]⟩, .string ⟨#[77, 97, 121]⟩, .string ⟨#[74, 117, 110]⟩, .string ⟨#[74, 117, 108]⟩, .string ⟨#[65, 117, 103]⟩, .string ⟨#[83, 101, 112]⟩, .string ⟨#[79, 99, 116]⟩, .string ⟨#[78, 111, 118]⟩, .string ⟨#[68, 101, 99]⟩]) (.int .i64 9)).run Tryd.prog w = .ok (.string ⟨#[83, 101, 112]⟩) w := by kernel_rfl
theorem idxD10 (w : World) : (Instr.index 86 (.agg #[.int .i64 0, .int .i64 31, .int .i64 28, .int .i64 31, .int .i64 30, .int .i64 31, .int .i64 30, .int .i64 31, .int .i64 31, .int .i64 30, .int .i64 31, .int .i64 30, .int .i64 31]) (.int .i64 10)).run Tryd.prog w = .ok (.int .i64 31) w := by kernel_rfl
theorem idxM10 (w : World) : (Instr.index 85 (.agg #[.string ⟨#[]⟩, .string ⟨#[74, 97, 110]⟩, .string ⟨#[70, 101, 98]⟩, .string ⟨#[77, 97, 114]⟩, .string ⟨#[65, 112, 114]⟩, .string ⟨#[77, 97, 121]⟩, .string ⟨#[74, 117, 110]⟩, .string ⟨#[74, 117, 108]⟩, .string ⟨#[65, 117, 103]⟩, .string ⟨#[83, 101, 112]⟩, .string ⟨#[79, 99, 116]⟩, .string ⟨#[78, 111, 118]⟩, .string ⟨#[68, 101, 99]⟩]) (.int .i64 10)).run Tryd.prog w = .ok (.string ⟨#[79, 99, 116]⟩) w := by kernel_rfl
theorem idxD11 (w : World) : (Instr.index 86 (.agg #[.int .i64 0, .int .i64 31, .int .i64 28, .int .i64 31, .int .i64 30, .int .i64 31, .int .i64 30, .int .i64 31, .int .i64 31, .int .i64 30, .int .i64 31, .int .i64 30, .int .i64 31]) (.int .i64 11)).run Tryd.prog w = .ok (.int .i64 30) w := by kernel_rfl
theorem idxM11 (w : World) : (Instr.index 85 (.agg #[.string ⟨#[]⟩, .string ⟨#[74, 97, 110]⟩, .string ⟨#[70, 101, 98]⟩, .string ⟨#[77, 97, 114]⟩, .string ⟨#[65, 112, 114]⟩, .string ⟨#[77, 97, 121]⟩, .string ⟨#[74, 117, 110]⟩, .string ⟨#[74, 117, 108]⟩, .string ⟨#[65, 117, 103]⟩, .string ⟨#[83, 101, 112]⟩, .string ⟨#[79, 99, 116]⟩, .string ⟨#[78, 111, 118]⟩, .string ⟨#[68, 101, 99]⟩]) (.int .i64 11)).run Tryd.prog w = .ok (.string ⟨#[78, 111, 118]⟩) w := by kernel_rfl
theorem idxD12 (w : World) : (Instr.index 86 (.agg #[.int .i64 0, .int .i64 31, .int .i64 28, .int .i64 31, .int .i64 30, .int .i64 31, .int .i64 30, .int .i64 31, .int .i64 31, .int .i64 30, .int .i64 31, .int .i64 30, .int .i64 31]) (.int .i64 12)).run Tryd.prog w = .ok (.int .i64 31) w := by kernel_rfl
theorem idxM12 (w : World) : (Instr.index 85 (.agg #[.string ⟨#[]⟩, .string ⟨#[74, 97, 110]⟩, .string ⟨#[70, 101, 98]⟩, .string ⟨#[77, 97, 114]⟩, .string ⟨#[65, 112, 114]⟩, .string ⟨#[77, 97, 121]⟩, .string ⟨#[74, 117, 110]⟩, .string ⟨#[74, 117, 108]⟩, .string ⟨#[65, 117, 103]⟩, .string ⟨#[83, 101, 112]⟩, .string ⟨#[79, 99, 116]⟩, .string ⟨#[78, 111, 118]⟩, .string ⟨#[68, 101, 99]⟩]) (.int .i64 12)).run Tryd.prog w = .ok (.string ⟨#[68, 101, 99]⟩) w := by kernel_rfl
set_option maxRecDepth 100000 in
theorem days1 (y : Int) (w : World) : Calls Tryd.prog 46 #[.int .i64 y, .int .i64 1] w fun e w' => e = .returned (.int .i64 (dimN y 1)) ∧ w' = w := by
  have hi := idxD1
  have Hd := Lib.hid (dim_long y 1 (by omega))
  go_enter Tryd.func46, Tryd.ntmps46
  go_wp2
  go_ret
  exact ⟨ret_int Hd.out.symm, rfl⟩
set_option maxRecDepth 100000 in
theorem refMonth1 (w : World) : Calls Tryd.prog 44 #[.int .i64 1] w fun e w' => e = .returned (.string ⟨#[74, 97, 110]⟩) ∧ w' = w := by
  have hi := idxM1
  go_enter Tryd.func44, Tryd.ntmps44
  go_wp2
  go_ret
  exact ⟨rfl, rfl⟩
set_option maxRecDepth 100000 in
theorem month1 (w : World) : Calls Tryd.prog 49 #[.int .i64 1] w fun e w' => e = .returned (.string ⟨#[74, 97, 110]⟩) ∧ w' = w := by
  go_enter Tryd.func49, Tryd.ntmps49
  go_wp2
  go_ret
  exact ⟨rfl, rfl⟩
set_option maxRecDepth 100000 in
set_option maxHeartbeats 1000000 in
theorem days2 (y : Int) (h0 : 0 ≤ y) (h1 : y ≤ 20000) (w : World) : Calls Tryd.prog 46 #[.int .i64 y, .int .i64 2] w fun e w' => e = .returned (.int .i64 (dimN y 2)) ∧ w' = w := by
  have hi := idxD2
  have Hd := Lib.hid (dim_two y)
  rcases Bool.eq_false_or_eq_true (leapN y) with hl | hl
  · go_enter Tryd.func46, Tryd.ntmps46
    go_wp2_with (go_at_call 67; refine (leap_any y h0 h1 _).mono ?_; rintro e w' ⟨rfl, rfl⟩; rw [hl])
    go_ret
    exact ⟨ret_int (by rw [Hd.out, hl]; rfl), rfl⟩
  · go_enter Tryd.func46, Tryd.ntmps46
    go_wp2_with (go_at_call 67; refine (leap_any y h0 h1 _).mono ?_; rintro e w' ⟨rfl, rfl⟩; rw [hl])
    go_ret
    exact ⟨ret_int (by rw [Hd.out, hl]; rfl), rfl⟩
set_option maxRecDepth 100000 in
theorem refMonth2 (w : World) : Calls Tryd.prog 44 #[.int .i64 2] w fun e w' => e = .returned (.string ⟨#[70, 101, 98]⟩) ∧ w' = w := by
  have hi := idxM2
  go_enter Tryd.func44, Tryd.ntmps44
  go_wp2
  go_ret
  exact ⟨rfl, rfl⟩
set_option maxRecDepth 100000 in
theorem month2 (w : World) : Calls Tryd.prog 49 #[.int .i64 2] w fun e w' => e = .returned (.string ⟨#[70, 101, 98]⟩) ∧ w' = w := by
  go_enter Tryd.func49, Tryd.ntmps49
  go_wp2
  go_ret
  exact ⟨rfl, rfl⟩
set_option maxRecDepth 100000 in
theorem days3 (y : Int) (w : World) : Calls Tryd.prog 46 #[.int .i64 y, .int .i64 3] w fun e w' => e = .returned (.int .i64 (dimN y 3)) ∧ w' = w := by
  have hi := idxD3
  have Hd := Lib.hid (dim_long y 3 (by omega))
  go_enter Tryd.func46, Tryd.ntmps46
  go_wp2
  go_ret
  exact ⟨ret_int Hd.out.symm, rfl⟩
set_option maxRecDepth 100000 in
theorem refMonth3 (w : World) : Calls Tryd.prog 44 #[.int .i64 3] w fun e w' => e = .returned (.string ⟨#[77, 97, 114]⟩) ∧ w' = w := by
  have hi := idxM3
  go_enter Tryd.func44, Tryd.ntmps44
  go_wp2
  go_ret
  exact ⟨rfl, rfl⟩
set_option maxRecDepth 100000 in
theorem month3 (w : World) : Calls Tryd.prog 49 #[.int .i64 3] w fun e w' => e = .returned (.string ⟨#[77, 97, 114]⟩) ∧ w' = w := by
  go_enter Tryd.func49, Tryd.ntmps49
  go_wp2
  go_ret
  exact ⟨rfl, rfl⟩
set_option maxRecDepth 100000 in
theorem days4 (y : Int) (w : World) : Calls Tryd.prog 46 #[.int .i64 y, .int .i64 4] w fun e w' => e = .returned (.int .i64 (dimN y 4)) ∧ w' = w := by
  have hi := idxD4
  have Hd := Lib.hid (dim_short y 4 (by omega))
  go_enter Tryd.func46, Tryd.ntmps46
  go_wp2
  go_ret
  exact ⟨ret_int Hd.out.symm, rfl⟩
set_option maxRecDepth 100000 in
theorem refMonth4 (w : World) : Calls Tryd.prog 44 #[.int .i64 4] w fun e w' => e = .returned (.string ⟨#[65, 112, 114]⟩) ∧ w' = w := by
  have hi := idxM4
  go_enter Tryd.func44, Tryd.ntmps44
  go_wp2
  go_ret
  exact ⟨rfl, rfl⟩
set_option maxRecDepth 100000 in
theorem month4 (w : World) : Calls Tryd.prog 49 #[.int .i64 4] w fun e w' => e = .returned (.string ⟨#[65, 112, 114]⟩) ∧ w' = w := by
  go_enter Tryd.func49, Tryd.ntmps49
  go_wp2
  go_ret
  exact ⟨rfl, rfl⟩
set_option maxRecDepth 100000 in
theorem days5 (y : Int) (w : World) : Calls Tryd.prog 46 #[.int .i64 y, .int .i64 5] w fun e w' => e = .returned (.int .i64 (dimN y 5)) ∧ w' = w := by
  have hi := idxD5
  have Hd := Lib.hid (dim_long y 5 (by omega))
  go_enter Tryd.func46, Tryd.ntmps46
  go_wp2
  go_ret
  exact ⟨ret_int Hd.out.symm, rfl⟩
set_option maxRecDepth 100000 in
theorem refMonth5 (w : World) : Calls Tryd.prog 44 #[.int .i64 5] w fun e w' => e = .returned (.string ⟨#[77, 97, 121]⟩) ∧ w' = w := by
  have hi := idxM5
  go_enter Tryd.func44, Tryd.ntmps44
  go_wp2
  go_ret
  exact ⟨rfl, rfl⟩
set_option maxRecDepth 100000 in
theorem month5 (w : World) : Calls Tryd.prog 49 #[.int .i64 5] w fun e w' => e = .returned (.string ⟨#[77, 97, 121]⟩) ∧ w' = w := by
  go_enter Tryd.func49, Tryd.ntmps49
  go_wp2
  go_ret
  exact ⟨rfl, rfl⟩
set_option maxRecDepth 100000 in
theorem days6 (y : Int) (w : World) : Calls Tryd.prog 46 #[.int .i64 y, .int .i64 6] w fun e w' => e = .returned (.int .i64 (dimN y 6)) ∧ w' = w := by
  have hi := idxD6
  have Hd := Lib.hid (dim_short y 6 (by omega))
  go_enter Tryd.func46, Tryd.ntmps46
  go_wp2
  go_ret
  exact ⟨ret_int Hd.out.symm, rfl⟩
set_option maxRecDepth 100000 in
theorem refMonth6 (w : World) : Calls Tryd.prog 44 #[.int .i64 6] w fun e w' => e = .returned (.string ⟨#[74, 117, 110]⟩) ∧ w' = w := by
  have hi := idxM6
  go_enter Tryd.func44, Tryd.ntmps44
  go_wp2
  go_ret
  exact ⟨rfl, rfl⟩
set_option maxRecDepth 100000 in
theorem month6 (w : World) : Calls Tryd.prog 49 #[.int .i64 6] w fun e w' => e = .returned (.string ⟨#[74, 117, 110]⟩) ∧ w' = w := by
  go_enter Tryd.func49, Tryd.ntmps49
  go_wp2
  go_ret
  exact ⟨rfl, rfl⟩
set_option maxRecDepth 100000 in
theorem days7 (y : Int) (w : World) : Calls Tryd.prog 46 #[.int .i64 y, .int .i64 7] w fun e w' => e = .returned (.int .i64 (dimN y 7)) ∧ w' = w := by
  have hi := idxD7
  have Hd := Lib.hid (dim_long y 7 (by omega))
  go_enter Tryd.func46, Tryd.ntmps46
  go_wp2
  go_ret
  exact ⟨ret_int Hd.out.symm, rfl⟩
set_option maxRecDepth 100000 in
theorem refMonth7 (w : World) : Calls Tryd.prog 44 #[.int .i64 7] w fun e w' => e = .returned (.string ⟨#[74, 117, 108]⟩) ∧ w' = w := by
  have hi := idxM7
  go_enter Tryd.func44, Tryd.ntmps44
  go_wp2
  go_ret
  exact ⟨rfl, rfl⟩
set_option maxRecDepth 100000 in
theorem month7 (w : World) : Calls Tryd.prog 49 #[.int .i64 7] w fun e w' => e = .returned (.string ⟨#[74, 117, 108]⟩) ∧ w' = w := by
  go_enter Tryd.func49, Tryd.ntmps49
  go_wp2
  go_ret
  exact ⟨rfl, rfl⟩
set_option maxRecDepth 100000 in
theorem days8 (y : Int) (w : World) : Calls Tryd.prog 46 #[.int .i64 y, .int .i64 8] w fun e w' => e = .returned (.int .i64 (dimN y 8)) ∧ w' = w := by
  have hi := idxD8
  have Hd := Lib.hid (dim_long y 8 (by omega))
  go_enter Tryd.func46, Tryd.ntmps46
  go_wp2
  go_ret
  exact ⟨ret_int Hd.out.symm, rfl⟩
set_option maxRecDepth 100000 in
theorem refMonth8 (w : World) : Calls Tryd.prog 44 #[.int .i64 8] w fun e w' => e = .returned (.string ⟨#[65, 117, 103]⟩) ∧ w' = w := by
  have hi := idxM8
  go_enter Tryd.func44, Tryd.ntmps44
  go_wp2
  go_ret
  exact ⟨rfl, rfl⟩
set_option maxRecDepth 100000 in
theorem month8 (w : World) : Calls Tryd.prog 49 #[.int .i64 8] w fun e w' => e = .returned (.string ⟨#[65, 117, 103]⟩) ∧ w' = w := by
  go_enter Tryd.func49, Tryd.ntmps49
  go_wp2
  go_ret
  exact ⟨rfl, rfl⟩
set_option maxRecDepth 100000 in
theorem days9 (y : Int) (w : World) : Calls Tryd.prog 46 #[.int .i64 y, .int .i64 9] w fun e w' => e = .returned (.int .i64 (dimN y 9)) ∧ w' = w := by
  have hi := idxD9
  have Hd := Lib.hid (dim_short y 9 (by omega))
  go_enter Tryd.func46, Tryd.ntmps46
  go_wp2
  go_ret
  exact ⟨ret_int Hd.out.symm, rfl⟩
set_option maxRecDepth 100000 in
theorem refMonth9 (w : World) : Calls Tryd.prog 44 #[.int .i64 9] w fun e w' => e = .returned (.string ⟨#[83, 101, 112]⟩) ∧ w' = w := by
  have hi := idxM9
  go_enter Tryd.func44, Tryd.ntmps44
  go_wp2
  go_ret
  exact ⟨rfl, rfl⟩
set_option maxRecDepth 100000 in
theorem month9 (w : World) : Calls Tryd.prog 49 #[.int .i64 9] w fun e w' => e = .returned (.string ⟨#[83, 101, 112]⟩) ∧ w' = w := by
  go_enter Tryd.func49, Tryd.ntmps49
  go_wp2
  go_ret
  exact ⟨rfl, rfl⟩
set_option maxRecDepth 100000 in
theorem days10 (y : Int) (w : World) : Calls Tryd.prog 46 #[.int .i64 y, .int .i64 10] w fun e w' => e = .returned (.int .i64 (dimN y 10)) ∧ w' = w := by
  have hi := idxD10
  have Hd := Lib.hid (dim_long y 10 (by omega))
  go_enter Tryd.func46, Tryd.ntmps46
  go_wp2
  go_ret
  exact ⟨ret_int Hd.out.symm, rfl⟩
set_option maxRecDepth 100000 in
theorem refMonth10 (w : World) : Calls Tryd.prog 44 #[.int .i64 10] w fun e w' => e = .returned (.string ⟨#[79, 99, 116]⟩) ∧ w' = w := by
  have hi := idxM10
  go_enter Tryd.func44, Tryd.ntmps44
  go_wp2
  go_ret
  exact ⟨rfl, rfl⟩
set_option maxRecDepth 100000 in
theorem month10 (w : World) : Calls Tryd.prog 49 #[.int .i64 10] w fun e w' => e = .returned (.string ⟨#[79, 99, 116]⟩) ∧ w' = w := by
  go_enter Tryd.func49, Tryd.ntmps49
  go_wp2
  go_ret
  exact ⟨rfl, rfl⟩
set_option maxRecDepth 100000 in
theorem days11 (y : Int) (w : World) : Calls Tryd.prog 46 #[.int .i64 y, .int .i64 11] w fun e w' => e = .returned (.int .i64 (dimN y 11)) ∧ w' = w := by
  have hi := idxD11
  have Hd := Lib.hid (dim_short y 11 (by omega))
  go_enter Tryd.func46, Tryd.ntmps46
  go_wp2
  go_ret
  exact ⟨ret_int Hd.out.symm, rfl⟩
set_option maxRecDepth 100000 in
theorem refMonth11 (w : World) : Calls Tryd.prog 44 #[.int .i64 11] w fun e w' => e = .returned (.string ⟨#[78, 111, 118]⟩) ∧ w' = w := by
  have hi := idxM11
  go_enter Tryd.func44, Tryd.ntmps44
  go_wp2
  go_ret
  exact ⟨rfl, rfl⟩
set_option maxRecDepth 100000 in
theorem month11 (w : World) : Calls Tryd.prog 49 #[.int .i64 11] w fun e w' => e = .returned (.string ⟨#[78, 111, 118]⟩) ∧ w' = w := by
  go_enter Tryd.func49, Tryd.ntmps49
  go_wp2
  go_ret
  exact ⟨rfl, rfl⟩
set_option maxRecDepth 100000 in
theorem days12 (y : Int) (w : World) : Calls Tryd.prog 46 #[.int .i64 y, .int .i64 12] w fun e w' => e = .returned (.int .i64 (dimN y 12)) ∧ w' = w := by
  have hi := idxD12
  have Hd := Lib.hid (dim_long y 12 (by omega))
  go_enter Tryd.func46, Tryd.ntmps46
  go_wp2
  go_ret
  exact ⟨ret_int Hd.out.symm, rfl⟩
set_option maxRecDepth 100000 in
theorem refMonth12 (w : World) : Calls Tryd.prog 44 #[.int .i64 12] w fun e w' => e = .returned (.string ⟨#[68, 101, 99]⟩) ∧ w' = w := by
  have hi := idxM12
  go_enter Tryd.func44, Tryd.ntmps44
  go_wp2
  go_ret
  exact ⟨rfl, rfl⟩
set_option maxRecDepth 100000 in
theorem month12 (w : World) : Calls Tryd.prog 49 #[.int .i64 12] w fun e w' => e = .returned (.string ⟨#[68, 101, 99]⟩) ∧ w' = w := by
  go_enter Tryd.func49, Tryd.ntmps49
  go_wp2
  go_ret
  exact ⟨rfl, rfl⟩
theorem days_any (y m : Int) (h0 : 0 ≤ y) (h1 : y ≤ 20000) (hm1 : 1 ≤ m) (hm2 : m ≤ 12) (w : World) :
    Calls Tryd.prog 46 #[.int .i64 y, .int .i64 m] w fun e w' => e = .returned (.int .i64 (dimN y m)) ∧ w' = w :=
  twelve (P := fun m => Calls Tryd.prog 46 #[.int .i64 y, .int .i64 m] w fun e w' => e = .returned (.int .i64 (dimN y m)) ∧ w' = w) m hm1 hm2 (days1 y w) (days2 y h0 h1 w) (days3 y w) (days4 y w) (days5 y w) (days6 y w) (days7 y w) (days8 y w) (days9 y w) (days10 y w) (days11 y w) (days12 y w)
/-- a month's name -/
def monB (m : Int) : ByteArray := ⟨(([74, 97, 110, 70, 101, 98, 77, 97, 114, 65, 112, 114, 77, 97, 121, 74, 117, 110, 74, 117, 108, 65, 117, 103, 83, 101, 112, 79, 99, 116, 78, 111, 118, 68, 101, 99].drop (3 * (m - 1)).toNat).take 3).toArray⟩
theorem refMonth_any (m : Int) (hm1 : 1 ≤ m) (hm2 : m ≤ 12) (w : World) :
    Calls Tryd.prog 44 #[.int .i64 m] w fun e w' => e = .returned (.string (monB m)) ∧ w' = w :=
  twelve (P := fun m => Calls Tryd.prog 44 #[.int .i64 m] w fun e w' => e = .returned (.string (monB m)) ∧ w' = w) m hm1 hm2 (refMonth1 w) (refMonth2 w) (refMonth3 w) (refMonth4 w) (refMonth5 w) (refMonth6 w) (refMonth7 w) (refMonth8 w) (refMonth9 w) (refMonth10 w) (refMonth11 w) (refMonth12 w)
theorem month_any (m : Int) (hm1 : 1 ≤ m) (hm2 : m ≤ 12) (w : World) :
    Calls Tryd.prog 49 #[.int .i64 m] w fun e w' => e = .returned (.string (monB m)) ∧ w' = w :=
  twelve (P := fun m => Calls Tryd.prog 49 #[.int .i64 m] w fun e w' => e = .returned (.string (monB m)) ∧ w' = w) m hm1 hm2 (month1 w) (month2 w) (month3 w) (month4 w) (month5 w) (month6 w) (month7 w) (month8 w) (month9 w) (month10 w) (month11 w) (month12 w)
end Go.Proofs.YtfnckkmnncdelaaDoor
