/-
  Walks of the disk's small functions.
-/
import Derived.Test.YtplbclbeccoegaaDiskMem
namespace Go.Proofs.Ytplbclbeccoegaa
open Go.RowKit Go.Maps
theorem whole_any (A : Option Addr) (n c : Nat) (s : Nat) (ev : Bool) (w : World) :
    Calls Try.prog 39 #[.agg #[.slice A n c, .int .i64 (s : Nat), .bool ev]] w fun e w' => e = .returned (.bool (ev && decide (s = n))) ∧ Below w.heap.size w w' := by
  cases ev with
  | false =>
    go_enter Try.func39, Try.ntmps39
    go_wp2
    go_ret
    exact ⟨rfl, (Below.refl _ _).alloc (Nat.le_refl _) _⟩
  | true =>
    by_cases h : s = n
    · subst h
      go_enter Try.func39, Try.ntmps39
      go_wp2
      go_ret
      exact ⟨by simp, (Below.refl _ _).alloc (Nat.le_refl _) _⟩
    · have h1 : ((s : Int) == (n : Int)) = false := by simp; omega
      go_enter Try.func39, Try.ntmps39
      go_wp2
      go_ret
      exact ⟨by simp [h], (Below.refl _ _).alloc (Nat.le_refl _) _⟩
theorem gone_nil (w : World) : Calls Try.prog 41 #[.pointer none] w fun e w' => e = .returned (.int .i64 1) ∧ w' = w := by
  go_enter Try.func41, Try.ntmps41
  go_wp2
  go_ret
  exact ⟨rfl, rfl⟩
section
variable {w : World} {p mb cap : Nat} {es : List (Key × FV)} {fuse : Int} {lost : Bool}
theorem DiskAt.c0 (h : DiskAt w p mb es cap fuse lost) : w.cell? ⟨p, 0, none⟩ = some (.int .i64 (cap : Nat)) := by rw [h.cells.cell]; rfl
theorem DiskAt.c1 (h : DiskAt w p mb es cap fuse lost) : w.cell? ⟨p, 1, none⟩ = some (.map (some mb)) := by rw [h.cells.cell]; rfl
theorem DiskAt.c2 (h : DiskAt w p mb es cap fuse lost) : w.cell? ⟨p, 2, none⟩ = some (.int .i64 fuse) := by rw [h.cells.cell]; rfl
theorem DiskAt.c3 (h : DiskAt w p mb es cap fuse lost) : w.cell? ⟨p, 3, none⟩ = some (.bool lost) := by rw [h.cells.cell]; rfl
end
theorem gone_at (p : Nat) (lost : Bool) (w : World) (c3 : w.cell? ⟨p, 3, none⟩ = some (.bool lost)) :
    Calls Try.prog 41 #[.pointer (some ⟨p, 0, none⟩)] w fun e w' => e = .returned (.int .i64 (if lost = true then 6 else 0)) ∧ w' = w := by
  cases lost
  all_goals
    go_enter Try.func41, Try.ntmps41
    go_wp2
    go_ret
    exact ⟨rfl, rfl⟩
theorem lost_nil (w : World) : Calls Try.prog 20 #[.pointer none] w fun e w' => e = .returned (.bool false) ∧ w' = w := by
  go_enter Try.func20, Try.ntmps20
  go_wp2
  go_ret
  exact ⟨rfl, rfl⟩
theorem lost_at (p : Nat) (lost : Bool) (w : World) (c3 : w.cell? ⟨p, 3, none⟩ = some (.bool lost)) :
    Calls Try.prog 20 #[.pointer (some ⟨p, 0, none⟩)] w fun e w' => e = .returned (.bool lost) ∧ w' = w := by
  go_enter Try.func20, Try.ntmps20
  go_wp2
  go_ret
  exact ⟨rfl, rfl⟩
/-- the power may go -/
theorem burns_at {w : World} {p mb cap : Nat} {es : List (Key × FV)} {fuse : Int} {lost : Bool} (h : DiskAt w p mb es cap fuse lost) (h0 : -1 ≤ fuse) (h1 : fuse ≤ 9223372036854775807) :
    Calls Try.prog 40 #[.pointer (some ⟨p, 0, none⟩)] w fun e w' => e = .returned (.bool (decide (fuse = 0))) ∧ DiskAt w' p mb es cap (if 0 < fuse then fuse - 1 else fuse) (decide (fuse = 0)) ∧ But p mb w w' := by
  have c0 := h.c0
  have c2 := h.c2
  have c3 := h.c3
  have f0 := h.cells.frozen 2
  have f1 := h.cells.frozen 3
  have H := Lib.hid h
  have fin : ∀ (fu : Int) (l : Bool) (w' : World), Blk w' p 55 (dcells mb cap fu l) → But p mb w w' → w'.ownsMap Try.prog 9 heldR mb es.length (dmap heldF es) → DiskAt w' p mb es cap fu l := fun fu l w' hc hb hm => H.out.turn hb hc hm H.out.up fun q hq => .inl hq
  have hne := h.ne
  have FIN := Lib.hid fin
  clear fin h
  by_cases hz : fuse = 0
  · subst hz
    go_enter Try.func40, Try.ntmps40
    go_wp2
    go_ret
    have hb := (But.refl p mb w).set_ 3 (.bool true)
    exact ⟨rfl, FIN.out _ _ _ (H.out.cells.set_ 3 (.bool true)) hb (H.out.map.setCell (fun e => hne e.symm) _), hb⟩
  · have z1 : (fuse == 0) = false := by simp [hz]
    have z2 : (decide (fuse = 0)) = false := by simp [hz]
    rw [z2]
    by_cases hp : 0 < fuse
    · rw [if_pos hp]
      go_enter Try.func40, Try.ntmps40
      go_wp2
      go_ret
      have hb := ((But.refl p mb w).set_ 3 (.bool false)).set_ 2 (.int .i64 (fuse - 1))
      exact ⟨rfl, FIN.out _ _ _ ((H.out.cells.set_ 3 (.bool false)).set_ 2 (.int .i64 (fuse - 1))) hb ((H.out.map.setCell (fun e => hne e.symm) _).setCell (fun e => hne e.symm) _), hb⟩
    · rw [if_neg hp]
      have hp' : decide (0 < fuse) = false := by simp; omega
      go_enter Try.func40, Try.ntmps40
      go_wp2
      go_ret
      have hb := (But.refl p mb w).set_ 3 (.bool false)
      exact ⟨rfl, FIN.out _ _ _ (H.out.cells.set_ 3 (.bool false)) hb (H.out.map.setCell (fun e => hne e.symm) _), hb⟩
end Go.Proofs.Ytplbclbeccoegaa
