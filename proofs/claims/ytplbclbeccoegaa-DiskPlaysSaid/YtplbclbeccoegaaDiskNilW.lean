/-
  Walks: an act done to no disk; the statement on nil disks.
-/
import Derived.Test.YtplbclbeccoegaaDiskFew
import Derived.Test.YtplbclbeccoegaaDiskClone
import Derived.Test.YtplbclbeccoegaaDiskRead
import Derived.Test.YtplbclbeccoegaaDiskRename
namespace Go.Proofs.Ytplbclbeccoegaa
open Go.RowKit Go.Maps
set_option maxHeartbeats 800000 in
set_option maxRecDepth 100000 in
theorem do_nil (kind : Nat) (hk : kind ≤ 255) (a b : ByteArray) (at_ : Int) (dA kA : Option Addr) (dn dc kn kc : Nat) (w : World) :
    Calls Try.prog 10 #[.pointer none, .agg #[.int .u8 (kind : Nat), .string a, .string b, .int .i64 at_, .slice dA dn dc, .slice kA kn kc]] w fun e w' => e = .returned (.int .i64 (if kind ≤ 6 then 1 else 0)) ∧ Below w.heap.size w w' := by
  have hcase : kind = 0 ∨ kind = 1 ∨ kind = 2 ∨ kind = 3 ∨ kind = 4 ∨ kind = 5 ∨ kind = 6 ∨ 6 < kind := by omega
  rcases hcase with rfl | rfl | rfl | rfl | rfl | rfl | rfl | hbig
  · go_enter Try.func10, Try.ntmps10
    go_wp2_with fail
    refine (append_nil' a dA dn dc _).mono ?_
    rintro e w1 ⟨rfl, hb⟩
    go_wp2
    go_ret
    exact ⟨rfl, ((Below.refl _ _).alloc (Nat.le_refl _) _).trans (hb.mono (by simp))⟩
  · go_enter Try.func10, Try.ntmps10
    go_wp2_with fail
    refine (sync_nil a _).mono ?_
    rintro e w1 ⟨rfl, hb⟩
    go_wp2
    go_ret
    exact ⟨rfl, ((Below.refl _ _).alloc (Nat.le_refl _) _).trans (hb.mono (by simp))⟩
  · go_enter Try.func10, Try.ntmps10
    go_wp2_with fail
    refine (rename_nil a b _).mono ?_
    rintro e w1 ⟨rfl, hb⟩
    go_wp2
    go_ret
    exact ⟨rfl, ((Below.refl _ _).alloc (Nat.le_refl _) _).trans (hb.mono (by simp))⟩
  · go_enter Try.func10, Try.ntmps10
    go_wp2_with fail
    refine (remove_nil a _).mono ?_
    rintro e w1 ⟨rfl, hb⟩
    go_wp2
    go_ret
    exact ⟨rfl, ((Below.refl _ _).alloc (Nat.le_refl _) _).trans (hb.mono (by simp))⟩
  · go_enter Try.func10, Try.ntmps10
    go_wp2_with fail
    refine (fuse_nil at_ _).mono ?_
    rintro e w1 ⟨rfl, hb⟩
    go_wp2
    go_ret
    exact ⟨rfl, ((Below.refl _ _).alloc (Nat.le_refl _) _).trans (hb.mono (by simp))⟩
  · go_enter Try.func10, Try.ntmps10
    go_wp2_with fail
    refine (harm_nil a dA dn dc _).mono ?_
    rintro e w1 ⟨rfl, hb⟩
    go_wp2
    go_ret
    exact ⟨rfl, ((Below.refl _ _).alloc (Nat.le_refl _) _).trans (hb.mono (by simp))⟩
  · go_enter Try.func10, Try.ntmps10
    go_wp2_with fail
    refine (lose_nil a _).mono ?_
    rintro e w1 ⟨rfl, hb⟩
    go_wp2
    go_ret
    exact ⟨rfl, ((Below.refl _ _).alloc (Nat.le_refl _) _).trans (hb.mono (by simp))⟩
  · have n0 : (((kind : Nat) : Int) == 0) = false := by simp; omega
    have n1 : (((kind : Nat) : Int) == 1) = false := by simp; omega
    have n2 : (((kind : Nat) : Int) == 2) = false := by simp; omega
    have n3 : (((kind : Nat) : Int) == 3) = false := by simp; omega
    have n4 : (((kind : Nat) : Int) == 4) = false := by simp; omega
    have n5 : (((kind : Nat) : Int) == 5) = false := by simp; omega
    have n6 : (((kind : Nat) : Int) == 6) = false := by simp; omega
    rw [if_neg (by omega)]
    go_enter Try.func10, Try.ntmps10
    go_wp2_with fail
    refine (restart_nil kA kn kc _).mono ?_
    rintro e w1 ⟨rfl, rfl⟩
    go_wp2
    go_ret
    exact ⟨rfl, (Below.refl _ _).alloc (Nat.le_refl _) _⟩
end Go.Proofs.Ytplbclbeccoegaa
