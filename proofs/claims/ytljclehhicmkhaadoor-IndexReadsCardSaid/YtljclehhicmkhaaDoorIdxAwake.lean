/-
  cubbylaw11.awake answers true.
-/
import Derived.Test.YtljclehhicmkhaaDoorTreeGet
namespace Go.Proofs.YtljclehhicmkhaaDoor
open Go.RowKit
theorem one_right : rightTreeV [(1, inboxS)] = true := by decide +kernel
theorem getTree_nil : getTreeV [] = none := by
  unfold getTreeV
  have : pageGet 3 [] = none := by unfold pageGet; rw [if_neg (by simp)]
  rw [this]
set_option maxRecDepth 100000 in
theorem awake11 (w : World) (hm : MaxCell w) (hg : 1 < w.heap.size) :
    Calls Tryd.prog 7 #[] w fun e w' => e = .returned (.bool true) ∧ Below w.heap.size w w' := by
  have R1 := Lib.hid (getTree_any none 0 0 [] w hm hg rfl (by omega) (by omega) Reads.none8)
  rw [getTree_nil] at R1
  have e1 : getErr (none : Option (List PlaceM)) = 9 := rfl
  rw [e1] at R1
  have HM := Lib.hid hm
  clear hm e1
  go_enter Tryd.func7, Tryd.ntmps7
  go_wp2_with fail
  refine R1.out.mono ?_
  rintro e w1 ⟨r1, rfl, _, hb1⟩
  have hbx := (Below.refl w1.heap.size w1).alloc (Nat.le_refl _) (.cells #[.int .i64 1, .string inboxS] 26)
  have hb := hb1.trans (hbx.mono hb1.size)
  have R2 := Lib.hid (putTree_any (some ⟨w1.heap.size, 0, none⟩) 1 1 [(1, inboxS)] _ (HM.out.below hg hb) (Nat.lt_of_lt_of_le hg hb.size) (by intro q hq; rw [List.mem_singleton] at hq; subst hq; decide) rfl (by omega) (by omega) (litP (x := (1, inboxS)) (Blk.new w1 _ _)))
  have e2 : treeErr [(1, inboxS)] = 0 := by unfold treeErr; rw [if_pos one_right]
  have hlen : 0 < (treePage [(1, inboxS)]).length := by unfold treePage; rw [if_pos one_right, pageB_length]; omega
  rw [e2] at R2
  obtain ⟨pg, hpg⟩ : ∃ pg, treePage [(1, inboxS)] = pg := ⟨_, rfl⟩
  rw [hpg] at R2 hlen
  unfold inboxS at R2
  have HB := Lib.hid (show Below w.heap.size w (w1.alloc (.cells #[.int .i64 1, .string ⟨#[73, 78, 66, 79, 88]⟩] 26)) from hb)
  clear hb1 hbx hb e2 hpg R1
  go_wp2_with fail
  refine R2.out.mono ?_
  rintro e w2 ⟨r2, rfl, ho2, hb2⟩
  obtain ⟨A2, c2, rfl, _⟩ := own8_reads ho2
  obtain ⟨pl, hpl⟩ : ∃ pl, pg.length = pl := ⟨_, rfl⟩
  rw [hpl] at hlen ⊢
  have g1 : decide ((0 : Int) < (pl : Int)) = true := by simp; omega
  have g2 : decide (0 < pl) = true := by simp; omega
  have HB2 := Lib.hid (HB.out.trans (hb2.mono HB.out.size))
  clear ho2 hb2 hpl R2
  go_wp2
  go_ret
  exact ⟨rfl, HB2.out⟩
end Go.Proofs.YtljclehhicmkhaaDoor
